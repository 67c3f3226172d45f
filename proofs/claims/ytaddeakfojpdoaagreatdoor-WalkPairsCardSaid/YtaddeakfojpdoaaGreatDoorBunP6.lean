/- Iterators that range over other iterators: how it stands, by the set of the blocks that are its own; each rule holds of whatever program. -/
import Derived.Test.YtaddeakfojpdoaaGreatDoorBunP3
import Derived.Test.YtaddeakfojpdoaaGreatDoorBunP5
set_option linter.unusedVariables false
set_option linter.unusedSimpArgs false
namespace Go.Proofs.YtaddeakfojpdoaaGreatDoorC
open Go.RowKit
variable {P : Program}
/-- How it stands in an iterator's walk that began in W: what is said of the rounds so far holds; w0 but M is as it was; the blocks S are its own. -/
structure Ts (M : Nat → Prop) (w0 W : World) (J : (Nat → Prop) → World → Prop) (S : Nat → Prop) (A : World) : Prop where
  stab : Stab W.heap.size J
  beg : Ext M w0 W
  ex : ∃ N, (∀ i, N i → W.heap.size ≤ i ∧ i < A.heap.size) ∧ W.heap.size ≤ A.heap.size ∧ J N A ∧ ∀ b, S b → N b
  w0 : Ext M w0 A
variable {M F : Nat → Prop} {w0 W A B : World} {J : (Nat → Prop) → World → Prop} {S S' : Nat → Prop} {bs : List Nat}
theorem Ts.less (h : Ts M w0 W J S A) (hb : ∀ b, S' b → S b) : Ts M w0 W J S' A :=
  ⟨h.stab, h.beg, by obtain ⟨N, h1, h2, h3, h4⟩ := h.ex; exact ⟨N, h1, h2, h3, fun b hb' => h4 b (hb b hb')⟩, h.w0⟩
theorem Tl.ts (h : Tl M w0 W J bs A) : Ts M w0 W J (fun i => i ∈ bs) A := ⟨h.stab, h.beg, h.ex, h.w0⟩
/-- Whatever was written lies among S; what was made is added. -/
theorem Ts.add (h : Ts M w0 W J S A) (hE : Ext F A B) (hF : ∀ i, F i → S i) : Ts M w0 W J (fun i => S i ∨ (A.heap.size ≤ i ∧ i < B.heap.size)) B := by
  obtain ⟨N, h1, h2, h3, h4⟩ := h.ex
  have hE' : Ext N A B := hE.mono fun i hi => h4 i (hF i hi)
  refine ⟨h.stab, h.beg, ⟨grow N A B, ?_, Nat.le_trans h2 hE.size, h.stab N A B (fun i hi => (h1 i hi).1) h2 h3 hE', ?_⟩, ?_⟩
  · rintro i (hi | ⟨ha, hb⟩)
    · exact ⟨(h1 i hi).1, Nat.lt_of_lt_of_le (h1 i hi).2 hE.size⟩
    · exact ⟨Nat.le_trans h2 ha, hb⟩
  · rintro b (hb | hb)
    · exact .inl (h4 b hb)
    · exact .inr hb
  · have hz := h.beg.size
    exact ⟨hE.os.trans h.w0.os, hE.tape.trans h.w0.tape, hE.output.trans h.w0.output, Nat.le_trans h.w0.size hE.size, fun i hi hm => (hE.block i (Nat.lt_of_lt_of_le hi h.w0.size) (fun hf => by have := (h1 i (h4 i (hF i hf))).1; omega)).trans (h.w0.block i hi hm)⟩
theorem Ts.ext (h : Ts M w0 W J S A) (hE : Ext F A B) (hF : ∀ i, F i → S i) : Ts M w0 W J S B := (h.add hE hF).less fun _ h => .inl h
theorem Ts.tr (h : Ts M w0 W J S A) (hE : Ext Non A B) : Ts M w0 W J S B := h.ext hE fun _ h => h.elim
theorem Ts.stabS {n0 : Nat} (M : Nat → Prop) (w0 W : World) (J : (Nat → Prop) → World → Prop) (S0 : Nat → Prop) : Stab n0 (fun N A => Ts M w0 W J (fun i => S0 i ∨ N i) A) := fun N A B hN hA h hE =>
  (h.add hE fun i hi => .inr hi).less fun i hi => by
    rcases hi with hi | hi | hi
    · exact .inl (.inl hi)
    · exact .inl (.inr hi)
    · exact .inr hi
/-- All that was made since the walk's begin is its own. -/
abbrev Al (W A : World) : Nat → Prop := fun i => W.heap.size ≤ i ∧ i < A.heap.size
theorem Ts.allT (h : Ts M w0 W J (Al W A) A) (hE : Ext Non A B) : Ts M w0 W J (Al W B) B := (h.add hE fun _ h => h.elim).less fun i hi => by
  rcases Nat.lt_or_ge i A.heap.size with h' | h'
  · exact .inl ⟨hi.1, h'⟩
  · exact .inr ⟨h', hi.2⟩
theorem Ts.allM {b : Nat} (h : Ts M w0 W J (Al W A) A) (hE : Ext (fun i => i = b) A B) (hb : W.heap.size ≤ b) (hb2 : b < A.heap.size) : Ts M w0 W J (Al W B) B := (h.add hE fun i hi => by rw [hi]; exact ⟨hb, hb2⟩).less fun i hi => by
  rcases Nat.lt_or_ge i A.heap.size with h' | h'
  · exact .inl ⟨hi.1, h'⟩
  · exact .inr ⟨h', hi.2⟩
theorem Ts.all0 (h : Ts M w0 W J Non W) : Ts M w0 W J (Al W W) W := h.less fun i hi => absurd hi.2 (by have := hi.1; omega)
/-- What a yield that was asked for more may turn. -/
abbrev Ys (M : Nat → Prop) (w0 : World) (S : Nat → Prop) : Nat → Prop := fun i => ¬ S i ∧ (M i ∨ w0.heap.size ≤ i)
/-- A yield of an iterator that tells xs, the rounds' facts J, and Jx behind a no. -/
def Yl {α : Type} (P : Program) (M : Nat → Prop) (w0 W : World) (l : Nat) (encs : α → Array Value) (xs : List α) (J : List α → (Nat → Prop) → World → Prop) (Jx : (Nat → Prop) → World → Prop) : Prop :=
  ∀ pre x post S A, xs = pre ++ x :: post → Ts M w0 W (J pre) S A → YieldOk P l (encs x) A fun b B => Ext (Ys M w0 S) A B ∧ (b = true → Ts M w0 W (J (pre ++ [x])) S B) ∧ (b = false → Ts M w0 W Jx S B)
/-- **An iterator, by the walk of its code.** -/
theorem iter_ofS {α : Type} {encs : α → Array Value} {xs : List α} {f : FuncId} {cap : Array Value} (hf : entersB P f = true)
    (h : ∀ (l : Nat) (W : World) (J : List α → (Nat → Prop) → World → Prop) (Jx : (Nat → Prop) → World → Prop), Ext M w0 W → Ts M w0 W (J []) Non W → Yl P M w0 W l encs xs J Jx →
      Calls P f (#[.func (.yield l) #[] #[]] ++ cap) W fun e W' => ∃ v, e = .returned v ∧ (Ts M w0 W (J xs) Non W' ∨ Ts M w0 W Jx Non W')) : Iter P M w0 (.func (.func f) #[] cap) encs xs := by
  refine ⟨f, cap, rfl, hf, fun l W J Jx hW hJ hJx hY h0 => ?_⟩
  refine Calls.mono (h l W J Jx hW ⟨hJ [], hW, ⟨Non, fun _ h => h.elim, Nat.le_refl _, h0, fun _ h => h⟩, hW⟩ ?_) ?_
  · intro pre x post S A hx hT
    obtain ⟨N, h1, h2, h3, h4⟩ := hT.ex
    obtain ⟨fn, tmps, assign, body, hy, hr⟩ := hY N pre x A h1 h2 h3 ⟨post, hx⟩
    refine ⟨fn, tmps, assign, body, hy, hr.mono ?_⟩
    rintro e B ⟨b, he, hE, ht, hf⟩
    have hE' : Ext (Ys M w0 S) A B := hE.mono fun i hi => ⟨fun hb => hi.1 (h4 i hb), hi.2⟩
    have hw : Ext M w0 B := ⟨hE.os.trans hT.w0.os, hE.tape.trans hT.w0.tape, hE.output.trans hT.w0.output, Nat.le_trans hT.w0.size hE.size, fun i hi hm => (hE.block i (Nat.lt_of_lt_of_le hi hT.w0.size) (fun h => by rcases h.2 with h | h; exact hm h; omega)).trans (hT.w0.block i hi hm)⟩
    have hN : ∀ i, N i → W.heap.size ≤ i ∧ i < B.heap.size := fun i hi => ⟨(h1 i hi).1, Nat.lt_of_lt_of_le (h1 i hi).2 hE.size⟩
    exact ⟨b, he, hE', fun hb => ⟨hJ _, hW, ⟨N, hN, Nat.le_trans h2 hE.size, ht hb, h4⟩, hw⟩, fun hb => ⟨hJx, hW, ⟨N, hN, Nat.le_trans h2 hE.size, hf hb, h4⟩, hw⟩⟩
  · rintro e W' ⟨v, he, hT | hT⟩
    · obtain ⟨N, h1, h2, h3, _⟩ := hT.ex; exact ⟨v, N, he, h2, h1, .inl h3⟩
    · obtain ⟨N, h1, h2, h3, _⟩ := hT.ex; exact ⟨v, N, he, h2, h1, .inr h3⟩
end Go.Proofs.YtaddeakfojpdoaaGreatDoorC

/- A range over a function that writes what it has captured: an iterator that may be gone through once; each rule holds of whatever program. -/
set_option linter.unusedVariables false
set_option linter.unusedSimpArgs false
namespace Go.Proofs.YtaddeakfojpdoaaGreatDoorC
open Go.RowKit
variable {ro : Option Nat} {P : Program} {n : Nat} {Q : Post} {σ : Env} {D : List Deferred} {w : World}
/-- As Stab, of an owner of E0 too. -/
def StabE (E0 : Nat → Prop) (n0 : Nat) (J : (Nat → Prop) → World → Prop) : Prop :=
  ∀ N A B, (∀ i, N i → E0 i ∨ n0 ≤ i) → n0 ≤ A.heap.size → J N A → Ext N A B → J (grow N A B) B
/-- As Iter, of a function value that owns E0, blocks of w0. -/
def IterE {α : Type} (P : Program) (M : Nat → Prop) (w0 : World) (E0 : Nat → Prop) (fv : Value) (encs : α → Array Value) (xs : List α) : Prop :=
  ∃ f cap, fv = .func (.func f) #[] cap ∧ entersB P f = true ∧
  ∀ (l : Nat) (W : World) (J : List α → (Nat → Prop) → World → Prop) (Jx : (Nat → Prop) → World → Prop), Ext M w0 W → (∀ pre, StabE E0 W.heap.size (J pre)) → StabE E0 W.heap.size Jx →
    (∀ N pre x A, (∀ i, N i → (E0 i ∨ W.heap.size ≤ i) ∧ i < A.heap.size) → (∀ i, E0 i → N i) → W.heap.size ≤ A.heap.size → J pre N A → (∃ post, xs = pre ++ x :: post) →
      YieldOk P l (encs x) A fun b B => Ext (Yc M w0 N) A B ∧ (b = true → J (pre ++ [x]) N B) ∧ (b = false → Jx N B)) →
    J [] E0 W →
    Calls P f (#[.func (.yield l) #[] #[]] ++ cap) W fun e W' => ∃ v N, e = .returned v ∧ W.heap.size ≤ W'.heap.size ∧ (∀ i, N i → (E0 i ∨ W.heap.size ≤ i) ∧ i < W'.heap.size) ∧ (∀ i, E0 i → N i) ∧ (J xs N W' ∨ Jx N W')
/-- The heart of a range over a function: the rounds, from a record that is ready. -/
theorem rf_coreE {E0 : Nat → Prop} {α : Type} {l fn : Nat} {st : Loop} {assign body : Code} {M : Nat → Prop} {w0 : World} {I : List α → (Nat → Prop) → World → Prop} {X : Code → (Nat → Prop) → World → Prop} {n0 : Nat} {E : Nat → Prop} {W1 : World} {σ : Env} {fv : Value} {encs : α → List Value} {xs : List α} {ps : List Nat}
    (hit : IterE P M w0 E0 fv (fun x => (encs x).toArray) xs) (hEE : ∀ i, E0 i → E i) (hl0 : w0.heap.size ≤ l) (hE0w : ∀ i, E0 i → i < w0.heap.size) (hE0 : Ext M w0 W1) (hka : okc n assign = true) (hkb : okc n body = true) (hps : ∀ p ∈ ps, p < n) (hlen : ∀ x, (encs x).length = ps.length)
    (hl : W1.heap[l]? = some (.loop st)) (hst : st.state = .ready) (hpe : st.pending = none) (hpa : st.params = ps.toArray) (has : st.assign = assign) (hbo : st.body = body) (hs : Sim n { tmps := st.tmps, defers := [] } σ)
    (hEl : E l) (hE : ∀ i, E i → n0 ≤ i ∧ i < W1.heap.size) (sI : ∀ pre, Stab n0 (I pre)) (sX : ∀ c, Stab n0 (X c)) (h0 : I [] E W1)
    (hround : ∀ N pre x A, N l → (∀ i, N i → n0 ≤ i ∧ i < A.heap.size) → W1.heap.size ≤ A.heap.size → (∃ st, A.heap[l]? = some (.loop st)) → I pre N A → (∃ post, xs = pre ++ x :: post) →
      W (some l) P n assign (Then (fun σ1 D1 A1 => D1 = [] ∧ Ext (Yc M w0 N) A A1 ∧ ∀ A2, Ext (fun i => i = l) A1 A2 → A2.heap.size = A1.heap.size → (∃ st, A2.heap[l]? = some (.loop st)) → W (some l) P n body (RQ M w0 I X N (pre ++ [x]) A2) σ1 [] A2) NoQ) (updN σ ps (encs x)) [] A) :
    ∃ f cap, fv = .func (.func f) #[] cap ∧ entersB P f = true ∧
      Calls P f (#[.func (.yield l) #[] #[]] ++ cap) W1 fun e W' => ∃ v N st', e = .returned v ∧ W1.heap.size ≤ W'.heap.size ∧ (∀ i, N i → n0 ≤ i ∧ i < W'.heap.size) ∧ (∀ i, E i → N i) ∧ W'.heap[l]? = some (.loop st') ∧ st'.state ≠ .busy ∧
        (∀ d, E d → ¬ E0 d → d ≠ l → W'.heap[d]? = W1.heap[d]?) ∧ ((st'.pending = none ∧ I xs N W') ∨ ∃ c, st'.pending = some c ∧ X c N W') := by
  subst has
  subst hbo
  obtain ⟨f, cap, hfv, hf, hcall⟩ := hit
  refine ⟨f, cap, hfv, hf, ?_⟩
  have hlt1 := (Array.getElem?_eq_some_iff.1 hl).1
  -- N with the loop's own blocks
  have hplus : ∀ N : Nat → Prop, (∀ i, N i → E0 i ∨ W1.heap.size ≤ i) → ∀ i, (N i ∨ E i) → n0 ≤ i := fun N hN i h => by
    rcases h with h | h
    · rcases hN i h with h | h
      · exact (hE i (hEE i h)).1
      · have := (hE l hEl); omega
    · exact (hE i h).1
  have hE0l : ¬ E0 l := fun h => by have := hE0w l h; omega
  have stab : ∀ (J : (Nat → Prop) → World → Prop) (st' : Loop), Stab n0 J → StabE E0 W1.heap.size (fun N A => J (fun i => N i ∨ E i) A ∧ A.heap[l]? = some (.loop st') ∧ ∀ d, E d → ¬ E0 d → d ≠ l → A.heap[d]? = W1.heap[d]?) := by
    intro J st' hJ N A B hN hA ⟨h1, h2, h3⟩ hext
    have hnl : ∀ d, E d → ¬ E0 d → ¬ N d := fun d hd h0 h => by rcases hN d h with h | h; exact h0 h; have := (hE d hd).2; omega
    refine ⟨?_, hext.obj h2 (hnl l hEl hE0l), fun d hd hz hne => ?_⟩
    · have h4 := hJ (fun i => N i ∨ E i) A B (hplus N hN) (by have := (hE l hEl); omega) h1 (hext.mono fun i h => .inl h)
      have e : grow (fun i => N i ∨ E i) A B = fun i => grow N A B i ∨ E i := by
        funext i; apply propext; unfold grow
        exact or_right_comm
      rw [← e]; exact h4
    · have hlt : d < A.heap.size := by have := (hE d hd).2; omega
      rw [hext.block d hlt (hnl d hd hz)]; exact h3 d hd hz hne
  have stab2 : StabE E0 W1.heap.size (fun N A => ∃ c, X c (fun i => N i ∨ E i) A ∧ A.heap[l]? = some (.loop { st with state := .done, pending := some c }) ∧ ∀ d, E d → ¬ E0 d → d ≠ l → A.heap[d]? = W1.heap[d]?) := by
    intro N A B hN hA ⟨c, h⟩ hext
    exact ⟨c, stab (X c) _ (sX c) N A B hN hA h hext⟩
  refine Calls.mono (hcall l W1 (fun pre N A => I pre (fun i => N i ∨ E i) A ∧ A.heap[l]? = some (.loop st) ∧ ∀ d, E d → ¬ E0 d → d ≠ l → A.heap[d]? = W1.heap[d]?)
    (fun N A => ∃ c, X c (fun i => N i ∨ E i) A ∧ A.heap[l]? = some (.loop { st with state := .done, pending := some c }) ∧ ∀ d, E d → ¬ E0 d → d ≠ l → A.heap[d]? = W1.heap[d]?) hE0 (fun pre => stab _ st (sI pre)) stab2 ?_ ⟨?_, hl, fun _ _ _ _ => rfl⟩) ?_
  · -- one round
    rintro N pre x A hN hN0 hA ⟨hi, hlA, hdA⟩ hp
    have hy := run_yield (P := P) (args := (encs x).toArray) hlA (by rw [hpa]; simp [hlen])
    refine ⟨_, _, _, _, hy, ?_⟩
    have hN' : ∀ i, (N i ∨ E i) → n0 ≤ i ∧ i < A.heap.size := fun i h => ⟨hplus N (fun i h => (hN i h).1) i h, by rcases h with h | h; exact (hN i h).2; have := (hE i h).2; omega⟩
    have hr := hround (fun i => N i ∨ E i) pre x A (.inr hEl) hN' hA ⟨_, hlA⟩ hi hp
    have hsim : Sim n { tmps := ((st.params.zip (encs x).toArray).foldl (fun tmps (x : Nat × Value) => tmps.setIfInBounds x.1 x.2) st.tmps), defers := [] } (updN σ ps (encs x)) := by
      have := sim_params (n := n) ps (encs x) σ st.tmps hs hps
      rw [hpa]; simpa using this
    refine roundIn_of_wpIn trivial ?_
    refine wpIn_mono (hr hka _ hsim rfl) ?_
    rintro e a1 A1 ⟨σ1, hs1, hq⟩
    cases e with
    | normal =>
      obtain ⟨hD1, hE1, hbody⟩ := hq
      have hnl : ¬ Yc M w0 (fun i => N i ∨ E i) l := fun h => h.1 (.inr hEl)
      have hl1 : A1.heap[l]? = some (.loop st) := hE1.obj hlA hnl
      have hltA1 := (Array.getElem?_eq_some_iff.1 hl1).1
      refine ⟨_, run_beginRound hl1 hst, ?_⟩
      have hE2 : Ext (fun i => i = l) A1 (A1.putObj l (.loop { st with state := .busy })) := Ext.putObj _ _ _ _ rfl
      have hl2 : (A1.putObj l (.loop { st with state := .busy })).heap[l]? = some (.loop { st with state := .busy }) := World.putObj_heap_same hltA1
      have hsz : (A1.putObj l (.loop { st with state := .busy })).heap.size = A1.heap.size := by simp [World.putObj]
      refine wpIn_mono (hbody _ hE2 hsz ⟨_, hl2⟩ hkb a1 hs1 hD1) ?_
      -- what the end of a round leaves
      have mono1 : ∀ i, Yc M w0 (fun i => N i ∨ E i) i → Yc M w0 N i := fun i h => ⟨fun h' => h.1 (.inl h'), h.2⟩
      have hlY : Yc M w0 N l := ⟨fun h => by rcases (hN l h).1 with h | h; exact hE0l h; omega, .inr hl0⟩
      have fin : ∀ (jump : Option Code) (B0 : World), Ext (Yc M w0 (fun i => N i ∨ E i)) (A1.putObj l (.loop { st with state := .busy })) B0 →
          ∃ B, (Instr.endRound l jump).run P B0 = .ok (.bool jump.isNone) B ∧ Ext (Yc M w0 N) A B ∧ B.heap[l]? = some (.loop { st with state := if jump.isNone then .ready else .done, pending := jump }) ∧
            Ext (fun i => i = l) B0 B ∧ B.heap.size = B0.heap.size ∧ (∀ d, E d → ¬ E0 d → d ≠ l → B.heap[d]? = W1.heap[d]?) := by
        intro jump B0 hB0
        have hl3 : B0.heap[l]? = some (.loop { st with state := .busy }) := hB0.obj hl2 hnl
        have hltB := (Array.getElem?_eq_some_iff.1 hl3).1
        have hend := run_endRound (P := P) jump hl3
        refine ⟨_, hend, ?_, World.putObj_heap_same hltB, Ext.putObj _ _ _ _ rfl, by simp [World.putObj], ?_⟩
        · exact (((hE1.mono mono1).trans (ext_one hE2 hlY)).trans (hB0.mono mono1)).trans (ext_one (Ext.putObj _ _ _ _ rfl) hlY)
        · intro d hd hz hne
          have hd1 : ¬ Yc M w0 (fun i => N i ∨ E i) d := fun h => h.1 (.inr hd)
          have hdlt : d < A.heap.size := by have := (hE d hd).2; omega
          rw [World.putObj_heap_other hne, hB0.block d (by rw [hsz]; have := hE1.size; omega) hd1, World.putObj_heap_other hne, hE1.block d hdlt hd1]
          exact hdA d hd hz hne
      have hlN : (fun i => N i ∨ E i) l := .inr hEl
      rintro e2 a2 B0 ⟨σ2, hs2, hq2⟩
      cases e2 with
      | normal =>
        obtain ⟨hB0, hI⟩ := hq2
        obtain ⟨B, h1, h2, h3, h4, h5, h6⟩ := fin none B0 hB0
        have hst3 : ({ st with state := (if (none : Option Code).isNone then .ready else .done), pending := none } : Loop) = st := by
          cases st; simp only at hst hpe; subst hst; subst hpe; rfl
        rw [hst3] at h3
        exact ⟨_, B, h1, true, rfl, h2, fun _ => ⟨(sI _).same (hplus N fun i h => (hN i h).1) (by have := hE l hEl; have := hB0.size; rw [hsz] at this; have := hE1.size; omega) hI (ext_one h4 hlN) h5, h3, h6⟩, fun h => (by cases h)⟩
      | ret =>
        obtain ⟨hB0, hI⟩ := hq2
        obtain ⟨B, h1, h2, h3, h4, h5, h6⟩ := fin (some .ret) B0 hB0
        exact ⟨_, B, h1, false, rfl, h2, fun h => (by cases h), fun _ => ⟨_, (sX _).same (hplus N fun i h => (hN i h).1) (by have := hE l hEl; have := hB0.size; rw [hsz] at this; have := hE1.size; omega) hI (ext_one h4 hlN) h5, h3, h6⟩⟩
      | exit id =>
        obtain ⟨hB0, hI⟩ := hq2
        obtain ⟨B, h1, h2, h3, h4, h5, h6⟩ := fin (some (.exit id)) B0 hB0
        exact ⟨_, B, h1, false, rfl, h2, fun h => (by cases h), fun _ => ⟨_, (sX _).same (hplus N fun i h => (hN i h).1) (by have := hE l hEl; have := hB0.size; rw [hsz] at this; have := hE1.size; omega) hI (ext_one h4 hlN) h5, h3, h6⟩⟩
      | goto t =>
        obtain ⟨hB0, hI⟩ := hq2
        obtain ⟨B, h1, h2, h3, h4, h5, h6⟩ := fin (some (.goto t)) B0 hB0
        exact ⟨_, B, h1, false, rfl, h2, fun h => (by cases h), fun _ => ⟨_, (sX _).same (hplus N fun i h => (hN i h).1) (by have := hE l hEl; have := hB0.size; rw [hsz] at this; have := hE1.size; omega) hI (ext_one h4 hlN) h5, h3, h6⟩⟩
      | panic ch => exact hq2.elim
      | outgrown => exact hq2.elim
    | _ => exact hq.elim
  · have e : (fun i => E0 i ∨ E i) = E := by funext i; apply propext; exact ⟨fun h => h.elim (hEE i) id, .inr⟩
    show I [] (fun i => E0 i ∨ E i) W1
    rw [e]; exact h0
  · rintro e W' ⟨v, N, he, hsz, hN, hN0, h⟩
    have hN' : ∀ i, (N i ∨ E i) → n0 ≤ i ∧ i < W'.heap.size := fun i h => ⟨hplus N (fun i h => (hN i h).1) i h, by rcases h with h | h; exact (hN i h).2; have := (hE i h).2; omega⟩
    rcases h with ⟨hi, hl', hd'⟩ | ⟨c, hx, hl', hd'⟩
    · exact ⟨v, _, st, he, hsz, hN', fun i h => .inr h, hl', by rw [hst]; simp, hd', .inl ⟨hpe, hi⟩⟩
    · exact ⟨v, _, _, he, hsz, hN', fun i h => .inr h, hl', by simp, hd', .inr ⟨c, rfl, hx⟩⟩
/-- What a walk of a round owes: from the assignment of the loop's variables on. -/
def RoundE (n1 : Nat) {α : Type} (P : Program) (n : Nat) (M : Nat → Prop) (w0 w : World) (I : List α → (Nat → Prop) → World → Prop) (X : Code → (Nat → Prop) → World → Prop) (assign body : Code) (σ : Env) (ps : List Nat) (encs : α → List Value) (xs : List α) : Prop :=
  ∀ l N pre x A, N l → (∀ i, N i → n1 ≤ i ∧ i < A.heap.size) → w.heap.size ≤ A.heap.size → (∃ st, A.heap[l]? = some (.loop st)) → I pre N A → (∃ post, xs = pre ++ x :: post) →
    W (some l) P n assign (Then (fun σ1 D1 A1 => D1 = [] ∧ Ext (Yc M w0 N) A A1 ∧ ∀ A2, Ext (fun i => i = l) A1 A2 → A2.heap.size = A1.heap.size → (∃ st, A2.heap[l]? = some (.loop st)) → W (some l) P n body (RQ M w0 I X N (pre ++ [x]) A2) σ1 [] A2) NoQ) (updN σ ps (encs x)) [] A
theorem W_rangeFuncE (n1 : Nat) (E0 : Nat → Prop) {α : Type} {gg : Operand} {assign body : Code} {M : Nat → Prop} {w0 : World} {I : List α → (Nat → Prop) → World → Prop} {X : Code → (Nat → Prop) → World → Prop} {fv : Value} {encs : α → List Value} {xs : List α} {ps : List Nat}
    (hg : ev σ gg = fv) (hit : IterE P M w0 E0 fv (fun x => (encs x).toArray) xs) (hE0 : Ext M w0 w) (hn1 : n1 ≤ w.heap.size) (hEn : ∀ i, E0 i → n1 ≤ i ∧ i < w0.heap.size) (hlen : ∀ x, (encs x).length = ps.length)
    (sI : ∀ pre, Stab n1 (I pre)) (sX : ∀ c, Stab n1 (X c)) (h0 : I [] E0 w)
    (hround : RoundE n1 P n M w0 w I X assign body σ ps encs xs)
    (hdone : ∀ N r w', I xs N w' → (∀ i, N i → n1 ≤ i ∧ i < w'.heap.size) → w.heap.size ≤ w'.heap.size → N r → w'.heap[r]? = some (.deferred (some [])) → Q .normal σ (mark r :: D) w')
    (hstop : ∀ c N r w', X c N w' → (∀ i, N i → n1 ≤ i ∧ i < w'.heap.size) → w.heap.size ≤ w'.heap.size → N r → w'.heap[r]? = some (.deferred (some [])) → W none P n c Q σ (mark r :: D) w') :
    W none P n (.rangeFunc gg ps.toArray assign body) Q σ D w := by
  intro hk a hs hd
  simp only [okc, Bool.and_eq_true] at hk
  obtain ⟨⟨hka, hkb⟩, hkp⟩ := hk
  have hps : ∀ p ∈ ps, p < n := fun p hp => by simpa using (List.all_eq_true.1 hkp p (by simpa using hp))
  refine wpIn_rangeFunc ?_
  intro fn hfn
  show ∃ l mark w₁ d w₁' f args w₂, (Instr.enterLoop fn a.tmps ps.toArray assign body none).run P w = _ ∧ _
  obtain ⟨W1, hW1⟩ : ∃ W1, (w.alloc (.deferred (some []))).alloc (.loop { state := .ready, pending := none, fn, tmps := a.tmps, params := ps.toArray, assign, body, defers := w.heap.size }) = W1 := ⟨_, rfl⟩
  have hsz : W1.heap.size = w.heap.size + 2 := by rw [← hW1]; simp
  have hL1 : W1.heap[w.heap.size + 1]? = some (.loop { state := .ready, pending := none, fn, tmps := a.tmps, params := ps.toArray, assign, body, defers := w.heap.size }) := by
    rw [← hW1]; have := World.alloc_heap_new (w.alloc (.deferred (some []))) (.loop { state := .ready, pending := none, fn, tmps := a.tmps, params := ps.toArray, assign, body, defers := w.heap.size }); rwa [World.size_alloc] at this
  have hK1 : W1.heap[w.heap.size]? = some (.deferred (some [])) := by
    rw [← hW1]; exact (Below.heap_alloc _ _ _ (by simp)).trans (World.alloc_heap_new w _)
  have hE1 : Ext Non w W1 := by rw [← hW1]; exact (Ext.alloc _ _).trans (Ext.alloc _ _)
  have hgr : ∀ i, grow E0 w W1 i ↔ (E0 i ∨ (w.heap.size ≤ i ∧ i < W1.heap.size)) := fun i => Iff.rfl
  obtain ⟨f, cap, hfv, hf, hcall⟩ := rf_coreE (n := n) (l := w.heap.size + 1) (fn := fn) (W1 := W1) (n0 := n1) (E := grow E0 w W1) (X := XOk n X) (I := I) (σ := σ) hit (fun i h => .inl h) (by have := hE0.size; omega) (fun i h => (hEn i h).2) (hE0.trans hE1.of_non) hka hkb hps hlen hL1 rfl rfl rfl rfl rfl
    ⟨hs.size, hs.agree⟩ ((hgr _).2 (.inr (by omega))) (fun i h => by rcases h with h | h; exact ⟨(hEn i h).1, by have := (hEn i h).2; have := hE0.size; have := hE1.size; omega⟩; exact ⟨by omega, h.2⟩) sI (XOk.stab sX) (sI [] E0 w W1 (fun i h => (hEn i h).1) hn1 h0 hE1.of_non)
    (fun N pre x A hNl hN hA hst hi hp => (hround _ N pre x A hNl hN (by have := hE1.size; omega) hst hi hp).mono (by
      intro e σ1 D1 A1 hq
      cases e with
      | normal => exact ⟨hq.1, hq.2.1, fun A2 h1 h2 h3 => (hq.2.2 A2 h1 h2 h3).mono fun e σ D B h => RQ.ok e σ D B h⟩
      | _ => exact hq.elim))
  refine ⟨w.heap.size + 1, [mark w.heap.size], W1, { target := .fn (.func f) cap, args := #[.func (.yield (w.heap.size + 1)) #[] #[]] }, W1, f, #[.func (.yield (w.heap.size + 1)) #[] #[]] ++ cap, W1, ?_, ?_, fun _ _ => trivial, ?_, (fun h => by cases h), ?_⟩
  · rw [← hW1]; exact run_enterLoop_outer _ _ _ _ _
  · have : a.eval gg = .func (.func f) #[] cap := by rw [hs.eval, hg, hfv]
    simp only [resolve, this]; simp [Deferred.ofValue, Act.eval]
  · simp [invoke, run_enters hf]
  · refine callsIn_wide.2 (Calls.mono hcall ?_)
    rintro e W' ⟨v, N, st', he, hsz', hN, hEN, hl', hnb, hkeep, hend⟩
    subst he
    have hr : W'.heap[w.heap.size]? = some (.deferred (some [])) := by rw [hkeep _ ((hgr _).2 (.inr (by omega))) (fun h => by have := (hEn _ h).2; have := hE0.size; omega) (by omega)]; exact hK1
    have hE2 : Ext (fun i => i = w.heap.size + 1) W' (W'.putObj (w.heap.size + 1) (.loop { st' with state := .exhausted })) := Ext.putObj _ _ _ _ rfl
    have hs2 : (W'.putObj (w.heap.size + 1) (.loop { st' with state := .exhausted })).heap.size = W'.heap.size := by simp [World.putObj]
    have hNl : N (w.heap.size + 1) := hEN _ ((hgr _).2 (.inr (by omega)))
    have hNr : N w.heap.size := hEN _ ((hgr _).2 (.inr (by omega)))
    have hr2 : (W'.putObj (w.heap.size + 1) (.loop { st' with state := .exhausted })).heap[w.heap.size]? = some (.deferred (some [])) := (World.putObj_heap_other (by omega)).trans hr
    have hend1 := run_endLoop (P := P) hl' (by exact hnb)
    have hle : w.heap.size ≤ W'.heap.size := by omega
    have hle1 : n1 ≤ W'.heap.size := by omega
    obtain ⟨W2, hW2⟩ : ∃ W2, W'.putObj (w.heap.size + 1) (.loop { st' with state := .exhausted }) = W2 := ⟨_, rfl⟩
    rw [hW2] at hE2 hs2 hr2 hend1
    refine ⟨st'.pending, W2, hend1, ?_⟩
    rcases hend with ⟨hp, hi⟩ | ⟨c, hp, hkc, hx⟩
    · rw [hp]
      exact ⟨σ, ⟨hs.size, hs.agree⟩, by rw [hd] ; exact hdone N _ _ ((sI xs).same (fun i h => (hN i h).1) hle1 hi (ext_one hE2 hNl) hs2) (fun i h => by rw [hs2]; exact hN i h) (by rw [hs2]; exact hle) hNr hr2⟩
    · rw [hp]
      exact hstop c N _ _ ((sX c).same (fun i h => (hN i h).1) hle1 hx (ext_one hE2 hNl) hs2) (fun i h => by rw [hs2]; exact hN i h) (by rw [hs2]; exact hle) hNr hr2 hkc { a with defers := mark w.heap.size :: a.defers } ⟨hs.size, hs.agree⟩ (by rw [hd])

/-! ### the walk of such an iterator's own code -/
structure Te (M : Nat → Prop) (w0 W : World) (E0 : Nat → Prop) (J : (Nat → Prop) → World → Prop) (S : Nat → Prop) (A : World) : Prop where
  stab : StabE E0 W.heap.size J
  beg : Ext M w0 W
  ex : ∃ N, (∀ i, N i → (E0 i ∨ W.heap.size ≤ i) ∧ i < A.heap.size) ∧ (∀ i, E0 i → N i) ∧ W.heap.size ≤ A.heap.size ∧ J N A ∧ ∀ b, S b → N b
  w0 : Ext (fun i => M i ∨ E0 i) w0 A
variable {M F : Nat → Prop} {w0 W A B : World} {J : (Nat → Prop) → World → Prop} {S S' E0 : Nat → Prop}
theorem Te.ext (h : Te M w0 W E0 J S A) (hE : Ext F A B) (hF : ∀ i, F i → S i) : Te M w0 W E0 J S B := by
  obtain ⟨N, h1, h0, h2, h3, h4⟩ := h.ex
  have hE' : Ext N A B := hE.mono fun i hi => h4 i (hF i hi)
  refine ⟨h.stab, h.beg, ⟨grow N A B, ?_, fun i hi => .inl (h0 i hi), Nat.le_trans h2 hE.size, h.stab N A B (fun i hi => (h1 i hi).1) h2 h3 hE', fun b hb => .inl (h4 b hb)⟩, ?_⟩
  · rintro i (hi | ⟨ha, hb⟩)
    · exact ⟨(h1 i hi).1, Nat.lt_of_lt_of_le (h1 i hi).2 hE.size⟩
    · exact ⟨.inr (Nat.le_trans h2 ha), hb⟩
  · have hz := h.beg.size
    refine ⟨hE.os.trans h.w0.os, hE.tape.trans h.w0.tape, hE.output.trans h.w0.output, Nat.le_trans h.w0.size hE.size, fun i hi hm => (hE.block i (Nat.lt_of_lt_of_le hi h.w0.size) (fun hf => ?_)).trans (h.w0.block i hi hm)⟩
    rcases (h1 i (h4 i (hF i hf))).1 with h | h
    · exact hm (.inr h)
    · omega
theorem Te.tr (h : Te M w0 W E0 J S A) (hE : Ext Non A B) : Te M w0 W E0 J S B := h.ext hE fun _ h => h.elim
def Ye {α : Type} (P : Program) (M : Nat → Prop) (w0 W : World) (E0 : Nat → Prop) (l : Nat) (encs : α → Array Value) (xs : List α) (J : List α → (Nat → Prop) → World → Prop) (Jx : (Nat → Prop) → World → Prop) : Prop :=
  ∀ pre x post S A, xs = pre ++ x :: post → Te M w0 W E0 (J pre) S A → YieldOk P l (encs x) A fun b B => Ext (Ys M w0 S) A B ∧ (b = true → Te M w0 W E0 (J (pre ++ [x])) S B) ∧ (b = false → Te M w0 W E0 Jx S B)
theorem iterE_of {α : Type} {encs : α → Array Value} {xs : List α} {f : FuncId} {cap : Array Value} (hf : entersB P f = true) (hE : ∀ i, E0 i → i < w0.heap.size ∧ ¬ M i)
    (h : ∀ (l : Nat) (W : World) (J : List α → (Nat → Prop) → World → Prop) (Jx : (Nat → Prop) → World → Prop), Ext M w0 W → Te M w0 W E0 (J []) E0 W → Ye P M w0 W E0 l encs xs J Jx →
      Calls P f (#[.func (.yield l) #[] #[]] ++ cap) W fun e W' => ∃ v, e = .returned v ∧ (Te M w0 W E0 (J xs) E0 W' ∨ Te M w0 W E0 Jx E0 W')) : IterE P M w0 E0 (.func (.func f) #[] cap) encs xs := by
  refine ⟨f, cap, rfl, hf, fun l W J Jx hW hJ hJx hY h0 => ?_⟩
  have hlt : ∀ i, E0 i → i < W.heap.size := fun i hi => Nat.lt_of_lt_of_le (hE i hi).1 hW.size
  refine Calls.mono (h l W J Jx hW ⟨hJ [], hW, ⟨E0, fun i hi => ⟨.inl hi, hlt i hi⟩, fun _ h => h, Nat.le_refl _, h0, fun _ h => h⟩, hW.mono fun _ h => .inl h⟩ ?_) ?_
  · intro pre x post S A hx hT
    obtain ⟨N, h1, h00, h2, h3, h4⟩ := hT.ex
    obtain ⟨fn, tmps, assign, body, hy, hr⟩ := hY N pre x A h1 h00 h2 h3 ⟨post, hx⟩
    refine ⟨fn, tmps, assign, body, hy, hr.mono ?_⟩
    rintro e B ⟨b, he, hE1, ht, hf⟩
    have hE' : Ext (Ys M w0 S) A B := hE1.mono fun i hi => ⟨fun hb => hi.1 (h4 i hb), hi.2⟩
    have hw : Ext (fun i => M i ∨ E0 i) w0 B := ⟨hE1.os.trans hT.w0.os, hE1.tape.trans hT.w0.tape, hE1.output.trans hT.w0.output, Nat.le_trans hT.w0.size hE1.size, fun i hi hm => (hE1.block i (Nat.lt_of_lt_of_le hi hT.w0.size) (fun h => by rcases h.2 with h | h; exact hm (.inl h); omega)).trans (hT.w0.block i hi hm)⟩
    have hN : ∀ i, N i → (E0 i ∨ W.heap.size ≤ i) ∧ i < B.heap.size := fun i hi => ⟨(h1 i hi).1, Nat.lt_of_lt_of_le (h1 i hi).2 hE1.size⟩
    exact ⟨b, he, hE', fun hb => ⟨hJ _, hW, ⟨N, hN, h00, Nat.le_trans h2 hE1.size, ht hb, h4⟩, hw⟩, fun hb => ⟨hJx, hW, ⟨N, hN, h00, Nat.le_trans h2 hE1.size, hf hb, h4⟩, hw⟩⟩
  · rintro e W' ⟨v, he, hT | hT⟩
    · obtain ⟨N, h1, h00, h2, h3, _⟩ := hT.ex; exact ⟨v, N, he, h2, h1, h00, .inl h3⟩
    · obtain ⟨N, h1, h00, h2, h3, _⟩ := hT.ex; exact ⟨v, N, he, h2, h1, h00, .inr h3⟩
end Go.Proofs.YtaddeakfojpdoaaGreatDoorC

/- Tries: a node's kids, one by one. -/
set_option linter.unusedVariables false
set_option linter.unusedSimpArgs false
set_option maxRecDepth 100000
namespace Go.Proofs.YtaddeakfojpdoaaGreatDoorC
open Go.RowKit
def eP1 (p : Value) : List Value := [p]
theorem eP_at {l : List Value} {i : Nat} {x : Value} (h : l[i]? = some x) : (l.map eP1)[i]? = some [x] := by simp [h, eP1]
theorem zip_at2 {α β : Type} {l : List α} {m : List β} {i : Nat} {x : α} {y : β} (hx : l[i]? = some x) (hy : m[i]? = some y) : (l.zip m)[i]? = some (x, y) := by simp [List.getElem?_zip_eq_some, hx, hy]
-- (bellman/set.Map[string, *bellman/node.Node]).All$1
set_option maxHeartbeats 800000 in
theorem mall_iter_sn (ks : List Str) (ys : List Value) {v1 v2 : Value} (M : Nat → Prop) (w0 : World) (b1 : Nat) (hk : Sl M w0 v1 1 (ks.map eS1)) (hv : Sl M w0 v2 1 (ys.map eP1)) (hle : ys.length = ks.length) (hC1 : IsBox w0 b1 [v1, v2]) (h1 : ¬ M b1) :
    Iter Tryz.prog M w0 (.func (.func 103) #[] #[.pointer (some ⟨b1, 0, none⟩)]) (fun p : Str × Value => #[Sv p.1, p.2]) (ks.zip ys) := by
  refine iter_of e_103 fun l W J Jx hW hX hY => ?_
  obtain ⟨a, c, rfl, _⟩ := hk.len; obtain ⟨a2, c2, rfl, _⟩ := hv.len
  simp only [List.length_map] at hk hv hC1 ⊢
  have hbig : ks.length ≤ big := by obtain ⟨⟨a1, c1, e1, e2, e3, _⟩, _⟩ := hk; simp at e2; omega
  have hbig2 : big = 9223372036854775807 := rfl
  have ea : (#[Value.func (.yield l) #[] #[]] ++ #[.pointer (some ⟨b1, 0, none⟩)] : Array Value) = [Value.func (.yield l) #[] #[], .pointer (some ⟨b1, 0, none⟩)].toArray := by simp
  rw [ea]
  refine calls_of_W (R := fun v W' => Tl M w0 W (J (ks.zip ys)) [] W' ∨ Tl M w0 W Jx [] W') Tryz.func103 rfl (by kernel_rfl) rfl ?_
  refine W_seq ?_
  refine W_region ?_
  refine wl_val (rn_fieldAddr f_134_0 (by decide) rfl) ?_
  refine wl_val (rn_load1 p_22 rfl (hC1.ext hX.w0 h1) rfl) ?_
  refine wl_val (rn_len sl_22 rfl) ?_
  refine wl_val (rn_move (by conv => lhs; whnf)) ?_
  refine wl_nil ?_
  refine W_block ?_   -- block 0
  refine W_loopS (S := Nat) [0, 1, 6, 7, 8] (fun i => [.func (.yield l) #[] #[], .pointer (some ⟨b1, 0, none⟩), .slice a ks.length c, .int .i64 (ks.length : Nat), .int .i64 (i : Nat)]) (fun i A => (Tl M w0 W (J ((ks.zip ys).take i)) [] A) ∧ (i ≤ ks.length)) (fun i => ks.length - i) 0 ⟨rfl, rfl, rfl, rfl, rfl, trivial⟩ ⟨(hX.less (by simp)), Nat.zero_le _⟩ ?_
  rintro τ0 i A0 ⟨hX, hI0⟩
  have hik := hI0
  refine W_seq ?_
  refine W_region ?_
  refine wl_val (rn_lss rfl rfl) ?_
  refine wl_nil ?_
  refine W_seq ?_
  refine W_cond rfl (fun hc0 => ?_) (fun hc0 => ?_)
  · have hlt := of_decide_eq_true hc0; simp only [Int.ofNat_lt] at hlt
    obtain ⟨x, hi⟩ : ∃ x, ks[i]? = some x := ⟨_, List.getElem?_eq_getElem hlt⟩
    obtain ⟨y, hj⟩ : ∃ y, ys[i]? = some y := ⟨_, List.getElem?_eq_getElem (by omega)⟩
    obtain ⟨bb, oo, ea⟩ := hk.base (by intro e; have := congrArg List.length e; simp only [List.length_map, List.length_nil] at this; omega); subst ea
    obtain ⟨bb2, oo2, ea2⟩ := hv.base (by intro e; have := congrArg List.length e; simp only [List.length_map, List.length_nil] at this; omega); subst ea2
    have hz := zip_at2 hi hj
    have htk : (ks.zip ys).take (i + 1) = (ks.zip ys).take i ++ [(x, y)] := by rw [List.take_add_one, hz]; rfl
    have hsp : (ks.zip ys) = (ks.zip ys).take i ++ (x, y) :: (ks.zip ys).drop (i + 1) := by obtain ⟨h1, h2⟩ := List.getElem?_eq_some_iff.1 hz; rw [← h2, List.getElem_cons_drop, List.take_append_drop]
    refine W_skip ?_
    refine W_seq ?_
    refine W_block ?_   -- block 1
    refine W_seq ?_
    refine W_region ?_
    refine wl_val (rn_move (by conv => lhs; whnf)) ?_
    refine wl_val (rn_indexAddr sl_22 rfl rfl (by omega)) ?_
    refine wl_val (rn_load p_9 rfl ((hk.ext hX.w0 (fun _ h => h)).at0 (eS_at hi) rfl)) ?_
    refine wl_val (rn_assign (by conv => lhs; whnf)) ?_
    refine wl_val (rn_assign (by conv => lhs; whnf)) ?_
    refine wl_nil ?_
    refine W_seq ?_
    refine W_region ?_
    refine wl_val (rn_move (by conv => lhs; whnf)) ?_
    refine wl_val (rn_move (by conv => lhs; whnf)) ?_
    refine wl_val (rn_fieldAddr f_134_1 (by decide) rfl) ?_
    refine wl_val (rn_load1 p_132 rfl (hC1.ext hX.w0 h1) rfl) ?_
    refine wl_val (rn_move (by conv => lhs; whnf)) ?_
    refine wl_val (rn_indexAddr sl_132 rfl rfl (by omega)) ?_
    refine wl_val (rn_load p_26 rfl ((hv.ext hX.w0 (fun _ h => h)).at0 (eP_at hj) rfl)) ?_
    refine wl_yield rfl rfl (hY _ _ _ _ _ hsp hX) ?_; rintro b20 w1 ⟨hE1, hyT, hyF⟩
    refine wl_val (rn_not rfl) ?_
    refine wl_nil ?_
    refine W_cond rfl (fun hc1 => ?_) (fun hc1 => ?_)
    · refine W_ret ?_
      first | exact ⟨_, rfl, .inr ((hyF (by simpa using hc1)).less (by simp))⟩ | exact ⟨_, rfl, .inl (by have hge := of_decide_eq_false hc0; simp only [Int.ofNat_lt, Nat.not_lt] at hge; have hie : i = ks.length := (by omega); subst hie; rw [List.take_of_length_le (by rw [List.length_zip]; omega)] at hX; exact hX.less (by simp))⟩
    · refine W_skip ?_
      refine W_region ?_
      refine wl_val (rn_add rfl rfl (by omega)) ?_
      refine wl_val (rn_move (by conv => lhs; whnf)) ?_
      refine wl_nil ?_
      replace hX := hyT (by simpa using hc1)
      rw [← htk] at hX
      exact ⟨rfl, i + 1, ⟨rfl, rfl, rfl, rfl, rfl, trivial⟩, ⟨(hX.less (by simp)), hlt⟩, by omega⟩
  · refine W_exit ?_   -- exit 0
    first | exact ⟨_, rfl, .inr ((hyF (by simpa using hc1)).less (by simp))⟩ | exact ⟨_, rfl, .inl (by have hge := of_decide_eq_false hc0; simp only [Int.ofNat_lt, Nat.not_lt] at hge; have hie : i = ks.length := (by omega); subst hie; rw [List.take_of_length_le (by rw [List.length_zip]; omega)] at hX; exact hX.less (by simp))⟩
-- (bellman/set.Map[string, *bellman/node.Node]).All
theorem mall_sn (w : World) (ks : List Str) (ys : List Value) {v1 v2 : Value} (M : Nat → Prop) (hM : ∀ i, M i → i < w.heap.size) (hk : Sl M w v1 1 (ks.map eS1)) (hv : Sl M w v2 1 (ys.map eP1)) (hle : ys.length = ks.length) : Fn Tryz.prog 69 #[.agg #[v1, v2]] w fun u w' => Iter Tryz.prog M w' u (fun p : Str × Value => #[Sv p.1, p.2]) (ks.zip ys) := by
  obtain ⟨a, c, rfl, _⟩ := hk.len; obtain ⟨a2, c2, rfl, _⟩ := hv.len
  have hX := Ext.refl Non w
  refine fn_of_W (args := [_]) Tryz.func69 rfl (by kernel_rfl) rfl ?_
  refine W_seq ?_
  refine W_region ?_
  refine wl_boxS rfl ?_; intro b1 w1 hb1 hE1 hB1
  have hq1 : w.heap.size ≤ b1 := Nat.le_trans hX.size hb1
  have hl1 : Mine Non w b1 := .inr hq1
  replace hX := hX.tr hE1
  refine wl_val (rn_assign (by conv => lhs; whnf)) ?_
  refine wl_nil ?_
  refine W_seq ?_
  refine W_region ?_
  refine wl_val (rn_makeFunc rfl) ?_
  refine wl_val (rn_assign (by conv => lhs; whnf)) ?_
  refine wl_nil ?_
  refine W_ret ?_
  exact ⟨_, resR1 (res1_tmp rfl), hX, mall_iter_sn ks ys M _ b1 (hk.ext hX.of_non (fun _ h => h)) (hv.ext hX.of_non (fun _ h => h)) hle hB1 (fun h => by have := hM _ h; omega)⟩
/-- v points to the tree t, its kids' pointers are ps. -/
def TrP (M : Nat → Prop) (w : World) (t : Tr) (ps : List Value) (v : Value) : Prop := (v = .pointer none ∧ t = .bare ∧ ps = []) ∨
  ∃ (b : Nat) (v1 v2 v3 v4 : Value) (us : List (List Value)), v = .pointer (some ⟨b, 0, none⟩) ∧ ¬ M b ∧ IsBox w b [v1, v2, v3, v4] ∧ MapR M w eI1 0 v1 v2 t.subs us ∧ MapR M w eS1 1 v3 v4 t.keys (ps.map eP1)
theorem TrP.ext {M M' : Nat → Prop} {w w' : World} {t : Tr} {ps : List Value} {v : Value} (h : TrP M w t ps v) (hE : Ext M' w w') (hm : ∀ i, M' i → M i) : TrP M w' t ps v := by
  rcases h with h | ⟨b, v1, v2, v3, v4, us, e, h1, h2, h3, h4⟩
  · exact .inl h
  · exact .inr ⟨b, v1, v2, v3, v4, us, e, h1, h2.ext hE (fun h => h1 (hm _ h)), h3.ext hE hm, h4.ext hE hm⟩
theorem TrP.sub {M M' : Nat → Prop} {w : World} {t : Tr} {ps : List Value} {v : Value} (h : TrP M w t ps v) (hm : ∀ i, M' i → i < w.heap.size → M i) : TrP M' w t ps v := by
  rcases h with h | ⟨b, v1, v2, v3, v4, us, e, h1, h2, h3, h4⟩
  · exact .inl h
  · exact .inr ⟨b, v1, v2, v3, v4, us, e, fun h => h1 (hm _ h h2.lt), h2, h3.sub hm, h4.sub hm⟩
theorem TrM.kids {M : Nat → Prop} {w : World} {t : Tr} {v : Value} (h : TrM M w t v) : ∃ ps, TrP M w t ps v ∧ ps.length = t.vals.length ∧ ∀ (i : Nat) (k : Tr) (p : Value), t.vals[i]? = some k → ps[i]? = some p → TrM M w k p := by
  cases h with
  | nil => exact ⟨[], .inl ⟨rfl, rfl, rfl⟩, rfl, fun i k p h => by simp [Tr.vals] at h⟩
  | box hb hB h1 h2 h3 h4 => exact ⟨_, .inr ⟨_, _, _, _, _, _, rfl, hb, hB, h1, h2⟩, h3, h4⟩
theorem ownP (w : World) (t : Tr) (ps : List Value) {v : Value} (M : Nat → Prop) (ht : TrP M w t ps v) : Fn Tryz.prog 68 #[v] w fun u w' => ∃ (q1 : Option Addr) (n1 c1 : Nat) (q2 : Option Addr) (n2 c2 : Nat) (q3 : Option Addr) (n3 c3 : Nat) (q4 : Option Addr) (n4 c4 : Nat) (us : List (List Value)),
    u = .agg #[.slice q1 n1 c1, .slice q2 n2 c2, .slice q3 n3 c3, .slice q4 n4 c4] ∧ MapR M w' eI1 0 (.slice q1 n1 c1) (.slice q2 n2 c2) t.subs us ∧ MapR M w' eS1 1 (.slice q3 n3 c3) (.slice q4 n4 c4) t.keys (ps.map eP1) := by
  rcases ht with ⟨rfl, rfl, rfl⟩ | ⟨b, v1, v2, v3, v4, us, rfl, hb, hBn, h1, h2⟩
  · exact (own_nil w).mono fun u w' _ hu => ⟨_, _, _, _, _, _, _, _, _, _, _, _, [], hu, ⟨Sl.nil _ _ _, Sl.nil _ _ _, rfl⟩, ⟨Sl.nil _ _ _, Sl.nil _ _ _, rfl⟩⟩
  · obtain ⟨q1, n1, c1, rfl⟩ := h1.keys.shape; obtain ⟨q2, n2, c2, rfl⟩ := h1.vals.shape
    obtain ⟨q3, n3, c3, rfl⟩ := h2.keys.shape; obtain ⟨q4, n4, c4, rfl⟩ := h2.vals.shape
    exact (own_box w b q1 q2 q3 q4 n1 n2 n3 n4 c1 c2 c3 c4 hBn).mono fun u w' hE hu => ⟨_, _, _, _, _, _, _, _, _, _, _, _, us, hu, h1.ext hE (fun _ h => h.elim), h2.ext hE (fun _ h => h.elim)⟩
-- (*bellman/node.Node).Kids
theorem nkids_ok (w : World) (t : Tr) (ps : List Value) {v : Value} (M : Nat → Prop) (hM : ∀ i, M i → i < w.heap.size) (ht : TrP M w t ps v) : Fn Tryz.prog 41 #[v] w fun u w' => Iter Tryz.prog M w' u (fun p : Str × Value => #[Sv p.1, p.2]) (t.keys.zip ps) := by
  have hX := Ext.refl Non w
  refine fn_of_W (args := [_]) Tryz.func41 rfl (by kernel_rfl) rfl ?_
  refine W_seq ?_
  refine W_region ?_
  refine wl_val (rn_assign (by conv => lhs; whnf)) ?_
  refine wl_nil ?_
  refine W_seq ?_
  refine W_region ?_
  refine wl_val (rn_move (by conv => lhs; whnf)) ?_
  refine wl_call e_68 rfl (ownP w t ps M (ht.ext hX (fun _ h => h.elim))) ?_; intro v4 w1 hE1 hR1
  replace hX := hX.tr hE1
  obtain ⟨q1, n1, c1, q2, n2, c2, q3, n3, c3, q4, n4, c4, us, rfl, hm1, hm2⟩ := hR1
  refine wl_val (rn_fieldS f_136_1 s_134 (vs := [_, _]) rfl rfl) ?_
  refine wl_call e_69 rfl (mall_sn w1 t.keys ps M (fun i h => Nat.lt_of_lt_of_le (hM i h) hX.size) hm2.keys hm2.vals (by have := hm2.len; simpa using this)) ?_; intro v6 w2 hE2 hR2
  replace hX := hX.tr hE2
  have hIt := hR2
  refine wl_val (rn_assign (by conv => lhs; whnf)) ?_
  refine wl_nil ?_
  refine W_ret ?_
  exact ⟨_, resR1 (res1_tmp rfl), hX, hIt⟩
end Go.Proofs.YtaddeakfojpdoaaGreatDoorC

/- The library's functions on texts: a byte's place, cutting. -/
set_option linter.unusedVariables false
set_option linter.unusedSimpArgs false
set_option maxRecDepth 100000
namespace Go.Proofs.YtaddeakfojpdoaaGreatDoorC
open Go.RowKit
theorem ibs_name : (Tryz.f186.name == "runtime.NumGoroutine") = false := by kernel_rfl
theorem ibs_body : Tryz.f186.body.isNone = true := by kernel_rfl
theorem ibs_next : Extern.findNext Tryz.f186 = none := by kernel_rfl
theorem ibs_find : Extern.find Tryz.f186 = some Extern.BytealgIndexByte.indexByte := by kernel_rfl
theorem ibs : IB Tryz.prog 186 := ⟨_, Tryz.func186, ibs_name, ibs_body, ibs_next, ibs_find⟩
theorem fi_self (c : UInt8) : fi [c] c = 0 := by simp [fi, pre1]
theorem fi_ge (s : Str) (c : UInt8) : 0 ≤ fi s c ↔ c ∈ s := by
  unfold fi; split
  · rename_i h; exact ⟨fun _ => h, fun _ => by omega⟩
  · rename_i h; exact ⟨fun h' => absurd h' (by decide), fun h' => absurd h' h⟩
theorem fi_in {s : Str} {c : UInt8} (h : c ∈ s) : fi s c = ((pre1 c s).length : Nat) := by unfold fi; rw [if_pos h]
/-- What lies behind the first byte c. -/
def post1 (c : UInt8) (s : Str) : Str := s.drop ((pre1 c s).length + 1)
-- internal/stringslite.IndexByte
set_option maxHeartbeats 1600000 in
theorem indexByte_ok (w : World) (s : Str) (c : UInt8) : Fn Tryz.prog 163 #[Sv s, .int .u8 c.toNat] w fun u w' => u = .int .i64 (fi s c) := by
  have hX := Ext.refl Non w
  refine fn_of_W (args := [_, _]) Tryz.func163 rfl (by kernel_rfl) rfl ?_
  refine W_seq ?_
  refine W_region ?_
  refine wl_val (rn_assign (by conv => lhs; whnf)) ?_
  refine wl_nil ?_
  refine W_seq ?_
  refine W_region ?_
  refine wl_val (rn_move (by conv => lhs; whnf)) ?_
  refine wl_val (rn_move (by conv => lhs; whnf)) ?_
  refine wl_val (P := Tryz.prog) (op := .call ⟨.value (.func 186), #[.tmp 5, .tmp 6], #[9, 5]⟩) (rn_indexByte ibs rfl rfl) ?_
  refine wl_val (rn_assign (by conv => lhs; whnf)) ?_
  refine wl_nil ?_
  refine W_ret ?_
  exact ⟨_, resR1 (res1_tmp rfl), hX, rfl⟩
-- internal/stringslite.Index
set_option maxHeartbeats 800000 in
theorem index_ok (w : World) (s : Str) (c : UInt8) : Fn Tryz.prog 166 #[Sv s, Sv [c]] w fun u w' => u = .int .i64 (fi s c) := by
  have hX := Ext.refl Non w
  refine fn_of_W (args := [_, _]) Tryz.func166 rfl (by kernel_rfl) rfl ?_
  refine W_seq ?_
  refine W_region ?_
  refine wl_val (rn_assign (by conv => lhs; whnf)) ?_
  refine wl_nil ?_
  refine W_seq ?_
  refine W_region ?_
  refine wl_val (rn_move (by conv => lhs; whnf)) ?_
  refine wl_val (rn_slen us_9 rfl) ?_
  refine wl_val (rn_assign (by conv => lhs; whnf)) ?_
  refine wl_nil ?_
  refine W_seq ?_
  refine W_block ?_   -- block 0
  refine W_seq ?_
  refine W_region ?_
  refine wl_val (rn_move (by conv => lhs; whnf)) ?_
  refine wl_val (rn_eql rfl rfl) ?_
  refine wl_val (rn_move (by conv => lhs; whnf)) ?_
  refine wl_split (d := 19) rfl (fun hg19 => ?_) (fun hg19 => ?_)
  · exact absurd (of_decide_eq_true hg19) (by simp)
  · refine wl_yes rfl (congrArg Value.bool hg19) ?_
    refine wl_val (rn_move (by conv => lhs; whnf)) ?_
    refine wl_yes rfl (congrArg Value.bool hg19) ?_
    refine wl_val (rn_move (by conv => lhs; whnf)) ?_
    refine wl_yes rfl (congrArg Value.bool hg19) ?_
    refine wl_val (rn_seql rfl rfl) ?_
    refine wl_val (rn_pickF (congrArg Value.bool hg19) (by conv => lhs; whnf)) ?_
    refine wl_val (rn_assign (by conv => lhs; whnf)) ?_
    refine wl_nil ?_
    refine W_cond rfl (fun hc0 => ?_) (fun hc0 => ?_)
    · refine W_seq ?_
      refine W_region ?_
      refine wl_val (rn_assign (by conv => lhs; whnf)) ?_
      refine wl_nil ?_
      refine W_ret ?_
      exact ⟨_, resR1 (res1_tmp rfl), hX, by have e := of_decide_eq_true hc0; rw [← e, fi_self]; rfl⟩
    · refine W_seq ?_
      refine W_region ?_
      refine wl_val (rn_move (by conv => lhs; whnf)) ?_
      refine wl_val (rn_eql rfl rfl) ?_
      refine wl_val (rn_assign (by conv => lhs; whnf)) ?_
      refine wl_nil ?_
      refine W_cond rfl (fun hc1 => ?_) (fun hc1 => ?_)
      · refine W_seq ?_
        refine W_region ?_
        refine wl_val (rn_move (by conv => lhs; whnf)) ?_
        refine wl_val (rn_move (by conv => lhs; whnf)) ?_
        refine wl_val (rn_sindex us_9 rfl rfl (by omega) rfl) ?_
        refine wl_call e_163 rfl (indexByte_ok w s c) ?_; intro v30 w1 hE1 hR1
        replace hX := hX.tr hE1
        subst hR1
        refine wl_val (rn_assign (by conv => lhs; whnf)) ?_
        refine wl_nil ?_
        refine W_ret ?_
        exact ⟨_, resR1 (res1_tmp rfl), hX, rfl⟩
      · exact absurd (of_decide_eq_false hc1) (by simp)
-- internal/stringslite.Cut
set_option maxHeartbeats 800000 in
theorem scut_ok (w : World) (s : Str) (c : UInt8) (hn : s.length ≤ 1000000) : Fn Tryz.prog 167 #[Sv s, Sv [c]] w fun u w' => u = .tuple #[Sv (pre1 c s), Sv (post1 c s), .bool (decide (c ∈ s))] := by
  have hpl := pre1_le c s
  have hX := Ext.refl Non w
  refine fn_of_W (args := [_, _]) Tryz.func167 rfl (by kernel_rfl) rfl ?_
  refine W_seq ?_
  refine W_region ?_
  refine wl_val (rn_assign (by conv => lhs; whnf)) ?_
  refine wl_val (rn_assign (by conv => lhs; whnf)) ?_
  refine wl_val (rn_assign (by conv => lhs; whnf)) ?_
  refine wl_nil ?_
  refine W_seq ?_
  refine W_seq ?_
  refine W_region ?_
  refine wl_val (rn_move (by conv => lhs; whnf)) ?_
  refine wl_val (rn_move (by conv => lhs; whnf)) ?_
  refine wl_call e_166 rfl (index_ok w s c) ?_; intro v10 w1 hE1 hR1
  replace hX := hX.tr hE1
  subst hR1
  refine wl_val (rn_assign (by conv => lhs; whnf)) ?_
  refine wl_nil ?_
  refine W_seq ?_
  refine W_region ?_
  refine wl_val (rn_move (by conv => lhs; whnf)) ?_
  refine wl_val (rn_geq rfl rfl) ?_
  refine wl_nil ?_
  refine W_cond rfl (fun hc0 => ?_) (fun hc0 => ?_)
  · have hcm : c ∈ s := (fi_ge s c).1 (of_decide_eq_true hc0)
    have hfi := fi_in hcm
    have hlt : (pre1 c s).length < s.length := (List.getElem?_eq_some_iff.1 (pre1_mem hcm)).1
    refine W_seq ?_
    refine W_drawE mixed ?_; intro w2 hE2
    replace hX := hX.tr hE2
    have hS := Ext.refl Non w2
    refine wd_take 0 _ _ rfl (by kernel_rfl) hS (yd_do fun A hA => rn_move (by conv => lhs; whnf)) ?_
    refine wd_take 1 _ _ rfl (by kernel_rfl) hS (yd_do fun A hA => Rn.cast (rn_move rfl) (v' := .int .i64 ((pre1 c s).length : Nat)) (congrArg (Value.int .i64) hfi)) ?_
    refine wd_take 2 _ _ rfl (by kernel_rfl) hS (yd_do fun A hA => rn_sslice us_9 (l := 0) (h := (pre1 c s).length) rfl rfl ⟨_, rfl⟩ (by omega) (by first | omega | (simp only [List.length_cons, List.length_nil, List.length_append]; omega))) ?_
    refine wd_take 3 _ _ rfl (by kernel_rfl) hS (yd_do fun A hA => rn_move (by conv => lhs; whnf)) ?_
    refine wd_take 4 _ _ rfl (by kernel_rfl) hS (yd_do fun A hA => Rn.cast (rn_move rfl) (v' := .int .i64 ((pre1 c s).length : Nat)) (congrArg (Value.int .i64) hfi)) ?_
    refine wd_take 5 _ _ rfl (by kernel_rfl) hS (yd_do fun A hA => rn_move (by conv => lhs; whnf)) ?_
    refine wd_take 6 _ _ rfl (by kernel_rfl) hS (yd_do fun A hA => rn_slen us_9 rfl) ?_
    refine wd_take 7 _ _ rfl (by kernel_rfl) hS (yd_do fun A hA => rn_add rfl rfl (by simp only [List.length_singleton]; omega)) ?_
    refine wd_take 8 _ _ rfl (by kernel_rfl) hS (yd_do fun A hA => rn_sslice us_9 (l := ((pre1 c s).length + 1)) (h := s.length) rfl ⟨_, rfl⟩ rfl (by omega) (by first | omega | (simp only [List.length_cons, List.length_nil, List.length_append]; omega))) ?_
    refine wd_take 9 _ _ rfl (by kernel_rfl) hS (yd_do fun A hA => rn_assign (by conv => lhs; whnf)) ?_
    refine wd_take 10 _ _ rfl (by kernel_rfl) hS (yd_do fun A hA => rn_assign (by conv => lhs; whnf)) ?_
    refine wd_take 11 _ _ rfl (by kernel_rfl) hS (yd_do fun A hA => rn_assign (by conv => lhs; whnf)) ?_
    refine wd_done (by kernel_rfl) ?_ _
    replace hX := hX.tr hS
    refine W_ret ?_
    exact ⟨_, resR3 (res1_tmp rfl) (res1_tmp rfl) (res1_tmp rfl), hX, by rw [decide_eq_true hcm]; show Value.tuple #[Sv ((s.drop 0).take ((pre1 c s).length - 0)), Sv ((s.drop ((pre1 c s).length + 1)).take (s.length - ((pre1 c s).length + 1))), .bool true] = _; rw [List.drop_zero, Nat.sub_zero, pre1_take, List.take_of_length_le (by rw [List.length_drop]; exact Nat.le_refl _)]; rfl⟩
  · have hcm : ¬ c ∈ s := fun h => of_decide_eq_false hc0 ((fi_ge s c).2 h)
    refine W_skip ?_
    refine W_seq ?_
    refine W_region ?_
    refine wl_val (rn_move (by conv => lhs; whnf)) ?_
    refine wl_val (rn_assign (by conv => lhs; whnf)) ?_
    refine wl_val (rn_assign (by conv => lhs; whnf)) ?_
    refine wl_val (rn_assign (by conv => lhs; whnf)) ?_
    refine wl_nil ?_
    refine W_ret ?_
    exact ⟨_, resR3 (res1_tmp rfl) (res1_tmp rfl) (res1_tmp rfl), hX, by rw [decide_eq_false hcm, pre1_not hcm]; unfold post1; rw [pre1_not hcm, List.drop_of_length_le (by omega)]; rfl⟩
-- strings.Cut
theorem cut_ok (w : World) (s : Str) (c : UInt8) (hn : s.length ≤ 1000000) : Fn Tryz.prog 141 #[Sv s, Sv [c]] w fun u w' => u = .tuple #[Sv (pre1 c s), Sv (post1 c s), .bool (decide (c ∈ s))] := by
  have hX := Ext.refl Non w
  refine fn_of_W (args := [_, _]) Tryz.func141 rfl (by kernel_rfl) rfl ?_
  refine W_seq ?_
  refine W_region ?_
  refine wl_val (rn_assign (by conv => lhs; whnf)) ?_
  refine wl_val (rn_assign (by conv => lhs; whnf)) ?_
  refine wl_val (rn_assign (by conv => lhs; whnf)) ?_
  refine wl_nil ?_
  refine W_seq ?_
  refine W_region ?_
  refine wl_val (rn_move (by conv => lhs; whnf)) ?_
  refine wl_val (rn_move (by conv => lhs; whnf)) ?_
  refine wl_call e_167 rfl (scut_ok w s c hn) ?_; intro v9 w1 hE1 hR1
  replace hX := hX.tr hE1
  subst hR1
  refine wl_val (rn_extract rfl rfl) ?_
  refine wl_val (rn_extract rfl rfl) ?_
  refine wl_val (rn_extract rfl rfl) ?_
  refine wl_val (rn_assign (by conv => lhs; whnf)) ?_
  refine wl_val (rn_assign (by conv => lhs; whnf)) ?_
  refine wl_val (rn_assign (by conv => lhs; whnf)) ?_
  refine wl_nil ?_
  refine W_ret ?_
  exact ⟨_, resR3 (res1_tmp rfl) (res1_tmp rfl) (res1_tmp rfl), hX, rfl⟩
-- bellman/topic.Wild
theorem twild_ok (w : World) (s : Str) (hn : s.length ≤ 1000000) : Fn Tryz.prog 101 #[Sv s] w fun u w' => u = .bool (decide (pre1 47 s = [43]) || decide (pre1 47 s = [35])) := by
  have hX := Ext.refl Non w
  refine fn_of_W (args := [_]) Tryz.func101 rfl (by kernel_rfl) rfl ?_
  refine W_seq ?_
  refine W_region ?_
  refine wl_val (rn_assign (by conv => lhs; whnf)) ?_
  refine wl_nil ?_
  refine W_seq ?_
  refine W_region ?_
  refine wl_val (rn_move (by conv => lhs; whnf)) ?_
  refine wl_call e_141 rfl (cut_ok w s 47 hn) ?_; intro v8 w1 hE1 hR1
  replace hX := hX.tr hE1
  subst hR1
  refine wl_val (rn_move (by conv => lhs; whnf)) ?_
  refine wl_val (rn_extract rfl rfl) ?_
  refine wl_val (rn_extract rfl rfl) ?_
  refine wl_val (rn_extract rfl rfl) ?_
  refine wl_val (rn_assign (by conv => lhs; whnf)) ?_
  refine wl_val (rn_assign (by conv => lhs; whnf)) ?_
  refine wl_val (rn_assign (by conv => lhs; whnf)) ?_
  refine wl_nil ?_
  refine W_seq ?_
  refine W_region ?_
  refine wl_val (rn_move (by conv => lhs; whnf)) ?_
  refine wl_val (rn_seql rfl rfl) ?_
  refine wl_val (rn_move (by conv => lhs; whnf)) ?_
  refine wl_split (d := 14) rfl (fun hg14 => ?_) (fun hg14 => ?_)
  · refine wl_no rfl (congrArg Value.bool hg14) ?_
    refine wl_no rfl (congrArg Value.bool hg14) ?_
    refine wl_val (rn_pickT (congrArg Value.bool hg14) (by conv => lhs; whnf)) ?_
    refine wl_val (rn_assign (by conv => lhs; whnf)) ?_
    refine wl_nil ?_
    refine W_ret ?_
    exact ⟨_, resR1 (res1_tmp rfl), hX, by rw [hg14]; rfl⟩
  · refine wl_yes rfl (congrArg Value.bool hg14) ?_
    refine wl_val (rn_move (by conv => lhs; whnf)) ?_
    refine wl_yes rfl (congrArg Value.bool hg14) ?_
    refine wl_val (rn_seql rfl rfl) ?_
    refine wl_val (rn_pickF (congrArg Value.bool hg14) (by conv => lhs; whnf)) ?_
    refine wl_val (rn_assign (by conv => lhs; whnf)) ?_
    refine wl_nil ?_
    refine W_ret ?_
    exact ⟨_, resR1 (res1_tmp rfl), hX, by rw [hg14]; rfl⟩
-- strings.Index
theorem sindex_ok (w : World) (s : Str) (c : UInt8) : Fn Tryz.prog 140 #[Sv s, Sv [c]] w fun u w' => u = .int .i64 (fi s c) := by
  have hX := Ext.refl Non w
  refine fn_of_W (args := [_, _]) Tryz.func140 rfl (by kernel_rfl) rfl ?_
  refine W_seq ?_
  refine W_region ?_
  refine wl_val (rn_assign (by conv => lhs; whnf)) ?_
  refine wl_nil ?_
  refine W_seq ?_
  refine W_region ?_
  refine wl_val (rn_move (by conv => lhs; whnf)) ?_
  refine wl_val (rn_move (by conv => lhs; whnf)) ?_
  refine wl_call e_166 rfl (index_ok w s c) ?_; intro v7 w1 hE1 hR1
  replace hX := hX.tr hE1
  subst hR1
  refine wl_val (rn_assign (by conv => lhs; whnf)) ?_
  refine wl_nil ?_
  refine W_ret ?_
  exact ⟨_, resR1 (res1_tmp rfl), hX, rfl⟩
-- strings.IndexByte
theorem sindexByte_ok (w : World) (s : Str) (c : UInt8) : Fn Tryz.prog 138 #[Sv s, .int .u8 c.toNat] w fun u w' => u = .int .i64 (fi s c) := by
  have hX := Ext.refl Non w
  refine fn_of_W (args := [_, _]) Tryz.func138 rfl (by kernel_rfl) rfl ?_
  refine W_seq ?_
  refine W_region ?_
  refine wl_val (rn_assign (by conv => lhs; whnf)) ?_
  refine wl_nil ?_
  refine W_seq ?_
  refine W_region ?_
  refine wl_val (rn_move (by conv => lhs; whnf)) ?_
  refine wl_val (rn_move (by conv => lhs; whnf)) ?_
  refine wl_call e_163 rfl (indexByte_ok w s c) ?_; intro v7 w1 hE1 hR1
  replace hX := hX.tr hE1
  subst hR1
  refine wl_val (rn_assign (by conv => lhs; whnf)) ?_
  refine wl_nil ?_
  refine W_ret ?_
  exact ⟨_, resR1 (res1_tmp rfl), hX, rfl⟩
-- strings.Contains
theorem scontains_ok (w : World) (s : Str) (c : UInt8) : Fn Tryz.prog 100 #[Sv s, Sv [c]] w fun u w' => u = .bool (decide (c ∈ s)) := by
  have hX := Ext.refl Non w
  refine fn_of_W (args := [_, _]) Tryz.func100 rfl (by kernel_rfl) rfl ?_
  refine W_seq ?_
  refine W_region ?_
  refine wl_val (rn_assign (by conv => lhs; whnf)) ?_
  refine wl_nil ?_
  refine W_seq ?_
  refine W_region ?_
  refine wl_val (rn_move (by conv => lhs; whnf)) ?_
  refine wl_val (rn_move (by conv => lhs; whnf)) ?_
  refine wl_call e_140 rfl (sindex_ok w s c) ?_; intro v7 w1 hE1 hR1
  replace hX := hX.tr hE1
  subst hR1
  refine wl_val (rn_geq rfl rfl) ?_
  refine wl_val (rn_assign (by conv => lhs; whnf)) ?_
  refine wl_nil ?_
  refine W_ret ?_
  exact ⟨_, resR1 (res1_tmp rfl), hX, by rw [show decide (c ∈ s) = decide (fi s c ≥ 0) from decide_eq_decide.2 (fi_ge s c).symm]; rfl⟩
end Go.Proofs.YtaddeakfojpdoaaGreatDoorC

/- Topics, filters, and which matches which: plain lists. -/
set_option linter.unusedVariables false
set_option linter.unusedSimpArgs false
namespace Go.Proofs.YtaddeakfojpdoaaGreatDoorC
open Go.RowKit

def sizedB (s : Str) : Bool := decide (s ≠ []) && decide (s.length ≤ 32) && decide (¬ (0 : UInt8) ∈ s)
def levOk (last : Bool) (l : Str) : Bool := if (35 : UInt8) ∈ l then decide (l = [35]) && last else decide (¬ (43 : UInt8) ∈ l) || decide (l = [43])
/-- f holds of each text by its place. -/
def allIx (f : Nat → Str → Bool) (L : List Str) : Bool := (List.range L.length).all fun i => f i (L.getD i [])
theorem allIx_iff {f : Nat → Str → Bool} {L : List Str} : allIx f L = true ↔ ∀ i l, L[i]? = some l → f i l = true := by
  unfold allIx
  rw [List.all_eq_true]
  constructor
  · intro h i l hl
    have := h i (List.mem_range.2 (List.getElem?_eq_some_iff.1 hl).1)
    rw [List.getD_eq_getElem?_getD, hl] at this; exact this
  · intro h i hi
    have hi := List.mem_range.1 hi
    have := h i L[i] (List.getElem?_eq_getElem hi)
    rw [List.getD_eq_getElem?_getD, List.getElem?_eq_getElem hi]; exact this
theorem allIx_no {f : Nat → Str → Bool} {L : List Str} {i : Nat} {l : Str} (hl : L[i]? = some l) (h : f i l = false) : allIx f L = false := by
  cases e : allIx f L with
  | false => rfl
  | true => rw [allIx_iff.1 e i l hl] at h; cases h
def levsOk (L : List Str) : Bool := allIx (fun i l => levOk (decide (i + 1 = L.length)) l) L
def filterB (s : Str) : Bool := sizedB s && levsOk (spl 47 s)
def wildB (s : Str) : Bool := decide (pre1 47 s = [43]) || decide (pre1 47 s = [35])
def headIs (c : UInt8) (s : Str) : Bool := decide (s.head? = some c)
def likeB (some : Str → Bool) : List Str → List Str → Bool
  | [], t => t.isEmpty
  | l :: f, t => if l = [35] then true else match t with
    | [] => false
    | x :: t => (decide (l = x) || (decide (l = [43]) && some x)) && likeB some f t
def coversB (a b : Str) : Bool := filterB a && filterB b && !(wildB a && headIs 36 b) && likeB (fun l => decide (l ≠ [35])) (spl 47 a) (spl 47 b)

/-- At place j a filter's level takes a text's. -/
def okAt (some : Str → Bool) (L T : List Str) (j : Nat) : Prop := ∃ l t, L[j]? = Option.some l ∧ T[j]? = Option.some t ∧ (l = t ∨ (l = [43] ∧ some t = true))
theorem okAt_succ {some : Str → Bool} {l t : Str} {L T : List Str} {j : Nat} : okAt some (l :: L) (t :: T) (j + 1) ↔ okAt some L T j := by
  unfold okAt; simp
theorem likeB_iff (some : Str → Bool) : ∀ (L T : List Str), likeB some L T = true ↔
    (∃ k, L[k]? = Option.some [35] ∧ k ≤ T.length ∧ ∀ j, j < k → okAt some L T j) ∨ (L.length = T.length ∧ ∀ j, j < L.length → okAt some L T j)
  | [], T => by
    simp only [likeB, List.isEmpty_iff]
    constructor
    · rintro rfl; exact .inr ⟨rfl, fun j h => absurd h (Nat.not_lt_zero _)⟩
    · rintro (⟨k, h, _⟩ | ⟨h, _⟩)
      · simp at h
      · exact List.length_eq_zero_iff.1 h.symm
  | l :: L, T => by
    unfold likeB
    by_cases hl : l = [35]
    · rw [if_pos hl]
      exact ⟨fun _ => .inl ⟨0, by simp [hl], Nat.zero_le _, fun j h => absurd h (Nat.not_lt_zero _)⟩, fun _ => rfl⟩
    · rw [if_neg hl]
      cases T with
      | nil =>
        constructor
        · intro h; cases h
        · rintro (⟨k, h, hk, _⟩ | ⟨h, _⟩)
          · obtain rfl : k = 0 := by simpa using hk
            simp at h; exact absurd h hl
          · simp at h
      | cons t T =>
        have ih := likeB_iff some L T
        simp only [Bool.and_eq_true, Bool.or_eq_true, decide_eq_true_eq, ih]
        have h0 : okAt some (l :: L) (t :: T) 0 ↔ (l = t ∨ (l = [43] ∧ some t = true)) := by unfold okAt; simp
        constructor
        · rintro ⟨h1, ⟨k, h2, h3, h4⟩ | ⟨h2, h3⟩⟩
          · refine .inl ⟨k + 1, by simpa using h2, by simpa using h3, fun j hj => ?_⟩
            cases j with
            | zero => exact h0.2 h1
            | succ j => exact okAt_succ.2 (h4 j (by omega))
          · refine .inr ⟨by simp [h2], fun j hj => ?_⟩
            cases j with
            | zero => exact h0.2 h1
            | succ j => exact okAt_succ.2 (h3 j (by simpa using hj))
        · rintro (⟨k, h2, h3, h4⟩ | ⟨h2, h3⟩)
          · cases k with
            | zero => simp at h2; exact absurd h2 hl
            | succ k => exact ⟨h0.1 (h4 0 (by omega)), .inl ⟨k, by simpa using h2, by simpa using h3, fun j hj => okAt_succ.1 (h4 (j + 1) (by omega))⟩⟩
          · exact ⟨h0.1 (h3 0 (by simp)), .inr ⟨by simpa using h2, fun j hj => okAt_succ.1 (h3 (j + 1) (by simp; omega))⟩⟩
/-- No, where a level takes nothing, or the text is over; and # did not stand ahead. -/
theorem likeB_no {some : Str → Bool} {L T : List Str} {i : Nat} (h : ∀ j : Nat, j ≤ i → L[j]? ≠ Option.some [35]) (hi : i < L.length) (hn : ¬ okAt some L T i) : likeB some L T = false := by
  cases e : likeB some L T with
  | false => rfl
  | true =>
    rcases (likeB_iff some L T).1 e with ⟨k, h1, h2, h3⟩ | ⟨h1, h2⟩
    · by_cases hk : k ≤ i
      · exact absurd h1 (h k hk)
      · exact absurd (h3 i (by omega)) hn
    · exact absurd (h2 i hi) hn
theorem likeB_end {some : Str → Bool} {L T : List Str} (h : ∀ j : Nat, L[j]? ≠ Option.some [35]) (hok : ∀ j, j < L.length → okAt some L T j) : likeB some L T = decide (L.length = T.length) := by
  by_cases hl : L.length = T.length
  · rw [decide_eq_true hl]; exact (likeB_iff some L T).2 (.inr ⟨hl, hok⟩)
  · rw [decide_eq_false hl]
    cases e : likeB some L T with
    | false => rfl
    | true =>
      rcases (likeB_iff some L T).1 e with ⟨k, h1, _⟩ | ⟨h1, _⟩
      · exact absurd h1 (h k)
      · exact absurd h1 hl
theorem levOk_a {b : Bool} {l : Str} (q : (43 : UInt8) ∈ l) (h : ¬ l = [43]) : levOk b l = false := by
  unfold levOk; split
  · have : ¬ l = [35] := fun e => by subst e; simp at q
    simp [this]
  · simp [q, h]
theorem levOk_b {b : Bool} {l : Str} (q : (35 : UInt8) ∈ l) (h : ¬ l = [35]) : levOk b l = false := by
  unfold levOk; rw [if_pos q]; simp [h]
theorem levOk_c {b : Bool} {l : Str} (h : l = [35]) : levOk b l = b := by subst h; unfold levOk; simp
theorem levOk_d {b : Bool} {l : Str} (q : ¬ (35 : UInt8) ∈ l) (h : (43 : UInt8) ∈ l → l = [43]) : levOk b l = true := by
  unfold levOk; rw [if_neg q]
  by_cases h4 : (43 : UInt8) ∈ l
  · simp [h h4]
  · simp [h4]
theorem filter_no {s : Str} {i : Nat} {l : Str} (hi : (spl 47 s)[i]? = some l) (h : levOk (decide (i + 1 = (spl 47 s).length)) l = false) : filterB s = false := by
  unfold filterB levsOk; rw [allIx_no hi h]; simp
theorem filter_yes {s : Str} (h0 : sizedB s = true) (h : ∀ i l, (spl 47 s)[i]? = some l → levOk (decide (i + 1 = (spl 47 s).length)) l = true) : filterB s = true := by
  unfold filterB levsOk; rw [h0, allIx_iff.2 h]; rfl
theorem filter_small {s : Str} (h : sizedB s = false) : filterB s = false := by unfold filterB; rw [h]; rfl
theorem headIs_at {s : Str} {c d : UInt8} (h : s[0]? = some c) : headIs d s = decide (c = d) := by
  cases s with
  | nil => cases h
  | cons x s => simp at h; subst h; simp [headIs]
end Go.Proofs.YtaddeakfojpdoaaGreatDoorC
