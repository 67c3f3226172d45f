/- A range over a function that writes what it has captured: an iterator that may be gone through once; each rule holds of whatever program. -/
import Derived.Test.YtaddeakfojpdoaaGreatDoorBunM7
import Derived.Test.YtaddeakfojpdoaaGreatDoorBunM6
import Derived.Test.YtaddeakfojpdoaaGreatDoorBunM3
import Derived.Test.YtaddeakfojpdoaaGreatDoorBunM5
set_option linter.unusedVariables false
set_option linter.unusedSimpArgs false
namespace Go.Proofs.YtaddeakfojpdoaaGreatDoorC
open Go.RowKit
variable {ro : Option Nat} {P : Program} {n : Nat} {Q : Post} {σ : Env} {D : List Deferred} {w : World}
/-- As Stab, of an owner of E0 too. -/
def StabE (E0 : Nat → Prop) (n0 : Nat) (J : (Nat → Prop) → World → Prop) : Prop :=
  ∀ N A B, (∀ i, N i → E0 i ∨ n0 ≤ i) → n0 ≤ A.heap.size → J N A → Ext N A B → J (grow N A B) B
/-- As Iter, of a function value that owns E0, blocks of w0. -/
def IterE {α : Type} (P : Program) (M : Nat → Prop) (w0 : World) (E0 : Nat → Prop) (fv : Value) (encs : α → Array Value) (xs : List α) : Prop :=
  ∃ f cap, fv = .func (.func f) #[] cap ∧ entersB P f = true ∧
  ∀ (l : Nat) (W : World) (J : List α → (Nat → Prop) → World → Prop) (Jx : (Nat → Prop) → World → Prop), Ext M w0 W → (∀ pre, StabE E0 W.heap.size (J pre)) → StabE E0 W.heap.size Jx →
    (∀ N pre x A, (∀ i, N i → (E0 i ∨ W.heap.size ≤ i) ∧ i < A.heap.size) → (∀ i, E0 i → N i) → W.heap.size ≤ A.heap.size → J pre N A → (∃ post, xs = pre ++ x :: post) →
      YieldOk P l (encs x) A fun b B => Ext (Yc M w0 N) A B ∧ (b = true → J (pre ++ [x]) N B) ∧ (b = false → Jx N B)) →
    J [] E0 W →
    Calls P f (#[.func (.yield l) #[] #[]] ++ cap) W fun e W' => ∃ v N, e = .returned v ∧ W.heap.size ≤ W'.heap.size ∧ (∀ i, N i → (E0 i ∨ W.heap.size ≤ i) ∧ i < W'.heap.size) ∧ (∀ i, E0 i → N i) ∧ (J xs N W' ∨ Jx N W')
/-- The heart of a range over a function: the rounds, from a record that is ready. -/
theorem rf_coreE {E0 : Nat → Prop} {α : Type} {l fn : Nat} {st : Loop} {assign body : Code} {M : Nat → Prop} {w0 : World} {I : List α → (Nat → Prop) → World → Prop} {X : Code → (Nat → Prop) → World → Prop} {n0 : Nat} {E : Nat → Prop} {W1 : World} {σ : Env} {fv : Value} {encs : α → List Value} {xs : List α} {ps : List Nat}
    (hit : IterE P M w0 E0 fv (fun x => (encs x).toArray) xs) (hEE : ∀ i, E0 i → E i) (hl0 : w0.heap.size ≤ l) (hE0w : ∀ i, E0 i → i < w0.heap.size) (hE0 : Ext M w0 W1) (hka : okc n assign = true) (hkb : okc n body = true) (hps : ∀ p ∈ ps, p < n) (hlen : ∀ x, (encs x).length = ps.length)
    (hl : W1.heap[l]? = some (.loop st)) (hst : st.state = .ready) (hpe : st.pending = none) (hpa : st.params = ps.toArray) (has : st.assign = assign) (hbo : st.body = body) (hs : Sim n { tmps := st.tmps, defers := [] } σ)
    (hEl : E l) (hE : ∀ i, E i → n0 ≤ i ∧ i < W1.heap.size) (sI : ∀ pre, Stab n0 (I pre)) (sX : ∀ c, Stab n0 (X c)) (h0 : I [] E W1)
    (hround : ∀ N pre x A, N l → (∀ i, N i → n0 ≤ i ∧ i < A.heap.size) → W1.heap.size ≤ A.heap.size → (∃ st, A.heap[l]? = some (.loop st)) → I pre N A → (∃ post, xs = pre ++ x :: post) →
      W (some l) P n assign (Then (fun σ1 D1 A1 => D1 = [] ∧ Ext (Yc M w0 N) A A1 ∧ ∀ A2, Ext (fun i => i = l) A1 A2 → A2.heap.size = A1.heap.size → (∃ st, A2.heap[l]? = some (.loop st)) → W (some l) P n body (RQ M w0 I X N (pre ++ [x]) A2) σ1 [] A2) NoQ) (updN σ ps (encs x)) [] A) :
    ∃ f cap, fv = .func (.func f) #[] cap ∧ entersB P f = true ∧
      Calls P f (#[.func (.yield l) #[] #[]] ++ cap) W1 fun e W' => ∃ v N st', e = .returned v ∧ W1.heap.size ≤ W'.heap.size ∧ (∀ i, N i → n0 ≤ i ∧ i < W'.heap.size) ∧ (∀ i, E i → N i) ∧ W'.heap[l]? = some (.loop st') ∧ st'.state ≠ .busy ∧
        (∀ d, E d → ¬ E0 d → d ≠ l → W'.heap[d]? = W1.heap[d]?) ∧ ((st'.pending = none ∧ I xs N W') ∨ ∃ c, st'.pending = some c ∧ X c N W') := by
  subst has
  subst hbo
  obtain ⟨f, cap, hfv, hf, hcall⟩ := hit
  refine ⟨f, cap, hfv, hf, ?_⟩
  have hlt1 := (Array.getElem?_eq_some_iff.1 hl).1
  -- N with the loop's own blocks
  have hplus : ∀ N : Nat → Prop, (∀ i, N i → E0 i ∨ W1.heap.size ≤ i) → ∀ i, (N i ∨ E i) → n0 ≤ i := fun N hN i h => by
    rcases h with h | h
    · rcases hN i h with h | h
      · exact (hE i (hEE i h)).1
      · have := (hE l hEl); omega
    · exact (hE i h).1
  have hE0l : ¬ E0 l := fun h => by have := hE0w l h; omega
  have stab : ∀ (J : (Nat → Prop) → World → Prop) (st' : Loop), Stab n0 J → StabE E0 W1.heap.size (fun N A => J (fun i => N i ∨ E i) A ∧ A.heap[l]? = some (.loop st') ∧ ∀ d, E d → ¬ E0 d → d ≠ l → A.heap[d]? = W1.heap[d]?) := by
    intro J st' hJ N A B hN hA ⟨h1, h2, h3⟩ hext
    have hnl : ∀ d, E d → ¬ E0 d → ¬ N d := fun d hd h0 h => by rcases hN d h with h | h; exact h0 h; have := (hE d hd).2; omega
    refine ⟨?_, hext.obj h2 (hnl l hEl hE0l), fun d hd hz hne => ?_⟩
    · have h4 := hJ (fun i => N i ∨ E i) A B (hplus N hN) (by have := (hE l hEl); omega) h1 (hext.mono fun i h => .inl h)
      have e : grow (fun i => N i ∨ E i) A B = fun i => grow N A B i ∨ E i := by
        funext i; apply propext; unfold grow
        exact or_right_comm
      rw [← e]; exact h4
    · have hlt : d < A.heap.size := by have := (hE d hd).2; omega
      rw [hext.block d hlt (hnl d hd hz)]; exact h3 d hd hz hne
  have stab2 : StabE E0 W1.heap.size (fun N A => ∃ c, X c (fun i => N i ∨ E i) A ∧ A.heap[l]? = some (.loop { st with state := .done, pending := some c }) ∧ ∀ d, E d → ¬ E0 d → d ≠ l → A.heap[d]? = W1.heap[d]?) := by
    intro N A B hN hA ⟨c, h⟩ hext
    exact ⟨c, stab (X c) _ (sX c) N A B hN hA h hext⟩
  refine Calls.mono (hcall l W1 (fun pre N A => I pre (fun i => N i ∨ E i) A ∧ A.heap[l]? = some (.loop st) ∧ ∀ d, E d → ¬ E0 d → d ≠ l → A.heap[d]? = W1.heap[d]?)
    (fun N A => ∃ c, X c (fun i => N i ∨ E i) A ∧ A.heap[l]? = some (.loop { st with state := .done, pending := some c }) ∧ ∀ d, E d → ¬ E0 d → d ≠ l → A.heap[d]? = W1.heap[d]?) hE0 (fun pre => stab _ st (sI pre)) stab2 ?_ ⟨?_, hl, fun _ _ _ _ => rfl⟩) ?_
  · -- one round
    rintro N pre x A hN hN0 hA ⟨hi, hlA, hdA⟩ hp
    have hy := run_yield (P := P) (args := (encs x).toArray) hlA (by rw [hpa]; simp [hlen])
    refine ⟨_, _, _, _, hy, ?_⟩
    have hN' : ∀ i, (N i ∨ E i) → n0 ≤ i ∧ i < A.heap.size := fun i h => ⟨hplus N (fun i h => (hN i h).1) i h, by rcases h with h | h; exact (hN i h).2; have := (hE i h).2; omega⟩
    have hr := hround (fun i => N i ∨ E i) pre x A (.inr hEl) hN' hA ⟨_, hlA⟩ hi hp
    have hsim : Sim n { tmps := ((st.params.zip (encs x).toArray).foldl (fun tmps (x : Nat × Value) => tmps.setIfInBounds x.1 x.2) st.tmps), defers := [] } (updN σ ps (encs x)) := by
      have := sim_params (n := n) ps (encs x) σ st.tmps hs hps
      rw [hpa]; simpa using this
    refine roundIn_of_wpIn trivial ?_
    refine wpIn_mono (hr hka _ hsim rfl) ?_
    rintro e a1 A1 ⟨σ1, hs1, hq⟩
    cases e with
    | normal =>
      obtain ⟨hD1, hE1, hbody⟩ := hq
      have hnl : ¬ Yc M w0 (fun i => N i ∨ E i) l := fun h => h.1 (.inr hEl)
      have hl1 : A1.heap[l]? = some (.loop st) := hE1.obj hlA hnl
      have hltA1 := (Array.getElem?_eq_some_iff.1 hl1).1
      refine ⟨_, run_beginRound hl1 hst, ?_⟩
      have hE2 : Ext (fun i => i = l) A1 (A1.putObj l (.loop { st with state := .busy })) := Ext.putObj _ _ _ _ rfl
      have hl2 : (A1.putObj l (.loop { st with state := .busy })).heap[l]? = some (.loop { st with state := .busy }) := World.putObj_heap_same hltA1
      have hsz : (A1.putObj l (.loop { st with state := .busy })).heap.size = A1.heap.size := by simp [World.putObj]
      refine wpIn_mono (hbody _ hE2 hsz ⟨_, hl2⟩ hkb a1 hs1 hD1) ?_
      -- what the end of a round leaves
      have mono1 : ∀ i, Yc M w0 (fun i => N i ∨ E i) i → Yc M w0 N i := fun i h => ⟨fun h' => h.1 (.inl h'), h.2⟩
      have hlY : Yc M w0 N l := ⟨fun h => by rcases (hN l h).1 with h | h; exact hE0l h; omega, .inr hl0⟩
      have fin : ∀ (jump : Option Code) (B0 : World), Ext (Yc M w0 (fun i => N i ∨ E i)) (A1.putObj l (.loop { st with state := .busy })) B0 →
          ∃ B, (Instr.endRound l jump).run P B0 = .ok (.bool jump.isNone) B ∧ Ext (Yc M w0 N) A B ∧ B.heap[l]? = some (.loop { st with state := if jump.isNone then .ready else .done, pending := jump }) ∧
            Ext (fun i => i = l) B0 B ∧ B.heap.size = B0.heap.size ∧ (∀ d, E d → ¬ E0 d → d ≠ l → B.heap[d]? = W1.heap[d]?) := by
        intro jump B0 hB0
        have hl3 : B0.heap[l]? = some (.loop { st with state := .busy }) := hB0.obj hl2 hnl
        have hltB := (Array.getElem?_eq_some_iff.1 hl3).1
        have hend := run_endRound (P := P) jump hl3
        refine ⟨_, hend, ?_, World.putObj_heap_same hltB, Ext.putObj _ _ _ _ rfl, by simp [World.putObj], ?_⟩
        · exact (((hE1.mono mono1).trans (ext_one hE2 hlY)).trans (hB0.mono mono1)).trans (ext_one (Ext.putObj _ _ _ _ rfl) hlY)
        · intro d hd hz hne
          have hd1 : ¬ Yc M w0 (fun i => N i ∨ E i) d := fun h => h.1 (.inr hd)
          have hdlt : d < A.heap.size := by have := (hE d hd).2; omega
          rw [World.putObj_heap_other hne, hB0.block d (by rw [hsz]; have := hE1.size; omega) hd1, World.putObj_heap_other hne, hE1.block d hdlt hd1]
          exact hdA d hd hz hne
      have hlN : (fun i => N i ∨ E i) l := .inr hEl
      rintro e2 a2 B0 ⟨σ2, hs2, hq2⟩
      cases e2 with
      | normal =>
        obtain ⟨hB0, hI⟩ := hq2
        obtain ⟨B, h1, h2, h3, h4, h5, h6⟩ := fin none B0 hB0
        have hst3 : ({ st with state := (if (none : Option Code).isNone then .ready else .done), pending := none } : Loop) = st := by
          cases st; simp only at hst hpe; subst hst; subst hpe; rfl
        rw [hst3] at h3
        exact ⟨_, B, h1, true, rfl, h2, fun _ => ⟨(sI _).same (hplus N fun i h => (hN i h).1) (by have := hE l hEl; have := hB0.size; rw [hsz] at this; have := hE1.size; omega) hI (ext_one h4 hlN) h5, h3, h6⟩, fun h => (by cases h)⟩
      | ret =>
        obtain ⟨hB0, hI⟩ := hq2
        obtain ⟨B, h1, h2, h3, h4, h5, h6⟩ := fin (some .ret) B0 hB0
        exact ⟨_, B, h1, false, rfl, h2, fun h => (by cases h), fun _ => ⟨_, (sX _).same (hplus N fun i h => (hN i h).1) (by have := hE l hEl; have := hB0.size; rw [hsz] at this; have := hE1.size; omega) hI (ext_one h4 hlN) h5, h3, h6⟩⟩
      | exit id =>
        obtain ⟨hB0, hI⟩ := hq2
        obtain ⟨B, h1, h2, h3, h4, h5, h6⟩ := fin (some (.exit id)) B0 hB0
        exact ⟨_, B, h1, false, rfl, h2, fun h => (by cases h), fun _ => ⟨_, (sX _).same (hplus N fun i h => (hN i h).1) (by have := hE l hEl; have := hB0.size; rw [hsz] at this; have := hE1.size; omega) hI (ext_one h4 hlN) h5, h3, h6⟩⟩
      | goto t =>
        obtain ⟨hB0, hI⟩ := hq2
        obtain ⟨B, h1, h2, h3, h4, h5, h6⟩ := fin (some (.goto t)) B0 hB0
        exact ⟨_, B, h1, false, rfl, h2, fun h => (by cases h), fun _ => ⟨_, (sX _).same (hplus N fun i h => (hN i h).1) (by have := hE l hEl; have := hB0.size; rw [hsz] at this; have := hE1.size; omega) hI (ext_one h4 hlN) h5, h3, h6⟩⟩
      | panic ch => exact hq2.elim
      | outgrown => exact hq2.elim
    | _ => exact hq.elim
  · have e : (fun i => E0 i ∨ E i) = E := by funext i; apply propext; exact ⟨fun h => h.elim (hEE i) id, .inr⟩
    show I [] (fun i => E0 i ∨ E i) W1
    rw [e]; exact h0
  · rintro e W' ⟨v, N, he, hsz, hN, hN0, h⟩
    have hN' : ∀ i, (N i ∨ E i) → n0 ≤ i ∧ i < W'.heap.size := fun i h => ⟨hplus N (fun i h => (hN i h).1) i h, by rcases h with h | h; exact (hN i h).2; have := (hE i h).2; omega⟩
    rcases h with ⟨hi, hl', hd'⟩ | ⟨c, hx, hl', hd'⟩
    · exact ⟨v, _, st, he, hsz, hN', fun i h => .inr h, hl', by rw [hst]; simp, hd', .inl ⟨hpe, hi⟩⟩
    · exact ⟨v, _, _, he, hsz, hN', fun i h => .inr h, hl', by simp, hd', .inr ⟨c, rfl, hx⟩⟩
/-- What a walk of a round owes: from the assignment of the loop's variables on. -/
def RoundE (n1 : Nat) {α : Type} (P : Program) (n : Nat) (M : Nat → Prop) (w0 w : World) (I : List α → (Nat → Prop) → World → Prop) (X : Code → (Nat → Prop) → World → Prop) (assign body : Code) (σ : Env) (ps : List Nat) (encs : α → List Value) (xs : List α) : Prop :=
  ∀ l N pre x A, N l → (∀ i, N i → n1 ≤ i ∧ i < A.heap.size) → w.heap.size ≤ A.heap.size → (∃ st, A.heap[l]? = some (.loop st)) → I pre N A → (∃ post, xs = pre ++ x :: post) →
    W (some l) P n assign (Then (fun σ1 D1 A1 => D1 = [] ∧ Ext (Yc M w0 N) A A1 ∧ ∀ A2, Ext (fun i => i = l) A1 A2 → A2.heap.size = A1.heap.size → (∃ st, A2.heap[l]? = some (.loop st)) → W (some l) P n body (RQ M w0 I X N (pre ++ [x]) A2) σ1 [] A2) NoQ) (updN σ ps (encs x)) [] A
theorem W_rangeFuncE (n1 : Nat) (E0 : Nat → Prop) {α : Type} {gg : Operand} {assign body : Code} {M : Nat → Prop} {w0 : World} {I : List α → (Nat → Prop) → World → Prop} {X : Code → (Nat → Prop) → World → Prop} {fv : Value} {encs : α → List Value} {xs : List α} {ps : List Nat}
    (hg : ev σ gg = fv) (hit : IterE P M w0 E0 fv (fun x => (encs x).toArray) xs) (hE0 : Ext M w0 w) (hn1 : n1 ≤ w.heap.size) (hEn : ∀ i, E0 i → n1 ≤ i ∧ i < w0.heap.size) (hlen : ∀ x, (encs x).length = ps.length)
    (sI : ∀ pre, Stab n1 (I pre)) (sX : ∀ c, Stab n1 (X c)) (h0 : I [] E0 w)
    (hround : RoundE n1 P n M w0 w I X assign body σ ps encs xs)
    (hdone : ∀ N r w', I xs N w' → (∀ i, N i → n1 ≤ i ∧ i < w'.heap.size) → w.heap.size ≤ w'.heap.size → N r → w'.heap[r]? = some (.deferred (some [])) → Q .normal σ (mark r :: D) w')
    (hstop : ∀ c N r w', X c N w' → (∀ i, N i → n1 ≤ i ∧ i < w'.heap.size) → w.heap.size ≤ w'.heap.size → N r → w'.heap[r]? = some (.deferred (some [])) → W none P n c Q σ (mark r :: D) w') :
    W none P n (.rangeFunc gg ps.toArray assign body) Q σ D w := by
  intro hk a hs hd
  simp only [okc, Bool.and_eq_true] at hk
  obtain ⟨⟨hka, hkb⟩, hkp⟩ := hk
  have hps : ∀ p ∈ ps, p < n := fun p hp => by simpa using (List.all_eq_true.1 hkp p (by simpa using hp))
  refine wpIn_rangeFunc ?_
  intro fn hfn
  show ∃ l mark w₁ d w₁' f args w₂, (Instr.enterLoop fn a.tmps ps.toArray assign body none).run P w = _ ∧ _
  obtain ⟨W1, hW1⟩ : ∃ W1, (w.alloc (.deferred (some []))).alloc (.loop { state := .ready, pending := none, fn, tmps := a.tmps, params := ps.toArray, assign, body, defers := w.heap.size }) = W1 := ⟨_, rfl⟩
  have hsz : W1.heap.size = w.heap.size + 2 := by rw [← hW1]; simp
  have hL1 : W1.heap[w.heap.size + 1]? = some (.loop { state := .ready, pending := none, fn, tmps := a.tmps, params := ps.toArray, assign, body, defers := w.heap.size }) := by
    rw [← hW1]; have := World.alloc_heap_new (w.alloc (.deferred (some []))) (.loop { state := .ready, pending := none, fn, tmps := a.tmps, params := ps.toArray, assign, body, defers := w.heap.size }); rwa [World.size_alloc] at this
  have hK1 : W1.heap[w.heap.size]? = some (.deferred (some [])) := by
    rw [← hW1]; exact (Below.heap_alloc _ _ _ (by simp)).trans (World.alloc_heap_new w _)
  have hE1 : Ext Non w W1 := by rw [← hW1]; exact (Ext.alloc _ _).trans (Ext.alloc _ _)
  have hgr : ∀ i, grow E0 w W1 i ↔ (E0 i ∨ (w.heap.size ≤ i ∧ i < W1.heap.size)) := fun i => Iff.rfl
  obtain ⟨f, cap, hfv, hf, hcall⟩ := rf_coreE (n := n) (l := w.heap.size + 1) (fn := fn) (W1 := W1) (n0 := n1) (E := grow E0 w W1) (X := XOk n X) (I := I) (σ := σ) hit (fun i h => .inl h) (by have := hE0.size; omega) (fun i h => (hEn i h).2) (hE0.trans hE1.of_non) hka hkb hps hlen hL1 rfl rfl rfl rfl rfl
    ⟨hs.size, hs.agree⟩ ((hgr _).2 (.inr (by omega))) (fun i h => by rcases h with h | h; exact ⟨(hEn i h).1, by have := (hEn i h).2; have := hE0.size; have := hE1.size; omega⟩; exact ⟨by omega, h.2⟩) sI (XOk.stab sX) (sI [] E0 w W1 (fun i h => (hEn i h).1) hn1 h0 hE1.of_non)
    (fun N pre x A hNl hN hA hst hi hp => (hround _ N pre x A hNl hN (by have := hE1.size; omega) hst hi hp).mono (by
      intro e σ1 D1 A1 hq
      cases e with
      | normal => exact ⟨hq.1, hq.2.1, fun A2 h1 h2 h3 => (hq.2.2 A2 h1 h2 h3).mono fun e σ D B h => RQ.ok e σ D B h⟩
      | _ => exact hq.elim))
  refine ⟨w.heap.size + 1, [mark w.heap.size], W1, { target := .fn (.func f) cap, args := #[.func (.yield (w.heap.size + 1)) #[] #[]] }, W1, f, #[.func (.yield (w.heap.size + 1)) #[] #[]] ++ cap, W1, ?_, ?_, fun _ _ => trivial, ?_, (fun h => by cases h), ?_⟩
  · rw [← hW1]; exact run_enterLoop_outer _ _ _ _ _
  · have : a.eval gg = .func (.func f) #[] cap := by rw [hs.eval, hg, hfv]
    simp only [resolve, this]; simp [Deferred.ofValue, Act.eval]
  · simp [invoke, run_enters hf]
  · refine callsIn_wide.2 (Calls.mono hcall ?_)
    rintro e W' ⟨v, N, st', he, hsz', hN, hEN, hl', hnb, hkeep, hend⟩
    subst he
    have hr : W'.heap[w.heap.size]? = some (.deferred (some [])) := by rw [hkeep _ ((hgr _).2 (.inr (by omega))) (fun h => by have := (hEn _ h).2; have := hE0.size; omega) (by omega)]; exact hK1
    have hE2 : Ext (fun i => i = w.heap.size + 1) W' (W'.putObj (w.heap.size + 1) (.loop { st' with state := .exhausted })) := Ext.putObj _ _ _ _ rfl
    have hs2 : (W'.putObj (w.heap.size + 1) (.loop { st' with state := .exhausted })).heap.size = W'.heap.size := by simp [World.putObj]
    have hNl : N (w.heap.size + 1) := hEN _ ((hgr _).2 (.inr (by omega)))
    have hNr : N w.heap.size := hEN _ ((hgr _).2 (.inr (by omega)))
    have hr2 : (W'.putObj (w.heap.size + 1) (.loop { st' with state := .exhausted })).heap[w.heap.size]? = some (.deferred (some [])) := (World.putObj_heap_other (by omega)).trans hr
    have hend1 := run_endLoop (P := P) hl' (by exact hnb)
    have hle : w.heap.size ≤ W'.heap.size := by omega
    have hle1 : n1 ≤ W'.heap.size := by omega
    obtain ⟨W2, hW2⟩ : ∃ W2, W'.putObj (w.heap.size + 1) (.loop { st' with state := .exhausted }) = W2 := ⟨_, rfl⟩
    rw [hW2] at hE2 hs2 hr2 hend1
    refine ⟨st'.pending, W2, hend1, ?_⟩
    rcases hend with ⟨hp, hi⟩ | ⟨c, hp, hkc, hx⟩
    · rw [hp]
      exact ⟨σ, ⟨hs.size, hs.agree⟩, by rw [hd] ; exact hdone N _ _ ((sI xs).same (fun i h => (hN i h).1) hle1 hi (ext_one hE2 hNl) hs2) (fun i h => by rw [hs2]; exact hN i h) (by rw [hs2]; exact hle) hNr hr2⟩
    · rw [hp]
      exact hstop c N _ _ ((sX c).same (fun i h => (hN i h).1) hle1 hx (ext_one hE2 hNl) hs2) (fun i h => by rw [hs2]; exact hN i h) (by rw [hs2]; exact hle) hNr hr2 hkc { a with defers := mark w.heap.size :: a.defers } ⟨hs.size, hs.agree⟩ (by rw [hd])

/-! ### the walk of such an iterator's own code -/
structure Te (M : Nat → Prop) (w0 W : World) (E0 : Nat → Prop) (J : (Nat → Prop) → World → Prop) (S : Nat → Prop) (A : World) : Prop where
  stab : StabE E0 W.heap.size J
  beg : Ext M w0 W
  ex : ∃ N, (∀ i, N i → (E0 i ∨ W.heap.size ≤ i) ∧ i < A.heap.size) ∧ (∀ i, E0 i → N i) ∧ W.heap.size ≤ A.heap.size ∧ J N A ∧ ∀ b, S b → N b
  w0 : Ext (fun i => M i ∨ E0 i) w0 A
variable {M F : Nat → Prop} {w0 W A B : World} {J : (Nat → Prop) → World → Prop} {S S' E0 : Nat → Prop}
theorem Te.ext (h : Te M w0 W E0 J S A) (hE : Ext F A B) (hF : ∀ i, F i → S i) : Te M w0 W E0 J S B := by
  obtain ⟨N, h1, h0, h2, h3, h4⟩ := h.ex
  have hE' : Ext N A B := hE.mono fun i hi => h4 i (hF i hi)
  refine ⟨h.stab, h.beg, ⟨grow N A B, ?_, fun i hi => .inl (h0 i hi), Nat.le_trans h2 hE.size, h.stab N A B (fun i hi => (h1 i hi).1) h2 h3 hE', fun b hb => .inl (h4 b hb)⟩, ?_⟩
  · rintro i (hi | ⟨ha, hb⟩)
    · exact ⟨(h1 i hi).1, Nat.lt_of_lt_of_le (h1 i hi).2 hE.size⟩
    · exact ⟨.inr (Nat.le_trans h2 ha), hb⟩
  · have hz := h.beg.size
    refine ⟨hE.os.trans h.w0.os, hE.tape.trans h.w0.tape, hE.output.trans h.w0.output, Nat.le_trans h.w0.size hE.size, fun i hi hm => (hE.block i (Nat.lt_of_lt_of_le hi h.w0.size) (fun hf => ?_)).trans (h.w0.block i hi hm)⟩
    rcases (h1 i (h4 i (hF i hf))).1 with h | h
    · exact hm (.inr h)
    · omega
theorem Te.tr (h : Te M w0 W E0 J S A) (hE : Ext Non A B) : Te M w0 W E0 J S B := h.ext hE fun _ h => h.elim
def Ye {α : Type} (P : Program) (M : Nat → Prop) (w0 W : World) (E0 : Nat → Prop) (l : Nat) (encs : α → Array Value) (xs : List α) (J : List α → (Nat → Prop) → World → Prop) (Jx : (Nat → Prop) → World → Prop) : Prop :=
  ∀ pre x post S A, xs = pre ++ x :: post → Te M w0 W E0 (J pre) S A → YieldOk P l (encs x) A fun b B => Ext (Ys M w0 S) A B ∧ (b = true → Te M w0 W E0 (J (pre ++ [x])) S B) ∧ (b = false → Te M w0 W E0 Jx S B)
theorem iterE_of {α : Type} {encs : α → Array Value} {xs : List α} {f : FuncId} {cap : Array Value} (hf : entersB P f = true) (hE : ∀ i, E0 i → i < w0.heap.size ∧ ¬ M i)
    (h : ∀ (l : Nat) (W : World) (J : List α → (Nat → Prop) → World → Prop) (Jx : (Nat → Prop) → World → Prop), Ext M w0 W → Te M w0 W E0 (J []) E0 W → Ye P M w0 W E0 l encs xs J Jx →
      Calls P f (#[.func (.yield l) #[] #[]] ++ cap) W fun e W' => ∃ v, e = .returned v ∧ (Te M w0 W E0 (J xs) E0 W' ∨ Te M w0 W E0 Jx E0 W')) : IterE P M w0 E0 (.func (.func f) #[] cap) encs xs := by
  refine ⟨f, cap, rfl, hf, fun l W J Jx hW hJ hJx hY h0 => ?_⟩
  have hlt : ∀ i, E0 i → i < W.heap.size := fun i hi => Nat.lt_of_lt_of_le (hE i hi).1 hW.size
  refine Calls.mono (h l W J Jx hW ⟨hJ [], hW, ⟨E0, fun i hi => ⟨.inl hi, hlt i hi⟩, fun _ h => h, Nat.le_refl _, h0, fun _ h => h⟩, hW.mono fun _ h => .inl h⟩ ?_) ?_
  · intro pre x post S A hx hT
    obtain ⟨N, h1, h00, h2, h3, h4⟩ := hT.ex
    obtain ⟨fn, tmps, assign, body, hy, hr⟩ := hY N pre x A h1 h00 h2 h3 ⟨post, hx⟩
    refine ⟨fn, tmps, assign, body, hy, hr.mono ?_⟩
    rintro e B ⟨b, he, hE1, ht, hf⟩
    have hE' : Ext (Ys M w0 S) A B := hE1.mono fun i hi => ⟨fun hb => hi.1 (h4 i hb), hi.2⟩
    have hw : Ext (fun i => M i ∨ E0 i) w0 B := ⟨hE1.os.trans hT.w0.os, hE1.tape.trans hT.w0.tape, hE1.output.trans hT.w0.output, Nat.le_trans hT.w0.size hE1.size, fun i hi hm => (hE1.block i (Nat.lt_of_lt_of_le hi hT.w0.size) (fun h => by rcases h.2 with h | h; exact hm (.inl h); omega)).trans (hT.w0.block i hi hm)⟩
    have hN : ∀ i, N i → (E0 i ∨ W.heap.size ≤ i) ∧ i < B.heap.size := fun i hi => ⟨(h1 i hi).1, Nat.lt_of_lt_of_le (h1 i hi).2 hE1.size⟩
    exact ⟨b, he, hE', fun hb => ⟨hJ _, hW, ⟨N, hN, h00, Nat.le_trans h2 hE1.size, ht hb, h4⟩, hw⟩, fun hb => ⟨hJx, hW, ⟨N, hN, h00, Nat.le_trans h2 hE1.size, hf hb, h4⟩, hw⟩⟩
  · rintro e W' ⟨v, he, hT | hT⟩
    · obtain ⟨N, h1, h00, h2, h3, _⟩ := hT.ex; exact ⟨v, N, he, h2, h1, h00, .inl h3⟩
    · obtain ⟨N, h1, h00, h2, h3, _⟩ := hT.ex; exact ⟨v, N, he, h2, h1, h00, .inr h3⟩
end Go.Proofs.YtaddeakfojpdoaaGreatDoorC

/- Tries: a node's kids, one by one. -/
set_option linter.unusedVariables false
set_option linter.unusedSimpArgs false
set_option maxRecDepth 100000
namespace Go.Proofs.YtaddeakfojpdoaaGreatDoorC
open Go.RowKit
def eP1 (p : Value) : List Value := [p]
/-- v points to the tree t, its kids' pointers are ps. -/
def TrP (M : Nat → Prop) (w : World) (t : Tr) (ps : List Value) (v : Value) : Prop := (v = .pointer none ∧ t = .bare ∧ ps = []) ∨
  ∃ (b : Nat) (v1 v2 v3 v4 : Value) (us : List (List Value)), v = .pointer (some ⟨b, 0, none⟩) ∧ ¬ M b ∧ IsBox w b [v1, v2, v3, v4] ∧ MapR M w eI1 0 v1 v2 t.subs us ∧ MapR M w eS1 1 v3 v4 t.keys (ps.map eP1)
theorem TrP.ext {M M' : Nat → Prop} {w w' : World} {t : Tr} {ps : List Value} {v : Value} (h : TrP M w t ps v) (hE : Ext M' w w') (hm : ∀ i, M' i → M i) : TrP M w' t ps v := by
  rcases h with h | ⟨b, v1, v2, v3, v4, us, e, h1, h2, h3, h4⟩
  · exact .inl h
  · exact .inr ⟨b, v1, v2, v3, v4, us, e, h1, h2.ext hE (fun h => h1 (hm _ h)), h3.ext hE hm, h4.ext hE hm⟩
theorem TrP.sub {M M' : Nat → Prop} {w : World} {t : Tr} {ps : List Value} {v : Value} (h : TrP M w t ps v) (hm : ∀ i, M' i → i < w.heap.size → M i) : TrP M' w t ps v := by
  rcases h with h | ⟨b, v1, v2, v3, v4, us, e, h1, h2, h3, h4⟩
  · exact .inl h
  · exact .inr ⟨b, v1, v2, v3, v4, us, e, fun h => h1 (hm _ h h2.lt), h2, h3.sub hm, h4.sub hm⟩
end Go.Proofs.YtaddeakfojpdoaaGreatDoorC

/- The library's functions on texts: a byte's place, cutting. -/
set_option linter.unusedVariables false
set_option linter.unusedSimpArgs false
set_option maxRecDepth 100000
namespace Go.Proofs.YtaddeakfojpdoaaGreatDoorC
open Go.RowKit
theorem ibs_name : (Tryz.f186.name == "runtime.NumGoroutine") = false := by kernel_rfl
theorem ibs_body : Tryz.f186.body.isNone = true := by kernel_rfl
theorem ibs_next : Extern.findNext Tryz.f186 = none := by kernel_rfl
theorem ibs_find : Extern.find Tryz.f186 = some Extern.BytealgIndexByte.indexByte := by kernel_rfl
theorem ibs : IB Tryz.prog 186 := ⟨_, Tryz.func186, ibs_name, ibs_body, ibs_next, ibs_find⟩
theorem fi_self (c : UInt8) : fi [c] c = 0 := by simp [fi, pre1]
theorem fi_ge (s : Str) (c : UInt8) : 0 ≤ fi s c ↔ c ∈ s := by
  unfold fi; split
  · rename_i h; exact ⟨fun _ => h, fun _ => by omega⟩
  · rename_i h; exact ⟨fun h' => absurd h' (by decide), fun h' => absurd h' h⟩
theorem fi_in {s : Str} {c : UInt8} (h : c ∈ s) : fi s c = ((pre1 c s).length : Nat) := by unfold fi; rw [if_pos h]
/-- What lies behind the first byte c. -/
def post1 (c : UInt8) (s : Str) : Str := s.drop ((pre1 c s).length + 1)
-- internal/stringslite.IndexByte
set_option maxHeartbeats 1600000 in
theorem indexByte_ok (w : World) (s : Str) (c : UInt8) : Fn Tryz.prog 163 #[Sv s, .int .u8 c.toNat] w fun u w' => u = .int .i64 (fi s c) := by
  have hX := Ext.refl Non w
  refine fn_of_W (args := [_, _]) Tryz.func163 rfl (by kernel_rfl) rfl ?_
  refine W_seq ?_
  refine W_region ?_
  refine wl_val (rn_assign (by conv => lhs; whnf)) ?_
  refine wl_nil ?_
  refine W_seq ?_
  refine W_region ?_
  refine wl_val (rn_move (by conv => lhs; whnf)) ?_
  refine wl_val (rn_move (by conv => lhs; whnf)) ?_
  refine wl_val (P := Tryz.prog) (op := .call ⟨.value (.func 186), #[.tmp 5, .tmp 6], #[9, 5]⟩) (rn_indexByte ibs rfl rfl) ?_
  refine wl_val (rn_assign (by conv => lhs; whnf)) ?_
  refine wl_nil ?_
  refine W_ret ?_
  exact ⟨_, resR1 (res1_tmp rfl), hX, rfl⟩
-- internal/stringslite.Index
set_option maxHeartbeats 800000 in
theorem index_ok (w : World) (s : Str) (c : UInt8) : Fn Tryz.prog 166 #[Sv s, Sv [c]] w fun u w' => u = .int .i64 (fi s c) := by
  have hX := Ext.refl Non w
  refine fn_of_W (args := [_, _]) Tryz.func166 rfl (by kernel_rfl) rfl ?_
  refine W_seq ?_
  refine W_region ?_
  refine wl_val (rn_assign (by conv => lhs; whnf)) ?_
  refine wl_nil ?_
  refine W_seq ?_
  refine W_region ?_
  refine wl_val (rn_move (by conv => lhs; whnf)) ?_
  refine wl_val (rn_slen us_9 rfl) ?_
  refine wl_val (rn_assign (by conv => lhs; whnf)) ?_
  refine wl_nil ?_
  refine W_seq ?_
  refine W_block ?_   -- block 0
  refine W_seq ?_
  refine W_region ?_
  refine wl_val (rn_move (by conv => lhs; whnf)) ?_
  refine wl_val (rn_eql rfl rfl) ?_
  refine wl_val (rn_move (by conv => lhs; whnf)) ?_
  refine wl_split (d := 19) rfl (fun hg19 => ?_) (fun hg19 => ?_)
  · exact absurd (of_decide_eq_true hg19) (by simp)
  · refine wl_yes rfl (congrArg Value.bool hg19) ?_
    refine wl_val (rn_move (by conv => lhs; whnf)) ?_
    refine wl_yes rfl (congrArg Value.bool hg19) ?_
    refine wl_val (rn_move (by conv => lhs; whnf)) ?_
    refine wl_yes rfl (congrArg Value.bool hg19) ?_
    refine wl_val (rn_seql rfl rfl) ?_
    refine wl_val (rn_pickF (congrArg Value.bool hg19) (by conv => lhs; whnf)) ?_
    refine wl_val (rn_assign (by conv => lhs; whnf)) ?_
    refine wl_nil ?_
    refine W_cond rfl (fun hc0 => ?_) (fun hc0 => ?_)
    · refine W_seq ?_
      refine W_region ?_
      refine wl_val (rn_assign (by conv => lhs; whnf)) ?_
      refine wl_nil ?_
      refine W_ret ?_
      exact ⟨_, resR1 (res1_tmp rfl), hX, by have e := of_decide_eq_true hc0; rw [← e, fi_self]; rfl⟩
    · refine W_seq ?_
      refine W_region ?_
      refine wl_val (rn_move (by conv => lhs; whnf)) ?_
      refine wl_val (rn_eql rfl rfl) ?_
      refine wl_val (rn_assign (by conv => lhs; whnf)) ?_
      refine wl_nil ?_
      refine W_cond rfl (fun hc1 => ?_) (fun hc1 => ?_)
      · refine W_seq ?_
        refine W_region ?_
        refine wl_val (rn_move (by conv => lhs; whnf)) ?_
        refine wl_val (rn_move (by conv => lhs; whnf)) ?_
        refine wl_val (rn_sindex us_9 rfl rfl (by omega) rfl) ?_
        refine wl_call e_163 rfl (indexByte_ok w s c) ?_; intro v30 w1 hE1 hR1
        replace hX := hX.tr hE1
        subst hR1
        refine wl_val (rn_assign (by conv => lhs; whnf)) ?_
        refine wl_nil ?_
        refine W_ret ?_
        exact ⟨_, resR1 (res1_tmp rfl), hX, rfl⟩
      · exact absurd (of_decide_eq_false hc1) (by simp)
-- internal/stringslite.Cut
set_option maxHeartbeats 800000 in
theorem scut_ok (w : World) (s : Str) (c : UInt8) (hn : s.length ≤ 1000000) : Fn Tryz.prog 167 #[Sv s, Sv [c]] w fun u w' => u = .tuple #[Sv (pre1 c s), Sv (post1 c s), .bool (decide (c ∈ s))] := by
  have hpl := pre1_le c s
  have hX := Ext.refl Non w
  refine fn_of_W (args := [_, _]) Tryz.func167 rfl (by kernel_rfl) rfl ?_
  refine W_seq ?_
  refine W_region ?_
  refine wl_val (rn_assign (by conv => lhs; whnf)) ?_
  refine wl_val (rn_assign (by conv => lhs; whnf)) ?_
  refine wl_val (rn_assign (by conv => lhs; whnf)) ?_
  refine wl_nil ?_
  refine W_seq ?_
  refine W_seq ?_
  refine W_region ?_
  refine wl_val (rn_move (by conv => lhs; whnf)) ?_
  refine wl_val (rn_move (by conv => lhs; whnf)) ?_
  refine wl_call e_166 rfl (index_ok w s c) ?_; intro v10 w1 hE1 hR1
  replace hX := hX.tr hE1
  subst hR1
  refine wl_val (rn_assign (by conv => lhs; whnf)) ?_
  refine wl_nil ?_
  refine W_seq ?_
  refine W_region ?_
  refine wl_val (rn_move (by conv => lhs; whnf)) ?_
  refine wl_val (rn_geq rfl rfl) ?_
  refine wl_nil ?_
  refine W_cond rfl (fun hc0 => ?_) (fun hc0 => ?_)
  · have hcm : c ∈ s := (fi_ge s c).1 (of_decide_eq_true hc0)
    have hfi := fi_in hcm
    have hlt : (pre1 c s).length < s.length := (List.getElem?_eq_some_iff.1 (pre1_mem hcm)).1
    refine W_seq ?_
    refine W_drawE mixed ?_; intro w2 hE2
    replace hX := hX.tr hE2
    have hS := Ext.refl Non w2
    refine wd_take 0 _ _ rfl (by kernel_rfl) hS (yd_do fun A hA => rn_move (by conv => lhs; whnf)) ?_
    refine wd_take 1 _ _ rfl (by kernel_rfl) hS (yd_do fun A hA => Rn.cast (rn_move rfl) (v' := .int .i64 ((pre1 c s).length : Nat)) (congrArg (Value.int .i64) hfi)) ?_
    refine wd_take 2 _ _ rfl (by kernel_rfl) hS (yd_do fun A hA => rn_sslice us_9 (l := 0) (h := (pre1 c s).length) rfl rfl ⟨_, rfl⟩ (by omega) (by first | omega | (simp only [List.length_cons, List.length_nil, List.length_append]; omega))) ?_
    refine wd_take 3 _ _ rfl (by kernel_rfl) hS (yd_do fun A hA => rn_move (by conv => lhs; whnf)) ?_
    refine wd_take 4 _ _ rfl (by kernel_rfl) hS (yd_do fun A hA => Rn.cast (rn_move rfl) (v' := .int .i64 ((pre1 c s).length : Nat)) (congrArg (Value.int .i64) hfi)) ?_
    refine wd_take 5 _ _ rfl (by kernel_rfl) hS (yd_do fun A hA => rn_move (by conv => lhs; whnf)) ?_
    refine wd_take 6 _ _ rfl (by kernel_rfl) hS (yd_do fun A hA => rn_slen us_9 rfl) ?_
    refine wd_take 7 _ _ rfl (by kernel_rfl) hS (yd_do fun A hA => rn_add rfl rfl (by simp only [List.length_singleton]; omega)) ?_
    refine wd_take 8 _ _ rfl (by kernel_rfl) hS (yd_do fun A hA => rn_sslice us_9 (l := ((pre1 c s).length + 1)) (h := s.length) rfl ⟨_, rfl⟩ rfl (by omega) (by first | omega | (simp only [List.length_cons, List.length_nil, List.length_append]; omega))) ?_
    refine wd_take 9 _ _ rfl (by kernel_rfl) hS (yd_do fun A hA => rn_assign (by conv => lhs; whnf)) ?_
    refine wd_take 10 _ _ rfl (by kernel_rfl) hS (yd_do fun A hA => rn_assign (by conv => lhs; whnf)) ?_
    refine wd_take 11 _ _ rfl (by kernel_rfl) hS (yd_do fun A hA => rn_assign (by conv => lhs; whnf)) ?_
    refine wd_done (by kernel_rfl) ?_ _
    replace hX := hX.tr hS
    refine W_ret ?_
    exact ⟨_, resR3 (res1_tmp rfl) (res1_tmp rfl) (res1_tmp rfl), hX, by rw [decide_eq_true hcm]; show Value.tuple #[Sv ((s.drop 0).take ((pre1 c s).length - 0)), Sv ((s.drop ((pre1 c s).length + 1)).take (s.length - ((pre1 c s).length + 1))), .bool true] = _; rw [List.drop_zero, Nat.sub_zero, pre1_take, List.take_of_length_le (by rw [List.length_drop]; exact Nat.le_refl _)]; rfl⟩
  · have hcm : ¬ c ∈ s := fun h => of_decide_eq_false hc0 ((fi_ge s c).2 h)
    refine W_skip ?_
    refine W_seq ?_
    refine W_region ?_
    refine wl_val (rn_move (by conv => lhs; whnf)) ?_
    refine wl_val (rn_assign (by conv => lhs; whnf)) ?_
    refine wl_val (rn_assign (by conv => lhs; whnf)) ?_
    refine wl_val (rn_assign (by conv => lhs; whnf)) ?_
    refine wl_nil ?_
    refine W_ret ?_
    exact ⟨_, resR3 (res1_tmp rfl) (res1_tmp rfl) (res1_tmp rfl), hX, by rw [decide_eq_false hcm, pre1_not hcm]; unfold post1; rw [pre1_not hcm, List.drop_of_length_le (by omega)]; rfl⟩
-- strings.Cut
theorem cut_ok (w : World) (s : Str) (c : UInt8) (hn : s.length ≤ 1000000) : Fn Tryz.prog 141 #[Sv s, Sv [c]] w fun u w' => u = .tuple #[Sv (pre1 c s), Sv (post1 c s), .bool (decide (c ∈ s))] := by
  have hX := Ext.refl Non w
  refine fn_of_W (args := [_, _]) Tryz.func141 rfl (by kernel_rfl) rfl ?_
  refine W_seq ?_
  refine W_region ?_
  refine wl_val (rn_assign (by conv => lhs; whnf)) ?_
  refine wl_val (rn_assign (by conv => lhs; whnf)) ?_
  refine wl_val (rn_assign (by conv => lhs; whnf)) ?_
  refine wl_nil ?_
  refine W_seq ?_
  refine W_region ?_
  refine wl_val (rn_move (by conv => lhs; whnf)) ?_
  refine wl_val (rn_move (by conv => lhs; whnf)) ?_
  refine wl_call e_167 rfl (scut_ok w s c hn) ?_; intro v9 w1 hE1 hR1
  replace hX := hX.tr hE1
  subst hR1
  refine wl_val (rn_extract rfl rfl) ?_
  refine wl_val (rn_extract rfl rfl) ?_
  refine wl_val (rn_extract rfl rfl) ?_
  refine wl_val (rn_assign (by conv => lhs; whnf)) ?_
  refine wl_val (rn_assign (by conv => lhs; whnf)) ?_
  refine wl_val (rn_assign (by conv => lhs; whnf)) ?_
  refine wl_nil ?_
  refine W_ret ?_
  exact ⟨_, resR3 (res1_tmp rfl) (res1_tmp rfl) (res1_tmp rfl), hX, rfl⟩
-- bellman/topic.Wild
theorem twild_ok (w : World) (s : Str) (hn : s.length ≤ 1000000) : Fn Tryz.prog 101 #[Sv s] w fun u w' => u = .bool (decide (pre1 47 s = [43]) || decide (pre1 47 s = [35])) := by
  have hX := Ext.refl Non w
  refine fn_of_W (args := [_]) Tryz.func101 rfl (by kernel_rfl) rfl ?_
  refine W_seq ?_
  refine W_region ?_
  refine wl_val (rn_assign (by conv => lhs; whnf)) ?_
  refine wl_nil ?_
  refine W_seq ?_
  refine W_region ?_
  refine wl_val (rn_move (by conv => lhs; whnf)) ?_
  refine wl_call e_141 rfl (cut_ok w s 47 hn) ?_; intro v8 w1 hE1 hR1
  replace hX := hX.tr hE1
  subst hR1
  refine wl_val (rn_move (by conv => lhs; whnf)) ?_
  refine wl_val (rn_extract rfl rfl) ?_
  refine wl_val (rn_extract rfl rfl) ?_
  refine wl_val (rn_extract rfl rfl) ?_
  refine wl_val (rn_assign (by conv => lhs; whnf)) ?_
  refine wl_val (rn_assign (by conv => lhs; whnf)) ?_
  refine wl_val (rn_assign (by conv => lhs; whnf)) ?_
  refine wl_nil ?_
  refine W_seq ?_
  refine W_region ?_
  refine wl_val (rn_move (by conv => lhs; whnf)) ?_
  refine wl_val (rn_seql rfl rfl) ?_
  refine wl_val (rn_move (by conv => lhs; whnf)) ?_
  refine wl_split (d := 14) rfl (fun hg14 => ?_) (fun hg14 => ?_)
  · refine wl_no rfl (congrArg Value.bool hg14) ?_
    refine wl_no rfl (congrArg Value.bool hg14) ?_
    refine wl_val (rn_pickT (congrArg Value.bool hg14) (by conv => lhs; whnf)) ?_
    refine wl_val (rn_assign (by conv => lhs; whnf)) ?_
    refine wl_nil ?_
    refine W_ret ?_
    exact ⟨_, resR1 (res1_tmp rfl), hX, by rw [hg14]; rfl⟩
  · refine wl_yes rfl (congrArg Value.bool hg14) ?_
    refine wl_val (rn_move (by conv => lhs; whnf)) ?_
    refine wl_yes rfl (congrArg Value.bool hg14) ?_
    refine wl_val (rn_seql rfl rfl) ?_
    refine wl_val (rn_pickF (congrArg Value.bool hg14) (by conv => lhs; whnf)) ?_
    refine wl_val (rn_assign (by conv => lhs; whnf)) ?_
    refine wl_nil ?_
    refine W_ret ?_
    exact ⟨_, resR1 (res1_tmp rfl), hX, by rw [hg14]; rfl⟩
-- strings.Index
theorem sindex_ok (w : World) (s : Str) (c : UInt8) : Fn Tryz.prog 140 #[Sv s, Sv [c]] w fun u w' => u = .int .i64 (fi s c) := by
  have hX := Ext.refl Non w
  refine fn_of_W (args := [_, _]) Tryz.func140 rfl (by kernel_rfl) rfl ?_
  refine W_seq ?_
  refine W_region ?_
  refine wl_val (rn_assign (by conv => lhs; whnf)) ?_
  refine wl_nil ?_
  refine W_seq ?_
  refine W_region ?_
  refine wl_val (rn_move (by conv => lhs; whnf)) ?_
  refine wl_val (rn_move (by conv => lhs; whnf)) ?_
  refine wl_call e_166 rfl (index_ok w s c) ?_; intro v7 w1 hE1 hR1
  replace hX := hX.tr hE1
  subst hR1
  refine wl_val (rn_assign (by conv => lhs; whnf)) ?_
  refine wl_nil ?_
  refine W_ret ?_
  exact ⟨_, resR1 (res1_tmp rfl), hX, rfl⟩
-- strings.IndexByte
theorem sindexByte_ok (w : World) (s : Str) (c : UInt8) : Fn Tryz.prog 138 #[Sv s, .int .u8 c.toNat] w fun u w' => u = .int .i64 (fi s c) := by
  have hX := Ext.refl Non w
  refine fn_of_W (args := [_, _]) Tryz.func138 rfl (by kernel_rfl) rfl ?_
  refine W_seq ?_
  refine W_region ?_
  refine wl_val (rn_assign (by conv => lhs; whnf)) ?_
  refine wl_nil ?_
  refine W_seq ?_
  refine W_region ?_
  refine wl_val (rn_move (by conv => lhs; whnf)) ?_
  refine wl_val (rn_move (by conv => lhs; whnf)) ?_
  refine wl_call e_163 rfl (indexByte_ok w s c) ?_; intro v7 w1 hE1 hR1
  replace hX := hX.tr hE1
  subst hR1
  refine wl_val (rn_assign (by conv => lhs; whnf)) ?_
  refine wl_nil ?_
  refine W_ret ?_
  exact ⟨_, resR1 (res1_tmp rfl), hX, rfl⟩
-- strings.Contains
theorem scontains_ok (w : World) (s : Str) (c : UInt8) : Fn Tryz.prog 100 #[Sv s, Sv [c]] w fun u w' => u = .bool (decide (c ∈ s)) := by
  have hX := Ext.refl Non w
  refine fn_of_W (args := [_, _]) Tryz.func100 rfl (by kernel_rfl) rfl ?_
  refine W_seq ?_
  refine W_region ?_
  refine wl_val (rn_assign (by conv => lhs; whnf)) ?_
  refine wl_nil ?_
  refine W_seq ?_
  refine W_region ?_
  refine wl_val (rn_move (by conv => lhs; whnf)) ?_
  refine wl_val (rn_move (by conv => lhs; whnf)) ?_
  refine wl_call e_140 rfl (sindex_ok w s c) ?_; intro v7 w1 hE1 hR1
  replace hX := hX.tr hE1
  subst hR1
  refine wl_val (rn_geq rfl rfl) ?_
  refine wl_val (rn_assign (by conv => lhs; whnf)) ?_
  refine wl_nil ?_
  refine W_ret ?_
  exact ⟨_, resR1 (res1_tmp rfl), hX, by rw [show decide (c ∈ s) = decide (fi s c ≥ 0) from decide_eq_decide.2 (fi_ge s c).symm]; rfl⟩
end Go.Proofs.YtaddeakfojpdoaaGreatDoorC

/- Topics, filters, and which matches which: plain lists. -/
set_option linter.unusedVariables false
set_option linter.unusedSimpArgs false
namespace Go.Proofs.YtaddeakfojpdoaaGreatDoorC
open Go.RowKit

def sizedB (s : Str) : Bool := decide (s ≠ []) && decide (s.length ≤ 32) && decide (¬ (0 : UInt8) ∈ s)
def topicB (s : Str) : Bool := sizedB s && decide (¬ (43 : UInt8) ∈ s) && decide (¬ (35 : UInt8) ∈ s)
def levOk (last : Bool) (l : Str) : Bool := if (35 : UInt8) ∈ l then decide (l = [35]) && last else decide (¬ (43 : UInt8) ∈ l) || decide (l = [43])
/-- f holds of each text by its place. -/
def allIx (f : Nat → Str → Bool) (L : List Str) : Bool := (List.range L.length).all fun i => f i (L.getD i [])
theorem allIx_iff {f : Nat → Str → Bool} {L : List Str} : allIx f L = true ↔ ∀ i l, L[i]? = some l → f i l = true := by
  unfold allIx
  rw [List.all_eq_true]
  constructor
  · intro h i l hl
    have := h i (List.mem_range.2 (List.getElem?_eq_some_iff.1 hl).1)
    rw [List.getD_eq_getElem?_getD, hl] at this; exact this
  · intro h i hi
    have hi := List.mem_range.1 hi
    have := h i L[i] (List.getElem?_eq_getElem hi)
    rw [List.getD_eq_getElem?_getD, List.getElem?_eq_getElem hi]; exact this
theorem allIx_no {f : Nat → Str → Bool} {L : List Str} {i : Nat} {l : Str} (hl : L[i]? = some l) (h : f i l = false) : allIx f L = false := by
  cases e : allIx f L with
  | false => rfl
  | true => rw [allIx_iff.1 e i l hl] at h; cases h
def levsOk (L : List Str) : Bool := allIx (fun i l => levOk (decide (i + 1 = L.length)) l) L
def filterB (s : Str) : Bool := sizedB s && levsOk (spl 47 s)
def wildB (s : Str) : Bool := decide (pre1 47 s = [43]) || decide (pre1 47 s = [35])
def headIs (c : UInt8) (s : Str) : Bool := decide (s.head? = some c)
def likeB (some : Str → Bool) : List Str → List Str → Bool
  | [], t => t.isEmpty
  | l :: f, t => if l = [35] then true else match t with
    | [] => false
    | x :: t => (decide (l = x) || (decide (l = [43]) && some x)) && likeB some f t
def matchB (f t : Str) : Bool := filterB f && topicB t && !(wildB f && headIs 36 t) && likeB (fun _ => true) (spl 47 f) (spl 47 t)
/-- At place j a filter's level takes a text's. -/
def okAt (some : Str → Bool) (L T : List Str) (j : Nat) : Prop := ∃ l t, L[j]? = Option.some l ∧ T[j]? = Option.some t ∧ (l = t ∨ (l = [43] ∧ some t = true))
theorem okAt_succ {some : Str → Bool} {l t : Str} {L T : List Str} {j : Nat} : okAt some (l :: L) (t :: T) (j + 1) ↔ okAt some L T j := by
  unfold okAt; simp
theorem likeB_iff (some : Str → Bool) : ∀ (L T : List Str), likeB some L T = true ↔
    (∃ k, L[k]? = Option.some [35] ∧ k ≤ T.length ∧ ∀ j, j < k → okAt some L T j) ∨ (L.length = T.length ∧ ∀ j, j < L.length → okAt some L T j)
  | [], T => by
    simp only [likeB, List.isEmpty_iff]
    constructor
    · rintro rfl; exact .inr ⟨rfl, fun j h => absurd h (Nat.not_lt_zero _)⟩
    · rintro (⟨k, h, _⟩ | ⟨h, _⟩)
      · simp at h
      · exact List.length_eq_zero_iff.1 h.symm
  | l :: L, T => by
    unfold likeB
    by_cases hl : l = [35]
    · rw [if_pos hl]
      exact ⟨fun _ => .inl ⟨0, by simp [hl], Nat.zero_le _, fun j h => absurd h (Nat.not_lt_zero _)⟩, fun _ => rfl⟩
    · rw [if_neg hl]
      cases T with
      | nil =>
        constructor
        · intro h; cases h
        · rintro (⟨k, h, hk, _⟩ | ⟨h, _⟩)
          · obtain rfl : k = 0 := by simpa using hk
            simp at h; exact absurd h hl
          · simp at h
      | cons t T =>
        have ih := likeB_iff some L T
        simp only [Bool.and_eq_true, Bool.or_eq_true, decide_eq_true_eq, ih]
        have h0 : okAt some (l :: L) (t :: T) 0 ↔ (l = t ∨ (l = [43] ∧ some t = true)) := by unfold okAt; simp
        constructor
        · rintro ⟨h1, ⟨k, h2, h3, h4⟩ | ⟨h2, h3⟩⟩
          · refine .inl ⟨k + 1, by simpa using h2, by simpa using h3, fun j hj => ?_⟩
            cases j with
            | zero => exact h0.2 h1
            | succ j => exact okAt_succ.2 (h4 j (by omega))
          · refine .inr ⟨by simp [h2], fun j hj => ?_⟩
            cases j with
            | zero => exact h0.2 h1
            | succ j => exact okAt_succ.2 (h3 j (by simpa using hj))
        · rintro (⟨k, h2, h3, h4⟩ | ⟨h2, h3⟩)
          · cases k with
            | zero => simp at h2; exact absurd h2 hl
            | succ k => exact ⟨h0.1 (h4 0 (by omega)), .inl ⟨k, by simpa using h2, by simpa using h3, fun j hj => okAt_succ.1 (h4 (j + 1) (by omega))⟩⟩
          · exact ⟨h0.1 (h3 0 (by simp)), .inr ⟨by simpa using h2, fun j hj => okAt_succ.1 (h3 (j + 1) (by simp; omega))⟩⟩
/-- No, where a level takes nothing, or the text is over; and # did not stand ahead. -/
theorem likeB_no {some : Str → Bool} {L T : List Str} {i : Nat} (h : ∀ j : Nat, j ≤ i → L[j]? ≠ Option.some [35]) (hi : i < L.length) (hn : ¬ okAt some L T i) : likeB some L T = false := by
  cases e : likeB some L T with
  | false => rfl
  | true =>
    rcases (likeB_iff some L T).1 e with ⟨k, h1, h2, h3⟩ | ⟨h1, h2⟩
    · by_cases hk : k ≤ i
      · exact absurd h1 (h k hk)
      · exact absurd (h3 i (by omega)) hn
    · exact absurd (h2 i hi) hn
theorem likeB_end {some : Str → Bool} {L T : List Str} (h : ∀ j : Nat, L[j]? ≠ Option.some [35]) (hok : ∀ j, j < L.length → okAt some L T j) : likeB some L T = decide (L.length = T.length) := by
  by_cases hl : L.length = T.length
  · rw [decide_eq_true hl]; exact (likeB_iff some L T).2 (.inr ⟨hl, hok⟩)
  · rw [decide_eq_false hl]
    cases e : likeB some L T with
    | false => rfl
    | true =>
      rcases (likeB_iff some L T).1 e with ⟨k, h1, _⟩ | ⟨h1, _⟩
      · exact absurd h1 (h k)
      · exact absurd h1 hl
theorem topic_no {s : Str} (h : topicB s = true) : sizedB s = true ∧ (∀ l, l ∈ spl 47 s → ¬ (43 : UInt8) ∈ l ∧ ¬ (35 : UInt8) ∈ l) := by
  unfold topicB at h
  simp only [Bool.and_eq_true, decide_eq_true_eq] at h
  exact ⟨h.1.1, fun l hl => ⟨fun hm => h.1.2 (spl_mem hl _ hm).1, fun hm => h.2 (spl_mem hl _ hm).1⟩⟩
theorem levOk_a {b : Bool} {l : Str} (q : (43 : UInt8) ∈ l) (h : ¬ l = [43]) : levOk b l = false := by
  unfold levOk; split
  · have : ¬ l = [35] := fun e => by subst e; simp at q
    simp [this]
  · simp [q, h]
theorem levOk_b {b : Bool} {l : Str} (q : (35 : UInt8) ∈ l) (h : ¬ l = [35]) : levOk b l = false := by
  unfold levOk; rw [if_pos q]; simp [h]
theorem levOk_c {b : Bool} {l : Str} (h : l = [35]) : levOk b l = b := by subst h; unfold levOk; simp
theorem levOk_d {b : Bool} {l : Str} (q : ¬ (35 : UInt8) ∈ l) (h : (43 : UInt8) ∈ l → l = [43]) : levOk b l = true := by
  unfold levOk; rw [if_neg q]
  by_cases h4 : (43 : UInt8) ∈ l
  · simp [h h4]
  · simp [h4]
theorem filter_no {s : Str} {i : Nat} {l : Str} (hi : (spl 47 s)[i]? = some l) (h : levOk (decide (i + 1 = (spl 47 s).length)) l = false) : filterB s = false := by
  unfold filterB levsOk; rw [allIx_no hi h]; simp
theorem filter_yes {s : Str} (h0 : sizedB s = true) (h : ∀ i l, (spl 47 s)[i]? = some l → levOk (decide (i + 1 = (spl 47 s).length)) l = true) : filterB s = true := by
  unfold filterB levsOk; rw [h0, allIx_iff.2 h]; rfl
theorem filter_small {s : Str} (h : sizedB s = false) : filterB s = false := by unfold filterB; rw [h]; rfl
theorem topic_ne {s : Str} (h : topicB s = true) : ∃ c, s[0]? = some c := by
  unfold topicB sizedB at h
  simp only [Bool.and_eq_true, decide_eq_true_eq] at h
  cases s with
  | nil => exact absurd rfl h.1.1.1.1
  | cons c s => exact ⟨c, rfl⟩
theorem headIs_at {s : Str} {c d : UInt8} (h : s[0]? = some c) : headIs d s = decide (c = d) := by
  cases s with
  | nil => cases h
  | cons x s => simp at h; subst h; simp [headIs]
end Go.Proofs.YtaddeakfojpdoaaGreatDoorC

/- The document's functions on texts, topics and filters. -/
set_option linter.unusedVariables false
set_option linter.unusedSimpArgs false
set_option maxRecDepth 100000
namespace Go.Proofs.YtaddeakfojpdoaaGreatDoorC
open Go.RowKit
theorem u8_eq {c d : UInt8} (h : (c.toNat : Int) = (d.toNat : Int)) : c = d := UInt8.toNat_inj.1 (by omega)
end Go.Proofs.YtaddeakfojpdoaaGreatDoorC

/- The document's matching of filters and topics. -/
set_option linter.unusedVariables false
set_option linter.unusedSimpArgs false
set_option maxRecDepth 100000
namespace Go.Proofs.YtaddeakfojpdoaaGreatDoorC
open Go.RowKit
abbrev anyS : Str → Bool := fun _ => true
theorem match_no1 {f t : Str} (h : filterB f = false) : matchB f t = false := by unfold matchB; rw [h]; rfl
theorem match_no2 {f t : Str} (h : topicB t = false) : matchB f t = false := by unfold matchB; rw [h]; simp
theorem match_no3 {f t : Str} (h : (wildB f && headIs 36 t) = true) : matchB f t = false := by unfold matchB; rw [h]; simp
theorem match_eq {f t : Str} (h1 : filterB f = true) (h2 : topicB t = true) (h3 : (wildB f && headIs 36 t) = false) : matchB f t = likeB anyS (spl 47 f) (spl 47 t) := by unfold matchB; rw [h1, h2, h3]; rfl
end Go.Proofs.YtaddeakfojpdoaaGreatDoorC

/- Going through a text's levels. -/
set_option linter.unusedVariables false
set_option linter.unusedSimpArgs false
set_option maxRecDepth 100000
namespace Go.Proofs.YtaddeakfojpdoaaGreatDoorC
open Go.RowKit
abbrev Tru : Nat → Prop := fun _ => True
/-- Texts with their places. -/
def numb (L : List Str) : List (Nat × Str) := L.zipIdx.map fun p => (p.2, p.1)
theorem numb_snoc (L : List Str) (x : Str) : numb (L ++ [x]) = numb L ++ [(L.length, x)] := by simp [numb, List.zipIdx_append]
theorem numb_len (L : List Str) : (numb L).length = L.length := by simp [numb]
theorem numb_pre {L : List Str} {pre post : List Str} {x : Str} (h : L = pre ++ x :: post) : ∃ q, numb L = numb pre ++ (pre.length, x) :: q := by
  subst h
  refine ⟨(post.zipIdx (pre.length + 1)).map fun p => (p.2, p.1), ?_⟩
  simp [numb, List.zipIdx_append, List.zipIdx_cons]
theorem numb_snd (L : List Str) : (numb L).map (fun p => p.2) = L := by
  unfold numb; rw [List.map_map]; have : ((fun p : Nat × Str => p.2) ∘ fun p : Str × Nat => (p.2, p.1)) = Prod.fst := rfl
  rw [this]; simp
theorem numb_get (L : List Str) (j : Nat) : (numb L)[j]? = L[j]?.map fun x => (j, x) := by
  unfold numb; rw [List.getElem?_map, List.getElem?_zipIdx]; cases L[j]? <;> simp
theorem numb_take (L : List Str) (n : Nat) : (numb L).take n = numb (L.take n) := by
  apply List.ext_getElem?; intro j
  rw [List.getElem?_take, numb_get, numb_get, List.getElem?_take]; split <;> simp
theorem numb_at {L : List Str} {pre post : List (Nat × Str)} {i : Nat} {x : Str} (h : numb L = pre ++ (i, x) :: post) : i = pre.length ∧ L[i]? = some x ∧ pre = numb (L.take i) := by
  have h0 : (numb L)[pre.length]? = some (i, x) := by rw [h]; simp
  rw [numb_get] at h0
  cases hx : L[pre.length]? with
  | none => rw [hx] at h0; cases h0
  | some y =>
    rw [hx] at h0
    simp at h0
    obtain ⟨rfl, rfl⟩ := h0
    refine ⟨rfl, hx, ?_⟩
    have h1 : (numb L).take pre.length = pre := by rw [h]; simp
    rw [← numb_take]; exact h1.symm
-- strings.splitSeq$1
set_option maxHeartbeats 800000 in
theorem splitSeq_iter (s : Str) (M : Nat → Prop) (w0 : World) (b1 b2 b3 : Nat) (hC1 : IsBox w0 b1 [Sv [47]]) (hC2 : IsBox w0 b2 [Sv s]) (hC3 : IsBox w0 b3 [.int .i64 0]) (hm1 : ¬ M b1) (hm2 : ¬ M b2) (hm3 : ¬ M b3) (hne1 : b1 ≠ b2) (hne3 : b3 ≠ b2) (hsn : s.length ≤ 1000000) :
    IterE Tryz.prog M w0 (fun i => i = b2) (.func (.func 149) #[] #[.pointer (some ⟨b1, 0, none⟩), .pointer (some ⟨b2, 0, none⟩), .pointer (some ⟨b3, 0, none⟩)]) (fun x : Str => #[Sv x]) (spl 47 s) := by
  refine iterE_of e_149 (fun i hi => by subst hi; exact ⟨hC2.lt, hm2⟩) fun l W J Jx hW hT hY => ?_
  have hlt1 := hC1.lt; have hlt2 := hC2.lt; have hlt3 := hC3.lt
  have ea : (#[Value.func (.yield l) #[] #[]] ++ #[.pointer (some ⟨b1, 0, none⟩), .pointer (some ⟨b2, 0, none⟩), .pointer (some ⟨b3, 0, none⟩)] : Array Value) = [Value.func (.yield l) #[] #[], .pointer (some ⟨b1, 0, none⟩), .pointer (some ⟨b2, 0, none⟩), .pointer (some ⟨b3, 0, none⟩)].toArray := by simp
  rw [ea]
  have hX := Ext.refl Tru W
  have hB1 := hC1.ext hW hm1; have hB2 := hC2.ext hW hm2; have hB3 := hC3.ext hW hm3
  have hl1 : Mine Tru W b1 := .inl trivial; have hl2 : Mine Tru W b2 := .inl trivial; have hl3 : Mine Tru W b3 := .inl trivial
  refine calls_of_W (R := fun v W' => Te M w0 W (fun i => i = b2) (J (spl 47 s)) (fun i => i = b2) W' ∨ Te M w0 W (fun i => i = b2) Jx (fun i => i = b2) W') Tryz.func149 rfl (by kernel_rfl) rfl ?_
  refine W_seq ?_
  refine W_seq ?_
  refine W_region ?_
  refine wl_val (rn_load1 p_9 rfl hB1 rfl) ?_
  refine wl_val (rn_slen us_9 rfl) ?_
  refine wl_val (rn_eql rfl rfl) ?_
  refine wl_nil ?_
  refine W_cond rfl (fun hc0 => ?_) (fun hc0 => ?_)
  · exact absurd (of_decide_eq_true hc0) (by simp)
  · refine W_skip ?_
    refine W_seq ?_
    refine W_block ?_   -- block 2
    refine W_loopS (S := List Str × Str) [0, 1, 2, 3] (fun ⟨pre, r⟩ => [.func (.yield l) #[] #[], .pointer (some ⟨b1, 0, none⟩), .pointer (some ⟨b2, 0, none⟩), .pointer (some ⟨b3, 0, none⟩)]) (fun ⟨pre, r⟩ A => (Ext Tru W A) ∧ (IsBox A b1 [Sv [47]]) ∧ (IsBox A b2 [Sv r]) ∧ (IsBox A b3 [.int .i64 0]) ∧ (Mine Tru W b1) ∧ (Mine Tru W b2) ∧ (Mine Tru W b3) ∧ (spl 47 s = pre ++ spl 47 r ∧ r.length ≤ s.length ∧ Te M w0 W (fun i => i = b2) (J pre) (fun i => i = b2) A)) (fun ⟨pre, r⟩ => r.length) ([], s) ⟨rfl, rfl, rfl, rfl, trivial⟩ ⟨hX, hB1, hB2, hB3, hl1, hl2, hl3, ⟨rfl, Nat.le_refl _, hT⟩⟩ ?_
    rintro τ0 ⟨pre, r⟩ A0 ⟨hX, hB1, hB2, hB3, hl1, hl2, hl3, hI0⟩
    obtain ⟨hsp, hrl, hT⟩ := hI0
    refine W_block ?_   -- block 3
    refine W_seq ?_
    refine W_region ?_
    refine wl_val (rn_load1 p_9 rfl hB2 rfl) ?_
    refine wl_val (rn_load1 p_9 rfl hB1 rfl) ?_
    refine wl_call e_140 rfl (sindex_ok A0 r 47) ?_; intro v31 w1 hE1 hR1
    replace hX := hX.tr hE1
    replace hB1 := hB1.ext hE1 id; replace hB2 := hB2.ext hE1 id; replace hB3 := hB3.ext hE1 id
    replace hT := hT.tr hE1
    subst hR1
    refine wl_val (rn_assign (by conv => lhs; whnf)) ?_
    refine wl_nil ?_
    refine W_seq ?_
    refine W_seq ?_
    refine W_region ?_
    refine wl_val (rn_move (by conv => lhs; whnf)) ?_
    refine wl_val (rn_lss rfl rfl) ?_
    refine wl_nil ?_
    refine W_cond rfl (fun hc1 => ?_) (fun hc1 => ?_)
    · have hcm : ¬ (47 : UInt8) ∈ r := fun h => by have := of_decide_eq_true hc1; have := (fi_ge r 47).2 h; omega
      refine W_exit ?_   -- exit 2
      refine W_region ?_
      refine wl_val (rn_move (by conv => lhs; whnf)) ?_
      refine wl_val (rn_load1 p_9 rfl hB2 rfl) ?_
      refine wl_yield rfl rfl (hY pre r [] (fun i => i = b2) w1 (by rw [hsp, spl_not hcm]) hT) ?_; intro y51 w2 ⟨hE2, hyT, hyF⟩
      refine wl_nil ?_
      exact ⟨_, rfl, by cases y51; exact .inr (hyF rfl); exact .inl (by rw [hsp, spl_not hcm]; exact hyT rfl)⟩
    · have hcm : (47 : UInt8) ∈ r := (fi_ge r 47).1 (by have := of_decide_eq_false hc1; omega)
      have hfi := fi_in hcm
      have hplt : (pre1 47 r).length < r.length := (List.getElem?_eq_some_iff.1 (pre1_mem hcm)).1
      refine W_skip ?_
      refine W_seq ?_
      refine W_region ?_
      refine wl_val (rn_load1 p_9 rfl hB2 rfl) ?_
      refine wl_val (Rn.cast (rn_move rfl) (v' := .int .i64 ((pre1 47 r).length : Nat)) (congrArg (Value.int .i64) hfi)) ?_
      refine wl_val (rn_load1 p_3 rfl hB3 rfl) ?_
      refine wl_val (Rn.cast (rn_add rfl rfl (by omega)) (v' := .int .i64 ((pre1 47 r).length : Nat)) (congrArg (Value.int .i64) (Int.add_zero _))) ?_
      refine wl_val (Rn.cast (rn_sslice us_9 (l := 0) (h := (pre1 47 r).length) rfl rfl ⟨_, rfl⟩ (by omega) (by omega)) (v' := Sv (pre1 47 r)) (congrArg Sv (by rw [List.drop_zero, Nat.sub_zero, pre1_take]))) ?_
      refine wl_val (rn_assign (by conv => lhs; whnf)) ?_
      refine wl_nil ?_
      refine W_seq ?_
      refine W_seq ?_
      refine W_region ?_
      refine wl_val (rn_move (by conv => lhs; whnf)) ?_
      refine wl_val (rn_move (by conv => lhs; whnf)) ?_
      refine wl_yield rfl rfl (hY pre (pre1 47 r) (spl 47 (r.drop ((pre1 47 r).length + 1))) (fun i => i = b2) w1 (by rw [hsp, spl_cut hcm]) hT) ?_; intro y41 w3 ⟨hE3, hyT, hyF⟩
      replace hX := hX.trans (hE3.mono fun _ _ => trivial); replace hB1 := hB1.ext hE3 (fun h => by rcases h.2 with h | h; exact hm1 h; omega); replace hB2 := hB2.ext hE3 (fun h => h.1 rfl); replace hB3 := hB3.ext hE3 (fun h => by rcases h.2 with h | h; exact hm3 h; omega)
      refine wl_val (rn_not rfl) ?_
      refine wl_nil ?_
      refine W_cond rfl (fun hc2 => ?_) (fun hc2 => ?_)
      · have hyf := hyF (by simpa using hc2)
        refine W_ret ?_
        exact ⟨_, rfl, .inr hyf⟩
      · replace hT := hyT (by simpa using hc2)
        refine W_skip ?_
        refine W_region ?_
        refine wl_val (rn_load1 p_9 rfl hB2 rfl) ?_
        refine wl_val (Rn.cast (rn_move rfl) (v' := .int .i64 ((pre1 47 r).length : Nat)) (congrArg (Value.int .i64) hfi)) ?_
        refine wl_val (rn_load1 p_9 rfl hB1 rfl) ?_
        refine wl_val (rn_slen us_9 rfl) ?_
        refine wl_val (Rn.cast (rn_add rfl rfl (by simp only [List.length_singleton]; omega)) (v' := .int .i64 (((pre1 47 r).length + 1 : Nat) : Int)) rfl) ?_
        refine wl_val (Rn.cast (rn_sslice us_9 (l := (pre1 47 r).length + 1) (h := r.length) rfl ⟨_, rfl⟩ rfl (by omega) (by omega)) (v' := Sv (r.drop ((pre1 47 r).length + 1))) (congrArg Sv (List.take_of_length_le (by rw [List.length_drop]; exact Nat.le_refl _)))) ?_
        have hBo := hB2
        refine wl_store1 (b := b2) p_9 rfl (by conv => lhs; whnf) rfl rfl hB2 (Nat.le_of_ble_eq_true rfl) ?_; intro w4 hE4 hB2 hz4
        replace hX := hX.mine hE4 hl2
        replace hB1 := hB1.ext hE4 (fun h => by omega); replace hB3 := hB3.ext hE4 (fun h => by omega)
        replace hT := hT.ext hE4 (fun i e => e)
        refine wl_nil ?_
        exact ⟨rfl, (pre ++ [pre1 47 r], r.drop ((pre1 47 r).length + 1)), ⟨rfl, rfl, rfl, rfl, trivial⟩, ⟨hX, hB1, hB2, hB3, hl1, hl2, hl3, ⟨by rw [hsp, spl_cut hcm]; simp, by rw [List.length_drop]; omega, hT⟩⟩, by show (r.drop ((pre1 47 r).length + 1)).length < r.length; rw [List.length_drop]; omega⟩
-- strings.splitSeq
theorem splitSeq0_ok (w : World) (s : Str) (M : Nat → Prop) (hM : ∀ i, M i → i < w.heap.size) (hsn : s.length ≤ 1000000) : Fn Tryz.prog 115 #[Sv s, Sv [47], .int .i64 0] w fun u w' => ∃ b2, IterE Tryz.prog M w' (fun i => i = b2) u (fun x : Str => #[Sv x]) (spl 47 s) ∧ w.heap.size ≤ b2 ∧ b2 < w'.heap.size := by
  have hX := Ext.refl Non w
  refine fn_of_W (args := [_, _, _]) Tryz.func115 rfl (by kernel_rfl) rfl ?_
  refine W_seq ?_
  refine W_region ?_
  refine wl_box1 (by conv => lhs; whnf) rfl ?_; intro b3 w1 hb3 hE1 hB3
  have hq3 : w.heap.size ≤ b3 := Nat.le_trans hX.size hb3
  have hl3 : Mine Non w b3 := .inr hq3
  replace hX := hX.tr hE1
  refine wl_box1 (by conv => lhs; whnf) rfl ?_; intro b4 w2 hb4 hE2 hB4
  have hn3_4 : b3 < b4 := Nat.lt_of_lt_of_le hB3.lt hb4
  have hq4 : w.heap.size ≤ b4 := Nat.le_trans hX.size hb4
  have hl4 : Mine Non w b4 := .inr hq4
  replace hX := hX.tr hE2
  replace hB3 := hB3.ext hE2 id
  refine wl_box1 (by conv => lhs; whnf) rfl ?_; intro b5 w3 hb5 hE3 hB5
  have hn3_5 : b3 < b5 := Nat.lt_of_lt_of_le hB3.lt hb5
  have hn4_5 : b4 < b5 := Nat.lt_of_lt_of_le hB4.lt hb5
  have hq5 : w.heap.size ≤ b5 := Nat.le_trans hX.size hb5
  have hl5 : Mine Non w b5 := .inr hq5
  replace hX := hX.tr hE3
  replace hB3 := hB3.ext hE3 id; replace hB4 := hB4.ext hE3 id
  refine wl_val (rn_assign (by conv => lhs; whnf)) ?_
  refine wl_nil ?_
  refine W_seq ?_
  refine W_region ?_
  refine wl_val (rn_makeFunc rfl) ?_
  refine wl_val (rn_assign (by conv => lhs; whnf)) ?_
  refine wl_nil ?_
  refine W_ret ?_
  exact ⟨_, resR1 (res1_tmp rfl), hX, ⟨b3, splitSeq_iter s M _ b4 b3 b5 hB4 hB3 hB5 (fun h => by have := hM _ h; omega) (fun h => by have := hM _ h; omega) (fun h => by have := hM _ h; omega) (by omega) (by omega) hsn, hq3, hB3.lt⟩⟩
-- strings.SplitSeq
theorem splitSeqP_ok (w : World) (s : Str) (M : Nat → Prop) (hM : ∀ i, M i → i < w.heap.size) (hsn : s.length ≤ 1000000) : Fn Tryz.prog 77 #[Sv s, Sv [47]] w fun u w' => ∃ b2, IterE Tryz.prog M w' (fun i => i = b2) u (fun x : Str => #[Sv x]) (spl 47 s) ∧ w.heap.size ≤ b2 ∧ b2 < w'.heap.size := by
  have hX := Ext.refl Non w
  refine fn_of_W (args := [_, _]) Tryz.func77 rfl (by kernel_rfl) rfl ?_
  refine W_seq ?_
  refine W_region ?_
  refine wl_val (rn_assign (by conv => lhs; whnf)) ?_
  refine wl_nil ?_
  refine W_seq ?_
  refine W_region ?_
  refine wl_val (rn_move (by conv => lhs; whnf)) ?_
  refine wl_val (rn_move (by conv => lhs; whnf)) ?_
  have hXc := hX
  refine wl_call e_115 rfl (splitSeq0_ok w s M (fun i h => Nat.lt_of_lt_of_le (hM i h) hX.size) hsn) ?_; intro v7 w1 hE1 hR1
  replace hX := hX.tr hE1
  obtain ⟨b2, hI2, hb2, hb2l⟩ := hR1
  refine wl_val (rn_assign (by conv => lhs; whnf)) ?_
  refine wl_nil ?_
  refine W_ret ?_
  exact ⟨_, resR1 (res1_tmp rfl), hX, ⟨b2, hI2, Nat.le_trans hXc.size hb2, hb2l⟩⟩
-- bellman/topic.Each$1
set_option maxHeartbeats 800000 in
theorem each_iter (s : Str) (M : Nat → Prop) (w0 : World) (b1 : Nat) (hC1 : IsBox w0 b1 [Sv s]) (hm1 : ¬ M b1) (hsn : s.length ≤ 1000000) :
    Iter Tryz.prog M w0 (.func (.func 76) #[] #[.pointer (some ⟨b1, 0, none⟩)]) (fun p : Nat × Str => #[.int .i64 (p.1 : Nat), Sv p.2]) (numb (spl 47 s)) := by
  refine iter_ofS e_76 fun l W J Jx hW hT hY => ?_
  replace hT := hT.all0
  have ea : (#[Value.func (.yield l) #[] #[]] ++ #[.pointer (some ⟨b1, 0, none⟩)] : Array Value) = [Value.func (.yield l) #[] #[], .pointer (some ⟨b1, 0, none⟩)].toArray := by simp
  rw [ea]
  have hX := Ext.refl Tru W
  have hB1 := hC1.ext hW hm1
  have hl1 : Mine Tru W b1 := .inl trivial
  refine calls_of_W (R := fun v W' => Ts M w0 W (J (numb (spl 47 s))) Non W' ∨ Ts M w0 W Jx Non W') Tryz.func76 rfl (by kernel_rfl) rfl ?_
  refine W_seq ?_
  refine W_region ?_
  refine wl_box1 (by conv => lhs; whnf) rfl ?_; intro b2 w1 hb2 hE1 hB2
  have hn1_2 : b1 < b2 := Nat.lt_of_lt_of_le hB1.lt hb2
  have hq2 : W.heap.size ≤ b2 := Nat.le_trans hX.size hb2
  have hl2 : Mine Tru W b2 := .inr hq2
  replace hX := hX.tr hE1
  replace hB1 := hB1.ext hE1 id
  replace hT := hT.allT hE1
  refine wl_nil ?_
  refine W_seq ?_
  refine W_region ?_
  refine wl_alloc z_3 ?_; intro b3 w2 hb3 hE2 hB3
  have hn1_3 : b1 < b3 := Nat.lt_of_lt_of_le hB1.lt hb3
  have hn2_3 : b2 < b3 := Nat.lt_of_lt_of_le hB2.lt hb3
  have hq3 : W.heap.size ≤ b3 := Nat.le_trans hX.size hb3
  have hl3 : Mine Tru W b3 := .inr hq3
  replace hX := hX.tr hE2
  replace hB1 := hB1.ext hE2 id; replace hB2 := hB2.ext hE2 id
  replace hT := hT.allT hE2
  have hBo := hB3
  refine wl_store1 (b := b3) p_3 rfl (by conv => lhs; whnf) rfl rfl hB3 (Nat.le_of_ble_eq_true rfl) ?_; intro w3 hE3 hB3 hz3
  replace hX := hX.mine hE3 hl3
  replace hB1 := hB1.ext hE3 (fun h => by omega); replace hB2 := hB2.ext hE3 (fun h => by omega)
  replace hT := hT.allM hE3 hq3 hBo.lt
  refine wl_nil ?_
  refine W_seq ?_
  refine W_region ?_
  refine wl_val (rn_load1 p_9 rfl hB1 rfl) ?_
  have hz2 := hB2.lt; have hz3 := hB3.lt; have hW3 := hX.size
  refine wl_call e_77 rfl (splitSeqP_ok w3 s (fun i => i < w3.heap.size) (fun i h => h) hsn) ?_; intro v6 w4 hE4 hR4
  replace hX := hX.tr hE4
  replace hB1 := hB1.ext hE4 id; replace hB2 := hB2.ext hE4 id; replace hB3 := hB3.ext hE4 id
  replace hT := hT.allT hE4
  obtain ⟨bs, hIt, hbs, hbsl⟩ := hR4; obtain ⟨fk, ck, hfk, _⟩ := id hIt; subst hfk
  have hzz := hE4.size
  refine wl_nil ?_
  refine W_block ?_   -- block 0
  have hszr := hW3
  refine W_rangeFuncE w3.heap.size (fun i => i = bs) (M := fun i => i < w3.heap.size) (w0 := w4) (I := fun pre N A => Box N A b2 [.func (.yield l) #[] #[]] ∧ Box N A b3 [.int .i64 (pre.length : Nat)] ∧ Ext Tru W A ∧ MkN W [] N A ∧ (Ts M w0 W (J (numb pre)) (fun i => Al W w4 i ∨ N i) A) ∧ (True)) (X := fun c N A => c = .ret ∧ Ext Tru W A ∧ MkN W [] N A ∧ (Ts M w0 W Jx (fun i => Al W w4 i ∨ N i) A) ∧ (True)) (encs := fun x : Str => [Sv x]) (xs := spl 47 s) rfl (hIt) (Ext.refl _ w4) (hE4.size) (fun i hi => by rw [hi]; exact ⟨hbs, hbsl⟩) (fun _ => rfl) (fun pre => (Stab.box _ _).and ((Stab.box _ _).and ((Stab.oldM hW3).and ((Stab.mk _ _).and ((Ts.stabS _ _ _ _ _).and ((Stab.pure _))))))) (fun c => (Stab.pure _).and ((Stab.oldM hW3).and ((Stab.mk _ _).and ((Ts.stabS _ _ _ _ _).and ((Stab.pure _)))))) ⟨⟨hB2, fun e => by omega⟩, ⟨hB3, fun e => by omega⟩, hX, ⟨Mk.nil, fun r h => by cases h⟩, hT.less (fun i hi => hi.elim id (fun e => by rw [e]; exact ⟨by omega, hbsl⟩)), trivial⟩ ?_ ?_ ?_
  · rintro l N pre x A hl hN hA hst ⟨hK2, hK3, hXo, hDk, hT, hIr⟩ ⟨post, hpre⟩
    have hB2 := hK2.1
    have hB3 := hK3.1; have hl3 : Mine (Yc (fun i => i < w3.heap.size) w4 N) A b3 := .inl ⟨hK3.2, .inl (by omega)⟩
    have hX := Ext.refl (Yc (fun i => i < w3.heap.size) w4 N) A
    refine W_region ?_
    refine wl_val (rn_assign (by conv => lhs; whnf)) ?_
    refine wl_nil ?_
    refine ⟨rfl, hX, fun A2 hE2r hz2r hst2 => ?_⟩
    have hNl := (hN l hl).2
    replace hB2 := hB2.ext hE2r (fun e => hK2.2 (by rw [e]; exact hl))
    replace hB3 := hB3.ext hE2r (fun e => hK3.2 (by rw [e]; exact hl))
    replace hXo := hXo.mine hE2r (.inr (Nat.le_trans hszr (hN l hl).1)); replace hDk := hDk.lp hE2r hl
    replace hT := hT.ext hE2r (fun i e => .inr (by rw [e]; exact hl))
    have hl3 : Mine (Yc (fun i => i < w3.heap.size) w4 N) A2 b3 := .inl ⟨hK3.2, .inl (by omega)⟩
    have hX := Ext.refl (Yc (fun i => i < w3.heap.size) w4 N) A2
    obtain ⟨q, hq⟩ := numb_pre hpre
    have hpl : pre.length ≤ s.length := by have h1 := spl_len_le 47 s; rw [hpre] at h1; simp only [List.length_append, List.length_cons] at h1; omega
    refine W_block ?_   -- block 1
    refine W_seq ?_
    refine W_seq ?_
    refine W_region ?_
    refine wl_val (rn_load1 p_144 rfl hB2 rfl) ?_
    refine wl_val (rn_load1 p_3 rfl hB3 rfl) ?_
    refine wl_val (rn_move (by conv => lhs; whnf)) ?_
    refine wl_yield rfl rfl (hY (numb pre) (pre.length, x) q (fun i => Al W w4 i ∨ N i) A2 hq hT) ?_; intro y11 w5 ⟨hE5, hyT, hyF⟩
    replace hX := hX.trans (hE5.mono fun i h => ⟨fun hn => h.1 (.inr hn), (Nat.lt_or_ge i w3.heap.size).imp id (fun h3 => (Nat.lt_or_ge i w4.heap.size).elim (fun h4 => absurd (Or.inl ⟨Nat.le_trans hW3 h3, h4⟩) h.1) id)⟩)
    replace hXo := hXo.trans (hE5.mono fun _ _ => trivial); replace hDk : MkN W [] N w5 := ⟨Mk.nil, fun r h => by cases h⟩
    replace hB2 := hB2.ext hE5 (fun h => h.1 (.inl ⟨hq2, by omega⟩)); replace hB3 := hB3.ext hE5 (fun h => h.1 (.inl ⟨hq3, by omega⟩))
    refine wl_val (rn_not rfl) ?_
    refine wl_nil ?_
    refine W_cond rfl (fun hc0 => ?_) (fun hc0 => ?_)
    · have hTx := hyF (by simpa using hc0)
      refine W_ret ?_
      exact ⟨hX, rfl, hXo, hDk, hTx, trivial⟩
    · replace hT := hyT (by simpa using hc0)
      refine W_skip ?_
      refine W_region ?_
      refine wl_val (rn_load1 p_3 rfl hB3 rfl) ?_
      refine wl_val (rn_add rfl rfl (by omega)) ?_
      have hBo := hB3
      refine wl_store1 (b := b3) p_3 rfl (by conv => lhs; whnf) rfl rfl hB3 (Nat.le_of_ble_eq_true rfl) ?_; intro w6 hE6 hB3 hz6
      replace hX := hX.mine hE6 hl3
      replace hB2 := hB2.ext hE6 (fun h => by omega)
      replace hXo := hXo.mine hE6 (.inl trivial)
      replace hDk := hDk.box hE6 hBo
      replace hT := hT.ext hE6 (fun i e => .inl (by rw [e]; exact ⟨hq3, by omega⟩))
      refine wl_nil ?_
      replace hB3 := hB3.cast (show [Value.int .i64 ((pre.length : Int) + 1)] = [.int .i64 ((pre ++ [x]).length : Nat)] by simp)
      exact ⟨hX, ⟨hB2, hK2.2⟩, ⟨hB3, hK3.2⟩, hXo, hDk, (by rw [numb_snoc]; exact hT), trivial⟩
  · rintro N rk w' ⟨hK2, hK3, hXo, hDk, hT, hIr⟩ hN hA hr hrd
    have hB2 := hK2.1
    have hB3 := hK3.1
    have hX := hXo; have hD := hDk.add hrd (Nat.le_trans hszr (hN rk hr).1) hr
    refine hD.leave fun B hB => ?_
    have hB2 := hB2.ext hB (hD.ne hB2)
    have hB3 := hB3.ext hB (hD.ne hB3)
    exact ⟨_, rfl, .inl ((hT.ext hB (fun i hi => .inr (by simp only [List.mem_singleton] at hi; rw [mark_inj hi]; exact hr))).less (fun _ h => h.elim))⟩
  · rintro c N rk w' ⟨rfl, hXo, hDk, hTx, hIr⟩ hN hA hr hrd
    have hX := hXo; have hD := hDk.add hrd (Nat.le_trans hszr (hN rk hr).1) hr
    refine W_ret ?_
    refine hD.leave fun B hB => ?_
    exact ⟨_, rfl, .inr ((hTx.ext hB (fun i hi => .inr (by simp only [List.mem_singleton] at hi; rw [mark_inj hi]; exact hr))).less (fun _ h => h.elim))⟩
-- bellman/topic.Each
theorem each_ok (w : World) (s : Str) (M : Nat → Prop) (hM : ∀ i, M i → i < w.heap.size) (hsn : s.length ≤ 1000000) : Fn Tryz.prog 47 #[Sv s] w fun u w' => Iter Tryz.prog M w' u (fun p : Nat × Str => #[.int .i64 (p.1 : Nat), Sv p.2]) (numb (spl 47 s)) := by
  have hX := Ext.refl Non w
  refine fn_of_W (args := [_]) Tryz.func47 rfl (by kernel_rfl) rfl ?_
  refine W_seq ?_
  refine W_region ?_
  refine wl_box1 (by conv => lhs; whnf) rfl ?_; intro b1 w1 hb1 hE1 hB1
  have hq1 : w.heap.size ≤ b1 := Nat.le_trans hX.size hb1
  have hl1 : Mine Non w b1 := .inr hq1
  replace hX := hX.tr hE1
  refine wl_val (rn_assign (by conv => lhs; whnf)) ?_
  refine wl_nil ?_
  refine W_seq ?_
  refine W_region ?_
  refine wl_val (rn_makeFunc rfl) ?_
  refine wl_val (rn_assign (by conv => lhs; whnf)) ?_
  refine wl_nil ?_
  refine W_ret ?_
  exact ⟨_, resR1 (res1_tmp rfl), hX, each_iter s M _ b1 hB1 (fun h => by have := hM _ h; omega) hsn⟩
-- bellman/topic.Levels
theorem levels_ok (w : World) (s : Str) (hsn : s.length ≤ 1000000) : Fn Tryz.prog 26 #[Sv s] w fun u w' => Sl Non w' u 1 ((spl 47 s).map eS1) := by
  have hX := Ext.refl Non w
  refine fn_of_W (args := [_]) Tryz.func26 rfl (by kernel_rfl) rfl ?_
  refine W_seq ?_
  refine W_region ?_
  refine wl_val (rn_assign (by conv => lhs; whnf)) ?_
  refine wl_nil ?_
  refine W_seq ?_
  refine W_region ?_
  refine wl_alloc z_22 ?_; intro b3 w1 hb3 hE1 hB3
  have hq3 : w.heap.size ≤ b3 := Nat.le_trans hX.size hb3
  have hl3 : Mine Non w b3 := .inr hq3
  replace hX := hX.tr hE1
  refine wl_nil ?_
  refine W_seq ?_
  refine W_seq ?_
  refine W_region ?_
  refine wl_val (rn_move (by conv => lhs; whnf)) ?_
  refine wl_call e_47 rfl (each_ok w1 s (fun i => i = b3) (fun i e => by rw [e]; exact hB3.lt) hsn) ?_; intro v7 w2 hE2 hR2
  replace hX := hX.tr hE2
  replace hB3 := hB3.ext hE2 id
  have hIt := hR2; obtain ⟨fk, ck, hfk, _⟩ := id hIt; subst hfk
  have hW := Ext.refl (fun i => i = b3) w2; have hz3 := hB3.lt; have hspl := spl_len_le 47 s
  refine wl_nil ?_
  refine W_block ?_   -- block 0
  have hszr := hX.size
  have hsz_hW := hW.size
  have ho3 : w.heap.size ≤ b3 := by rcases hl3 with h | h; exact h.elim; exact h
  refine W_rangeFunc (M := fun i => i = b3) (w0 := w2) (I := fun pre N A => ∃ v3 : Value, ∃ oo : Option Nat, Box N A b3 [v3] ∧ Ext Non w A ∧ Ext (fun i => i = b3) w2 A ∧ MkN w [] N A ∧ (OwX w2.heap.size N A v3 oo 1 ((pre.map fun p => p.2).map eS1)) ∧ (True)) (X := fun c N A => False) (encs := fun p : Nat × Str => [.int .i64 (p.1 : Nat), Sv p.2]) (xs := numb (spl 47 s)) rfl (hIt) (hW) (fun _ => rfl) (fun pre => Stab.ex fun v3 => Stab.ex fun oo => (Stab.box _ _).and ((Stab.old hX.size).and ((Stab.oldM hW.size).and ((Stab.mk _ _).and ((Stab.owx _ _ _ _ _).and ((Stab.pure _))))))) (fun c => Stab.false) ⟨.slice none 0 0, none, ⟨hB3, id⟩, hX, hW, (Mk.nil : Mk w [] w2).toN, ⟨OwO.nil, by simp⟩, trivial⟩ ?_ ?_ ?_
  · rintro l N pre x A hl hN hA hst ⟨v3, oo, hK3, hXo, hW, hDk, hO, hIr⟩ ⟨post, hpre⟩
    have hB3 := hK3.1; have hl3 : Mine (Yc (fun i => i = b3) w2 N) A b3 := .inl ⟨hK3.2, .inl rfl⟩
    have hX := Ext.refl (Yc (fun i => i = b3) w2 N) A
    refine W_region ?_
    refine wl_val (rn_assign (by conv => lhs; whnf)) ?_
    refine wl_nil ?_
    refine ⟨rfl, hX, fun A2 hE2r hz2r hst2 => ?_⟩
    have hNl := (hN l hl).2
    replace hB3 := hB3.ext hE2r (fun e => hK3.2 (by rw [e]; exact hl))
    replace hXo := hXo.mine hE2r (.inr (Nat.le_trans hszr (hN l hl).1)); replace hDk := hDk.lp hE2r hl
    replace hW := hW.mine hE2r (.inr (Nat.le_trans hsz_hW (hN l hl).1))
    replace hO := hO.ext hE2r (fun i hi e => (hO.2 i hi).1 (by rw [e]; exact hl))
    have hl3 : Mine (Yc (fun i => i = b3) w2 N) A2 b3 := .inl ⟨hK3.2, .inl rfl⟩
    have hX := Ext.refl (Yc (fun i => i = b3) w2 N) A2
    refine W_block ?_   -- block 1
    refine W_region ?_
    have hpl : (spl 47 s).length = pre.length + (post.length + 1) := by have := congrArg List.length hpre; rw [numb_len] at this; rw [this]; simp
    refine wl_val (rn_load1 p_22 rfl hB3 rfl) ?_
    refine wl_val (rn_move (by conv => lhs; whnf)) ?_
    refine wl_lit1 (r := eS1 x.2) sl_22 rfl rfl rfl rfl (by decide) ?_; intro v12 w3 b12 hb12 hE3 hO12
    replace hX := hX.tr hE3
    replace hB3 := hB3.ext hE3 id
    replace hXo := hXo.tr hE3
    replace hDk := hDk.non hE3
    replace hW := hW.tr hE3
    replace hO := hO.ext hE3 (fun _ _ h => h)
    have hsx := hX.size; have hsw := hW.size
    refine wl_app sl_22 rfl rfl rfl hO.1 (hO12.sl (M := Non) id) (fun r hr => by simp only [List.mem_singleton] at hr; subst hr; exact one1 rfl) (by simp only [List.length_map, List.length_cons, List.length_nil]; omega) (by simp only [List.length_map, List.length_cons, List.length_nil, big]; omega) ?_; intro v13 w4 o13 hE4 hO13 hf13
    obtain ⟨a13, c13, hv13⟩ := id hO13.len; subst hv13
    replace hX := hX.mineO hE4 (fun i hi => .inl ⟨(hO.2 i hi).1, .inr (hO.2 i hi).2⟩); replace hXo := hXo.mineO hE4 (fun i hi => .inr (Nat.le_trans hszr (hO.2 i hi).2)); replace hW := hW.mineO hE4 (fun i hi => .inr (hO.2 i hi).2); replace hDk : MkN w [] N w4 := ⟨Mk.nil, fun r h => by cases h⟩
    replace hB3 := hB3.ext hE4 (fun e => by have := (hO.2 _ e).2; omega)
    have hOn : OwX w2.heap.size N w4 _ o13 1 (((pre ++ [x]).map fun p => p.2).map eS1) := ⟨by rw [List.map_append, List.map_append]; exact hO13, fun i hi => by rcases hf13 i hi with h | h; exact hO.2 i h; exact ⟨fun hNi => by have := (hN i hNi).2; omega, by omega⟩⟩
    have hBo := hB3
    refine wl_store1 (b := b3) p_22 rfl (by conv => lhs; whnf) rfl rfl hB3 (Nat.le_of_ble_eq_true rfl) ?_; intro w5 hE5 hB3 hz5
    replace hX := hX.mine hE5 hl3
    replace hXo := hXo.mine hE5 (.inr ho3)
    replace hDk := hDk.box hE5 hBo
    replace hW := hW.mine hE5 (.inl rfl)
    replace hOn := hOn.ext hE5 (fun i hi e => by have := (hOn.2 i hi).2; omega)
    refine wl_nil ?_
    exact ⟨hX, .slice a13 _ c13, o13, ⟨hB3, hK3.2⟩, hXo, hW, hDk, hOn, trivial⟩
  · rintro N rk w' ⟨v3, oo, hK3, hXo, hW, hDk, hO, hIr⟩ hN hA hr hrd
    have hB3 := hK3.1
    have hX := hXo; have hD := hDk.add hrd (Nat.le_trans hszr (hN rk hr).1) hr
    rw [numb_snd] at hO
    obtain ⟨a3, c3, hv3⟩ := id hO.1.len; subst hv3
    refine W_seq ?_
    refine W_region ?_
    refine wl_val (rn_load1 p_22 rfl hB3 rfl) ?_
    refine wl_val (rn_assign (by conv => lhs; whnf)) ?_
    refine wl_nil ?_
    refine W_ret ?_
    refine hD.leave fun B hB => ?_
    have hB3 := hB3.ext hB (hD.ne hB3)
    have hX := hD.out hX hB
    exact ⟨_, resR1 (res1_tmp rfl), hX, (hO.ext hB (fun i hi h => (hO.2 i hi).1 (by simp only [List.mem_singleton] at h; rw [mark_inj h]; exact hr))).1.sl (fun i hi => id)⟩
  · intro c N rk w' h; exact h.elim
end Go.Proofs.YtaddeakfojpdoaaGreatDoorC
