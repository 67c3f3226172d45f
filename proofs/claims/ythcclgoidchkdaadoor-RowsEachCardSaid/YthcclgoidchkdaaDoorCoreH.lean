/- A range over a function, and what an iterator promises, in the calculus; each rule holds of whatever program. -/
import Derived.Test.YthcclgoidchkdaaDoorCoreG
set_option linter.unusedVariables false
set_option linter.unusedSimpArgs false
namespace Go.Proofs.YthcclgoidchkdaaDoorC
open Go.RowKit
variable {ro : Option Nat} {P : Program} {n : Nat} {Q : Post} {σ : Env} {D : List Deferred} {w : World} {dst : Option Nat} {ty : TypeId} {pos : String} {af : Array Edge} {g : Option (Nat × Bool)}
variable {ops rest : List Oper} {K : Ops}

/-- N, and what was made between two worlds. -/
def grow (N : Nat → Prop) (A B : World) : Nat → Prop := fun i => N i ∨ (A.heap.size ≤ i ∧ i < B.heap.size)
/-- What is said abides what the owner of the blocks N does, who may make more. -/
def Stab (n0 : Nat) (J : (Nat → Prop) → World → Prop) : Prop :=
  ∀ N A B, (∀ i, N i → n0 ≤ i) → n0 ≤ A.heap.size → J N A → Ext N A B → J (grow N A B) B
/-- What a round may turn: no block of N's, and of those that lay at w0 only M's. -/
def Yc (M : Nat → Prop) (w0 : World) (N : Nat → Prop) : Nat → Prop := fun i => ¬ N i ∧ (M i ∨ w0.heap.size ≤ i)
/-- A call of yield, of loop l. -/
def YieldOk (P : Program) (l : Nat) (args : Array Value) (A : World) (R : Bool → World → Prop) : Prop :=
  ∃ fn tmps assign body, (Instr.yield l args).run P A = .ok (.round l fn tmps assign body) A ∧ RoundIn Fence.wide 0 P l fn tmps assign body A fun e w' => ∃ b, e = .returned (.bool b) ∧ R b w'
/-- Function value fv tells xs, one by one, to whoever ranges over it; it leans on what lies in w0 beside M. -/
def Iter {α : Type} (P : Program) (M : Nat → Prop) (w0 : World) (fv : Value) (encs : α → Array Value) (xs : List α) : Prop :=
  ∃ f cap, fv = .func (.func f) #[] cap ∧ entersB P f = true ∧
  ∀ (l : Nat) (W : World) (J : List α → (Nat → Prop) → World → Prop) (Jx : (Nat → Prop) → World → Prop), Ext M w0 W → (∀ pre, Stab W.heap.size (J pre)) → Stab W.heap.size Jx →
    (∀ N pre x A, (∀ i, N i → W.heap.size ≤ i ∧ i < A.heap.size) → W.heap.size ≤ A.heap.size → J pre N A → (∃ post, xs = pre ++ x :: post) →
      YieldOk P l (encs x) A fun b B => Ext (Yc M w0 N) A B ∧ (b = true → J (pre ++ [x]) N B) ∧ (b = false → Jx N B)) →
    J [] Non W →
    Calls P f (#[.func (.yield l) #[] #[]] ++ cap) W fun e W' => ∃ v N, e = .returned v ∧ W.heap.size ≤ W'.heap.size ∧ (∀ i, N i → W.heap.size ≤ i ∧ i < W'.heap.size) ∧ (J xs N W' ∨ Jx N W')
theorem Iter.ext {α : Type} {M M' : Nat → Prop} {w0 w1 : World} {fv : Value} {encs : α → Array Value} {xs : List α} (h : Iter P M w0 fv encs xs) (hE : Ext M w0 w1) (hM : ∀ i, M' i → i < w0.heap.size → M i) : Iter P M' w1 fv encs xs := by
  obtain ⟨f, cap, h1, h2, h3⟩ := h
  refine ⟨f, cap, h1, h2, fun l W J Jx hW hJ hJx hY h0 => h3 l W J Jx ?_ hJ hJx (fun N pre x A hN hA hj hp => ?_) h0⟩
  · exact ⟨hW.os.trans hE.os, hW.tape.trans hE.tape, hW.output.trans hE.output, Nat.le_trans hE.size hW.size, fun i hi hm => (hW.block i (Nat.lt_of_lt_of_le hi hE.size) (fun h => hm (hM i h hi))).trans (hE.block i hi hm)⟩
  · obtain ⟨fn, tmps, assign, body, hy, hr⟩ := hY N pre x A hN hA hj hp
    refine ⟨fn, tmps, assign, body, hy, hr.mono ?_⟩
    rintro e w' ⟨b, he, hE', h4⟩
    refine ⟨b, he, hE'.mono ?_, h4⟩
    rintro i ⟨h5, h6⟩
    refine ⟨h5, ?_⟩
    rcases Nat.lt_or_ge i w0.heap.size with hi | hi
    · rcases h6 with h6 | h6
      · exact .inl (hM i h6 hi)
      · have := hE.size; omega
    · exact .inr hi
theorem wl_yield {x : Operand} {l : Nat} {as : List Operand} {ts : Array TypeId} {args : List Value} {R : Bool → World → Prop} (hx : ev σ x = .func (.yield l) #[] #[]) (ha : as.map (ev σ) = args) (h : YieldOk P l args.toArray w R)
    (k : ∀ b w', R b w' → wl P ops rest K (put σ dst (.bool b)) w') : wl P ops (⟨dst, .call ⟨.value x, as.toArray, ts⟩, ty, pos, af, none⟩ :: rest) K σ w := by
  obtain ⟨fn, tmps, assign, body, hy, hr⟩ := h
  show step1 P ops _ σ w _
  rw [step1_none]; unfold op1
  have e : (execOp (ev σ) ⟨dst, .call ⟨.value x, as.toArray, ts⟩, ty, pos, af, none⟩).run P w = .ok (.round l fn tmps assign body) w := by
    simp [execOp, resolve, hx, ha, Deferred.ofValue, invoke, hy]
  rw [e]
  exact RoundIn.mono hr fun e w' hx => by obtain ⟨b, h1, h2⟩ := hx; exact ⟨.bool b, h1, k b w' h2⟩

/-- The temporaries behind yield's arguments. -/
def updN (σ : Env) : List Nat → List Value → Env
  | d :: ds, v :: vs => updN (upd σ d v) ds vs
  | _, _ => σ
theorem sim_params : ∀ (ps : List Nat) (vs : List Value) (σ : Env) (tmps : Array Value), Sim n { tmps := tmps, defers := [] } σ → (∀ p ∈ ps, p < n) →
    Sim n { tmps := ((ps.zip vs).foldl (fun t (p : Nat × Value) => t.setIfInBounds p.1 p.2) tmps), defers := [] } (updN σ ps vs)
  | [], _, σ, tmps, h, _ => h
  | _ :: _, [], σ, tmps, h, _ => h
  | p :: ps, v :: vs, σ, tmps, h, hp => by
    simp only [List.zip_cons_cons, List.foldl_cons, updN]
    have h1 := h.put (some p) v (fun d e => by cases e; exact hp p (by simp))
    exact sim_params ps vs (upd σ p v) _ h1 (fun q hq => hp q (by simp [hq]))
/-- How a round may be left. -/
def RQ {α : Type} (M : Nat → Prop) (w0 : World) (I : List α → (Nat → Prop) → World → Prop) (X : Code → (Nat → Prop) → World → Prop) (N : Nat → Prop) (xs : List α) (A : World) : Post
  | .normal, _, _, B => Ext (Yc M w0 N) A B ∧ I xs N B
  | .ret, _, _, B => Ext (Yc M w0 N) A B ∧ X .ret N B
  | .exit id, _, _, B => Ext (Yc M w0 N) A B ∧ X (.exit id) N B
  | .goto t, _, _, B => Ext (Yc M w0 N) A B ∧ X (.goto t) N B
  | _, _, _, _ => False
def NoQ : Post := fun _ _ _ _ => False
theorem grow_same {N : Nat → Prop} {A B : World} (h : B.heap.size = A.heap.size) : grow N A B = N := by
  funext i; apply propext; unfold grow; constructor
  · rintro (h1 | ⟨h1, h2⟩)
    · exact h1
    · omega
  · exact .inl
theorem Stab.same {n0 : Nat} {J : (Nat → Prop) → World → Prop} (hJ : Stab n0 J) {N : Nat → Prop} {A B : World} (hN : ∀ i, N i → n0 ≤ i) (hA : n0 ≤ A.heap.size) (h : J N A) (hE : Ext N A B) (hs : B.heap.size = A.heap.size) : J N B := by
  have := hJ N A B hN hA h hE; rwa [grow_same hs] at this
theorem ext_one {l : Nat} {N : Nat → Prop} {A B : World} (h : Ext (fun i => i = l) A B) (hN : N l) : Ext N A B := h.mono fun i e => by rw [e]; exact hN
/-- The heart of a range over a function: the rounds, from a record that is ready. -/
theorem rf_core {α : Type} {l fn : Nat} {st : Loop} {assign body : Code} {M : Nat → Prop} {w0 : World} {I : List α → (Nat → Prop) → World → Prop} {X : Code → (Nat → Prop) → World → Prop} {n0 : Nat} {E : Nat → Prop} {W1 : World} {σ : Env} {fv : Value} {encs : α → List Value} {xs : List α} {ps : List Nat}
    (hit : Iter P M w0 fv (fun x => (encs x).toArray) xs) (hE0 : Ext M w0 W1) (hka : okc n assign = true) (hkb : okc n body = true) (hps : ∀ p ∈ ps, p < n) (hlen : ∀ x, (encs x).length = ps.length)
    (hl : W1.heap[l]? = some (.loop st)) (hst : st.state = .ready) (hpe : st.pending = none) (hpa : st.params = ps.toArray) (has : st.assign = assign) (hbo : st.body = body) (hs : Sim n { tmps := st.tmps, defers := [] } σ)
    (hEl : E l) (hE : ∀ i, E i → n0 ≤ i ∧ i < W1.heap.size) (hn0 : w0.heap.size ≤ n0) (sI : ∀ pre, Stab n0 (I pre)) (sX : ∀ c, Stab n0 (X c)) (h0 : I [] E W1)
    (hround : ∀ N pre x A, N l → (∀ i, N i → n0 ≤ i ∧ i < A.heap.size) → W1.heap.size ≤ A.heap.size → (∃ st, A.heap[l]? = some (.loop st)) → I pre N A → (∃ post, xs = pre ++ x :: post) →
      W (some l) P n assign (Then (fun σ1 D1 A1 => D1 = [] ∧ Ext (Yc M w0 N) A A1 ∧ ∀ A2, Ext (fun i => i = l) A1 A2 → A2.heap.size = A1.heap.size → (∃ st, A2.heap[l]? = some (.loop st)) → W (some l) P n body (RQ M w0 I X N (pre ++ [x]) A2) σ1 [] A2) NoQ) (updN σ ps (encs x)) [] A) :
    ∃ f cap, fv = .func (.func f) #[] cap ∧ entersB P f = true ∧
      Calls P f (#[.func (.yield l) #[] #[]] ++ cap) W1 fun e W' => ∃ v N st', e = .returned v ∧ W1.heap.size ≤ W'.heap.size ∧ (∀ i, N i → n0 ≤ i ∧ i < W'.heap.size) ∧ (∀ i, E i → N i) ∧ W'.heap[l]? = some (.loop st') ∧ st'.state ≠ .busy ∧
        (∀ d, E d → d ≠ l → W'.heap[d]? = W1.heap[d]?) ∧ ((st'.pending = none ∧ I xs N W') ∨ ∃ c, st'.pending = some c ∧ X c N W') := by
  subst has
  subst hbo
  obtain ⟨f, cap, hfv, hf, hcall⟩ := hit
  refine ⟨f, cap, hfv, hf, ?_⟩
  have hlt1 := (Array.getElem?_eq_some_iff.1 hl).1
  -- N with the loop's own blocks
  have hplus : ∀ N : Nat → Prop, (∀ i, N i → W1.heap.size ≤ i) → ∀ i, (N i ∨ E i) → n0 ≤ i := fun N hN i h => by
    rcases h with h | h
    · have := hN i h; have := (hE l hEl); omega
    · exact (hE i h).1
  have stab : ∀ (J : (Nat → Prop) → World → Prop) (st' : Loop), Stab n0 J → Stab W1.heap.size (fun N A => J (fun i => N i ∨ E i) A ∧ A.heap[l]? = some (.loop st') ∧ ∀ d, E d → d ≠ l → A.heap[d]? = W1.heap[d]?) := by
    intro J st' hJ N A B hN hA ⟨h1, h2, h3⟩ hext
    have hnl : ∀ d, E d → ¬ N d := fun d hd h => by have := hN d h; have := (hE d hd).2; omega
    refine ⟨?_, hext.obj h2 (hnl l hEl), fun d hd hne => ?_⟩
    · have h4 := hJ (fun i => N i ∨ E i) A B (hplus N hN) (by have := (hE l hEl); omega) h1 (hext.mono fun i h => .inl h)
      have e : grow (fun i => N i ∨ E i) A B = fun i => grow N A B i ∨ E i := by
        funext i; apply propext; unfold grow
        exact or_right_comm
      rw [← e]; exact h4
    · have hlt : d < A.heap.size := by have := (hE d hd).2; omega
      rw [hext.block d hlt (hnl d hd)]; exact h3 d hd hne
  have stab2 : Stab W1.heap.size (fun N A => ∃ c, X c (fun i => N i ∨ E i) A ∧ A.heap[l]? = some (.loop { st with state := .done, pending := some c }) ∧ ∀ d, E d → d ≠ l → A.heap[d]? = W1.heap[d]?) := by
    intro N A B hN hA ⟨c, h⟩ hext
    exact ⟨c, stab (X c) _ (sX c) N A B hN hA h hext⟩
  refine Calls.mono (hcall l W1 (fun pre N A => I pre (fun i => N i ∨ E i) A ∧ A.heap[l]? = some (.loop st) ∧ ∀ d, E d → d ≠ l → A.heap[d]? = W1.heap[d]?)
    (fun N A => ∃ c, X c (fun i => N i ∨ E i) A ∧ A.heap[l]? = some (.loop { st with state := .done, pending := some c }) ∧ ∀ d, E d → d ≠ l → A.heap[d]? = W1.heap[d]?) hE0 (fun pre => stab _ st (sI pre)) stab2 ?_ ⟨?_, hl, fun _ _ _ => rfl⟩) ?_
  · -- one round
    rintro N pre x A hN hA ⟨hi, hlA, hdA⟩ hp
    have hy := run_yield (P := P) (args := (encs x).toArray) hlA (by rw [hpa]; simp [hlen])
    refine ⟨_, _, _, _, hy, ?_⟩
    have hN' : ∀ i, (N i ∨ E i) → n0 ≤ i ∧ i < A.heap.size := fun i h => ⟨hplus N (fun i h => (hN i h).1) i h, by rcases h with h | h; exact (hN i h).2; have := (hE i h).2; omega⟩
    have hr := hround (fun i => N i ∨ E i) pre x A (.inr hEl) hN' hA ⟨_, hlA⟩ hi hp
    have hsim : Sim n { tmps := ((st.params.zip (encs x).toArray).foldl (fun tmps (x : Nat × Value) => tmps.setIfInBounds x.1 x.2) st.tmps), defers := [] } (updN σ ps (encs x)) := by
      have := sim_params (n := n) ps (encs x) σ st.tmps hs hps
      rw [hpa]; simpa using this
    refine roundIn_of_wpIn trivial ?_
    refine wpIn_mono (hr hka _ hsim rfl) ?_
    rintro e a1 A1 ⟨σ1, hs1, hq⟩
    cases e with
    | normal =>
      obtain ⟨hD1, hE1, hbody⟩ := hq
      have hnl : ¬ Yc M w0 (fun i => N i ∨ E i) l := fun h => h.1 (.inr hEl)
      have hl1 : A1.heap[l]? = some (.loop st) := hE1.obj hlA hnl
      have hltA1 := (Array.getElem?_eq_some_iff.1 hl1).1
      refine ⟨_, run_beginRound hl1 hst, ?_⟩
      have hE2 : Ext (fun i => i = l) A1 (A1.putObj l (.loop { st with state := .busy })) := Ext.putObj _ _ _ _ rfl
      have hl2 : (A1.putObj l (.loop { st with state := .busy })).heap[l]? = some (.loop { st with state := .busy }) := World.putObj_heap_same hltA1
      have hsz : (A1.putObj l (.loop { st with state := .busy })).heap.size = A1.heap.size := by simp [World.putObj]
      refine wpIn_mono (hbody _ hE2 hsz ⟨_, hl2⟩ hkb a1 hs1 hD1) ?_
      -- what the end of a round leaves
      have mono1 : ∀ i, Yc M w0 (fun i => N i ∨ E i) i → Yc M w0 N i := fun i h => ⟨fun h' => h.1 (.inl h'), h.2⟩
      have hlY : Yc M w0 N l := ⟨fun h => by have := (hN l h).1; omega, .inr (by have := (hE l hEl).1; omega)⟩
      have fin : ∀ (jump : Option Code) (B0 : World), Ext (Yc M w0 (fun i => N i ∨ E i)) (A1.putObj l (.loop { st with state := .busy })) B0 →
          ∃ B, (Instr.endRound l jump).run P B0 = .ok (.bool jump.isNone) B ∧ Ext (Yc M w0 N) A B ∧ B.heap[l]? = some (.loop { st with state := if jump.isNone then .ready else .done, pending := jump }) ∧
            Ext (fun i => i = l) B0 B ∧ B.heap.size = B0.heap.size ∧ (∀ d, E d → d ≠ l → B.heap[d]? = W1.heap[d]?) := by
        intro jump B0 hB0
        have hl3 : B0.heap[l]? = some (.loop { st with state := .busy }) := hB0.obj hl2 hnl
        have hltB := (Array.getElem?_eq_some_iff.1 hl3).1
        have hend := run_endRound (P := P) jump hl3
        refine ⟨_, hend, ?_, World.putObj_heap_same hltB, Ext.putObj _ _ _ _ rfl, by simp [World.putObj], ?_⟩
        · exact (((hE1.mono mono1).trans (ext_one hE2 hlY)).trans (hB0.mono mono1)).trans (ext_one (Ext.putObj _ _ _ _ rfl) hlY)
        · intro d hd hne
          have hd1 : ¬ Yc M w0 (fun i => N i ∨ E i) d := fun h => h.1 (.inr hd)
          have hdlt : d < A.heap.size := by have := (hE d hd).2; omega
          rw [World.putObj_heap_other hne, hB0.block d (by rw [hsz]; have := hE1.size; omega) hd1, World.putObj_heap_other hne, hE1.block d hdlt hd1]
          exact hdA d hd hne
      have hlN : (fun i => N i ∨ E i) l := .inr hEl
      rintro e2 a2 B0 ⟨σ2, hs2, hq2⟩
      cases e2 with
      | normal =>
        obtain ⟨hB0, hI⟩ := hq2
        obtain ⟨B, h1, h2, h3, h4, h5, h6⟩ := fin none B0 hB0
        have hst3 : ({ st with state := (if (none : Option Code).isNone then .ready else .done), pending := none } : Loop) = st := by
          cases st; simp only at hst hpe; subst hst; subst hpe; rfl
        rw [hst3] at h3
        exact ⟨_, B, h1, true, rfl, h2, fun _ => ⟨(sI _).same (hplus N fun i h => (hN i h).1) (by have := hE l hEl; have := hB0.size; rw [hsz] at this; have := hE1.size; omega) hI (ext_one h4 hlN) h5, h3, h6⟩, fun h => (by cases h)⟩
      | ret =>
        obtain ⟨hB0, hI⟩ := hq2
        obtain ⟨B, h1, h2, h3, h4, h5, h6⟩ := fin (some .ret) B0 hB0
        exact ⟨_, B, h1, false, rfl, h2, fun h => (by cases h), fun _ => ⟨_, (sX _).same (hplus N fun i h => (hN i h).1) (by have := hE l hEl; have := hB0.size; rw [hsz] at this; have := hE1.size; omega) hI (ext_one h4 hlN) h5, h3, h6⟩⟩
      | exit id =>
        obtain ⟨hB0, hI⟩ := hq2
        obtain ⟨B, h1, h2, h3, h4, h5, h6⟩ := fin (some (.exit id)) B0 hB0
        exact ⟨_, B, h1, false, rfl, h2, fun h => (by cases h), fun _ => ⟨_, (sX _).same (hplus N fun i h => (hN i h).1) (by have := hE l hEl; have := hB0.size; rw [hsz] at this; have := hE1.size; omega) hI (ext_one h4 hlN) h5, h3, h6⟩⟩
      | goto t =>
        obtain ⟨hB0, hI⟩ := hq2
        obtain ⟨B, h1, h2, h3, h4, h5, h6⟩ := fin (some (.goto t)) B0 hB0
        exact ⟨_, B, h1, false, rfl, h2, fun h => (by cases h), fun _ => ⟨_, (sX _).same (hplus N fun i h => (hN i h).1) (by have := hE l hEl; have := hB0.size; rw [hsz] at this; have := hE1.size; omega) hI (ext_one h4 hlN) h5, h3, h6⟩⟩
      | panic ch => exact hq2.elim
      | outgrown => exact hq2.elim
    | _ => exact hq.elim
  · have e : (fun i => Non i ∨ E i) = E := by funext i; apply propext; simp
    show I [] (fun i => Non i ∨ E i) W1
    rw [e]; exact h0
  · rintro e W' ⟨v, N, he, hsz, hN, h⟩
    have hN' : ∀ i, (N i ∨ E i) → n0 ≤ i ∧ i < W'.heap.size := fun i h => ⟨hplus N (fun i h => (hN i h).1) i h, by rcases h with h | h; exact (hN i h).2; have := (hE i h).2; omega⟩
    rcases h with ⟨hi, hl', hd'⟩ | ⟨c, hx, hl', hd'⟩
    · exact ⟨v, _, st, he, hsz, hN', fun i h => .inr h, hl', by rw [hst]; simp, hd', .inl ⟨hpe, hi⟩⟩
    · exact ⟨v, _, _, he, hsz, hN', fun i h => .inr h, hl', by simp, hd', .inr ⟨c, rfl, hx⟩⟩
def mark (r : Nat) : Deferred := { target := .collected r, args := #[] }
def XOk (n : Nat) (X : Code → (Nat → Prop) → World → Prop) (c : Code) (N : Nat → Prop) (A : World) : Prop := okc n c = true ∧ X c N A
theorem RQ.ok {α : Type} {M : Nat → Prop} {w0 : World} {I : List α → (Nat → Prop) → World → Prop} {X : Code → (Nat → Prop) → World → Prop} {N : Nat → Prop} {xs : List α} {A : World} (e : Exit) (σ : Env) (D : List Deferred) (B : World)
    (h : RQ M w0 I X N xs A e σ D B) : RQ M w0 I (XOk n X) N xs A e σ D B := by
  cases e with
  | normal => exact h
  | ret => exact ⟨h.1, rfl, h.2⟩
  | exit id => exact ⟨h.1, rfl, h.2⟩
  | goto t => exact ⟨h.1, rfl, h.2⟩
  | panic ch => exact h.elim
  | outgrown => exact h.elim
theorem XOk.stab {n0 : Nat} {X : Code → (Nat → Prop) → World → Prop} (h : ∀ c, Stab n0 (X c)) (c : Code) : Stab n0 (XOk n X c) :=
  fun N A B hN hA hx hE => ⟨hx.1, h c N A B hN hA hx.2 hE⟩
/-- What a walk of a round owes: from the assignment of the loop's variables on. -/
def RoundW {α : Type} (P : Program) (n : Nat) (M : Nat → Prop) (w0 w : World) (I : List α → (Nat → Prop) → World → Prop) (X : Code → (Nat → Prop) → World → Prop) (assign body : Code) (σ : Env) (ps : List Nat) (encs : α → List Value) (xs : List α) : Prop :=
  ∀ l N pre x A, N l → (∀ i, N i → w.heap.size ≤ i ∧ i < A.heap.size) → w.heap.size ≤ A.heap.size → (∃ st, A.heap[l]? = some (.loop st)) → I pre N A → (∃ post, xs = pre ++ x :: post) →
    W (some l) P n assign (Then (fun σ1 D1 A1 => D1 = [] ∧ Ext (Yc M w0 N) A A1 ∧ ∀ A2, Ext (fun i => i = l) A1 A2 → A2.heap.size = A1.heap.size → (∃ st, A2.heap[l]? = some (.loop st)) → W (some l) P n body (RQ M w0 I X N (pre ++ [x]) A2) σ1 [] A2) NoQ) (updN σ ps (encs x)) [] A
theorem W_rangeFunc {α : Type} {gg : Operand} {assign body : Code} {M : Nat → Prop} {w0 : World} {I : List α → (Nat → Prop) → World → Prop} {X : Code → (Nat → Prop) → World → Prop} {fv : Value} {encs : α → List Value} {xs : List α} {ps : List Nat}
    (hg : ev σ gg = fv) (hit : Iter P M w0 fv (fun x => (encs x).toArray) xs) (hE0 : Ext M w0 w) (hlen : ∀ x, (encs x).length = ps.length)
    (sI : ∀ pre, Stab w.heap.size (I pre)) (sX : ∀ c, Stab w.heap.size (X c)) (h0 : I [] Non w)
    (hround : RoundW P n M w0 w I X assign body σ ps encs xs)
    (hdone : ∀ N r w', I xs N w' → (∀ i, N i → w.heap.size ≤ i ∧ i < w'.heap.size) → w.heap.size ≤ w'.heap.size → N r → w'.heap[r]? = some (.deferred (some [])) → Q .normal σ (mark r :: D) w')
    (hstop : ∀ c N r w', X c N w' → (∀ i, N i → w.heap.size ≤ i ∧ i < w'.heap.size) → w.heap.size ≤ w'.heap.size → N r → w'.heap[r]? = some (.deferred (some [])) → W none P n c Q σ (mark r :: D) w') :
    W none P n (.rangeFunc gg ps.toArray assign body) Q σ D w := by
  intro hk a hs hd
  simp only [okc, Bool.and_eq_true] at hk
  obtain ⟨⟨hka, hkb⟩, hkp⟩ := hk
  have hps : ∀ p ∈ ps, p < n := fun p hp => by simpa using (List.all_eq_true.1 hkp p (by simpa using hp))
  refine wpIn_rangeFunc ?_
  intro fn hfn
  show ∃ l mark w₁ d w₁' f args w₂, (Instr.enterLoop fn a.tmps ps.toArray assign body none).run P w = _ ∧ _
  obtain ⟨W1, hW1⟩ : ∃ W1, (w.alloc (.deferred (some []))).alloc (.loop { state := .ready, pending := none, fn, tmps := a.tmps, params := ps.toArray, assign, body, defers := w.heap.size }) = W1 := ⟨_, rfl⟩
  have hsz : W1.heap.size = w.heap.size + 2 := by rw [← hW1]; simp
  have hL1 : W1.heap[w.heap.size + 1]? = some (.loop { state := .ready, pending := none, fn, tmps := a.tmps, params := ps.toArray, assign, body, defers := w.heap.size }) := by
    rw [← hW1]; have := World.alloc_heap_new (w.alloc (.deferred (some []))) (.loop { state := .ready, pending := none, fn, tmps := a.tmps, params := ps.toArray, assign, body, defers := w.heap.size }); rwa [World.size_alloc] at this
  have hK1 : W1.heap[w.heap.size]? = some (.deferred (some [])) := by
    rw [← hW1]; exact (Below.heap_alloc _ _ _ (by simp)).trans (World.alloc_heap_new w _)
  have hE1 : Ext Non w W1 := by rw [← hW1]; exact (Ext.alloc _ _).trans (Ext.alloc _ _)
  have hgr : ∀ i, grow Non w W1 i ↔ (w.heap.size ≤ i ∧ i < W1.heap.size) := fun i => by unfold grow; simp
  obtain ⟨f, cap, hfv, hf, hcall⟩ := rf_core (n := n) (l := w.heap.size + 1) (fn := fn) (W1 := W1) (n0 := w.heap.size) (E := grow Non w W1) (X := XOk n X) (I := I) (σ := σ) hit (hE0.trans hE1.of_non) hka hkb hps hlen hL1 rfl rfl rfl rfl rfl
    ⟨hs.size, hs.agree⟩ ((hgr _).2 (by omega)) (fun i h => (hgr i).1 h) hE0.size sI (XOk.stab sX) (sI [] Non w W1 (fun i h => h.elim) (Nat.le_refl _) h0 hE1)
    (fun N pre x A hNl hN hA hst hi hp => (hround _ N pre x A hNl hN (by have := hE1.size; omega) hst hi hp).mono (by
      intro e σ1 D1 A1 hq
      cases e with
      | normal => exact ⟨hq.1, hq.2.1, fun A2 h1 h2 h3 => (hq.2.2 A2 h1 h2 h3).mono fun e σ D B h => RQ.ok e σ D B h⟩
      | _ => exact hq.elim))
  refine ⟨w.heap.size + 1, [mark w.heap.size], W1, { target := .fn (.func f) cap, args := #[.func (.yield (w.heap.size + 1)) #[] #[]] }, W1, f, #[.func (.yield (w.heap.size + 1)) #[] #[]] ++ cap, W1, ?_, ?_, fun _ _ => trivial, ?_, (fun h => by cases h), ?_⟩
  · rw [← hW1]; exact run_enterLoop_outer _ _ _ _ _
  · have : a.eval gg = .func (.func f) #[] cap := by rw [hs.eval, hg, hfv]
    simp only [resolve, this]; simp [Deferred.ofValue, Act.eval]
  · simp [invoke, run_enters hf]
  · refine callsIn_wide.2 (Calls.mono hcall ?_)
    rintro e W' ⟨v, N, st', he, hsz', hN, hEN, hl', hnb, hkeep, hend⟩
    subst he
    have hr : W'.heap[w.heap.size]? = some (.deferred (some [])) := by rw [hkeep _ ((hgr _).2 (by omega)) (by omega)]; exact hK1
    have hE2 : Ext (fun i => i = w.heap.size + 1) W' (W'.putObj (w.heap.size + 1) (.loop { st' with state := .exhausted })) := Ext.putObj _ _ _ _ rfl
    have hs2 : (W'.putObj (w.heap.size + 1) (.loop { st' with state := .exhausted })).heap.size = W'.heap.size := by simp [World.putObj]
    have hNl : N (w.heap.size + 1) := hEN _ ((hgr _).2 (by omega))
    have hNr : N w.heap.size := hEN _ ((hgr _).2 (by omega))
    have hr2 : (W'.putObj (w.heap.size + 1) (.loop { st' with state := .exhausted })).heap[w.heap.size]? = some (.deferred (some [])) := (World.putObj_heap_other (by omega)).trans hr
    have hend1 := run_endLoop (P := P) hl' (by exact hnb)
    have hle : w.heap.size ≤ W'.heap.size := by omega
    obtain ⟨W2, hW2⟩ : ∃ W2, W'.putObj (w.heap.size + 1) (.loop { st' with state := .exhausted }) = W2 := ⟨_, rfl⟩
    rw [hW2] at hE2 hs2 hr2 hend1
    refine ⟨st'.pending, W2, hend1, ?_⟩
    rcases hend with ⟨hp, hi⟩ | ⟨c, hp, hkc, hx⟩
    · rw [hp]
      exact ⟨σ, ⟨hs.size, hs.agree⟩, by rw [hd] ; exact hdone N _ _ ((sI xs).same (fun i h => (hN i h).1) hle hi (ext_one hE2 hNl) hs2) (fun i h => by rw [hs2]; exact hN i h) (by rw [hs2]; exact hle) hNr hr2⟩
    · rw [hp]
      exact hstop c N _ _ ((sX c).same (fun i h => (hN i h).1) hle hx (ext_one hE2 hNl) hs2) (fun i h => by rw [hs2]; exact hN i h) (by rw [hs2]; exact hle) hNr hr2 hkc { a with defers := mark w.heap.size :: a.defers } ⟨hs.size, hs.agree⟩ (by rw [hd])
end Go.Proofs.YthcclgoidchkdaaDoorC
