/- A range over a function, and what an iterator promises, in the calculus; each rule holds of whatever program. -/
import Derived.Test.YtjklgohpminefaaGreatDoorBunQ1
import Derived.Laws.StructEq
import Derived.ProofKit
import Derived.Carry
import Derived.Deep.Slices

set_option linter.unusedVariables false
set_option linter.unusedSimpArgs false
set_option maxRecDepth 1000000
namespace Go.Proofs.YtjklgohpminefaaGreatDoorC
open Go.RowKit
section
variable {ro : Option Nat} {P : Program} {n : Nat} {Q : QH} {σ : Env} {D : List Deferred} {w : World} {dst : Option Nat} {ty : TypeId} {pos : String} {af : Array Edge} {g : Option (Nat × Bool)}
variable {ops rest : List Oper} {K : Ops}
def grow (N : Nat → Prop) (A B : World) : Nat → Prop := fun i => N i ∨ (A.heap.size ≤ i ∧ i < B.heap.size)
def Z6 (n0 : Nat) (J : (Nat → Prop) → World → Prop) : Prop :=
 ∀ N A B, (∀ i, N i → n0 ≤ i) → n0 ≤ A.heap.size → J N A → Ext N A B → J (grow N A B) B
def Yc (M : Nat → Prop) (w0 : World) (N : Nat → Prop) : Nat → Prop := fun i => ¬ N i ∧ (M i ∨ w0.heap.size ≤ i)
def YieldOk (P : Program) (l : Nat) (args : Array Value) (A : World) (R : Bool → World → Prop) : Prop :=
 ∃ fn tmps assign body, (Instr.yield l args).run P A = .ok (.round l fn tmps assign body) A ∧ RoundIn Fence.wide 0 P l fn tmps assign body A fun e w' => ∃ b, e = .returned (.bool b) ∧ R b w'
def J2 {α : Type} (P : Program) (M : Nat → Prop) (w0 : World) (fv : Value) (encs : α → Array Value) (xs : List α) : Prop :=
 ∃ f cap, fv = .func (.func f) #[] cap ∧ Xa P f = true ∧
 ∀ (l : Nat) (W : World) (J : List α → (Nat → Prop) → World → Prop) (Jx : (Nat → Prop) → World → Prop), Ext M w0 W → (∀ pre, Z6 W.heap.size (J pre)) → Z6 W.heap.size Jx →
  (∀ N pre x A, (∀ i, N i → W.heap.size ≤ i ∧ i < A.heap.size) → W.heap.size ≤ A.heap.size → J pre N A → (∃ post, xs = pre ++ x :: post) →
   YieldOk P l (encs x) A fun b B => Ext (Yc M w0 N) A B ∧ (b = true → J (pre ++ [x]) N B) ∧ (b = false → Jx N B)) →
  J [] Non W →
  Calls P f (#[.func (.yield l) #[] #[]] ++ cap) W fun e W' => ∃ v N, e = .returned v ∧ W.heap.size ≤ W'.heap.size ∧ (∀ i, N i → W.heap.size ≤ i ∧ i < W'.heap.size) ∧ (J xs N W' ∨ Jx N W')
theorem J2.ext {α : Type} {M M' : Nat → Prop} {w0 w1 : World} {fv : Value} {encs : α → Array Value} {xs : List α} (h : J2 P M w0 fv encs xs) (hE : Ext M w0 w1) (hM : ∀ i, M' i → i < w0.heap.size → M i) : J2 P M' w1 fv encs xs := by
 obtain ⟨f, cap, h1, h2, h3⟩ := h
 refine ⟨f, cap, h1, h2, fun l W J Jx hW hJ hJx hY h0 => h3 l W J Jx ?_ hJ hJx (fun N pre x A hN hA hj hp => ?_) h0⟩
 ·exact ⟨hW.os.trans hE.os, hW.tape.trans hE.tape, hW.output.trans hE.output, Zle hE.size hW.size, fun i hi hm => (hW.block i (Zlt hi hE.size) (fun h => hm (hM i h hi))).trans (hE.block i hi hm)⟩
 ·obtain ⟨fn, tmps, assign, body, hy, hr⟩ := hY N pre x A hN hA hj hp
  refine ⟨fn, tmps, assign, body, hy, hr.mono ?_⟩
  rintro e w' ⟨b, he, hE', h4⟩
  refine ⟨b, he, hE'.mono ?_, h4⟩
  rintro i ⟨h5, h6⟩
  refine ⟨h5, ?_⟩
  rcases Nat.lt_or_ge i w0.heap.size with hi | hi
  ·rcases h6 with h6 | h6
   ·exact .inl (hM i h6 hi)
   ·have := hE.size; omega
  ·exact .inr hi
theorem J3 {x : Operand} {l : Nat} {ags : List Operand} {ts : Array TypeId} {args : List Value} {R : Bool → World → Prop} (hx : ev σ x = .func (.yield l) #[] #[]) (ha : ags.map (ev σ) = args) (h : YieldOk P l args.toArray w R)
  (k : ∀ b w', R b w' → wl P ops rest K (put σ dst (.bool b)) w') : wl P ops (⟨dst, .call ⟨.value x, ags.toArray, ts⟩, ty, pos, af, none⟩ :: rest) K σ w := by
 obtain ⟨fn, tmps, assign, body, hy, hr⟩ := h
 show XR P ops _ σ w _
 rw [Qn]; unfold op1
 have e : (execOp (ev σ) ⟨dst, .call ⟨.value x, ags.toArray, ts⟩, ty, pos, af, none⟩).run P w = .ok (.round l fn tmps assign body) w := by
  simp [execOp, resolve, hx, ha, Deferred.ofValue, invoke, hy]
 rw [e]
 exact RoundIn.mono hr fun e w' hx => by obtain ⟨b, h1, h2⟩ := hx; exact ⟨.bool b, h1, k b w' h2⟩
def updN (σ : Env) : List Nat → List Value → Env
 | d :: ds, v :: vs => updN (upd σ d v) ds vs
 | _, _ => σ
theorem sim_params : ∀ (ps : List Nat) (vs : List Value) (σ : Env) (tmps : Array Value), Sim n { tmps := tmps, defers := [] } σ → (∀ p ∈ ps, p < n) →
  Sim n { tmps := ((ps.zip vs).foldl (fun t (p : Nat × Value) => t.setIfInBounds p.1 p.2) tmps), defers := [] } (updN σ ps vs)
 | [], _, σ, tmps, h, _ => h
 | _ :: _, [], σ, tmps, h, _ => h
 | p :: ps, v :: vs, σ, tmps, h, hp => by
  simp only [List.zip_cons_cons, List.foldl_cons, updN]
  have h1 := h.put (some p) v (fun d e => by cases e; exact hp p (by simp))
  exact sim_params ps vs (upd σ p v) _ h1 (fun q hq => hp q (by simp [hq]))
def RQ {α : Type} (M : Nat → Prop) (w0 : World) (I : List α → (Nat → Prop) → World → Prop) (X : Code → (Nat → Prop) → World → Prop) (N : Nat → Prop) (xs : List α) (A : World) : QH
 | .normal, _, _, B => Ext (Yc M w0 N) A B ∧ I xs N B
 | .ret, _, _, B => Ext (Yc M w0 N) A B ∧ X .ret N B
 | .exit id, _, _, B => Ext (Yc M w0 N) A B ∧ X (.exit id) N B
 | .goto t, _, _, B => Ext (Yc M w0 N) A B ∧ X (.goto t) N B
 | _, _, _, _ => False
def NoQ : QH := fun _ _ _ _ => False
theorem grow_same {N : Nat → Prop} {A B : World} (h : B.heap.size = A.heap.size) : grow N A B = N := by
 funext i; apply propext; unfold grow; constructor
 ·rintro (h1 | ⟨h1, h2⟩)
  ·exact h1
  ·omega
 ·exact .inl
theorem Z6.same {n0 : Nat} {J : (Nat → Prop) → World → Prop} (hJ : Z6 n0 J) {N : Nat → Prop} {A B : World} (hN : ∀ i, N i → n0 ≤ i) (hA : n0 ≤ A.heap.size) (h : J N A) (hE : Ext N A B) (hs : B.heap.size = A.heap.size) : J N B := by
 have := hJ N A B hN hA h hE; rwa [grow_same hs] at this
theorem Qf {l : Nat} {N : Nat → Prop} {A B : World} (h : Ext (fun i => i = l) A B) (hN : N l) : Ext N A B := h.mono fun i e => by rw [e]; exact hN
theorem rf_core {α : Type} {l fn : Nat} {st : Loop} {assign body : Code} {M : Nat → Prop} {w0 : World} {I : List α → (Nat → Prop) → World → Prop} {X : Code → (Nat → Prop) → World → Prop} {n0 : Nat} {E : Nat → Prop} {W1 : World} {σ : Env} {fv : Value} {encs : α → List Value} {xs : List α} {ps : List Nat}
  (hit : J2 P M w0 fv (fun x => (encs x).toArray) xs) (hE0 : Ext M w0 W1) (hka : okc n assign = true) (hkb : okc n body = true) (hps : ∀ p ∈ ps, p < n) (hlen : ∀ x, (encs x).length = ps.length)
  (hl : W1.heap[l]? = some (.loop st)) (hst : st.state = .ready) (hpe : st.pending = none) (hpa : st.params = ps.toArray) (has : st.assign = assign) (hbo : st.body = body) (hs : Sim n { tmps := st.tmps, defers := [] } σ)
  (El : E l) (hE : ∀ i, E i → n0 ≤ i ∧ i < W1.heap.size) (hn0 : w0.heap.size ≤ n0) (sI : ∀ pre, Z6 n0 (I pre)) (sX : ∀ c, Z6 n0 (X c)) (h0 : I [] E W1)
  (hround : ∀ N pre x A, N l → (∀ i, N i → n0 ≤ i ∧ i < A.heap.size) → W1.heap.size ≤ A.heap.size → (∃ st, A.heap[l]? = some (.loop st)) → I pre N A → (∃ post, xs = pre ++ x :: post) →
   W (some l) P n assign (Then (fun σ1 D1 A1 => D1 = [] ∧ Ext (Yc M w0 N) A A1 ∧ ∀ A2, Ext (fun i => i = l) A1 A2 → A2.heap.size = A1.heap.size → (∃ st, A2.heap[l]? = some (.loop st)) → W (some l) P n body (RQ M w0 I X N (pre ++ [x]) A2) σ1 [] A2) NoQ) (updN σ ps (encs x)) [] A) :
  ∃ f cap, fv = .func (.func f) #[] cap ∧ Xa P f = true ∧
   Calls P f (#[.func (.yield l) #[] #[]] ++ cap) W1 fun e W' => ∃ v N st', e = .returned v ∧ W1.heap.size ≤ W'.heap.size ∧ (∀ i, N i → n0 ≤ i ∧ i < W'.heap.size) ∧ (∀ i, E i → N i) ∧ W'.heap[l]? = some (.loop st') ∧ st'.state ≠ .busy ∧
    (∀ d, E d → d ≠ l → W'.heap[d]? = W1.heap[d]?) ∧ ((st'.pending = none ∧ I xs N W') ∨ ∃ c, st'.pending = some c ∧ X c N W') := by
 subst has
 subst hbo
 obtain ⟨f, cap, hfv, hf, hcall⟩ := hit
 refine ⟨f, cap, hfv, hf, ?_⟩
 have hlt1 := (Array.getElem?_eq_some_iff.1 hl).1
 have hplus : ∀ N : Nat → Prop, (∀ i, N i → W1.heap.size ≤ i) → ∀ i, (N i ∨ E i) → n0 ≤ i := fun N hN i h => by
  rcases h with h | h
  ·have := hN i h; have := (hE l El); omega
  ·exact (hE i h).1
 have stab : ∀ (J : (Nat → Prop) → World → Prop) (st' : Loop), Z6 n0 J → Z6 W1.heap.size (fun N A => J (fun i => N i ∨ E i) A ∧ A.heap[l]? = some (.loop st') ∧ ∀ d, E d → d ≠ l → A.heap[d]? = W1.heap[d]?) := by
  intro J st' hJ N A B hN hA ⟨h1, h2, h3⟩ hext
  have hnl : ∀ d, E d → ¬ N d := fun d hd h => by have := hN d h; have := (hE d hd).2; omega
  refine ⟨?_, hext.obj h2 (hnl l El), fun d hd hne => ?_⟩
  ·have h4 := hJ (fun i => N i ∨ E i) A B (hplus N hN) (by have := (hE l El); omega) h1 (hext.mono fun i h => .inl h)
   have e : grow (fun i => N i ∨ E i) A B = fun i => grow N A B i ∨ E i := by
    funext i; apply propext; unfold grow
    exact or_right_comm
   rw [← e]; exact h4
  ·have hlt : d < A.heap.size := by have := (hE d hd).2; omega
   rw [hext.block d hlt (hnl d hd)]; exact h3 d hd hne
 have stab2 : Z6 W1.heap.size (fun N A => ∃ c, X c (fun i => N i ∨ E i) A ∧ A.heap[l]? = some (.loop { st with state := .done, pending := some c }) ∧ ∀ d, E d → d ≠ l → A.heap[d]? = W1.heap[d]?) := by
  intro N A B hN hA ⟨c, h⟩ hext
  exact ⟨c, stab (X c) _ (sX c) N A B hN hA h hext⟩
 refine Calls.mono (hcall l W1 (fun pre N A => I pre (fun i => N i ∨ E i) A ∧ A.heap[l]? = some (.loop st) ∧ ∀ d, E d → d ≠ l → A.heap[d]? = W1.heap[d]?)
  (fun N A => ∃ c, X c (fun i => N i ∨ E i) A ∧ A.heap[l]? = some (.loop { st with state := .done, pending := some c }) ∧ ∀ d, E d → d ≠ l → A.heap[d]? = W1.heap[d]?) hE0 (fun pre => stab _ st (sI pre)) stab2 ?_ ⟨?_, hl, fun _ _ _ => rfl⟩) ?_
 ·
  rintro N pre x A hN hA ⟨hi, hlA, hdA⟩ hp
  have hy := run_yield (P := P) (args := (encs x).toArray) hlA (by rw [hpa]; simp [hlen])
  refine ⟨_, _, _, _, hy, ?_⟩
  have hN' : ∀ i, (N i ∨ E i) → n0 ≤ i ∧ i < A.heap.size := fun i h => ⟨hplus N (fun i h => (hN i h).1) i h, by rcases h with h | h; exact (hN i h).2; have := (hE i h).2; omega⟩
  have hr := hround (fun i => N i ∨ E i) pre x A (.inr El) hN' hA ⟨_, hlA⟩ hi hp
  have hsim : Sim n { tmps := ((st.params.zip (encs x).toArray).foldl (fun tmps (x : Nat × Value) => tmps.setIfInBounds x.1 x.2) st.tmps), defers := [] } (updN σ ps (encs x)) := by
   have := sim_params (n := n) ps (encs x) σ st.tmps hs hps
   rw [hpa]; simpa using this
  refine roundIn_of_wpIn trivial ?_
  refine wpIn_mono (hr hka _ hsim rfl) ?_
  rintro e a1 A1 ⟨σ1, hs1, hq⟩
  cases e with
  | normal =>
   obtain ⟨hD1, E1, hbody⟩ := hq
   have hnl : ¬ Yc M w0 (fun i => N i ∨ E i) l := fun h => h.1 (.inr El)
   have hl1 : A1.heap[l]? = some (.loop st) := E1.obj hlA hnl
   have hltA1 := (Array.getElem?_eq_some_iff.1 hl1).1
   refine ⟨_, run_beginRound hl1 hst, ?_⟩
   have E2 : Ext (fun i => i = l) A1 (A1.putObj l (.loop { st with state := .busy })) := Ext.putObj _ _ _ _ rfl
   have hl2 : (A1.putObj l (.loop { st with state := .busy })).heap[l]? = some (.loop { st with state := .busy }) := World.putObj_heap_same hltA1
   have hsz : (A1.putObj l (.loop { st with state := .busy })).heap.size = A1.heap.size := by simp [World.putObj]
   refine wpIn_mono (hbody _ E2 hsz ⟨_, hl2⟩ hkb a1 hs1 hD1) ?_
   have mono1 : ∀ i, Yc M w0 (fun i => N i ∨ E i) i → Yc M w0 N i := fun i h => ⟨fun h' => h.1 (.inl h'), h.2⟩
   have hlY : Yc M w0 N l := ⟨fun h => by have := (hN l h).1; omega, .inr (by have := (hE l El).1; omega)⟩
   have fin : ∀ (jump : Option Code) (B0 : World), Ext (Yc M w0 (fun i => N i ∨ E i)) (A1.putObj l (.loop { st with state := .busy })) B0 →
     ∃ B, (Instr.endRound l jump).run P B0 = .ok (.bool jump.isNone) B ∧ Ext (Yc M w0 N) A B ∧ B.heap[l]? = some (.loop { st with state := if jump.isNone then .ready else .done, pending := jump }) ∧
      Ext (fun i => i = l) B0 B ∧ B.heap.size = B0.heap.size ∧ (∀ d, E d → d ≠ l → B.heap[d]? = W1.heap[d]?) := by
    intro jump B0 hB0
    have hl3 : B0.heap[l]? = some (.loop { st with state := .busy }) := hB0.obj hl2 hnl
    have hltB := (Array.getElem?_eq_some_iff.1 hl3).1
    have hend := run_endRound (P := P) jump hl3
    refine ⟨_, hend, ?_, World.putObj_heap_same hltB, Ext.putObj _ _ _ _ rfl, by simp [World.putObj], ?_⟩
    ·exact (((E1.mono mono1).trans (Qf E2 hlY)).trans (hB0.mono mono1)).trans (Qf (Ext.putObj _ _ _ _ rfl) hlY)
    ·intro d hd hne
     have hd1 : ¬ Yc M w0 (fun i => N i ∨ E i) d := fun h => h.1 (.inr hd)
     have hdlt : d < A.heap.size := by have := (hE d hd).2; omega
     rw [World.putObj_heap_other hne, hB0.block d (by rw [hsz]; have := E1.size; omega) hd1, World.putObj_heap_other hne, E1.block d hdlt hd1]
     exact hdA d hd hne
   have hlN : (fun i => N i ∨ E i) l := .inr El
   rintro e2 a2 B0 ⟨σ2, hs2, hq2⟩
   cases e2 with
   | normal =>
    obtain ⟨hB0, hI⟩ := hq2
    obtain ⟨B, h1, h2, h3, h4, h5, h6⟩ := fin none B0 hB0
    have hst3 : ({ st with state := (if (none : Option Code).isNone then .ready else .done), pending := none } : Loop) = st := by
     cases st; simp only at hst hpe; subst hst; subst hpe; rfl
    rw [hst3] at h3
    exact ⟨_, B, h1, true, rfl, h2, fun _ => ⟨(sI _).same (hplus N fun i h => (hN i h).1) (by have := hE l El; have := hB0.size; rw [hsz] at this; have := E1.size; omega) hI (Qf h4 hlN) h5, h3, h6⟩, fun h => (by cases h)⟩
   | ret =>
    obtain ⟨hB0, hI⟩ := hq2
    obtain ⟨B, h1, h2, h3, h4, h5, h6⟩ := fin (some .ret) B0 hB0
    exact ⟨_, B, h1, false, rfl, h2, fun h => (by cases h), fun _ => ⟨_, (sX _).same (hplus N fun i h => (hN i h).1) (by have := hE l El; have := hB0.size; rw [hsz] at this; have := E1.size; omega) hI (Qf h4 hlN) h5, h3, h6⟩⟩
   | exit id =>
    obtain ⟨hB0, hI⟩ := hq2
    obtain ⟨B, h1, h2, h3, h4, h5, h6⟩ := fin (some (.exit id)) B0 hB0
    exact ⟨_, B, h1, false, rfl, h2, fun h => (by cases h), fun _ => ⟨_, (sX _).same (hplus N fun i h => (hN i h).1) (by have := hE l El; have := hB0.size; rw [hsz] at this; have := E1.size; omega) hI (Qf h4 hlN) h5, h3, h6⟩⟩
   | goto t =>
    obtain ⟨hB0, hI⟩ := hq2
    obtain ⟨B, h1, h2, h3, h4, h5, h6⟩ := fin (some (.goto t)) B0 hB0
    exact ⟨_, B, h1, false, rfl, h2, fun h => (by cases h), fun _ => ⟨_, (sX _).same (hplus N fun i h => (hN i h).1) (by have := hE l El; have := hB0.size; rw [hsz] at this; have := E1.size; omega) hI (Qf h4 hlN) h5, h3, h6⟩⟩
   | panic ch => exact hq2.elim
   | outgrown => exact hq2.elim
  | _ => exact hq.elim
 ·have e : (fun i => Non i ∨ E i) = E := by funext i; apply propext; simp
  show I [] (fun i => Non i ∨ E i) W1
  rw [e]; exact h0
 ·rintro e W' ⟨v, N, he, hsz, hN, h⟩
  have hN' : ∀ i, (N i ∨ E i) → n0 ≤ i ∧ i < W'.heap.size := fun i h => ⟨hplus N (fun i h => (hN i h).1) i h, by rcases h with h | h; exact (hN i h).2; have := (hE i h).2; omega⟩
  rcases h with ⟨hi, hl', hd'⟩ | ⟨c, hx, hl', hd'⟩
  ·exact ⟨v, _, st, he, hsz, hN', fun i h => .inr h, hl', by rw [hst]; simp, hd', .inl ⟨hpe, hi⟩⟩
  ·exact ⟨v, _, _, he, hsz, hN', fun i h => .inr h, hl', by simp, hd', .inr ⟨c, rfl, hx⟩⟩
def Jc (r : Nat) : Deferred := { target := .collected r, args := #[] }
def XOk (n : Nat) (X : Code → (Nat → Prop) → World → Prop) (c : Code) (N : Nat → Prop) (A : World) : Prop := okc n c = true ∧ X c N A
theorem RQ.ok {α : Type} {M : Nat → Prop} {w0 : World} {I : List α → (Nat → Prop) → World → Prop} {X : Code → (Nat → Prop) → World → Prop} {N : Nat → Prop} {xs : List α} {A : World} (e : Exit) (σ : Env) (D : List Deferred) (B : World)
  (h : RQ M w0 I X N xs A e σ D B) : RQ M w0 I (XOk n X) N xs A e σ D B := by
 cases e with
 | normal => exact h
 | ret => exact ⟨h.1, rfl, h.2⟩
 | exit id => exact ⟨h.1, rfl, h.2⟩
 | goto t => exact ⟨h.1, rfl, h.2⟩
 | panic ch => exact h.elim
 | outgrown => exact h.elim
theorem XOk.stab {n0 : Nat} {X : Code → (Nat → Prop) → World → Prop} (h : ∀ c, Z6 n0 (X c)) (c : Code) : Z6 n0 (XOk n X c) :=
 fun N A B hN hA hx hE => ⟨hx.1, h c N A B hN hA hx.2 hE⟩
def RoundW {α : Type} (P : Program) (n : Nat) (M : Nat → Prop) (w0 w : World) (I : List α → (Nat → Prop) → World → Prop) (X : Code → (Nat → Prop) → World → Prop) (assign body : Code) (σ : Env) (ps : List Nat) (encs : α → List Value) (xs : List α) : Prop :=
 ∀ l N pre x A, N l → (∀ i, N i → w.heap.size ≤ i ∧ i < A.heap.size) → w.heap.size ≤ A.heap.size → (∃ st, A.heap[l]? = some (.loop st)) → I pre N A → (∃ post, xs = pre ++ x :: post) →
  W (some l) P n assign (Then (fun σ1 D1 A1 => D1 = [] ∧ Ext (Yc M w0 N) A A1 ∧ ∀ A2, Ext (fun i => i = l) A1 A2 → A2.heap.size = A1.heap.size → (∃ st, A2.heap[l]? = some (.loop st)) → W (some l) P n body (RQ M w0 I X N (pre ++ [x]) A2) σ1 [] A2) NoQ) (updN σ ps (encs x)) [] A
theorem Qb {α : Type} {gg : Operand} {assign body : Code} {M : Nat → Prop} {w0 : World} {I : List α → (Nat → Prop) → World → Prop} {X : Code → (Nat → Prop) → World → Prop} {fv : Value} {encs : α → List Value} {xs : List α} {ps : List Nat}
  (hg : ev σ gg = fv) (hit : J2 P M w0 fv (fun x => (encs x).toArray) xs) (hE0 : Ext M w0 w) (hlen : ∀ x, (encs x).length = ps.length)
  (sI : ∀ pre, Z6 w.heap.size (I pre)) (sX : ∀ c, Z6 w.heap.size (X c)) (h0 : I [] Non w)
  (hround : RoundW P n M w0 w I X assign body σ ps encs xs)
  (hdone : ∀ N r w', I xs N w' → (∀ i, N i → w.heap.size ≤ i ∧ i < w'.heap.size) → w.heap.size ≤ w'.heap.size → N r → w'.heap[r]? = some (.deferred (some [])) → Q .normal σ (Jc r :: D) w')
  (hstop : ∀ c N r w', X c N w' → (∀ i, N i → w.heap.size ≤ i ∧ i < w'.heap.size) → w.heap.size ≤ w'.heap.size → N r → w'.heap[r]? = some (.deferred (some [])) → W none P n c Q σ (Jc r :: D) w') :
  W none P n (.rangeFunc gg ps.toArray assign body) Q σ D w := by
 intro hk a hs hd
 simp only [okc, Bool.and_eq_true] at hk
 obtain ⟨⟨hka, hkb⟩, hkp⟩ := hk
 have hps : ∀ p ∈ ps, p < n := fun p hp => by simpa using (List.all_eq_true.1 hkp p (by simpa using hp))
 refine wpIn_rangeFunc ?_
 intro fn hfn
 show ∃ l Jc w₁ d w₁' f args w₂, (Instr.enterLoop fn a.tmps ps.toArray assign body none).run P w = _ ∧ _
 obtain ⟨W1, hW1⟩ : ∃ W1, (w.alloc (.deferred (some []))).alloc (.loop { state := .ready, pending := none, fn, tmps := a.tmps, params := ps.toArray, assign, body, defers := w.heap.size }) = W1 := ⟨_, rfl⟩
 have hsz : W1.heap.size = w.heap.size + 2 := by rw [← hW1]; simp
 have hL1 : W1.heap[w.heap.size + 1]? = some (.loop { state := .ready, pending := none, fn, tmps := a.tmps, params := ps.toArray, assign, body, defers := w.heap.size }) := by
  rw [← hW1]; have := World.alloc_heap_new (w.alloc (.deferred (some []))) (.loop { state := .ready, pending := none, fn, tmps := a.tmps, params := ps.toArray, assign, body, defers := w.heap.size }); rwa [World.size_alloc] at this
 have hK1 : W1.heap[w.heap.size]? = some (.deferred (some [])) := by
  rw [← hW1]; exact (Below.heap_alloc _ _ _ (by simp)).trans (World.alloc_heap_new w _)
 have E1 : Ext Non w W1 := by rw [← hW1]; exact (Ext.alloc _ _).trans (Ext.alloc _ _)
 have hgr : ∀ i, grow Non w W1 i ↔ (w.heap.size ≤ i ∧ i < W1.heap.size) := fun i => by unfold grow; simp
 obtain ⟨f, cap, hfv, hf, hcall⟩ := rf_core (n := n) (l := w.heap.size + 1) (fn := fn) (W1 := W1) (n0 := w.heap.size) (E := grow Non w W1) (X := XOk n X) (I := I) (σ := σ) hit (hE0.trans E1.of_non) hka hkb hps hlen hL1 rfl rfl rfl rfl rfl
  ⟨hs.size, hs.agree⟩ ((hgr _).2 (by omega)) (fun i h => (hgr i).1 h) hE0.size sI (XOk.stab sX) (sI [] Non w W1 (fun i h => h.elim) (Nat.le_refl _) h0 E1)
  (fun N pre x A hNl hN hA hst hi hp => (hround _ N pre x A hNl hN (by have := E1.size; omega) hst hi hp).mono (by
   intro e σ1 D1 A1 hq
   cases e with
   | normal => exact ⟨hq.1, hq.2.1, fun A2 h1 h2 h3 => (hq.2.2 A2 h1 h2 h3).mono fun e σ D B h => RQ.ok e σ D B h⟩
   | _ => exact hq.elim))
 refine ⟨w.heap.size + 1, [Jc w.heap.size], W1, { target := .fn (.func f) cap, args := #[.func (.yield (w.heap.size + 1)) #[] #[]] }, W1, f, #[.func (.yield (w.heap.size + 1)) #[] #[]] ++ cap, W1, ?_, ?_, fun _ _ => trivial, ?_, (fun h => by cases h), ?_⟩
 ·rw [← hW1]; exact run_enterLoop_outer _ _ _ _ _
 ·have : a.eval gg = .func (.func f) #[] cap := by rw [hs.eval, hg, hfv]
  simp only [resolve, this]; simp [Deferred.ofValue, Act.eval]
 ·simp [invoke, QY hf]
 ·refine callsIn_wide.2 (Calls.mono hcall ?_)
  rintro e W' ⟨v, N, st', he, hsz', hN, hEN, hl', hnb, hkeep, hend⟩
  subst he
  have hr : W'.heap[w.heap.size]? = some (.deferred (some [])) := by rw [hkeep _ ((hgr _).2 (by omega)) (by omega)]; exact hK1
  have E2 : Ext (fun i => i = w.heap.size + 1) W' (W'.putObj (w.heap.size + 1) (.loop { st' with state := .exhausted })) := Ext.putObj _ _ _ _ rfl
  have hs2 : (W'.putObj (w.heap.size + 1) (.loop { st' with state := .exhausted })).heap.size = W'.heap.size := by simp [World.putObj]
  have hNl : N (w.heap.size + 1) := hEN _ ((hgr _).2 (by omega))
  have hNr : N w.heap.size := hEN _ ((hgr _).2 (by omega))
  have hr2 : (W'.putObj (w.heap.size + 1) (.loop { st' with state := .exhausted })).heap[w.heap.size]? = some (.deferred (some [])) := (World.putObj_heap_other (by omega)).trans hr
  have hend1 := run_endLoop (P := P) hl' (by exact hnb)
  have hle : w.heap.size ≤ W'.heap.size := by omega
  obtain ⟨W2, hW2⟩ : ∃ W2, W'.putObj (w.heap.size + 1) (.loop { st' with state := .exhausted }) = W2 := ⟨_, rfl⟩
  rw [hW2] at E2 hs2 hr2 hend1
  refine ⟨st'.pending, W2, hend1, ?_⟩
  rcases hend with ⟨hp, hi⟩ | ⟨c, hp, hkc, hx⟩
  ·rw [hp]
   exact ⟨σ, ⟨hs.size, hs.agree⟩, by rw [hd] ; exact hdone N _ _ ((sI xs).same (fun i h => (hN i h).1) hle hi (Qf E2 hNl) hs2) (fun i h => by rw [hs2]; exact hN i h) (by rw [hs2]; exact hle) hNr hr2⟩
  ·rw [hp]
   exact hstop c N _ _ ((sX c).same (fun i h => (hN i h).1) hle hx (Qf E2 hNl) hs2) (fun i h => by rw [hs2]; exact hN i h) (by rw [hs2]; exact hle) hNr hr2 hkc { a with defers := Jc w.heap.size :: a.defers } ⟨hs.size, hs.agree⟩ (by rw [hd])
end
section
variable {ro : Option Nat} {P : Program} {n : Nat} {Q : QH} {σ : Env} {D : List Deferred} {w : World}
def Holds : List Nat → List Value → Env → Prop
 | d :: ds, v :: vs, σ => σ d = v ∧ Holds ds vs σ
 | _, _, _ => True
theorem upd_self {σ : Env} {d : Nat} {v : Value} (h : σ d = v) : upd σ d v = σ := by
 funext i
 by_cases e : i = d
 ·subst e; rw [upd_eq, h]
 ·rw [upd_ne _ _ _ _ e]
theorem updN_self : ∀ (ds : List Nat) (vs : List Value) (σ : Env), Holds ds vs σ → updN σ ds vs = σ
 | [], _, _, _ => rfl
 | _ :: _, [], _, _ => rfl
 | d :: ds, v :: vs, σ, h => by
  unfold updN
  rw [upd_self h.1]
  exact updN_self ds vs σ h.2
theorem least_ex (p : Nat → Prop) (k : Nat) (h : p k) : ∃ m, p m ∧ ∀ j, p j → m ≤ j := by
 induction k using Nat.strongRecOn with
 | _ k ih =>
  by_cases h2 : ∃ j, j < k ∧ p j
  ·obtain ⟨j, h3, h4⟩ := h2; exact ih j h3 h4
  ·exact ⟨k, h, fun j hj => Nat.le_of_not_lt fun h3 => h2 ⟨j, h3, hj⟩⟩
open Classical in
noncomputable def least (p : Nat → Prop) : Nat := if h : ∃ m, p m ∧ ∀ j, p j → m ≤ j then Classical.choose h else 0
theorem least_spec {p : Nat → Prop} {k : Nat} (h : p k) : p (least p) ∧ least p ≤ k := by
 have h1 := least_ex p k h
 unfold least
 rw [dif_pos h1]
 have := Classical.choose_spec h1
 exact ⟨this.1, this.2 k h⟩
theorem Xt {S : Type} {c : Code} (ls : List Nat) (f : S → List Value) (I : S → World → Prop) (μ : S → Nat) (s0 : S) (h0 : Holds ls (f s0) σ) (hi : I s0 w)
  (hr : ∀ τ s A, I s A → W ro P n c (Then (fun σ' D' A' => D' = D ∧ ∃ s', Holds ls (f s') σ' ∧ I s' A' ∧ μ s' < μ s) Q) (updN τ ls (f s)) D A) : W ro P n (.loop c) Q σ D w := by
 let R : Env → World → Nat → Prop := fun σ w k => ∃ s, Holds ls (f s) σ ∧ I s w ∧ μ s = k
 refine W_loop (fun σ' D' w' => D' = D ∧ ∃ k, R σ' w' k) (fun σ' w' => least (R σ' w')) ⟨rfl, _, s0, h0, hi, rfl⟩ ?_
 rintro σ1 D1 w1 ⟨rfl, k, hk⟩
 obtain ⟨⟨s, hs1, hs2, hs3⟩, _⟩ := least_spec hk
 have := hr σ1 s w1 hs2
 rw [updN_self _ _ _ hs1] at this
 refine this.mono ?_
 intro e σ2 D2 w2 hq
 cases e with
 | normal =>
  obtain ⟨hD, s', h1, h2, h3⟩ := hq
  have hk2 : R σ2 w2 (μ s') := ⟨s', h1, h2, rfl⟩
  have := (least_spec hk2).2
  exact ⟨⟨hD, _, hk2⟩, by show least (R σ2 w2) < least (R σ1 w1); omega⟩
 | _ => exact hq
end
section
variable {ro : Option Nat} {P : Program} {n : Nat} {Q : QH} {σ : Env} {D : List Deferred} {w : World} {dst : Option Nat} {ty : TypeId} {pos : String} {af : Array Edge} {g : Option (Nat × Bool)}
theorem Yi (a : Addr) (m n : Nat) : (a.add m).add n = a.add (m + n) := by
 unfold Addr.add
 by_cases h1 : m = 0
 ·subst h1; simp
 ·by_cases h2 : n = 0
  ·subst h2; simp [h1]
  ·simp [h1, h2, Nat.add_assoc]
section elems
variable {M : Nat → Prop} {a : Addr} {m c k : Nat} {rows : List (List Value)} {i : Nat} {r : List Value} {u : Value} {d e f : Nat}
theorem Sl.at0 (h : Sl M w (.slice (some a) m c) k rows) (hi : rows[i]? = some r) (hd : r[0]? = some u) : w.cell? (a.add (i * k)) = some u := h.cell (d := 0) hi hd
theorem Sl.at1 (h : Sl M w (.slice (some a) m c) k rows) (hi : rows[i]? = some r) (hd : r[d]? = some u) : w.cell? ((a.add (i * k)).add d) = some u := by rw [Yi]; exact h.cell hi hd
theorem Sl.at2 (h : Sl M w (.slice (some a) m c) k rows) (hi : rows[i]? = some r) (hd : r[d + e]? = some u) : w.cell? (((a.add (i * k)).add d).add e) = some u := by rw [Yi, Yi]; exact h.cell hi hd
theorem Sl.at3 (h : Sl M w (.slice (some a) m c) k rows) (hi : rows[i]? = some r) (hd : r[d + e + f]? = some u) : w.cell? ((((a.add (i * k)).add d).add e).add f) = some u := by
 rw [Yi, Yi, Yi, ← Nat.add_assoc d]; exact h.cell hi hd
theorem Sl.all0 (h : Sl M w (.slice (some a) m c) k rows) (hi : rows[i]? = some r) (j : Nat) (hj : j < k) : w.cell? ((a.add (i * k)).add j) = r[j]? := by
 have hl : r.length = k := h.each r (List.mem_of_getElem? hi)
 rw [List.getElem?_eq_getElem (by omega)]
 exact h.at1 hi (List.getElem?_eq_getElem (by omega))
theorem Sl.all1 (h : Sl M w (.slice (some a) m c) k rows) (hi : rows[i]? = some r) (j : Nat) (hj : d + j < k) : w.cell? (((a.add (i * k)).add d).add j) = (r.drop d)[j]? := by
 have hl : r.length = k := h.each r (List.mem_of_getElem? hi)
 rw [List.getElem?_drop, List.getElem?_eq_getElem (by omega)]
 exact h.at2 hi (List.getElem?_eq_getElem (by omega))
end elems
theorem Zj.all {b o : Nat} {cs : List Value} (h : Zj w b cs) (k : Nat) (hk : o + k ≤ cs.length) (j : Nat) (hj : j < k) : w.cell? ((⟨b, o, none⟩ : Addr).add j) = ((cs.drop o).take k)[j]? := by
 rw [XF, List.getElem?_take_of_lt hj, List.getElem?_drop, List.getElem?_eq_getElem (by omega)]
 exact h.cell (List.getElem?_eq_getElem (by omega))
theorem XH {s t : TypeId} {ks k : IntKind} {x : Operand} {a : Int} (hs : P.underlying s = some (.int ks)) (ht : P.underlying t = some (.int k)) (hx : ev σ x = .int ks a) (hw : k.wrap a = a) : Rn P σ w ⟨dst, .convert s t x, ty, pos, af, g⟩ (.int k a) := by
 show (execOp (ev σ) _).run P w = _
 have h1 : (convert s t (.int ks a)).run P w = .ok (.int k a) w := by
  simp [convert, run_underlying hs, run_underlying ht, Conv.intToInt, hw]
 simp [execOp, hx, h1]
section stab
variable {n0 : Nat}
theorem Z6.and {J J' : (Nat → Prop) → World → Prop} (h : Z6 n0 J) (k : Z6 n0 J') : Z6 n0 (fun N A => J N A ∧ J' N A) := fun N A B hN hA hj hE => ⟨h N A B hN hA hj.1 hE, k N A B hN hA hj.2 hE⟩
theorem Z6.ex {α : Type} {J : α → (Nat → Prop) → World → Prop} (h : ∀ x, Z6 n0 (J x)) : Z6 n0 (fun N A => ∃ x, J x N A) := fun N A B hN hA hj hE => by obtain ⟨x, hx⟩ := hj; exact ⟨x, h x N A B hN hA hx hE⟩
theorem Z6.pure (p : Prop) : Z6 n0 (fun _ _ => p) := fun _ _ _ _ _ h _ => h
theorem Z6.false : Z6 n0 (fun _ _ => False) := fun _ _ _ _ _ h _ => h
def Box (N : Nat → Prop) (A : World) (b : Nat) (cs : List Value) : Prop := Zj A b cs ∧ ¬ N b
theorem not_grow {N : Nat → Prop} {A B : World} {b : Nat} (h : ¬ N b) (hb : b < A.heap.size) : ¬ grow N A B b := by
 rintro (h1 | ⟨h1, _⟩)
 ·exact h h1
 ·omega
theorem Z6.box (b : Nat) (cs : List Value) : Z6 n0 (fun N A => Box N A b cs) := fun N A B hN hA h hE => ⟨h.1.ext hE h.2, not_grow h.2 h.1.lt⟩
theorem Z6.old {w : World} (hw : w.heap.size ≤ n0) : Z6 n0 (fun _ A => Ext Non w A) := fun N A B hN hA h hE =>
 ⟨hE.os.trans h.os, hE.tape.trans h.tape, hE.output.trans h.output, Zle h.size hE.size, fun i hi hm => (hE.block i (Zlt hi h.size) (fun h' => by have := hN i h'; omega)).trans (h.block i hi hm)⟩
theorem Z6.oldM {M : Nat → Prop} {w : World} (hw : w.heap.size ≤ n0) : Z6 n0 (fun _ A => Ext M w A) := fun N A B hN hA h hE =>
 ⟨hE.os.trans h.os, hE.tape.trans h.tape, hE.output.trans h.output, Zle h.size hE.size, fun i hi hm => (hE.block i (Zlt hi h.size) (fun h' => by have := hN i h'; omega)).trans (h.block i hi hm)⟩
end stab
end
section
variable {ro : Option Nat} {P : Program} {n : Nat} {Q : QH} {σ : Env} {D : List Deferred} {w : World} {dst : Option Nat} {ty : TypeId} {pos : String} {af : Array Edge} {g : Option (Nat × Bool)}
def Bd (σ : Env) (o : Option Operand) (d v : Nat) : Prop := match o with | none => v = d | some y => ∃ k, ev σ y = .int k v
theorem run_bounds {b : Bool} {len cap l h m : Nat} {lo hi mx : Option Operand} (hlo : Bd σ lo 0 l) (hhi : Bd σ hi len h) (hmx : Bd σ mx cap m) (hm : mx.isSome = true → hi.isSome = true) (h1 : l ≤ h) (h2 : h ≤ m) (h3 : m ≤ cap) :
  (Instr.sliceBounds b len cap (lo.map (ev σ)) (hi.map (ev σ)) (mx.map (ev σ))).run P w = .ok (l, h, m) w := by
 have sb : ∀ (v : Value) (x y : Nat) (c : BoundsCode), (∃ k, v = .int k (x : Int)) → x ≤ y → (Instr.sliceBound v y c).run P w = .ok x w := by
  rintro v x y c ⟨k, rfl⟩ hxy
  have : (0 : Int) ≤ x ∧ (x : Int) ≤ y := by omega
  simp [Instr.sliceBound, asIntOf, this]
 unfold Instr.sliceBounds
 cases mx with
 | none =>
  simp only [Bd] at hmx; subst hmx
  cases hi with
  | none =>
   simp only [Bd] at hhi; subst hhi
   cases lo with
   | none => simp only [Bd] at hlo; subst hlo; simp
   | some y => simp [sb _ _ _ _ hlo h1]
  | some z =>
   cases lo with
   | none => simp only [Bd] at hlo; subst hlo; simp [sb _ _ _ _ hhi h2]
   | some y => simp [sb _ _ _ _ hlo h1, sb _ _ _ _ hhi h2]
 | some u =>
  cases hi with
  | none => simp at hm
  | some z =>
   cases lo with
   | none => simp only [Bd] at hlo; subst hlo; simp [sb _ _ _ _ hhi h2, sb _ _ _ _ hmx h3]
   | some y => simp [sb _ _ _ _ hlo h1, sb _ _ _ _ hhi h2, sb _ _ _ _ hmx h3]
theorem Xs {t e : TypeId} {k bytes : Nat} {z : List Value} (hT : XA P t e k bytes z) {x : Operand} {lo hi mx : Option Operand} {a : Option Addr} {len cap l h m : Nat} (hx : ev σ x = .slice a len cap)
  (hlo : Bd σ lo 0 l) (hhi : Bd σ hi len h) (hmx : Bd σ mx cap m) (hm : mx.isSome = true → hi.isSome = true) (h1 : l ≤ h) (h2 : h ≤ m) (h3 : m ≤ cap) :
  Rn P σ w ⟨dst, .slice t x lo hi mx, ty, pos, af, g⟩ (.slice (if m = l then a else a.map (·.add (l * k))) (h - l) (m - l)) := by
 obtain ⟨inf, v, i1, i2, i3, i4, i5⟩ := hT.inf
 show (execOp (ev σ) _).run P w = _
 have hb := run_bounds (P := P) (w := w) (b := true) hlo hhi hmx hm h1 h2 h3
 simp only [execOp, Instr.sliceAt, Instr.slice, Sem.run_bind, run_underlying hT.under, hx, Result.andThen_ok, hb, XB i1, i2, Sem.run_pure]
theorem Sl.cut {M : Nat → Prop} {a : Option Addr} {len cap k : Nat} {rows : List (List Value)} (hs : Sl M w (.slice a len cap) k rows) {l h m : Nat} (h1 : l ≤ h) (h2 : h ≤ len) (h2' : h ≤ m) (h3 : m ≤ cap) :
  Sl M w (.slice (if m = l then a else a.map (·.add (l * k))) (h - l) (m - l)) k ((rows.drop l).take (h - l)) := by
 obtain ⟨⟨a', c', e1, e2, e3, e4⟩, e5⟩ := hs
 simp only [Value.slice.injEq] at e1
 obtain ⟨rfl, rfl, rfl⟩ := e1
 have hl : ((rows.drop l).take (h - l)).length = h - l := by simp; omega
 have he : ∀ r ∈ (rows.drop l).take (h - l), r.length = k := fun r hr => e5 r (List.mem_of_mem_drop (List.mem_of_mem_take hr))
 refine ⟨⟨_, m - l, by rw [hl], by rw [hl]; omega, by omega, ?_⟩, he⟩
 by_cases h0 : h = l
 ·subst h0; exact .inl (by simp)
 rcases e4 with e4 | ⟨b, o, ha, hb, hn, hc⟩
 ·exact .inl (by simp [e4])
 ·subst ha
  refine .inr ⟨b, o + l * k, ?_, hb, hn, fun j hj => ?_⟩
  ·rw [if_neg (by omega)]; simp [XF]
  ·have hfl : ((rows.drop l).take (h - l)).flatten.length = (h - l) * k := by rw [XN he, hl]
   have hd : ∀ r ∈ rows.drop l, r.length = k := fun r hr => e5 r (List.mem_of_mem_drop hr)
   have hsplit : rows.flatten = (rows.take l).flatten ++ (((rows.drop l).take (h - l)).flatten ++ ((rows.drop l).drop (h - l)).flatten) := by
    rw [← List.flatten_append, List.take_append_drop, ← List.flatten_append, List.take_append_drop]
   have hpl : (rows.take l).flatten.length = l * k := by rw [XN (fun r hr => e5 r (List.mem_of_mem_take hr))]; rw [List.length_take, Nat.min_eq_left (by omega)]
   have : j + l * k < rows.flatten.length := by
    rw [hsplit]; simp only [List.length_append, hpl]; omega
   have h6 := hc (l * k + j) (by omega)
   rw [show o + l * k + j = o + (l * k + j) from by omega, h6, hsplit, List.getElem?_append_right (by omega), hpl, Nat.add_sub_cancel_left, List.getElem?_append_left hj]
theorem Ow.cut {v : Value} {b k : Nat} {rows : List (List Value)} {spare : List Value} (h : Ow w v b k rows spare) {a : Option Addr} {len cap m : Nat} (hv : v = .slice a len cap) (hm : m ≤ len) : Ow w (.slice a m cap) b k (rows.take m) ((rows.drop m).flatten ++ spare) := by
 obtain ⟨⟨c, h1, h2, h3, h4⟩, h5, h6⟩ := h
 rw [h1] at hv
 simp only [Value.slice.injEq] at hv
 obtain ⟨rfl, rfl, rfl⟩ := hv
 have hl : (rows.take m).length = m := by simp; omega
 refine ⟨⟨c, by rw [hl], by omega, h3, ?_⟩, ?_, fun r hr => h6 r (List.mem_of_mem_take hr)⟩
 ·rw [List.length_append, XN (fun r hr => h6 r (List.mem_of_mem_drop hr)), h4, hl, List.length_drop, ← Nat.add_mul]; congr 1; omega
 ·rw [← List.append_assoc, ← List.flatten_append, List.take_append_drop]; exact h5
theorem JC {t : TypeId} (hu : P.underlying t = some .string) {x : Operand} {lo hi : Option Operand} {a : Str} {l h : Nat} (hx : ev σ x = Sv a)
  (hlo : Bd σ lo 0 l) (hhi : Bd σ hi a.length h) (h1 : l ≤ h) (h2 : h ≤ a.length) : Rn P σ w ⟨dst, .slice t x lo hi none, ty, pos, af, g⟩ (Sv ((a.drop l).take (h - l))) := by
 show (execOp (ev σ) _).run P w = _
 have hsz : (ByteArray.mk a.toArray).size = a.length := by simp [ByteArray.size]
 have hb := run_bounds (P := P) (w := w) (b := false) (len := a.length) (cap := a.length) (mx := none) (m := a.length) hlo hhi rfl (by simp) h1 h2 (Nat.le_refl _)
 simp only [Option.map_none] at hb
 have he : (ByteArray.mk a.toArray).extract l h = ByteArray.mk ((a.drop l).take (h - l)).toArray := by
  apply ByteArray.ext
  rw [ByteArray.data_extract]
  apply Array.ext'
  simp
 simp only [execOp, Instr.sliceAt, Instr.slice, Sem.run_bind, run_underlying hu, hx, Sv, Result.andThen_ok, hsz, Option.map_none, Option.isSome_none, Bool.false_eq_true, if_false, hb, Sem.run_pure, he]
def EqS (P : Program) (m : Nat) (t : TypeId) (a b : Value) (r : Bool) : Prop := ∀ d w, m ≤ d → (Op.equalIn d t a b).run P w = .ok r w
theorem eqs_int {t : TypeId} {k k' : IntKind} {a b : Int} (h : P.underlying t = some (.int k')) : EqS P 1 t (.int k a) (.int k b) (decide (a = b)) := by
 intro d w hd; obtain ⟨d, rfl⟩ : ∃ e, d = e + 1 := ⟨d - 1, by omega⟩
 rw [run_equalIn_int w d t k k' a b h]; rfl
theorem eqs_bool {t : TypeId} {a b : Bool} (h : P.underlying t = some .bool) : EqS P 1 t (.bool a) (.bool b) (decide (a = b)) := by
 intro d w hd; obtain ⟨d, rfl⟩ : ∃ e, d = e + 1 := ⟨d - 1, by omega⟩
 rw [run_equalIn_bool' w d t a b h]; cases a <;> cases b <;> rfl
theorem eqs_str {t : TypeId} {a b : Str} (h : P.underlying t = some .string) : EqS P 1 t (Sv a) (Sv b) (decide (a = b)) := by
 intro d w hd; obtain ⟨d, rfl⟩ : ∃ e, d = e + 1 := ⟨d - 1, by omega⟩
 have e := run_equalIn_string (P := P) w d t ⟨a.toArray⟩ ⟨b.toArray⟩ h
 simp only [Sv]
 rw [e]
 have e1 : ∀ x : Str, (ByteArray.mk x.toArray).toList = x := fun x => by rw [ByteArray.toList_eq]
 rw [e1, e1]
 by_cases hab : a = b
 ·subst hab; simp
 ·simp [hab]
def Part (P : Program) (t : TypeId) (xs : Array Value) (off : Nat) (v : Value) : Prop := ∀ w, (part t xs off).run P w = .ok v w
theorem QU {t : TypeId} (h : Xg P t) {xs : Array Value} {off : Nat} {v : Value} (hv : xs[off]? = some v) : Part P t xs off v := fun w => by simp [part, h.agg, hv]
theorem part_s {t : TypeId} {k : Nat} (h : XD P t k) {xs : Array Value} {off : Nat} : Part P t xs off (.agg (xs.extract off (off + k))) := fun w => by simp [part, h.agg, Jn h.2]
def fieldsT (P : Program) (t : TypeId) : List (String × TypeId × Nat) := (P.fieldsOf t).toList.map fun f => (f.name, f.type, f.offset)
inductive EqF (P : Program) (m : Nat) (xs ys : Array Value) : List (String × TypeId × Nat) → Bool → Prop
 | nil : EqF P m xs ys [] true
 | cons {nm : String} {t : TypeId} {off : Nat} {fs : List (String × TypeId × Nat)} {a b : Value} {r s : Bool} : (nm == "_") = false → Part P t xs off a → Part P t ys off b → EqS P m t a b r → EqF P m xs ys fs s → EqF P m xs ys ((nm, t, off) :: fs) (r && s)
theorem EqF.run {m : Nat} {xs ys : Array Value} {d : Nat} (hd : m ≤ d) (w : World) : ∀ (fs : List Field) {r : Bool}, EqF P m xs ys (fs.map fun f => (f.name, f.type, f.offset)) r → (Op.eqFields d xs ys fs).run P w = .ok r w
 | [], r, h => by cases h; rfl
 | f :: fs, r, h => by
  cases h with
  | cons hn ha hb he ht =>
   have hn' : f.name ≠ "_" := by simpa using hn
   have ih := EqF.run hd w fs ht
   rename_i r s
   simp only [Op.eqFields, if_pos hn', Sem.run_bind, ha w, hb w, he d w hd, Result.andThen_ok, Sem.run_ite, Sem.run_pure, ih]
   cases r <;> simp
theorem eqs_struct {t : TypeId} {m : Nat} {xs ys : Array Value} {r : Bool} (hk : (match P.underlying t with | some (.struct _) => true | _ => false) = true) (hp : P.stoodInHeld t = false) {fs : List (String × TypeId × Nat)} (hf : fieldsT P t = fs) (h : EqF P m xs ys fs r) : EqS P (m + 1) t (.agg xs) (.agg ys) r := by
 intro d w hd; obtain ⟨d, rfl⟩ : ∃ e, d = e + 1 := ⟨d - 1, by omega⟩
 subst hf
 have hu : P.underlying t = some (.struct (P.fieldsOf t)) := by
  unfold Program.fieldsOf
  cases hu : P.underlying t with
  | none => simp [hu] at hk
  | some d => cases d <;> simp [hu] at hk; rfl
 rw [run_equalIn_struct w d t xs ys hu hp]
 exact EqF.run (by omega) w _ h
theorem rn_eqlS {t u : TypeId} {x y : Operand} {xs ys : Array Value} {m : Nat} {r : Bool} (hx : ev σ x = .agg xs) (hy : ev σ y = .agg ys) (hg : P.eqGuardType P.depth t = false) (hm : m ≤ 10000) (h : EqS P m t (.agg xs) (.agg ys) r) :
  Rn P σ w ⟨dst, .binOp .eql t x y u, ty, pos, af, g⟩ (.bool r) := by
 show (execOp (ev σ) _).run P w = _
 simp only [execOp, hx, hy]
 rw [Sem.run_bind, Sem.run_bind, run_eqGuard_agg w .eql t x y xs ys hg, Result.andThen_ok, run_eql_struct, h 10000 w hm]
 rfl
theorem rn_neqS {t u : TypeId} {x y : Operand} {xs ys : Array Value} {m : Nat} {r : Bool} (hx : ev σ x = .agg xs) (hy : ev σ y = .agg ys) (hg : P.eqGuardType P.depth t = false) (hm : m ≤ 10000) (h : EqS P m t (.agg xs) (.agg ys) r) :
  Rn P σ w ⟨dst, .binOp .neq t x y u, ty, pos, af, g⟩ (.bool (!r)) := by
 show (execOp (ev σ) _).run P w = _
 simp only [execOp, hx, hy]
 rw [Sem.run_bind, Sem.run_bind, run_eqGuard_agg w .neq t x y xs ys hg, Result.andThen_ok, run_neq_struct, h 10000 w hm]
 rfl
theorem Q3 {t u : TypeId} (ht : (match P.underlying t with | some (.func ..) => true | _ => false) = true) {x y : Operand} {f : Go.Fn} {fi ca : Array Value} (hx : ev σ x = .func f fi ca) (hy : ev σ y = .nilFunc) :
  Rn P σ w ⟨dst, .binOp .eql t x y u, ty, pos, af, g⟩ (.bool false) := by
 show (execOp (ev σ) _).run P w = _
 have h1' : ∀ d, (Op.equalIn (d + 1) t (.func f fi ca) .nilFunc).run P w = .ok false w := by
  intro d
  cases hu : P.underlying t with
  | none => simp [hu] at ht
  | some d => cases d <;> simp [hu] at ht; simp only [Op.equalIn, Sem.run_bind, run_underlying hu, Result.andThen_ok, Sem.run_pure]
 have h1 := h1' 9999
 have h2 : (binOp .eql t (.func f fi ca) .nilFunc).run P w = .ok (.bool false) w := by
  show (do pure (Value.bool (← Op.equal t (.func f fi ca) .nilFunc))).run P w = _
  rw [Sem.run_bind]
  rw [show Op.equal t (.func f fi ca) .nilFunc = Op.equalIn (9999 + 1) t (.func f fi ca) .nilFunc from rfl, h1]
  rfl
 have h3 : (eqGuard .eql t x y (.func f fi ca) .nilFunc).run P w = .ok () w := rfl
 simp only [execOp, hx, hy]
 rw [Sem.run_bind, Sem.run_bind, h3, Result.andThen_ok, h2]
 rfl
def placesT (P : Program) (t : TypeId) : List (Nat × Nat) := (P.fieldsOf t).toList.map fun f => (f.offset, ((P.info? f.type).map (·.size)).getD 0)
def fillL (pl : List (Nat × Nat)) (cs : List Value) : List (Nat × Value) → List Value
 | [] => cs
 | (i, v) :: rest => fillL pl (XZ cs (pl[i]?.getD (0, 0)).1 v.cells.toList) rest
theorem fillS_spec (pl : List (Nat × Nat)) : ∀ (parts : List (Nat × Value)) (cs : Array Value), (∀ p ∈ parts, ∃ o s, pl[p.1]? = some (o, s) ∧ p.2.cells.size = s ∧ o + s ≤ cs.size) →
  ∃ cs', Instr.fill (pl.toArray[·]?) cs parts = some cs' ∧ cs'.toList = fillL pl cs.toList parts
 | [], cs, _ => ⟨cs, rfl, rfl⟩
 | (i, v) :: parts, cs, h => by
  obtain ⟨o, s, h0, h1, h2⟩ := h (i, v) (by simp)
  simp only at h0 h1 h2
  have hf := foldl_set o v.cells.toList 0 cs (by simp; omega)
  have e1 : (v.cells.zipIdx.foldl (fun cs (x : Value × Nat) => cs.setIfInBounds (o + x.2) x.1) cs).toList = XZ cs.toList o v.cells.toList := by
   rw [← Array.foldl_toList, Array.toList_zipIdx]; simpa using hf
  have hlen : (v.cells.zipIdx.foldl (fun cs (x : Value × Nat) => cs.setIfInBounds (o + x.2) x.1) cs).size = cs.size := by
   rw [← Array.length_toList, e1, patch_length (by simp; omega)]; simp
  obtain ⟨cs', h3, h4⟩ := fillS_spec pl parts _ (fun p hp => by rw [hlen]; exact h p (by simp [hp]))
  refine ⟨cs', ?_, ?_⟩
  ·have h0' : pl.toArray[i]? = some (o, s) := by simpa using h0
   simp only [Instr.fill, h0']
   rw [if_neg (by simp; omega)]
   exact h3
  ·rw [h4, e1]; simp [fillL, h0]
structure XQ (P : Program) (t : TypeId) (pl : List (Nat × Nat)) (z : List Value) : Prop where
 isS : (match P.underlying t with | some (.struct _) => true | _ => false) = true
 all : (P.fieldsOf t).toList.all (fun f => (P.info? f.type).isSome) = true
 places : placesT P t = pl
 zero : ((P.info? t).bind (·.zero)).map (fun v => v.cells.toList) = some z
theorem rn_build {t : TypeId} {pl : List (Nat × Nat)} {z : List Value} (hT : XQ P t pl z) {parts : List (Nat × Operand)} {vals : List (Nat × Value)} {cs : List Value} (hv : parts.map (fun p => (p.1, ev σ p.2)) = vals)
  (hp : ∀ p ∈ vals, ∃ o s, pl[p.1]? = some (o, s) ∧ p.2.cells.size = s ∧ o + s ≤ z.length) (hr : fillL pl z vals = cs) :
  Rn P σ w ⟨dst, .build t parts.toArray, ty, pos, af, g⟩ (.agg cs.toArray) := by
 show (execOp (ev σ) _).run P w = _
 have hu : P.underlying t = some (.struct (P.fieldsOf t)) := by
  have := hT.isS
  unfold Program.fieldsOf
  cases hu : P.underlying t with
  | none => simp [hu] at this
  | some d => cases d <;> simp [hu] at this; rfl
 obtain ⟨i, v, hi, hz, hzl⟩ : ∃ i v, P.info? t = some i ∧ i.zero = some v ∧ v.cells.toList = z := by
  have := hT.zero
  cases hi : P.info? t with
  | none => simp [hi] at this
  | some i =>
   cases hz : i.zero with
   | none => simp [hi, hz] at this
   | some v => exact ⟨i, v, rfl, hz, by simpa [hi, hz] using this⟩
 have hparts : (parts.toArray.map fun (x : Nat × Operand) => (x.1, ev σ x.2)) = vals.toArray := by rw [← hv]; simp
 have hm : ∀ (fs : List Field), fs.all (fun f => (P.info? f.type).isSome) = true → (fs.mapM (m := Sem) fun f => do pure (f.offset, ← sizeOf f.type)).run P w = .ok (fs.map fun f => (f.offset, ((P.info? f.type).map (·.size)).getD 0)) w := by
  intro fs
  induction fs with
  | nil => intro _; rfl
  | cons f fs ih =>
   intro h
   simp only [List.all_cons, Bool.and_eq_true] at h
   obtain ⟨i, hi⟩ := Option.isSome_iff_exists.1 h.1
   rw [List.mapM_cons]
   simp only [Sem.run_bind, XB hi, Result.andThen_ok, Sem.run_pure, ih h.2, List.map_cons, hi, Option.map_some, Option.getD_some]
 have hm' : ((P.fieldsOf t).mapM (m := Sem) fun f => do pure (f.offset, ← sizeOf f.type)).run P w = .ok pl.toArray w := by
  rw [Array.mapM_eq_mapM_toList, Sem.run_map, hm _ hT.all]
  have := hT.places
  unfold placesT at this
  rw [this]; rfl
 obtain ⟨cs', hf1, hf2⟩ := fillS_spec pl vals v.cells (fun p hp' => by have := hp p hp'; rw [← hzl] at this; simpa using this)
 rw [hzl, hr] at hf2
 have hcs : cs' = cs.toArray := by rw [← hf2]
 subst hcs
 simp only [execOp, Instr.build, hparts, zeroValue, typeInfo, Sem.run_bind, run_program, hi, Result.andThen_ok, Sem.run_pure, hz, hu, hf1, hm', run_underlying hu]
end
end Go.Proofs.YtjklgohpminefaaGreatDoorC
namespace Go.Proofs.YtjklgohpminefaaGreatDoorC
open Go.RowKit Go.ChangeShapes Go.Deep
variable {P : Program}
inductive FK | int (k : IntKind) | str | bool
def FK.ok : FK → Value → Prop
 | .int k, v => ∃ n, v = .int k n ∧ (Lit.int k n).wf = true
 | .str, v => ∃ s : Str, v = Sv s ∧ s.length ≤ maxLen
 | .bool, v => ∃ b, v = .bool b
def X0 : List FK → List Value → Prop
 | [], [] => True
 | k :: ks, v :: vs => k.ok v ∧ X0 ks vs
 | _, _ => False
theorem X0.length : ∀ {ks : List FK} {vs : List Value}, X0 ks vs → vs.length = ks.length
 | [], [], _ => rfl
 | k :: ks, v :: vs, h => by simp [X0.length h.2]
theorem X0.cons {k : FK} {ks : List FK} : ∀ {vs : List Value}, X0 (k :: ks) vs → ∃ v r, vs = v :: r ∧ k.ok v ∧ X0 ks r
 | v :: r, h => ⟨v, r, rfl, h.1, h.2⟩
theorem X0.nil : ∀ {vs : List Value}, X0 [] vs → vs = []
 | [], _ => rfl
theorem X0.append : ∀ {ks ks' : List FK} {vs vs' : List Value}, X0 ks vs → X0 ks' vs' → X0 (ks ++ ks') (vs ++ vs')
 | [], _, [], _, _, h => h
 | k :: ks, _, v :: vs, _, h, h' => ⟨h.1, h.2.append h'⟩
def flatFs (F : TypeId → Option (List FK)) (P : Program) : List Field → Nat → Option (List FK)
 | [], off => some []
 | f :: fs, off => if f.offset == off then (F f.type).bind fun ks => if P.cellsOf f.type == ks.length then (flatFs F P fs (off + ks.length)).map (ks ++ ·) else none else none
def flatT (P : Program) : Nat → TypeId → Option (List FK)
 | 0, _ => none
 | n + 1, t => match P.underlying t with
  | some .bool => some [.bool]
  | some (.int k) => some [.int k]
  | some .string => some [.str]
  | some (.struct fs) => (flatFs (flatT P n) P fs.toList 0).bind fun ks => if P.cellsOf t == ks.length then some ks else none
  | _ => none
section
variable {H : Type} {enc : TypeId × Value → H} {w : World} {base : Nat} {spare : Nat → Bool} {held : Bool}
theorem flat_str {s : ByteArray} (h : s.size ≤ maxLen) : FK.ok .str (.string s) := ⟨s.data.toList, by simp [Sv], by rw [Array.length_toList]; exact h⟩
theorem flatFs_ok {F : TypeId → Option (List FK)} {fuel : Nat} (hF : ∀ t ks cs x, F t = some ks → DataW.trod enc P w base spare held fuel t cs = some x → X0 ks cs) : ∀ (fs : List Field) (off : Nat) (ks : List FK) (cs : List Value) (xs : List (DataW H × List MemPlace)),
  flatFs F P fs off = some ks → fs.mapM (fun f => DataW.trod enc P w base spare held fuel f.type ((cs.drop f.offset).take (P.cellsOf f.type))) = some xs → X0 ks ((cs.drop off).take ks.length)
 | [], off, ks, cs, xs, h, _ => by simp [flatFs] at h; subst h; simp [X0]
 | f :: fs, off, ks, cs, xs, h, hx => by
  simp only [flatFs] at h
  by_cases h1 : f.offset = off
  ·rw [if_pos (by simpa using h1)] at h
   obtain ⟨k1, h2, h3⟩ := Option.bind_eq_some_iff.1 h
   by_cases h4 : P.cellsOf f.type = k1.length
   ·rw [if_pos (by simpa using h4)] at h3
    obtain ⟨k2, h5, rfl⟩ := Option.map_eq_some_iff.1 h3
    rw [List.mapM_cons] at hx
    obtain ⟨y, h6, hx⟩ := Option.bind_eq_some_iff.1 hx
    obtain ⟨ys, h7, _⟩ := Option.bind_eq_some_iff.1 hx
    have g1 := hF _ _ _ _ h2 h6
    have g2 := flatFs_ok hF fs _ _ cs _ h5 h7
    rw [h1, h4] at g1
    have := g1.append g2
    rw [List.length_append, List.take_add, List.drop_drop]
    exact this
   ·rw [if_neg (by simpa using h4)] at h3; cases h3
  ·rw [if_neg (by simpa using h1)] at h; cases h
theorem flat_of_trod : ∀ (n : Nat) (t : TypeId) (ks : List FK) (fuel : Nat) (cs : List Value) (x : DataW H × List MemPlace), flatT P n t = some ks → DataW.trod enc P w base spare held fuel t cs = some x → X0 ks cs
 | 0, t, ks, fuel, cs, x, h, _ => by simp [flatT] at h
 | n + 1, t, ks, 0, cs, x, h, hx => by simp [DataW.trod] at hx
 | n + 1, t, ks, fuel + 1, cs, x, h, hx => by
  simp only [flatT] at h
  simp only [DataW.trod] at hx
  cases hu : P.underlying t with
  | none => simp [hu] at h
  | some d =>
   cases d with
   | bool =>
    simp only [hu, Option.some.injEq] at h hx; subst h
    split at hx <;> first | (cases hx; done) | skip
    all_goals simp_all [X0, FK.ok]
   | int k =>
    simp only [hu, Option.some.injEq] at h hx; subst h
    split at hx <;> first | (cases hx; done) | skip
    all_goals simp_all [X0, FK.ok]
   | string =>
    simp only [hu, Option.some.injEq] at h hx; subst h
    split at hx <;> first | (cases hx; done) | skip
    all_goals simp_all [X0]
    exact flat_str hx.1
   | struct fs =>
    simp only [hu] at h hx
    obtain ⟨k1, h1, h2⟩ := Option.bind_eq_some_iff.1 h
    by_cases h3 : P.cellsOf t = k1.length
    ·rw [if_pos (by simpa using h3)] at h2
     cases h2
     by_cases h4 : cs.length = P.cellsOf t
     ·rw [if_pos h4] at hx
      obtain ⟨xs, h5, _⟩ := Option.map_eq_some_iff.1 hx
      have := flatFs_ok (F := flatT P n) (fun t ks cs x => flat_of_trod n t ks fuel cs x) fs.toList 0 ks cs xs h1 h5
      rw [List.drop_zero, List.take_of_length_le (by omega)] at this
      exact this
     ·rw [if_neg h4] at hx; cases hx
    ·rw [if_neg (by simpa using h3)] at h2; cases h2
   | _ => simp [hu] at h
theorem open_rows {t e : TypeId} {k bytes : Nat} {z : List Value} (hT : XA P t e k bytes z) {n : Nat} {ks : List FK} (hf : flatT P n e = some ks) (hk : ks.length = k) (hk0 : 0 < k) {v : Value} {d : DataW H} {p : List MemPlace} (h : DataW.Trod enc P w base spare held t v d p) (hv : ∃ a l c, v = .slice a l c) :
  ∃ rows, Sl Non w v k rows ∧ ∀ r ∈ rows, X0 ks r := by
 obtain ⟨fuel, h⟩ := h
 obtain ⟨a, l, c, rfl⟩ := hv
 rcases open_slice hT.under h with ⟨h1, h2⟩ | ⟨a', len, cap, m, n', D, Pl, h1, h2, h3, h4, h5, h6, h7⟩
 ·simp [Value.cells] at h1
  obtain ⟨rfl, rfl, rfl⟩ := h1
  exact ⟨[], Sl.nil _ _ _, by simp⟩
 ·simp [Value.cells] at h1
  obtain ⟨rfl, rfl, rfl⟩ := h1
  obtain ⟨inf, v0, i1, i2, i3, i4, i5⟩ := hT.inf
  have hce : P.cellsOf e = k := by simp [Program.cellsOf, i1, i2]
  have hm : l ≤ m := by rw [h5]; split <;> omega
  have hx : ∀ i, i < l → ∃ cs', w.cells? base (a'.add (i * k)) k = some cs' ∧ X0 ks cs' := fun i hi => by
   obtain ⟨cs', g1, g2⟩ := h7 i (by omega)
   rw [hce] at g1
   exact ⟨cs', g1, flat_of_trod n e ks n' cs' _ hf g2⟩
  have hrows : ∀ m, m ≤ l → ∃ rows : List (List Value), rows.length = m ∧ (∀ i (hi : i < m), ∃ r, rows[i]? = some r ∧ w.cells? base (a'.add (i * k)) k = some r) ∧ (∀ r ∈ rows, X0 ks r) := by
   intro m
   induction m with
   | zero => intro _; exact ⟨[], rfl, by omega, by simp⟩
   | succ m ih =>
    intro hm
    obtain ⟨rows, r1, r2, r3⟩ := ih (by omega)
    obtain ⟨r, g1, g2⟩ := hx m (by omega)
    refine ⟨rows ++ [r], by simp [r1], fun i hi => ?_, ?_⟩
    ·by_cases hlt : i < m
     ·obtain ⟨r', q1, q2⟩ := r2 i hlt
      exact ⟨r', by rw [List.getElem?_append_left (by omega)]; exact q1, q2⟩
     ·have : i = m := by omega
      subst this
      exact ⟨r, by rw [List.getElem?_append_right (by omega), r1]; simp, g1⟩
    ·intro r' hr'
     rcases List.mem_append.1 hr' with hr' | hr'
     ·exact r3 r' hr'
     ·simp only [List.mem_singleton] at hr'; rw [hr']; exact g2
  obtain ⟨rows, r1, r2, r3⟩ := hrows l (Nat.le_refl _)
  have heach : ∀ r ∈ rows, r.length = k := fun r hr => by rw [(r3 r hr).length, hk]
  refine ⟨rows, ⟨⟨some a', c, by rw [r1], by omega, by simp only [maxLen, big] at *; omega, ?_⟩, heach⟩, r3⟩
  by_cases hl0 : l = 0
  ·exact .inl (List.length_eq_zero_iff.1 (by omega))
  ·have hcell : ∀ i, i < l → ∀ j, j < k → w.cell? ((a'.add (i * k)).add j) = (rows[i]?.getD [])[j]? ∧ ((rows[i]?.getD []).length = k) := fun i hi j hj => by
    obtain ⟨r, q1, q2⟩ := r2 i hi
    obtain ⟨_, q3, q4⟩ := World.cells?_some q2
    rw [q1]; exact ⟨q4 j hj, q3⟩
   have hspot : a'.spot = none := by
    obtain ⟨q1, q2⟩ := hcell 0 (by omega) 0 hk0
    rw [List.getElem?_eq_getElem (by omega)] at q1
    rw [Nat.zero_mul] at q1
    have e : (a'.add 0).add 0 = a' := by simp [Addr.add]
    rw [e] at q1
    unfold World.cell? at q1
    split at q1
    ·cases hs : a'.spot with
     | none => rfl
     | some _ => simp [hs] at q1
    ·cases q1
   obtain ⟨b, o, sp⟩ := a'
   simp only at hspot; subst hspot
   have hb : b < w.heap.size := by
    obtain ⟨q1, q2⟩ := hcell 0 (by omega) 0 hk0
    rw [List.getElem?_eq_getElem (by omega), XF, XF] at q1
    exact World.block_lt_of_cell? w _ q1
   refine .inr ⟨b, o, rfl, hb, id, fun j hj => ?_⟩
   rw [XN heach] at hj
   have hi : j / k < l := by rw [← r1]; exact Nat.div_lt_of_lt_mul (by rw [Nat.mul_comm]; exact hj)
   have hjm : j % k < k := Nat.mod_lt _ hk0
   have q := (hcell (j / k) hi (j % k) hjm).1
   rw [XF, XF] at q
   have e : o + j / k * k + j % k = o + j := by rw [Nat.add_assoc, Nat.div_add_mod']
   rw [e] at q
   rw [q]
   have e2 := flat_at heach (j / k) (j % k) (by omega) hjm
   rw [Nat.div_add_mod'] at e2
   rw [e2, List.getElem?_eq_getElem (by omega : j / k < rows.length)]; rfl
theorem open_num {t : TypeId} {k : IntKind} {v : Value} {d : DataW H} {p : List MemPlace} (ht : P.underlying t = some (.int k)) (h : DataW.Trod enc P w base spare held t v d p) (hv : ∃ n, v = .int k n) : ∃ n, v = .int k n ∧ (Lit.int k n).wf = true := by
 obtain ⟨n, rfl⟩ := hv
 obtain ⟨fuel, h⟩ := h
 have := flat_of_trod 1 t [.int k] fuel _ _ (by simp [flatT, ht]) h
 simp [Value.cells, X0, FK.ok] at this
 exact ⟨n, rfl, this⟩
theorem trodAll_stays (hl : laidOutB P = true) {W W' : World} (hb : Below W.heap.size W W') : ∀ (ts : List TypeId) (vs : List Value) (ds : List (DataW H)) (ps : List MemPlace), (ts.all fun t => P.readableRec t && decide (t < P.types.size)) = true →
  DataW.TrodAll enc P W 0 (fun _ => true) true ts vs ds ps → (∀ x ∈ ps, x.block < W.heap.size) → DataW.TrodAll enc P W' 0 (fun b => decide (b < W.heap.size)) true ts vs ds ps
 | [], [], [], ps, _, h, _ => h
 | t :: ts, v :: vs, d :: ds, ps, ht, ⟨p, q, h1, h2, h3⟩, hp => by
  simp only [List.all_cons, Bool.and_eq_true, decide_eq_true_eq] at ht
  subst h3
  exact ⟨p, q, Below.trod hl ht.1.1 ht.1.2 h1 hb (fun x hx => hp x (by simp [hx])), trodAll_stays hl hb ts vs ds q ht.2 h2 (fun x hx => hp x (by simp [hx])), rfl⟩
 | [], [], _ :: _, _, _, h, _ => h.elim
 | [], _ :: _, _, _, _, h, _ => h.elim
 | _ :: _, [], _, _, _, h, _ => h.elim
 | _ :: _, _ :: _, [], _, _, h, _ => h.elim
end
section
variable {ro : Option Nat} {P : Program} {n : Nat} {Q : QH} {σ : Env} {D : List Deferred} {w : World} {dst : Option Nat} {ty : TypeId} {pos : String} {af : Array Edge} {g : Option (Nat × Bool)}
variable {ops rest : List Oper} {K : Ops}
theorem Z3 {d : Nat} {b : Bool} {l : List Oper} (hd : σ d = .bool b) (h1 : b = true → wl P ops l K σ w) (h2 : b = false → wl P ops l K σ w) : wl P ops l K σ w := by
 cases b
 ·exact h2 rfl
 ·exact h1 rfl
theorem wd_split {S : World → Prop} {f : Nat} {listed : Array Bool} {d : Nat} {b : Bool} (hd : σ d = .bool b) (h1 : b = true → wd P ops S K f listed σ w) (h2 : b = false → wd P ops S K f listed σ w) : wd P ops S K f listed σ w := by
 cases b
 ·exact h2 rfl
 ·exact h1 rfl
theorem Qr {c : Operand} {x y : Code} (hc : ev σ c = .bool true) (ht : W ro P n x Q σ D w) : W ro P n (.cond c x y) Q σ D w := ZE hc (fun _ => ht) (fun h => by cases h)
theorem Xu {c : Operand} {x y : Code} (hc : ev σ c = .bool false) (ht : W ro P n y Q σ D w) : W ro P n (.cond c x y) Q σ D w := ZE hc (fun h => by cases h) (fun _ => ht)
theorem Z8 {c a b : Operand} {v : Value} (hc : ev σ c = .bool true) (ha : ev σ a = v) : Rn P σ w ⟨dst, .pick c a b, ty, pos, af, g⟩ v := by
 have := rn_pick (P := P) (w := w) (σ := σ) (dst := dst) (ty := ty) (pos := pos) (af := af) (g := g) (x := a) (y := b) hc
 subst ha; simpa using this
theorem ZQ {c a b : Operand} {v : Value} (hc : ev σ c = .bool false) (hb : ev σ b = v) : Rn P σ w ⟨dst, .pick c a b, ty, pos, af, g⟩ v := by
 have := rn_pick (P := P) (w := w) (σ := σ) (dst := dst) (ty := ty) (pos := pos) (af := af) (g := g) (x := a) (y := b) hc
 subst hb; simpa using this
theorem Qq {id : Nat} {l : List Oper} (hm : P.follows .mixedOrders = true)
  (h : ∀ w1, Ext Non w w1 → wd P l (fun A => Ext Non w1 A) (fun σ' w' => Q .normal σ' D w') l.length (Array.replicate l.length false) σ w1) : W ro P n (.region id l.toArray true) Q σ D w :=
 W_draw _ hm (h _ (Ext.refl _ _).drew)
theorem Ext.own {A B : World} {b : Nat} (h : Ext Non w A) (k : Ext (fun i => i = b) A B) (hb : w.heap.size ≤ b) : Ext Non w B :=
 ((h.of_non (M := fun i => i = b)).trans k).fresh fun i e => by omega
theorem Z7 {S : World → Prop} {op : Op} {j : Nat} {b : Bool} {d : Nat} {v : Value} (hd : ((ops[j]?).bind (·.dst)) = some d) (hb : σ d = .bool b) (h : ∀ A, S A → Rn P σ A ⟨dst, op, ty, pos, af, some (j, b)⟩ v) : Yd P ops S ⟨dst, op, ty, pos, af, some (j, b)⟩ v σ :=
 .inl ⟨by simp [XM, hd, hb], h⟩
theorem Qt {S : World → Prop} {op : Op} {j : Nat} {b : Bool} {d : Nat} (hd : ((ops[j]?).bind (·.dst)) = some d) (hb : σ d = .bool (!b)) : Yd P ops S ⟨dst, op, ty, pos, af, some (j, b)⟩ undef σ :=
 .inr ⟨by cases b <;> simp [XM, hd, hb], rfl⟩
theorem ZG {S : World → Prop} {op : Op} {v : Value} (h : ∀ A, S A → Rn P σ A ⟨dst, op, ty, pos, af, none⟩ v) : Yd P ops S ⟨dst, op, ty, pos, af, none⟩ v σ :=
 .inl ⟨rfl, h⟩
theorem ZK {op : Op} (h : wl P ops [⟨dst, op, ty, pos, af, none⟩] K σ w) : XR P ops ⟨dst, op, ty, pos, af, none⟩ σ w K := h
theorem s1_yes {op : Op} {j : Nat} {b : Bool} {d : Nat} (hd : ((ops[j]?).bind (·.dst)) = some d) (hb : σ d = .bool b) (h : wl P ops [⟨dst, op, ty, pos, af, none⟩] K σ w) : XR P ops ⟨dst, op, ty, pos, af, some (j, b)⟩ σ w K := by
 have := Zu (ops := ops) (rest := []) (P := P) (K := K) (w := w) hd hb h
 exact this
theorem s1_no {op : Op} {j : Nat} {b : Bool} {d : Nat} (hd : ((ops[j]?).bind (·.dst)) = some d) (hb : σ d = .bool (!b)) (h : K (put σ dst undef) w) : XR P ops ⟨dst, op, ty, pos, af, some (j, b)⟩ σ w K := by
 have := ZU (ops := ops) (rest := []) (P := P) (K := K) (w := w) (op := op) (ty := ty) (pos := pos) (af := af) (dst := dst) hd hb (Zc h)
 exact this
theorem add_zero' (a : Addr) : a.add 0 = a := by simp [Addr.add]
theorem Jf {t e : TypeId} {k bytes : Nat} {z : List Value} (hT : XA P t e k bytes z) {x : Operand} {lo hi mx : Option Operand} {a : Option Addr} {len cap h m : Nat} (hx : ev σ x = .slice a len cap)
  (hlo : Bd σ lo 0 0) (hhi : Bd σ hi len h) (hmx : Bd σ mx cap m) (hm : mx.isSome = true → hi.isSome = true) (h2 : h ≤ m) (h3 : m ≤ cap) : Rn P σ w ⟨dst, .slice t x lo hi mx, ty, pos, af, g⟩ (.slice a h m) := by
 have := Xs (P := P) (σ := σ) (w := w) (dst := dst) (ty := ty) (pos := pos) (af := af) (g := g) hT hx hlo hhi hmx hm (Nat.zero_le _) h2 h3
 rw [show (if m = 0 then a else a.map (·.add (0 * k))) = a from by split; rfl; cases a <;> simp [add_zero']] at this
 exact this
theorem ZP {e : TypeId} {x : Operand} {v : Value} {d : Nat} (hx : ev σ x = v) (hv : v.cells = #[v])
  (k : ∀ b w', w.heap.size ≤ b → Ext Non w w' → Zj w' b [v] → wl P ops rest K (upd σ d (.pointer (some ⟨b, 0, none⟩))) w') : wl P ops (⟨some d, .box e x, ty, pos, af, none⟩ :: rest) K σ w :=
 wl_box (by rw [hx, hv]) k
theorem ZY {e : TypeId} {x : Operand} {vs : List Value} {d : Nat} (hx : ev σ x = .agg vs.toArray)
  (k : ∀ b w', w.heap.size ≤ b → Ext Non w w' → Zj w' b vs → wl P ops rest K (upd σ d (.pointer (some ⟨b, 0, none⟩))) w') : wl P ops (⟨some d, .box e x, ty, pos, af, none⟩ :: rest) K σ w :=
 wl_box (by rw [hx]; simp [Value.cells]) k
theorem X7 {op : Op} {j : Nat} {b : Bool} {d : Nat} (hd : ((ops[j]?).bind (·.dst)) = some d) (hb : σ d = undef) (k : wl P ops rest K (put σ dst undef) w) :
  wl P ops (⟨dst, op, ty, pos, af, some (j, b)⟩ :: rest) K σ w := by
 have e : XM ops σ ⟨dst, op, ty, pos, af, some (j, b)⟩ = false := by simp [XM, hd, hb, undef]
 show XR P ops _ σ w _
 unfold XR
 rw [if_neg (by rw [e]; simp)]; exact k
theorem QX {S : World → Prop} {op : Op} {j : Nat} {b : Bool} {d : Nat} (hd : ((ops[j]?).bind (·.dst)) = some d) (hb : σ d = undef) : Yd P ops S ⟨dst, op, ty, pos, af, some (j, b)⟩ undef σ :=
 .inr ⟨by simp [XM, hd, hb, undef], rfl⟩
theorem s1_nou {op : Op} {j : Nat} {b : Bool} {d : Nat} (hd : ((ops[j]?).bind (·.dst)) = some d) (hb : σ d = undef) (h : K (put σ dst undef) w) : XR P ops ⟨dst, op, ty, pos, af, some (j, b)⟩ σ w K := by
 have := X7 (ops := ops) (rest := []) (P := P) (K := K) (w := w) (op := op) (ty := ty) (pos := pos) (af := af) (dst := dst) (b := b) hd hb (Zc h)
 exact this
theorem Zy {P : Program} {ops : List Oper} {σ : Env} {dst : Option Nat} {ty : TypeId} {pos : String} {af : Array Edge} {S : World → Prop} {x : Operand} {v : Value} (h : ev σ x = v := by conv => lhs; whnf) : Yd P ops S ⟨dst, .move x, ty, pos, af, none⟩ v σ := ZG fun _ _ => XO h
theorem Zr {P : Program} {ops : List Oper} {σ : Env} {dst : Option Nat} {ty : TypeId} {pos : String} {af : Array Edge} {S : World → Prop} {op : Op} {v : Value} (h : ∀ {A : World}, Rn P σ A ⟨dst, op, ty, pos, af, none⟩ v) : Yd P ops S ⟨dst, op, ty, pos, af, none⟩ v σ := ZG fun _ _ => h
theorem Zv {P : Program} {ops : List Oper} {σ : Env} {dst : Option Nat} {ty : TypeId} {pos : String} {af : Array Edge} {w1 : World} {t : TypeId} (hT : Xg P t) {x : Operand} {b i : Nat} {vs : List Value} {v : Value} (hx : ev σ x = .pointer (some ⟨b, i, none⟩)) (hb : Zj w1 b vs) (hi : vs[i]? = some v) : Yd P ops (fun A => Ext Non w1 A) ⟨dst, .load t x, ty, pos, af, none⟩ v σ := ZG fun A hA => Zi hT hx (hb.ext hA id) hi
theorem Zz {P : Program} {ops : List Oper} {σ : Env} {w : World} {a : Bool} {S : World → Prop} {R : Env → World → Prop} (k : R σ w) (h : ¬ a = false := by decide) : wl P ops [] (fun σ' w' => (a = false → S w') ∧ R σ' w') σ w := Zc ⟨fun e => absurd e h, k⟩
theorem Zd {P : Program} {S : World → Prop} {K : Ops} {σ : Env} {w : World} {ops : List Oper} {f : Nat} {listed : Array Bool} (i : Nat) {oi : Oper} {v : Value} (hi : ops[i]? = some oi) (hS : S w) (hy : Yd P ops S oi v σ) (h : wd P ops S K f (listed.setIfInBounds i true) (put σ oi.dst v) w)
  (side : (Region.noSelect ops.toArray && Region.free .any ops.toArray listed i && (Region.ready .any ops.toArray listed).contains i) = true := by kernel_rfl) : wd P ops S K (f + 1) listed σ w := wd_take i oi v hi side hS hy h
end
section
variable {ro : Option Nat} {P : Program} {n : Nat} {Q : QH} {σ : Env} {D : List Deferred} {w : World} {dst : Option Nat} {ty : TypeId} {pos : String} {af : Array Edge} {g : Option (Nat × Bool)}
variable {ops rest : List Oper} {K : Ops}
inductive Mk (w : World) : List Deferred → World → Prop
 | nil {A : World} : Mk w [] A
 | cons {r : Nat} {D : List Deferred} {A : World} : A.heap[r]? = some (.deferred (some [])) → w.heap.size ≤ r → (∀ s, Jc s ∈ D → s ≠ r) → Mk w D A → Mk w (Jc r :: D) A
theorem Mk.each {D : List Deferred} {A : World} (h : Mk w D A) : ∀ d ∈ D, ∃ r, d = Jc r ∧ A.heap[r]? = some (.deferred (some [])) ∧ w.heap.size ≤ r := by
 induction h with
 | nil => intro d h; cases h
 | cons h1 h2 h3 h4 ih =>
  intro d hd
  rcases List.mem_cons.1 hd with rfl | hd
  ·exact ⟨_, rfl, h1, h2⟩
  ·exact ih d hd
theorem Qi {r s : Nat} (h : Jc r = Jc s) : r = s := by simpa [Jc] using h
theorem Mk.ext {D : List Deferred} {A B : World} {M : Nat → Prop} (h : Mk w D A) (hE : Ext M A B) (hM : ∀ r, Jc r ∈ D → ¬ M r) : Mk w D B := by
 induction h with
 | nil => exact .nil
 | cons h1 h2 h3 h4 ih => exact .cons (hE.obj h1 (hM _ (by simp))) h2 h3 (ih hE (fun r hr => hM r (by simp [hr])))
theorem Mk.non {D : List Deferred} {A B : World} (h : Mk w D A) (hE : Ext Non A B) : Mk w D B := h.ext hE fun _ _ => id
theorem Mk.box {D : List Deferred} {A B : World} {b : Nat} {cs : List Value} (h : Mk w D A) (hE : Ext (fun i => i = b) A B) (hb : Zj A b cs) : Mk w D B := h.ext hE fun r hr e => by
 obtain ⟨s, h1, h2, _⟩ := h.each _ hr
 cases Qi h1; subst e
 obtain ⟨T, hb⟩ := hb
 rw [h2] at hb; cases hb
theorem Mk.ne {D : List Deferred} {A : World} {b : Nat} {cs : List Value} (h : Mk w D A) (hb : Zj A b cs) : ¬ Jc b ∈ D := fun hr => by
 obtain ⟨s, h1, h2, _⟩ := h.each _ hr
 cases Qi h1
 obtain ⟨T, hb⟩ := hb
 rw [h2] at hb; cases hb
theorem Mk.add {D : List Deferred} {A : World} {r : Nat} (h : Mk w D A) (h1 : A.heap[r]? = some (.deferred (some []))) (h2 : w.heap.size ≤ r) (h3 : ¬ Jc r ∈ D) : Mk w (Jc r :: D) A :=
 .cons h1 h2 (fun s hs e => h3 (e ▸ hs)) h
theorem Mk.leave {rs : List ResultVar} {R : Value → World → Prop} {D : List Deferred} {A : World} (h : Mk w D A) (hr : ∀ B, Ext (fun i => Jc i ∈ D) A B → ∃ v, resR P σ B rs v ∧ R v B) : Leave P rs R σ D A := by
 induction h with
 | nil => exact hr _ (Ext.refl _ _)
 | @cons r D A h1 h2 h3 h4 ih =>
  refine ⟨r, rfl, h1, ?_⟩
  have hE : Ext (fun i => i = r) A (A.putObj r (.deferred none)) := Ext.putObj _ _ _ _ rfl
  have h5 : Mk w D (A.putObj r (.deferred none)) := h4.ext hE (fun s hs e => h3 s hs e)
  clear ih
  have key : ∀ (D : List Deferred) (A' : World), Mk w D A' → (∀ B, Ext (fun i => Jc i ∈ D) A' B → ∃ v, resR P σ B rs v ∧ R v B) → Leave P rs R σ D A' := by
   intro D
   induction D with
   | nil => intro A' _ hr; exact hr _ (Ext.refl _ _)
   | cons d D ih =>
    intro A' hm hr
    cases hm with
    | @cons r D A h1 h2 h3 h4 =>
     refine ⟨r, rfl, h1, ?_⟩
     have hE : Ext (fun i => i = r) A' (A'.putObj r (.deferred none)) := Ext.putObj _ _ _ _ rfl
     exact ih _ (h4.ext hE (fun s hs e => h3 s hs e)) fun B hB => hr B ((hE.mono (fun i e => by rw [e]; simp)).trans (hB.mono (fun i e => by simp [e])))
  exact key D _ h5 fun B hB => hr B ((hE.mono (fun i e => by rw [e]; simp)).trans (hB.mono (fun i e => by simp [e])))
abbrev Xo (F : Nat → Prop) (w : World) (b : Nat) : Prop := F b ∨ w.heap.size ≤ b
theorem Ext.mine {F : Nat → Prop} {A B : World} {b : Nat} (h : Ext F w A) (k : Ext (fun i => i = b) A B) (hb : Xo F w b) : Ext F w B :=
 ⟨k.os.trans h.os, k.tape.trans h.tape, k.output.trans h.output, Zle h.size k.size, fun i hi hm => (k.block i (Zlt hi h.size) (fun e => by subst e; rcases hb with hb | hb; exact hm hb; omega)).trans (h.block i hi hm)⟩
theorem Ext.mineO {F : Nat → Prop} {A B : World} {o : Option Nat} (h : Ext F w A) (k : Ext (fun i => o = some i) A B) (hb : ∀ i, o = some i → Xo F w i) : Ext F w B :=
 ⟨k.os.trans h.os, k.tape.trans h.tape, k.output.trans h.output, Zle h.size k.size, fun i hi hm => (k.block i (Zlt hi h.size) (fun e => by rcases hb i e with hb | hb; exact hm hb; omega)).trans (h.block i hi hm)⟩
theorem Ext.tr {F : Nat → Prop} {A B : World} (h : Ext F w A) (k : Ext Non A B) : Ext F w B := h.trans k.of_non
theorem Mk.out {D : List Deferred} {A B : World} (h : Mk w D A) (hX : Ext Non w A) (hB : Ext (fun i => Jc i ∈ D) A B) : Ext Non w B :=
 ((hX.of_non (M := fun i => Jc i ∈ D)).trans hB).fresh fun i hi => by
  obtain ⟨r, h1, _, h3⟩ := h.each _ hi
  cases Qi h1; exact h3
def MkN (w : World) (D : List Deferred) (N : Nat → Prop) (A : World) : Prop := Mk w D A ∧ ∀ r, Jc r ∈ D → ¬ N r
theorem Z6.mk {n0 : Nat} (w : World) (D : List Deferred) : Z6 n0 (fun N A => MkN w D N A) := fun N A B hN hA h hE =>
 ⟨h.1.ext hE h.2, fun r hr => not_grow (h.2 r hr) (by obtain ⟨s, h1, h2, _⟩ := h.1.each _ hr; cases Qi h1; exact (Array.getElem?_eq_some_iff.1 h2).1)⟩
theorem Mk.toN {D : List Deferred} {A : World} (h : Mk w D A) : MkN w D Non A := ⟨h, fun _ _ => id⟩
theorem MkN.add {D : List Deferred} {N : Nat → Prop} {A : World} {r : Nat} (h : MkN w D N A) (h1 : A.heap[r]? = some (.deferred (some []))) (h2 : w.heap.size ≤ r) (h3 : N r) : Mk w (Jc r :: D) A := h.1.add h1 h2 fun hr => h.2 r hr h3
theorem MkN.non {D : List Deferred} {N : Nat → Prop} {A B : World} (h : MkN w D N A) (hE : Ext Non A B) : MkN w D N B := ⟨h.1.non hE, h.2⟩
theorem MkN.box {D : List Deferred} {N : Nat → Prop} {A B : World} {b : Nat} {cs : List Value} (h : MkN w D N A) (hE : Ext (fun i => i = b) A B) (hb : Zj A b cs) : MkN w D N B := ⟨h.1.box hE hb, h.2⟩
theorem MkN.lp {D : List Deferred} {N : Nat → Prop} {A B : World} {l : Nat} (h : MkN w D N A) (hE : Ext (fun i => i = l) A B) (hl : N l) : MkN w D N B := ⟨h.1.ext hE (fun r hr e => h.2 r hr (e ▸ hl)), h.2⟩
theorem Zj.cast {b : Nat} {cs cs' : List Value} (h : Zj w b cs) (e : cs = cs') : Zj w b cs' := e ▸ h
section parts
variable {M : Nat → Prop} {a : Addr} {m c k : Nat} {rows : List (List Value)} {i : Nat} {r vs : List Value} {d e s : Nat}
theorem part_get (hs : (r.drop d).take s = vs) (j : Nat) (hj : j < s) : (r.drop d)[j]? = vs[j]? := by rw [← hs, List.getElem?_take_of_lt hj]
theorem Sl.part1 (h : Sl M w (.slice (Option.some a) m c) k rows) (hi : rows[i]? = Option.some r) (hs : (r.drop d).take s = vs) (hk : d + s ≤ k) (j : Nat) (hj : j < s) : w.cell? (((a.add (i * k)).add d).add j) = vs[j]? := by
 rw [h.all1 hi j (by omega), part_get hs j hj]
theorem Zj.part {b o : Nat} {cs : List Value} (h : Zj w b cs) (hs : (cs.drop o).take s = vs) (hk : o + s ≤ cs.length) (j : Nat) (hj : j < s) : w.cell? ((⟨b, o, none⟩ : Addr).add j) = vs[j]? := by
 rw [h.all s hk j hj, hs]
end parts
structure Tl (M : Nat → Prop) (w0 W : World) (J : (Nat → Prop) → World → Prop) (bs : List Nat) (A : World) : Prop where
 stab : Z6 W.heap.size J
 beg : Ext M w0 W
 ex : ∃ N, (∀ i, N i → W.heap.size ≤ i ∧ i < A.heap.size) ∧ W.heap.size ≤ A.heap.size ∧ J N A ∧ ∀ b ∈ bs, N b
 w0 : Ext M w0 A
variable {M : Nat → Prop} {w0 W A B : World} {J : (Nat → Prop) → World → Prop} {bs : List Nat} {b : Nat}
theorem Tl.less {bs' : List Nat} (h : Tl M w0 W J bs A) (hb : ∀ b ∈ bs', b ∈ bs) : Tl M w0 W J bs' A := by
 obtain ⟨N, h1, h2, h3, h4⟩ := h.ex
 exact ⟨h.stab, h.beg, ⟨N, h1, h2, h3, fun b hb' => h4 b (hb b hb')⟩, h.w0⟩
abbrev Yw (M : Nat → Prop) (w0 : World) (bs : List Nat) : Nat → Prop := fun i => ¬ i ∈ bs ∧ (M i ∨ w0.heap.size ≤ i)
theorem iter_of {α : Type} {encs : α → Array Value} {xs : List α} {f : FuncId} {cap : Array Value} (hf : Xa P f = true)
  (h : ∀ (l : Nat) (W : World) (J : List α → (Nat → Prop) → World → Prop) (Jx : (Nat → Prop) → World → Prop), Ext M w0 W → Tl M w0 W (J []) [] W →
   (∀ pre x post bs A, xs = pre ++ x :: post → Tl M w0 W (J pre) bs A → YieldOk P l (encs x) A fun b B => Ext (Yw M w0 bs) A B ∧ (b = true → Tl M w0 W (J (pre ++ [x])) bs B) ∧ (b = false → Tl M w0 W Jx bs B)) →
   Calls P f (#[.func (.yield l) #[] #[]] ++ cap) W fun e W' => ∃ v, e = .returned v ∧ (Tl M w0 W (J xs) [] W' ∨ Tl M w0 W Jx [] W')) : J2 P M w0 (.func (.func f) #[] cap) encs xs := by
 refine ⟨f, cap, rfl, hf, fun l W J Jx hW hJ hJx hY h0 => ?_⟩
 refine Calls.mono (h l W J Jx hW ⟨hJ [], hW, ⟨Non, fun _ h => h.elim, Nat.le_refl _, h0, by simp⟩, hW⟩ ?_) ?_
 ·intro pre x post bs A hx hT
  obtain ⟨N, h1, h2, h3, h4⟩ := hT.ex
  obtain ⟨fn, tmps, assign, body, hy, hr⟩ := hY N pre x A h1 h2 h3 ⟨post, hx⟩
  refine ⟨fn, tmps, assign, body, hy, hr.mono ?_⟩
  rintro e B ⟨b, he, hE, ht, hf⟩
  have hE' : Ext (Yw M w0 bs) A B := hE.mono fun i hi => ⟨fun hb => hi.1 (h4 i hb), hi.2⟩
  have hw : Ext M w0 B := ⟨hE.os.trans hT.w0.os, hE.tape.trans hT.w0.tape, hE.output.trans hT.w0.output, Zle hT.w0.size hE.size, fun i hi hm => (hE.block i (Zlt hi hT.w0.size) (fun h => by rcases h.2 with h | h; exact hm h; omega)).trans (hT.w0.block i hi hm)⟩
  have hN : ∀ i, N i → W.heap.size ≤ i ∧ i < B.heap.size := fun i hi => ⟨(h1 i hi).1, Zlt (h1 i hi).2 hE.size⟩
  exact ⟨b, he, hE', fun hb => ⟨hJ _, hW, ⟨N, hN, Zle h2 hE.size, ht hb, h4⟩, hw⟩, fun hb => ⟨hJx, hW, ⟨N, hN, Zle h2 hE.size, hf hb, h4⟩, hw⟩⟩
 ·rintro e W' ⟨v, he, hT | hT⟩
  ·obtain ⟨N, h1, h2, h3, _⟩ := hT.ex; exact ⟨v, N, he, h2, h1, .inl h3⟩
  ·obtain ⟨N, h1, h2, h3, _⟩ := hT.ex; exact ⟨v, N, he, h2, h1, .inr h3⟩
theorem Xz {t e : TypeId} {k bytes : Nat} {z : List Value} (hT : XA P t e k bytes z) (hz : z.length = k) {d : Nat} {x : Operand} {v : Value} {r : List Value} (hx : ev σ x = v) (hv : v.cells.toList = r) (hr : r.length = k) (hk : k ≤ 16777216)
  (kk : ∀ v w' b, w.heap.size ≤ b → Ext Non w w' → Ow w' v b k [r] [] → wl P ops rest K (upd σ d v) w') : wl P ops (⟨some d, .buildSlice t 1 #[(0, x)], ty, pos, af, none⟩ :: rest) K σ w := by
 subst hx
 have hsz : (ev σ x).cells.size = k := by rw [← hr, ← hv]; simp
 refine wl_lit (parts := [(0, x)]) (rows := [r]) hT hz (by omega) (by decide) rfl rfl (by simpa using hr) (by simpa using hsz) ?_ kk
 simp only [List.map_cons, List.map_nil, List.foldl_cons, List.foldl_nil, Nat.zero_mul, List.replicate_one, List.flatten_cons, List.flatten_nil, List.append_nil, hv]
 exact patch_all (by rw [hr, hz])
def OwO (w : World) (v : Value) (o : Option Nat) (k : Nat) (rows : List (List Value)) : Prop :=
 (v = .slice none 0 0 ∧ rows = [] ∧ o = none) ∨ ∃ b spare, o = some b ∧ Ow w v b k rows spare
theorem OwO.nil {k : Nat} : OwO w (.slice none 0 0) none k [] := .inl ⟨rfl, rfl, rfl⟩
theorem OwO.sl {v : Value} {o : Option Nat} {k : Nat} {rows : List (List Value)} (h : OwO w v o k rows) {M : Nat → Prop} (hm : ∀ i, o = some i → ¬ M i) : Sl M w v k rows := by
 rcases h with ⟨rfl, rfl, _⟩ | ⟨b, spare, hB, h⟩
 ·exact Sl.nil _ _ _
 ·exact h.sl (hm b hB)
theorem OwO.ext {v : Value} {o : Option Nat} {k : Nat} {rows : List (List Value)} (h : OwO w v o k rows) {M : Nat → Prop} {w' : World} (hE : Ext M w w') (hm : ∀ i, o = some i → ¬ M i) : OwO w' v o k rows := by
 rcases h with ⟨rfl, rfl, h⟩ | ⟨b, spare, hB, h⟩
 ·exact .inl ⟨rfl, rfl, h⟩
 ·exact .inr ⟨b, spare, hB, h.ext hE (hm b hB)⟩
theorem OwO.lt {v : Value} {o : Option Nat} {k : Nat} {rows : List (List Value)} (h : OwO w v o k rows) {i : Nat} (hi : o = some i) : i < w.heap.size := by
 rcases h with ⟨_, _, h⟩ | ⟨b, spare, hB, h⟩
 ·rw [hi] at h; cases h
 ·rw [hi] at hB; cases hB; exact h.box.lt
theorem OwO.len {v : Value} {o : Option Nat} {k : Nat} {rows : List (List Value)} (h : OwO w v o k rows) : ∃ a c, v = .slice a rows.length c := by
 rcases h with ⟨rfl, rfl, _⟩ | ⟨b, spare, hB, h⟩
 ·exact ⟨_, _, rfl⟩
 ·obtain ⟨c, h, _⟩ := h.val; exact ⟨_, _, h⟩
theorem Qm {t e : TypeId} {k bytes : Nat} {z : List Value} (hT : XA P t e k bytes z) (hz : z.length = k) {M' : Nat → Prop} {s x : Operand} {d : Nat} {v vx : Value} {o : Option Nat} {rows rows2 : List (List Value)}
  (hsv : ev σ s = v) (hxv : ev σ x = vx) (hs : OwO w v o k rows) (hx : Sl M' w vx k rows2) (h1 : ∀ r ∈ rows2, ∀ u ∈ r, u.oneCell' = true) (hb : (rows.length + rows2.length) * bytes ≤ 140737488355328) (h63 : rows.length + rows2.length ≤ big)
  (kk : ∀ v' w' o', Ext (fun i => o = some i) w w' → OwO w' v' o' k (rows ++ rows2) → (∀ i, o' = some i → o = some i ∨ w.heap.size ≤ i) → wl P ops rest K (upd σ d v') w') : wl P ops (⟨some d, .call ⟨.builtin .append, #[s, x], #[t, t]⟩, ty, pos, af, none⟩ :: rest) K σ w := by
 obtain ⟨a2, c2, rfl, _⟩ := hx.len
 have key : ∃ v' w' o', (Builtin.append_ #[t, t] ty #[v, .slice a2 rows2.length c2]).run P w = .ok v' w' ∧ Ext (fun i => o = some i) w w' ∧ OwO w' v' o' k (rows ++ rows2) ∧ (∀ i, o' = some i → o = some i ∨ w.heap.size ≤ i) := by
  rcases hs with ⟨rfl, rfl, rfl⟩ | ⟨b, spare, rfl, h⟩
  ·obtain ⟨v', w', h2, h3, h4⟩ := run_append_own' hT hz (OwN.nil w w.heap.size k) hx h1 (Nat.le_refl _) hb h63 ty
   have h5 : Ext (fun i => (none : Option Nat) = some i) w w' := (h3.fresh fun i h => h).of_non
   rcases h4 with ⟨rfl, e⟩ | ⟨b, sp, hB, h4⟩
   ·exact ⟨_, w', none, h2, h5, .inl ⟨rfl, e, rfl⟩, fun i h => by cases h⟩
   ·exact ⟨v', w', some b, h2, h5, .inr ⟨b, sp, rfl, h4⟩, fun i h => by cases h; exact .inr hB⟩
  ·obtain ⟨c, hv, hc1, hc2, hc3⟩ := h.val
   by_cases hroom : rows.length + rows2.length ≤ c
   ·obtain ⟨v', w', sp, h2, h3, h4⟩ := J7 hT h hx h1 ⟨_, c, hv, hroom⟩ ty
    exact ⟨v', w', some b, h2, h3.mono (fun i e => by rw [e]), .inr ⟨b, sp, rfl, h4⟩, fun i h => .inl h⟩
   ·have hsl := h.sl (M := Non) id
    subst hv
    obtain ⟨v', w', sp, h2, h3, h4⟩ := QP hT hz hsl hx (by omega) hb h63 ty
    exact ⟨v', w', some w.heap.size, h2, h3.of_non, .inr ⟨_, sp, rfl, h4⟩, fun i h => by cases h; exact .inr (Nat.le_refl _)⟩
 obtain ⟨v', w', o', h2, h3, h4, h5⟩ := key
 refine QR (w' := w') (v := v') ?_ (kk v' w' o' h3 h4 h5)
 show (execOp (ev σ) _).run P w = _
 simp [execOp, resolve, invoke, builtin, hsv, hxv, h2]
theorem Z2 {t : TypeId} {pl : List (Nat × Nat)} {z : List Value} (hT : XQ P t pl z) {parts : List (Nat × Operand)} {vals : List (Nat × Value)} {cs : List Value} (hv : parts.map (fun p => (p.1, ev σ p.2)) = vals)
  (hp : (vals.all fun p => match pl[p.1]? with | some (o, s) => p.2.cells.size == s && Nat.ble (o + s) z.length | none => false) = true) (hr : fillL pl z vals = cs) :
  Rn P σ w ⟨dst, .build t parts.toArray, ty, pos, af, g⟩ (.agg cs.toArray) := rn_build hT hv (fun p hp' => by
   have := List.all_eq_true.1 hp p hp'
   cases h : pl[p.1]? with
   | none => simp [h] at this
   | some x => obtain ⟨o, s⟩ := x; simp [h] at this; exact ⟨o, s, rfl, this⟩) hr
theorem Zl {F : Nat → Prop} {w A : World} {b : Nat} (h : Ext F w A) (k : A.heap.size ≤ b) : Xo F w b := .inr (Nat.le_trans h.size k)
end
end Go.Proofs.YtjklgohpminefaaGreatDoorC
