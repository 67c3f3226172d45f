/- A range over a function, and what an iterator promises, in the calculus; each rule holds of whatever program. -/
import Derived.Test.YthcclgoidchkdaaDoorCoreG
set_option linter.unusedVariables false
set_option linter.unusedSimpArgs false
namespace Go.Proofs.YthcclgoidchkdaaDoorC
open Go.RowKit
variable {ro : Option Nat} {P : Program} {n : Nat} {Q : Post} {σ : Env} {D : List Deferred} {w : World} {dst : Option Nat} {ty : TypeId} {pos : String} {af : Array Edge} {g : Option (Nat × Bool)}
variable {ops rest : List Oper} {K : Ops}

/-- N, and what was made between two worlds. -/
def grow (N : Nat → Prop) (A B : World) : Nat → Prop := fun i => N i ∨ (A.heap.size ≤ i ∧ i < B.heap.size)
/-- What is said abides what the owner of the blocks N does, who may make more. -/
def Stab (n0 : Nat) (J : (Nat → Prop) → World → Prop) : Prop :=
  ∀ N A B, (∀ i, N i → n0 ≤ i) → n0 ≤ A.heap.size → J N A → Ext N A B → J (grow N A B) B
/-- What a round may turn: no block of N's, and of those that lay at w0 only M's. -/
def Yc (M : Nat → Prop) (w0 : World) (N : Nat → Prop) : Nat → Prop := fun i => ¬ N i ∧ (M i ∨ w0.heap.size ≤ i)
/-- A call of yield, of loop l. -/
def YieldOk (P : Program) (l : Nat) (args : Array Value) (A : World) (R : Bool → World → Prop) : Prop :=
  ∃ fn tmps assign body, (Instr.yield l args).run P A = .ok (.round l fn tmps assign body) A ∧ RoundIn Fence.wide 0 P l fn tmps assign body A fun e w' => ∃ b, e = .returned (.bool b) ∧ R b w'
/-- Function value fv tells xs, one by one, to whoever ranges over it; it leans on what lies in w0 beside M. -/
def Iter {α : Type} (P : Program) (M : Nat → Prop) (w0 : World) (fv : Value) (encs : α → Array Value) (xs : List α) : Prop :=
  ∃ f cap, fv = .func (.func f) #[] cap ∧ entersB P f = true ∧
  ∀ (l : Nat) (W : World) (J : List α → (Nat → Prop) → World → Prop) (Jx : (Nat → Prop) → World → Prop), Ext M w0 W → (∀ pre, Stab W.heap.size (J pre)) → Stab W.heap.size Jx →
    (∀ N pre x A, (∀ i, N i → W.heap.size ≤ i ∧ i < A.heap.size) → W.heap.size ≤ A.heap.size → J pre N A → (∃ post, xs = pre ++ x :: post) →
      YieldOk P l (encs x) A fun b B => Ext (Yc M w0 N) A B ∧ (b = true → J (pre ++ [x]) N B) ∧ (b = false → Jx N B)) →
    J [] Non W →
    Calls P f (#[.func (.yield l) #[] #[]] ++ cap) W fun e W' => ∃ v N, e = .returned v ∧ W.heap.size ≤ W'.heap.size ∧ (∀ i, N i → W.heap.size ≤ i ∧ i < W'.heap.size) ∧ (J xs N W' ∨ Jx N W')
theorem Iter.ext {α : Type} {M M' : Nat → Prop} {w0 w1 : World} {fv : Value} {encs : α → Array Value} {xs : List α} (h : Iter P M w0 fv encs xs) (hE : Ext M w0 w1) (hM : ∀ i, M' i → i < w0.heap.size → M i) : Iter P M' w1 fv encs xs := by
  obtain ⟨f, cap, h1, h2, h3⟩ := h
  refine ⟨f, cap, h1, h2, fun l W J Jx hW hJ hJx hY h0 => h3 l W J Jx ?_ hJ hJx (fun N pre x A hN hA hj hp => ?_) h0⟩
  · exact ⟨hW.os.trans hE.os, hW.tape.trans hE.tape, hW.output.trans hE.output, Nat.le_trans hE.size hW.size, fun i hi hm => (hW.block i (Nat.lt_of_lt_of_le hi hE.size) (fun h => hm (hM i h hi))).trans (hE.block i hi hm)⟩
  · obtain ⟨fn, tmps, assign, body, hy, hr⟩ := hY N pre x A hN hA hj hp
    refine ⟨fn, tmps, assign, body, hy, hr.mono ?_⟩
    rintro e w' ⟨b, he, hE', h4⟩
    refine ⟨b, he, hE'.mono ?_, h4⟩
    rintro i ⟨h5, h6⟩
    refine ⟨h5, ?_⟩
    rcases Nat.lt_or_ge i w0.heap.size with hi | hi
    · rcases h6 with h6 | h6
      · exact .inl (hM i h6 hi)
      · have := hE.size; omega
    · exact .inr hi
/-- The temporaries behind yield's arguments. -/
def updN (σ : Env) : List Nat → List Value → Env
  | d :: ds, v :: vs => updN (upd σ d v) ds vs
  | _, _ => σ
/-- How a round may be left. -/
def RQ {α : Type} (M : Nat → Prop) (w0 : World) (I : List α → (Nat → Prop) → World → Prop) (X : Code → (Nat → Prop) → World → Prop) (N : Nat → Prop) (xs : List α) (A : World) : Post
  | .normal, _, _, B => Ext (Yc M w0 N) A B ∧ I xs N B
  | .ret, _, _, B => Ext (Yc M w0 N) A B ∧ X .ret N B
  | .exit id, _, _, B => Ext (Yc M w0 N) A B ∧ X (.exit id) N B
  | .goto t, _, _, B => Ext (Yc M w0 N) A B ∧ X (.goto t) N B
  | _, _, _, _ => False
def mark (r : Nat) : Deferred := { target := .collected r, args := #[] }
def XOk (n : Nat) (X : Code → (Nat → Prop) → World → Prop) (c : Code) (N : Nat → Prop) (A : World) : Prop := okc n c = true ∧ X c N A
theorem RQ.ok {α : Type} {M : Nat → Prop} {w0 : World} {I : List α → (Nat → Prop) → World → Prop} {X : Code → (Nat → Prop) → World → Prop} {N : Nat → Prop} {xs : List α} {A : World} (e : Exit) (σ : Env) (D : List Deferred) (B : World)
    (h : RQ M w0 I X N xs A e σ D B) : RQ M w0 I (XOk n X) N xs A e σ D B := by
  cases e with
  | normal => exact h
  | ret => exact ⟨h.1, rfl, h.2⟩
  | exit id => exact ⟨h.1, rfl, h.2⟩
  | goto t => exact ⟨h.1, rfl, h.2⟩
  | panic ch => exact h.elim
  | outgrown => exact h.elim
theorem XOk.stab {n0 : Nat} {X : Code → (Nat → Prop) → World → Prop} (h : ∀ c, Stab n0 (X c)) (c : Code) : Stab n0 (XOk n X c) :=
  fun N A B hN hA hx hE => ⟨hx.1, h c N A B hN hA hx.2 hE⟩
end Go.Proofs.YthcclgoidchkdaaDoorC
