/- Helps for walks: cuts behind a region, three that are ready at once, bound methods, bits; each rule holds of whatever program. -/
import Derived.Test.YthcclgoidchkdaaDoorCoreU
import Derived.Test.YthcclgoidchkdaaDoorCoreP
import Derived.Test.YthcclgoidchkdaaDoorCoreO
set_option linter.unusedVariables false
set_option linter.unusedSimpArgs false
namespace Go.Proofs.YthcclgoidchkdaaDoorC
open Go.RowKit
variable {ro : Option Nat} {P : Program} {n : Nat} {Q : Post} {σ : Env} {D : List Deferred} {w : World} {dst : Option Nat} {ty : TypeId} {pos : String} {af : Array Edge} {g : Option (Nat × Bool)}
variable {ops rest : List Oper} {K : Ops} {S : World → Prop} {ex : Nat → Bool}

section
variable {x y : Operand} {t u : TypeId} {a b : Int}
theorem rn_neg (hx : ev σ x = .int .i64 a) (h : -9223372036854775808 ≤ -a ∧ -a ≤ 9223372036854775807) : Rn P σ w ⟨dst, .unOp .neg t x, ty, pos, af, g⟩ (.int .i64 (-a)) := by
  show (execOp (ev σ) _).run P w = _
  have e : IntKind.i64.wrap (0 - a) = -a := by rw [Int.zero_sub]; exact wrap_id h
  simp [execOp, hx, Op.unary, Op.intArith, Sem.run_bind, Result.andThen, Sem.run]
  rw [← Int.zero_sub, e, Int.zero_sub]
theorem rn_quo (hx : ev σ x = .int .i64 a) (hy : ev σ y = .int .i64 b) (hb : b ≠ 0) (h : -9223372036854775808 ≤ a.tdiv b ∧ a.tdiv b ≤ 9223372036854775807) : Rn P σ w ⟨dst, .binOp .quo t x y u, ty, pos, af, g⟩ (.int .i64 (a.tdiv b)) := by
  show (execOp (ev σ) _).run P w = _
  have h5 : Op.intDiv .quo .i64 a b = pure (.int .i64 (a.tdiv b)) := by unfold Op.intDiv; rw [if_neg hb]; simp only [wrap_id h]
  simp [execOp, hx, hy, eqGuard, binOp, h5, Sem.run_bind, Result.andThen, Sem.run]
theorem rn_tmod (hx : ev σ x = .int .i64 a) (hy : ev σ y = .int .i64 b) (hb : b ≠ 0) : Rn P σ w ⟨dst, .binOp .rem t x y u, ty, pos, af, g⟩ (.int .i64 (a.tmod b)) := by
  show (execOp (ev σ) _).run P w = _
  have h5 : Op.intDiv .rem .i64 a b = pure (.int .i64 (a.tmod b)) := by unfold Op.intDiv; rw [if_neg hb]
  simp [execOp, hx, hy, eqGuard, binOp, h5, Sem.run_bind, Result.andThen, Sem.run]
end
theorem FnM.mono {M : Nat → Prop} {f : FuncId} {args : Array Value} {R R' : Value → World → Prop} (h : FnM P M f args w R) (hr : ∀ v w', Ext M w w' → R v w' → R' v w') : FnM P M f args w R' :=
  Calls.mono h fun e w' hx => by obtain ⟨v, h1, h2, h3⟩ := hx; exact ⟨v, h1, h2, hr _ _ h2 h3⟩
theorem FnM.sub {M M' : Nat → Prop} {f : FuncId} {args : Array Value} {R : Value → World → Prop} (h : FnM P M f args w R) (hm : ∀ i, M i → M' i) : FnM P M' f args w R :=
  Calls.mono h fun e w' hx => by obtain ⟨v, h1, h2, h3⟩ := hx; exact ⟨v, h1, h2.mono hm, h3⟩
/-- One's own blocks, written. -/
theorem Ext.own2 {F F' : Nat → Prop} {A B : World} (h : Ext F w A) (k : Ext F' A B) (hF : ∀ i, F' i → Mine F w i) : Ext F w B :=
  ⟨k.os.trans h.os, k.tape.trans h.tape, k.output.trans h.output, Nat.le_trans h.size k.size, fun i hi hn => (k.block i (Nat.lt_of_lt_of_le hi h.size) fun h' => by rcases hF i h' with q | q; exact hn q; omega).trans (h.block i hi hn)⟩
end Go.Proofs.YthcclgoidchkdaaDoorC
