/- More single operations in the calculus: equality of truth values, the greater of two; each rule holds of whatever program. -/
import Derived.Test.YthcclgoidchkdaaDoorOrd
set_option linter.unusedVariables false
set_option linter.unusedSimpArgs false
namespace Go.Proofs.YthcclgoidchkdaaDoorC
open Go.RowKit
variable {P : Program} {σ : Env} {w : World} {dst : Option Nat} {ty : TypeId} {pos : String} {af : Array Edge} {g : Option (Nat × Bool)}
theorem rn_beql {t u : TypeId} (hu : P.underlying t = some .bool) {x y : Operand} {a b : Bool} (hx : ev σ x = .bool a) (hy : ev σ y = .bool b) : Rn P σ w ⟨dst, .binOp .eql t x y u, ty, pos, af, g⟩ (.bool (decide (a = b))) := by
  show (execOp (ev σ) _).run P w = _
  have h1 : (Op.equal t (.bool a) (.bool b)).run P w = .ok (decide (a = b)) w := eqs_bool hu 10000 w (by decide)
  have h2 : (binOp .eql t (.bool a) (.bool b)).run P w = .ok (.bool (decide (a = b))) w := by
    show (do pure (Value.bool (← Op.equal t (.bool a) (.bool b)))).run P w = _
    rw [Sem.run_bind, h1]; rfl
  have h3 : (eqGuard .eql t x y (.bool a) (.bool b)).run P w = .ok () w := rfl
  simp only [execOp, hx, hy]
  rw [Sem.run_bind, Sem.run_bind, h3, Result.andThen_ok, h2]
  rfl
theorem rn_max2 {t u : TypeId} {x y : Operand} {k : IntKind} {a b : Int} (hx : ev σ x = .int k a) (hy : ev σ y = .int k b) : Rn P σ w ⟨dst, .call ⟨.builtin .max, #[x, y], #[t, u]⟩, ty, pos, af, g⟩ (.int k (if b > a then b else a)) := by
  show (execOp (ev σ) _).run P w = _
  simp [execOp, resolve, invoke, builtin, hx, hy, Builtin.max_, Builtin.max2]
/-- a % b, neither below 0, b above 0. -/
theorem rn_rem {t u : TypeId} {x y : Operand} {a b : Nat} (hx : ev σ x = .int .i64 (a : Int)) (hy : ev σ y = .int .i64 (b : Int)) (hb : 0 < b) (hr : a ≤ 9223372036854775807) : Rn P σ w ⟨dst, .binOp .rem t x y u, ty, pos, af, g⟩ (.int .i64 ((a % b : Nat) : Int)) := by
  show (execOp (ev σ) _).run P w = _
  have h1 : ¬ ((b : Int) = 0) := by omega
  have h2 : Int.tmod (a : Int) (b : Int) = ((a % b : Nat) : Int) := by rw [Int.ofNat_tmod]
  have h5 : Op.intDiv .rem .i64 (a : Int) (b : Int) = pure (.int .i64 ((a % b : Nat) : Int)) := by unfold Op.intDiv; rw [if_neg h1]; simp only [h2]
  simp [execOp, hx, hy, eqGuard, binOp, h5]
end Go.Proofs.YthcclgoidchkdaaDoorC
