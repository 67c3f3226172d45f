/- More single operations in the calculus: equality of truth values, the greater of two; each rule holds of whatever program. -/
import Derived.Test.YthcclgoidchkdaaDoorOrd
set_option linter.unusedVariables false
set_option linter.unusedSimpArgs false
namespace Go.Proofs.YthcclgoidchkdaaDoorC
open Go.RowKit
variable {P : Program} {σ : Env} {w : World} {dst : Option Nat} {ty : TypeId} {pos : String} {af : Array Edge} {g : Option (Nat × Bool)}
theorem rn_beql {t u : TypeId} (hu : P.underlying t = some .bool) {x y : Operand} {a b : Bool} (hx : ev σ x = .bool a) (hy : ev σ y = .bool b) : Rn P σ w ⟨dst, .binOp .eql t x y u, ty, pos, af, g⟩ (.bool (decide (a = b))) := by
  show (execOp (ev σ) _).run P w = _
  have h1 : (Op.equal t (.bool a) (.bool b)).run P w = .ok (decide (a = b)) w := eqs_bool hu 10000 w (by decide)
  have h2 : (binOp .eql t (.bool a) (.bool b)).run P w = .ok (.bool (decide (a = b))) w := by
    show (do pure (Value.bool (← Op.equal t (.bool a) (.bool b)))).run P w = _
    rw [Sem.run_bind, h1]; rfl
  have h3 : (eqGuard .eql t x y (.bool a) (.bool b)).run P w = .ok () w := rfl
  simp only [execOp, hx, hy]
  rw [Sem.run_bind, Sem.run_bind, h3, Result.andThen_ok, h2]
  rfl
end Go.Proofs.YthcclgoidchkdaaDoorC
