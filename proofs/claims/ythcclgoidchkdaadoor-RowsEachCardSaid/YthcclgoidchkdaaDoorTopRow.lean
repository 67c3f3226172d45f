/- What the rows of the laws on texts share: how their arguments read. -/
import Derived.Test.YthcclgoidchkdaaDoorCoreS
import Derived.Test.YthcclgoidchkdaaDoorEnc
import Derived.Test.YthcclgoidchkdaaDoorSet2
import Derived.Test.YthcclgoidchkdaaDoorRows
set_option linter.unusedVariables false
set_option linter.unusedSimpArgs false
namespace Go.Proofs.YthcclgoidchkdaaDoor
open Go.RowKit Go.Proofs.YthcclgoidchkdaaDoorC Go.ChangeShapes
theorem own3 : ownKnob Tryd.prog.godebug = none := by kernel_rfl
theorem laidOut3 : laidOutB Tryd.prog = true := by kernel_rfl
theorem u8_rng {n : Int} (h : (Lit.int .u8 n).wf = true) : 0 ≤ n ∧ n ≤ 255 := by
  have h1 : IntKind.u8.min = 0 := rfl
  have h2 : IntKind.u8.max = 255 := rfl
  have h : (decide (IntKind.u8.min ≤ n) && decide (n ≤ IntKind.u8.max)) = true := h
  rw [h1, h2, Bool.and_eq_true] at h
  exact ⟨of_decide_eq_true h.1, of_decide_eq_true h.2⟩
end Go.Proofs.YthcclgoidchkdaaDoor
