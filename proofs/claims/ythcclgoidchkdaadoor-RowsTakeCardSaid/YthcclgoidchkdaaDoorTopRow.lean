/- What the rows of the laws on texts share: how their arguments read. -/
import Derived.Test.YthcclgoidchkdaaDoorCoreS
import Derived.Test.YthcclgoidchkdaaDoorEnc
import Derived.Test.YthcclgoidchkdaaDoorSet2
import Derived.Test.YthcclgoidchkdaaDoorRows
set_option linter.unusedVariables false
set_option linter.unusedSimpArgs false
namespace Go.Proofs.YthcclgoidchkdaaDoor
open Go.RowKit Go.Proofs.YthcclgoidchkdaaDoorC Go.ChangeShapes
theorem own3 : ownKnob Tryd.prog.godebug = none := by kernel_rfl
theorem laidOut3 : laidOutB Tryd.prog = true := by kernel_rfl
end Go.Proofs.YthcclgoidchkdaaDoor
