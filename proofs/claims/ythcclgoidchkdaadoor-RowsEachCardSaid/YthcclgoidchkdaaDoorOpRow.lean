/- The library's two errors, off the row. -/
import Derived.Test.YthcclgoidchkdaaDoorLinRow
import Derived.Test.YthcclgoidchkdaaDoorOpAb
import Derived.LaidLaws
set_option linter.unusedVariables false
set_option linter.unusedSimpArgs false
namespace Go.Proofs.YthcclgoidchkdaaDoor
open Go.RowKit Go.Proofs.YthcclgoidchkdaaDoorC Go.ChangeShapes
end Go.Proofs.YthcclgoidchkdaaDoor
