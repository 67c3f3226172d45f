/- The library's functions on slices that the sets use: clone, delete, insert, and a list with something at a place. -/
import Derived.Test.YthcclgoidchkdaaDoorCoreV
import Derived.Test.YthcclgoidchkdaaDoorTy
set_option linter.unusedVariables false
set_option linter.unusedSimpArgs false
set_option maxRecDepth 100000
namespace Go.Proofs.YthcclgoidchkdaaDoorC
open Go.RowKit
end Go.Proofs.YthcclgoidchkdaaDoorC
