/- Searching a rising list; a map's functions. -/
import Derived.Test.YthcclgoidchkdaaDoorSet1
import Derived.Test.YthcclgoidchkdaaDoorOrd
set_option linter.unusedVariables false
set_option linter.unusedSimpArgs false
set_option maxRecDepth 100000
namespace Go.Proofs.YthcclgoidchkdaaDoorC
open Go.RowKit
def eI1 (x : Int) : List Value := [.int .i64 x]
end Go.Proofs.YthcclgoidchkdaaDoorC
