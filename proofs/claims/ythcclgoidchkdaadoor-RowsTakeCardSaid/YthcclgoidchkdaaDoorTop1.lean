/- Going through a text's levels. -/
import Derived.Test.YthcclgoidchkdaaDoorCoreR
import Derived.Test.YthcclgoidchkdaaDoorStr1
import Derived.Test.YthcclgoidchkdaaDoorRef2
set_option linter.unusedVariables false
set_option linter.unusedSimpArgs false
set_option maxRecDepth 100000
namespace Go.Proofs.YthcclgoidchkdaaDoorC
open Go.RowKit
end Go.Proofs.YthcclgoidchkdaaDoorC
