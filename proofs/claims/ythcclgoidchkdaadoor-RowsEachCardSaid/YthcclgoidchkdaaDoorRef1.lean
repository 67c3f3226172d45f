/- The document's functions on texts, topics and filters. -/
import Derived.Test.YthcclgoidchkdaaDoorMat
import Derived.Test.YthcclgoidchkdaaDoorSet2
set_option linter.unusedVariables false
set_option linter.unusedSimpArgs false
set_option maxRecDepth 100000
namespace Go.Proofs.YthcclgoidchkdaaDoorC
open Go.RowKit
end Go.Proofs.YthcclgoidchkdaaDoorC
