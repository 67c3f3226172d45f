/- Filters of the program; the law TopicEach. -/
import Derived.Test.YthcclgoidchkdaaDoorTop1
set_option linter.unusedVariables false
set_option linter.unusedSimpArgs false
set_option maxRecDepth 100000
namespace Go.Proofs.YthcclgoidchkdaaDoorC
open Go.RowKit
end Go.Proofs.YthcclgoidchkdaaDoorC
