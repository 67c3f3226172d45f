/- Levels of a text, topics, filters, and which matches which: plain lists. -/
import Derived.Test.YthcclgoidchkdaaDoorStr
set_option linter.unusedVariables false
set_option linter.unusedSimpArgs false
namespace Go.Proofs.YthcclgoidchkdaaDoorC
open Go.RowKit

end Go.Proofs.YthcclgoidchkdaaDoorC
