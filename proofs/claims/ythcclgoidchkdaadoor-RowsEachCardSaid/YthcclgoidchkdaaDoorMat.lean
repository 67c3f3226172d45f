/- Topics, filters, and which matches which: plain lists. -/
import Derived.Test.YthcclgoidchkdaaDoorLev
set_option linter.unusedVariables false
set_option linter.unusedSimpArgs false
namespace Go.Proofs.YthcclgoidchkdaaDoorC
open Go.RowKit

end Go.Proofs.YthcclgoidchkdaaDoorC
