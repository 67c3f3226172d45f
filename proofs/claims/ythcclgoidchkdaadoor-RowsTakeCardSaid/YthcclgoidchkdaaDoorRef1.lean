/- The document's functions on texts, topics and filters. -/
import Derived.Test.YthcclgoidchkdaaDoorMat
import Derived.Test.YthcclgoidchkdaaDoorSet2
set_option linter.unusedVariables false
set_option linter.unusedSimpArgs false
set_option maxRecDepth 100000
namespace Go.Proofs.YthcclgoidchkdaaDoorC
open Go.RowKit
theorem u8_eq {c d : UInt8} (h : (c.toNat : Int) = (d.toNat : Int)) : c = d := UInt8.toNat_inj.1 (by omega)
end Go.Proofs.YthcclgoidchkdaaDoorC
