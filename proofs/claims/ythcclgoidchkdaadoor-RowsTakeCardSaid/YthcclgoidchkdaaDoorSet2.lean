/- Searching a rising list; a map's functions. -/
import Derived.Test.YthcclgoidchkdaaDoorSet1
import Derived.Test.YthcclgoidchkdaaDoorOrd
set_option linter.unusedVariables false
set_option linter.unusedSimpArgs false
set_option maxRecDepth 100000
namespace Go.Proofs.YthcclgoidchkdaaDoorC
open Go.RowKit
def eI1 (x : Int) : List Value := [.int .i64 x]
def eS1 (x : Str) : List Value := [Sv x]
theorem eS_at {ks : List Str} {i : Nat} {x : Str} (h : ks[i]? = some x) : (ks.map eS1)[i]? = some [Sv x] := by simp [h, eS1]
end Go.Proofs.YthcclgoidchkdaaDoorC
