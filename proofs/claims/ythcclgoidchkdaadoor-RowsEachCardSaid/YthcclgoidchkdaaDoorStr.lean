/- Texts: where a byte stands, what lies ahead of it; the library's search for a byte, in the calculus. -/
import Derived.Test.YthcclgoidchkdaaDoorCoreP
import Derived.Laws.Externs
import Derived.Lib.Bytealg
import Derived.Laws.IdiomStrings
set_option linter.unusedVariables false
set_option linter.unusedSimpArgs false
namespace Go.Proofs.YthcclgoidchkdaaDoorC
open Go.RowKit
/-- What lies ahead of the first byte c. -/
def pre1 (c : UInt8) (s : Str) : Str := s.takeWhile (fun x => !(x == c))
/-- The place of the first byte c, or -1. -/
def fi (s : Str) (c : UInt8) : Int := if c ∈ s then ((pre1 c s).length : Int) else -1
/-- Function f is the library's search for a byte. -/
structure IB (P : Program) (f : FuncId) : Prop where
  ex : ∃ fn, P.funcs[f]? = some fn ∧ (fn.name == "runtime.NumGoroutine") = false ∧ fn.body.isNone = true ∧ Extern.findNext fn = none ∧ Extern.find fn = some Extern.BytealgIndexByte.indexByte
section
variable {P : Program} {σ : Env} {w : World} {dst : Option Nat} {ty : TypeId} {pos : String} {af : Array Edge} {g : Option (Nat × Bool)}
end
/-- Function f is the library's count of a byte. -/
structure CB (P : Program) (f : FuncId) : Prop where
  ex : ∃ fn, P.funcs[f]? = some fn ∧ (fn.name == "runtime.NumGoroutine") = false ∧ fn.body.isNone = true ∧ Extern.findNext fn = none ∧ Extern.find fn = some Extern.BytealgCount.count
section
variable {P : Program} {σ : Env} {w : World} {dst : Option Nat} {ty : TypeId} {pos : String} {af : Array Edge} {g : Option (Nat × Bool)}
end
section
variable {P : Program} {σ : Env} {w : World} {ty : TypeId} {pos : String} {af : Array Edge} {ops rest : List Oper} {K : Ops}
end
end Go.Proofs.YthcclgoidchkdaaDoorC
