/- An element of several cells of a call's own slice is written over. -/
import Derived.Test.YthcclgoidchkdaaDoorCoreO
set_option linter.unusedVariables false
set_option linter.unusedSimpArgs false
namespace Go.Proofs.YthcclgoidchkdaaDoorC
open Go.RowKit
variable {ro : Option Nat} {P : Program} {n : Nat} {Q : Post} {σ : Env} {D : List Deferred} {w : World} {dst : Option Nat} {ty : TypeId} {pos : String} {af : Array Edge} {g : Option (Nat × Bool)}
variable {ops rest : List Oper} {K : Ops}
/-- A part of a box is written: several cells. -/
theorem wl_storeP {t : TypeId} {x y : Operand} {b i k : Nat} {cs vs : List Value} (hT : structT P t k) (hx : ev σ x = .pointer (some ⟨b, i, none⟩)) (hy : ev σ y = .agg vs.toArray) (hk : vs.length = k) (h1 : ∀ u ∈ vs, u.oneCell' = true) (hb : IsBox w b cs) (hl : i + k ≤ cs.length)
    (kk : ∀ w', Ext (fun j => j = b) w w' → IsBox w' b (patch cs i vs) → w'.heap.size = w.heap.size → wl P ops rest K σ w') : wl P ops (⟨none, .store t x y, ty, pos, af, none⟩ :: rest) K σ w := by
  obtain ⟨w', h2, h3, h4, h5⟩ := rs_store (dst := none) (ty := ty) (pos := pos) (af := af) (g := none) (by simp [Value.cells, hk]; simpa using hT.2) hx hy (by simpa [Value.cells] using h1) hb (by simp [Value.cells]; omega)
  refine wl_do h2 (kk w' h3 ?_ h5)
  have : (Value.agg vs.toArray).cells.toList = vs := by simp [Value.cells]
  rw [this] at h4
  exact h4
end Go.Proofs.YthcclgoidchkdaaDoorC
