/- How an argument of small numbers reads. -/
import Derived.Test.YthcclgoidchkdaaDoorTopRow
import Derived.Test.YthcclgoidchkdaaDoorLin10
import Derived.Test.YthcclgoidchkdaaDoorRows
set_option linter.unusedVariables false
set_option linter.unusedSimpArgs false
namespace Go.Proofs.YthcclgoidchkdaaDoor
open Go.RowKit Go.Proofs.YthcclgoidchkdaaDoorC Go.ChangeShapes
theorem u8_flat : flatT Tryd.prog 1 5 = some [.int .u8] := by kernel_rfl
theorem u8s_of : ∀ (rows : List (List Value)), (∀ r ∈ rows, flatOk [.int .u8] r) → ∃ l : List Nat, rows = l.map eU ∧ ∀ s ∈ l, s < 256
  | [], _ => ⟨[], rfl, fun s h => by cases h⟩
  | r :: rows, h => by
    obtain ⟨l, hl, hb⟩ := u8s_of rows (fun x hx => h x (by simp [hx]))
    obtain ⟨_, r1, e1, ⟨a1, rfl, hw⟩, h1⟩ := (h r (by simp)).cons
    have e2 := h1.nil
    have hr := u8_rng hw
    obtain ⟨m, rfl⟩ : ∃ m : Nat, a1 = (m : Int) := ⟨a1.toNat, by omega⟩
    exact ⟨m :: l, by rw [hl, e1, e2]; rfl, fun s hs => by rcases List.mem_cons.1 hs with rfl | hs; omega; exact hb s hs⟩
end Go.Proofs.YthcclgoidchkdaaDoor
