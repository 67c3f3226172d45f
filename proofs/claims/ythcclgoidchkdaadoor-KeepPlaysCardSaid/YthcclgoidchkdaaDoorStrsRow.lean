/- How arguments of many texts, numbers, signs read. -/
import Derived.Test.YthcclgoidchkdaaDoorTopRow
set_option linter.unusedVariables false
set_option linter.unusedSimpArgs false
namespace Go.Proofs.YthcclgoidchkdaaDoor
open Go.RowKit Go.Proofs.YthcclgoidchkdaaDoorC Go.ChangeShapes
theorem str_flat : flatT Tryd.prog 1 9 = some [.str] := by kernel_rfl
theorem strs_of : ∀ (rows : List (List Value)), (∀ r ∈ rows, flatOk [.str] r) → ∃ l : List Str, rows = l.map eS1 ∧ ∀ x ∈ l, x.length ≤ maxLen
  | [], _ => ⟨[], rfl, by simp⟩
  | r :: rows, h => by
    obtain ⟨l, hl, hm⟩ := strs_of rows (fun x hx => h x (by simp [hx]))
    obtain ⟨_, r1, e1, ⟨a1, rfl, ha⟩, h1⟩ := (h r (by simp)).cons
    have e2 := h1.nil
    exact ⟨a1 :: l, by rw [hl, e1, e2]; rfl, fun x hx => by rcases List.mem_cons.1 hx with rfl | hx; exact ha; exact hm x hx⟩
end Go.Proofs.YthcclgoidchkdaaDoor
