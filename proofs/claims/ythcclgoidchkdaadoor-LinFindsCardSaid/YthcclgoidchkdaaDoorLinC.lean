/- The document's orders, one behind the other, are all: the kernel goes through them. -/
import Derived.Test.YthcclgoidchkdaaDoorLinP
import Derived.KernelRfl
set_option linter.unusedVariables false
set_option linter.unusedSimpArgs false
namespace Go.Proofs.YthcclgoidchkdaaDoorC
theorem chain7 : eqLL (chain 5041 (List.range 7)) (PLr 7 (List.range 7)) = true := by kernel_rfl
theorem chain_PL {n : Nat} (h : n ≤ 7) : chain 5041 (List.range n) = PLr n (List.range n) := by
  have h0 : eqLL (chain 5041 (List.range 0)) (PLr 0 (List.range 0)) = true := by kernel_rfl
  have h1 : eqLL (chain 5041 (List.range 1)) (PLr 1 (List.range 1)) = true := by kernel_rfl
  have h2 : eqLL (chain 5041 (List.range 2)) (PLr 2 (List.range 2)) = true := by kernel_rfl
  have h3 : eqLL (chain 5041 (List.range 3)) (PLr 3 (List.range 3)) = true := by kernel_rfl
  have h4 : eqLL (chain 5041 (List.range 4)) (PLr 4 (List.range 4)) = true := by kernel_rfl
  have h5 : eqLL (chain 5041 (List.range 5)) (PLr 5 (List.range 5)) = true := by kernel_rfl
  have h6 : eqLL (chain 5041 (List.range 6)) (PLr 6 (List.range 6)) = true := by kernel_rfl
  obtain rfl | rfl | rfl | rfl | rfl | rfl | rfl | rfl : n = 0 ∨ n = 1 ∨ n = 2 ∨ n = 3 ∨ n = 4 ∨ n = 5 ∨ n = 6 ∨ n = 7 := by omega
  · exact eqLL_eq h0
  · exact eqLL_eq h1
  · exact eqLL_eq h2
  · exact eqLL_eq h3
  · exact eqLL_eq h4
  · exact eqLL_eq h5
  · exact eqLL_eq h6
  · exact eqLL_eq chain7
theorem orders_chain {l : List CallD} (h : l.length ≤ 7) : (chain 5041 (List.range l.length)).filter (chkN l (none0 l) st0) = orders l := by
  rw [chain_PL h]
  have := PL_alls l l.length (none0 l) st0 (by rw [undone0]; simp) (by simp [none0])
  rw [undone0] at this; exact this
end Go.Proofs.YthcclgoidchkdaaDoorC
