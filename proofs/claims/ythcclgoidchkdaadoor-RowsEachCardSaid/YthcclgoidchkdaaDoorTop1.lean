/- Going through a text's levels. -/
import Derived.Test.YthcclgoidchkdaaDoorCoreR
import Derived.Test.YthcclgoidchkdaaDoorStr1
import Derived.Test.YthcclgoidchkdaaDoorRef2
set_option linter.unusedVariables false
set_option linter.unusedSimpArgs false
set_option maxRecDepth 100000
namespace Go.Proofs.YthcclgoidchkdaaDoorC
open Go.RowKit
/-- Texts with their places. -/
def numb (L : List Str) : List (Nat × Str) := L.zipIdx.map fun p => (p.2, p.1)
theorem numb_snoc (L : List Str) (x : Str) : numb (L ++ [x]) = numb L ++ [(L.length, x)] := by simp [numb, List.zipIdx_append]
theorem numb_len (L : List Str) : (numb L).length = L.length := by simp [numb]
theorem numb_pre {L : List Str} {pre post : List Str} {x : Str} (h : L = pre ++ x :: post) : ∃ q, numb L = numb pre ++ (pre.length, x) :: q := by
  subst h
  refine ⟨(post.zipIdx (pre.length + 1)).map fun p => (p.2, p.1), ?_⟩
  simp [numb, List.zipIdx_append, List.zipIdx_cons]
theorem numb_get (L : List Str) (j : Nat) : (numb L)[j]? = L[j]?.map fun x => (j, x) := by
  unfold numb; rw [List.getElem?_map, List.getElem?_zipIdx]; cases L[j]? <;> simp
theorem numb_take (L : List Str) (n : Nat) : (numb L).take n = numb (L.take n) := by
  apply List.ext_getElem?; intro j
  rw [List.getElem?_take, numb_get, numb_get, List.getElem?_take]; split <;> simp
theorem numb_at {L : List Str} {pre post : List (Nat × Str)} {i : Nat} {x : Str} (h : numb L = pre ++ (i, x) :: post) : i = pre.length ∧ L[i]? = some x ∧ pre = numb (L.take i) := by
  have h0 : (numb L)[pre.length]? = some (i, x) := by rw [h]; simp
  rw [numb_get] at h0
  cases hx : L[pre.length]? with
  | none => rw [hx] at h0; cases h0
  | some y =>
    rw [hx] at h0
    simp at h0
    obtain ⟨rfl, rfl⟩ := h0
    refine ⟨rfl, hx, ?_⟩
    have h1 : (numb L).take pre.length = pre := by rw [h]; simp
    rw [← numb_take]; exact h1.symm
end Go.Proofs.YthcclgoidchkdaaDoorC
