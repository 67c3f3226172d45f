/- The laws TopicTells and TopicJoins. -/
import Derived.Test.YthcclgoidchkdaaDoorTop3
set_option linter.unusedVariables false
set_option linter.unusedSimpArgs false
set_option maxRecDepth 100000
namespace Go.Proofs.YthcclgoidchkdaaDoorC
open Go.RowKit
theorem joinB_take_le (b : UInt8) : ∀ (L : List Str) (i : Nat), (joinB b (L.take i)).length ≤ (joinB b L).length
  | [], i => by simp
  | [x], 0 => by simp [joinB]
  | [x], i + 1 => by simp
  | x :: y :: L, 0 => by simp [joinB]
  | x :: y :: L, i + 1 => by
    have ih := joinB_take_le b (y :: L) i
    rw [List.take_succ_cons, joinB_cons b x (r := y :: L) (by simp)]
    cases i with
    | zero => simp [joinB]
    | succ i =>
      rw [joinB_cons b x (by simp)]
      simp only [List.length_append, List.length_cons] at *
      omega
theorem join_step {b : UInt8} {L : List Str} {i : Nat} {l : Str} (h : L[i]? = some l) (h0 : 0 < i) : joinB b (L.take (i + 1)) = joinB b (L.take i) ++ [b] ++ l := by
  have hlt := (List.getElem?_eq_some_iff.1 h).1
  have hne : L.take i ≠ [] := fun e => by have h1 := congrArg List.length e; rw [List.length_take, List.length_nil] at h1; omega
  have e : L.take (i + 1) = L.take i ++ [l] := by rw [List.take_add_one, h]; rfl
  rw [e, joinB_snoc b _ _ hne]; simp
theorem join_zero {b : UInt8} {L : List Str} {l : Str} (h : L[0]? = some l) : joinB b (L.take 1) = l := by
  cases L with
  | nil => cases h
  | cons x L => simp at h; subst h; simp [joinB]
end Go.Proofs.YthcclgoidchkdaaDoorC
