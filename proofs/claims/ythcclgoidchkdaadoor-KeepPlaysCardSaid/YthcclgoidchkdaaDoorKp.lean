/- What is got of a map behind a putting, and behind a dropping. -/
import Derived.Test.YthcclgoidchkdaaDoorOrd2
set_option linter.unusedVariables false
set_option linter.unusedSimpArgs false
namespace Go.Proofs.YthcclgoidchkdaaDoorC
open Go.RowKit
section
set_option linter.unusedSectionVars false
variable {κ β : Type} [DecidableEq κ] {lt : κ → κ → Bool}
theorem isAt_get {l : List κ} {x : κ} (h : isAt lt l x = true) : l[lb lt l x]? = some x := by unfold isAt at h; exact of_decide_eq_true h
theorem putK_get (l : List κ) (x : κ) : (putK lt l x)[lb lt l x]? = some x := by
  have hlb := lb_le (lt := lt) l x
  unfold putK; split
  · exact isAt_get ‹_›
  · rw [List.getElem?_append_right (by rw [List.length_take]; omega), List.length_take, Nat.min_eq_left hlb, Nat.sub_self]; rfl
theorem putW_get {l : List κ} {x : κ} {vs : List β} {r : β} (h : vs.length = l.length) : (putW lt l x vs r)[lb lt l x]? = some r := by
  have hlb := lb_le (lt := lt) l x
  unfold putW; split
  · have := isAt_lt ‹_›; rw [List.getElem?_set_self (by omega)]
  · rw [List.getElem?_append_right (by rw [List.length_take]; omega), List.length_take, Nat.min_eq_left (by omega), Nat.sub_self]; rfl
theorem put_at (hl : Lo lt) {l : List κ} (hs : Sorted lt l) (x : κ) : isAt lt (putK lt l x) x = true ∧ lb lt (putK lt l x) x = lb lt l x := by
  have h := (key_at hl (putK_sorted hl hs x) (x := x) (putK_get l x)).2.1 rfl
  exact ⟨h.1, h.2.symm⟩
theorem drop_not (hl : Lo lt) {l : List κ} (hs : Sorted lt l) (x : κ) : isAt lt (dropK lt l x) x = false := by
  cases h : isAt lt (dropK lt l x) x with
  | false => rfl
  | true =>
    exfalso
    have hm := List.mem_of_getElem? (isAt_get h)
    unfold dropK at hm
    split at hm
    · rename_i hat
      rcases List.mem_append.1 hm with hm | hm
      · obtain ⟨j, hj⟩ := List.getElem?_of_mem hm
        have hjl := (List.getElem?_eq_some_iff.1 hj).1
        rw [List.length_take] at hjl
        rw [List.getElem?_take_of_lt (by omega)] at hj
        have := ((key_at hl hs (x := x) hj).2.1 rfl).2; omega
      · obtain ⟨j, hj⟩ := List.getElem?_of_mem hm
        rw [List.getElem?_drop] at hj
        have := ((key_at hl hs (x := x) hj).2.1 rfl).2; omega
    · rename_i hat
      obtain ⟨j, hj⟩ := List.getElem?_of_mem hm
      exact hat ((key_at hl hs (x := x) hj).2.1 rfl).1
end
end Go.Proofs.YthcclgoidchkdaaDoorC
