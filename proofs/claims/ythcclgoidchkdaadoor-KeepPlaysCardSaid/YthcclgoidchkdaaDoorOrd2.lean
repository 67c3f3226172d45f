/- Maps with rising keys: what the document's loops lay, by places; texts compared byte by byte. -/
import Derived.Test.YthcclgoidchkdaaDoorOrd
set_option linter.unusedVariables false
set_option linter.unusedSimpArgs false
namespace Go.Proofs.YthcclgoidchkdaaDoorC
open Go.RowKit
section
set_option linter.unusedSectionVars false
variable {κ β : Type} [DecidableEq κ] {lt : κ → κ → Bool}
def dropK (lt : κ → κ → Bool) (l : List κ) (x : κ) : List κ := if isAt lt l x = true then l.take (lb lt l x) ++ l.drop (lb lt l x + 1) else l
def dropV (lt : κ → κ → Bool) (l : List κ) (x : κ) (vs : List β) : List β := if isAt lt l x = true then vs.take (lb lt l x) ++ vs.drop (lb lt l x + 1) else vs
theorem dropV_len {l : List κ} {x : κ} {vs : List β} (h : vs.length = l.length) : (dropV lt l x vs).length = (dropK lt l x).length := by
  unfold dropV dropK; split
  · simp [h]
  · exact h
theorem dropV_map {γ : Type} (f : β → γ) (l : List κ) (x : κ) (vs : List β) : dropV lt l x (vs.map f) = (dropV lt l x vs).map f := by
  unfold dropV; split <;> simp [List.map_take, List.map_drop]
theorem dropK_len (l : List κ) (x : κ) : (dropK lt l x).length ≤ l.length := by unfold dropK; split <;> simp <;> omega
theorem sorted_sub {l m : List κ} (h : Sorted lt l) (hs : m.Sublist l) : Sorted lt m := List.Pairwise.sublist hs h
theorem dropK_sub (l : List κ) (x : κ) : (dropK lt l x).Sublist l := by
  unfold dropK; split
  · have h : (l.take (lb lt l x) ++ l.drop (lb lt l x)) = l := List.take_append_drop _ _
    conv => rhs; rw [← h]
    refine List.Sublist.append (List.Sublist.refl _) ?_
    rw [← List.drop_drop]; exact List.drop_sublist _ _
  · exact List.Sublist.refl _
theorem dropK_sorted {l : List κ} (h : Sorted lt l) (x : κ) : Sorted lt (dropK lt l x) := sorted_sub h (dropK_sub l x)
/-- Values put by places. -/
def putW (lt : κ → κ → Bool) (l : List κ) (x : κ) (vs : List β) (r : β) : List β := if isAt lt l x = true then vs.set (lb lt l x) r else vs.take (lb lt l x) ++ r :: vs.drop (lb lt l x)
theorem putW_map {γ : Type} (f : β → γ) (l : List κ) (x : κ) (vs : List β) (r : β) : putW lt l x (vs.map f) (f r) = (putW lt l x vs r).map f := by
  unfold putW; split
  · rw [List.map_set]
  · simp [List.map_take, List.map_drop]
theorem putW_len {l : List κ} {x : κ} {vs : List β} {r : β} (h : vs.length = l.length) : (putW lt l x vs r).length = (putK lt l x).length := by
  have := lb_le (lt := lt) l x
  unfold putW putK; split
  · simp [h]
  · simp [h]
/-- What is taken ahead of place i, when x is put with r. -/
def putAt (n : Nat) (a : Bool) (vs : List β) (r : β) (i : Nat) : List β := if n < i then vs.take n ++ r :: (vs.take i).drop (n + a.toNat) else vs.take i
theorem putAt_lo {n i : Nat} {a : Bool} {vs : List β} {r : β} {v : β} (h : i < n) (hv : vs[i]? = some v) : putAt n a vs r (i + 1) = putAt n a vs r i ++ [v] := by
  unfold putAt
  rw [if_neg (by omega), if_neg (by omega), List.take_add_one, hv]; rfl
theorem putAt_eq {n : Nat} {vs : List β} {r : β} {v : β} (hv : vs[n]? = some v) : putAt n true vs r (n + 1) = putAt n true vs r n ++ [r] := by
  have hlt := (List.getElem?_eq_some_iff.1 hv).1
  unfold putAt
  rw [if_pos (by omega), if_neg (by omega), List.drop_of_length_le (by rw [List.length_take]; simp; omega)]
theorem putAt_ne {n : Nat} {vs : List β} {r : β} {v : β} (hv : vs[n]? = some v) : putAt n false vs r (n + 1) = putAt n false vs r n ++ [r] ++ [v] := by
  have hlt := (List.getElem?_eq_some_iff.1 hv).1
  unfold putAt
  rw [if_pos (by omega), if_neg (by omega), List.take_add_one, hv]
  simp [List.drop_append, List.length_take, Nat.min_eq_left (Nat.le_of_lt hlt)]
theorem putAt_hi {n i : Nat} {a : Bool} {vs : List β} {r : β} {v : β} (h : n < i) (hv : vs[i]? = some v) : putAt n a vs r (i + 1) = putAt n a vs r i ++ [v] := by
  have hlt := (List.getElem?_eq_some_iff.1 hv).1
  unfold putAt
  have ha : a.toNat ≤ 1 := Bool.toNat_le a
  rw [if_pos (by omega), if_pos h, List.take_add_one, hv, List.drop_append_of_le_length (by rw [List.length_take]; omega)]
  simp
theorem putAt_end {l : List κ} {x : κ} {vs : List β} {r : β} (h : vs.length = l.length) : (if lb lt l x < l.length then putAt (lb lt l x) (isAt lt l x) vs r l.length else putAt (lb lt l x) (isAt lt l x) vs r l.length ++ [r]) = putW lt l x vs r := by
  unfold putAt putW
  by_cases hlt : lb lt l x < l.length
  · rw [if_pos hlt, if_pos hlt, ← h, List.take_length]
    cases ha : isAt lt l x with
    | true => rw [if_pos rfl, List.set_eq_take_append_cons_drop, if_pos (by omega)]; rfl
    | false => rw [if_neg (by simp)]; rfl
  · have hle := lb_le (lt := lt) l x
    have he : lb lt l x = l.length := by omega
    have ha : isAt lt l x = false := by
      cases ha : isAt lt l x with
      | false => rfl
      | true => have := isAt_lt ha; omega
    rw [if_neg hlt, if_neg hlt, ha, if_neg (by simp), he, ← h, List.take_length, List.drop_length]
/-- What is left ahead of place i, when x is dropped. -/
def dropAt (n : Nat) (a : Bool) (vs : List β) (i : Nat) : List β := if a = true ∧ n < i then vs.take n ++ (vs.take i).drop (n + 1) else vs.take i
theorem dropAt_eq {n : Nat} {vs : List β} {v : β} (hv : vs[n]? = some v) : dropAt n true vs (n + 1) = dropAt n true vs n := by
  have hlt := (List.getElem?_eq_some_iff.1 hv).1
  unfold dropAt
  rw [if_pos ⟨rfl, by omega⟩, if_neg (by omega), List.drop_of_length_le (by rw [List.length_take]; omega), List.append_nil]
theorem dropAt_ne {n i : Nat} {a : Bool} {vs : List β} {v : β} (h : ¬ (a = true ∧ i = n)) (hv : vs[i]? = some v) : dropAt n a vs (i + 1) = dropAt n a vs i ++ [v] := by
  have hlt := (List.getElem?_eq_some_iff.1 hv).1
  unfold dropAt
  by_cases ha : a = true
  · subst ha
    have hin : i ≠ n := fun e => h ⟨rfl, e⟩
    by_cases hi : n < i
    · rw [if_pos ⟨rfl, by omega⟩, if_pos ⟨rfl, hi⟩, List.take_add_one, hv, List.drop_append_of_le_length (by rw [List.length_take]; omega)]
      simp
    · rw [if_neg (by omega), if_neg (by omega), List.take_add_one, hv]; rfl
  · rw [if_neg (fun h => ha h.1), if_neg (fun h => ha h.1), List.take_add_one, hv]; rfl
theorem dropAt_end {l : List κ} {x : κ} {vs : List β} (h : vs.length = l.length) : dropAt (lb lt l x) (isAt lt l x) vs l.length = dropV lt l x vs := by
  unfold dropAt dropV
  by_cases ha : isAt lt l x = true
  · have := isAt_lt ha
    rw [if_pos ⟨ha, this⟩, if_pos ha, ← h, List.take_length]
  · rw [if_neg (fun h => ha h.1), if_neg ha, ← h, List.take_length]
/-- The key at a place, and x. -/
theorem key_at (hl : Lo lt) {l : List κ} (hs : Sorted lt l) {x y : κ} {i : Nat} (hy : l[i]? = some y) : (lt y x = true ↔ i < lb lt l x) ∧ (y = x ↔ isAt lt l x = true ∧ i = lb lt l x) := by
  have h1 : i < lb lt l x → lt y x = true := fun h => lb_lt h hy
  have h2 : lb lt l x ≤ i → lt y x = false := fun h => lb_ge hl hs h hy
  refine ⟨⟨fun h => ?_, h1⟩, ?_⟩
  · rcases Nat.lt_or_ge i (lb lt l x) with h' | h'
    · exact h'
    · rw [h2 h'] at h; cases h
  · constructor
    · rintro rfl
      have hm : isAt lt l y = true := (isAt_iff hl hs y).2 (List.mem_of_getElem? hy)
      refine ⟨hm, ?_⟩
      have hge : lb lt l y ≤ i := by
        rcases Nat.lt_or_ge i (lb lt l y) with h' | h'
        · have := h1 h'; rw [hl.1] at this; cases this
        · exact h'
      unfold isAt at hm
      have hm := of_decide_eq_true hm
      rcases Nat.lt_or_ge (lb lt l y) i with h' | h'
      · have := hs.get hm hy h'; rw [hl.1] at this; cases this
      · omega
    · rintro ⟨ha, rfl⟩
      unfold isAt at ha
      have ha := of_decide_eq_true ha
      rw [hy] at ha; exact Option.some.inj ha
end
/-- Two texts that are alike as far as i. -/
theorem less_at : ∀ (i : Nat) (a b : Str), a.take i = b.take i → ∀ {x y : UInt8}, a[i]? = some x → b[i]? = some y → x ≠ y → ltS a b = decide (x < y)
  | 0, x :: a, y :: b, _, _, _, rfl, rfl, hne => by unfold ltS; rw [bytesLess_cons]; simp [hne]
  | i + 1, x :: a, y :: b, h, _, _, hx, hy, hne => by
    simp only [List.take_succ_cons, List.cons.injEq] at h
    obtain ⟨rfl, h⟩ := h
    have := less_at i a b h (by simpa using hx) (by simpa using hy) hne
    unfold ltS at this ⊢
    rw [bytesLess_cons, this]
    have : ¬ x < x := UInt8.lt_irrefl x
    simp [this]
theorem less_end : ∀ (a b : Str), (∃ i, a.take i = b.take i ∧ (i = a.length ∨ i = b.length) ∧ i ≤ a.length ∧ i ≤ b.length) → ltS a b = decide (a.length < b.length)
  | [], [], _ => rfl
  | [], y :: b, _ => rfl
  | x :: a, [], _ => rfl
  | x :: a, y :: b, ⟨i, h, h1, h2, h3⟩ => by
    cases i with
    | zero => simp at h1
    | succ i =>
      simp only [List.take_succ_cons, List.cons.injEq] at h
      obtain ⟨rfl, h⟩ := h
      have := less_end a b ⟨i, h, by simpa using h1, by simpa using h2, by simpa using h3⟩
      unfold ltS at this ⊢
      rw [bytesLess_cons, this]
      have : ¬ x < x := UInt8.lt_irrefl x
      simp [this]
end Go.Proofs.YthcclgoidchkdaaDoorC
