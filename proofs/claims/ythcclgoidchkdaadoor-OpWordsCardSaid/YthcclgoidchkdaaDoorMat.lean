/- Topics, filters, and which matches which: plain lists. -/
import Derived.Test.YthcclgoidchkdaaDoorLev
set_option linter.unusedVariables false
set_option linter.unusedSimpArgs false
namespace Go.Proofs.YthcclgoidchkdaaDoorC
open Go.RowKit

def sizedB (s : Str) : Bool := decide (s ≠ []) && decide (s.length ≤ 32) && decide (¬ (0 : UInt8) ∈ s)
def topicB (s : Str) : Bool := sizedB s && decide (¬ (43 : UInt8) ∈ s) && decide (¬ (35 : UInt8) ∈ s)
def levOk (last : Bool) (l : Str) : Bool := if (35 : UInt8) ∈ l then decide (l = [35]) && last else decide (¬ (43 : UInt8) ∈ l) || decide (l = [43])
/-- f holds of each text by its place. -/
def allIx (f : Nat → Str → Bool) (L : List Str) : Bool := (List.range L.length).all fun i => f i (L.getD i [])
theorem allIx_iff {f : Nat → Str → Bool} {L : List Str} : allIx f L = true ↔ ∀ i l, L[i]? = some l → f i l = true := by
  unfold allIx
  rw [List.all_eq_true]
  constructor
  · intro h i l hl
    have := h i (List.mem_range.2 (List.getElem?_eq_some_iff.1 hl).1)
    rw [List.getD_eq_getElem?_getD, hl] at this; exact this
  · intro h i hi
    have hi := List.mem_range.1 hi
    have := h i L[i] (List.getElem?_eq_getElem hi)
    rw [List.getD_eq_getElem?_getD, List.getElem?_eq_getElem hi]; exact this
theorem allIx_no {f : Nat → Str → Bool} {L : List Str} {i : Nat} {l : Str} (hl : L[i]? = some l) (h : f i l = false) : allIx f L = false := by
  cases e : allIx f L with
  | false => rfl
  | true => rw [allIx_iff.1 e i l hl] at h; cases h
def levsOk (L : List Str) : Bool := allIx (fun i l => levOk (decide (i + 1 = L.length)) l) L
def filterB (s : Str) : Bool := sizedB s && levsOk (spl 47 s)
def wildB (s : Str) : Bool := decide (pre1 47 s = [43]) || decide (pre1 47 s = [35])
def headIs (c : UInt8) (s : Str) : Bool := decide (s.head? = some c)
def likeB (some : Str → Bool) : List Str → List Str → Bool
  | [], t => t.isEmpty
  | l :: f, t => if l = [35] then true else match t with
    | [] => false
    | x :: t => (decide (l = x) || (decide (l = [43]) && some x)) && likeB some f t
def matchB (f t : Str) : Bool := filterB f && topicB t && !(wildB f && headIs 36 t) && likeB (fun _ => true) (spl 47 f) (spl 47 t)
def coversB (a b : Str) : Bool := filterB a && filterB b && !(wildB a && headIs 36 b) && likeB (fun l => decide (l ≠ [35])) (spl 47 a) (spl 47 b)

/-- At place j a filter's level takes a text's. -/
def okAt (some : Str → Bool) (L T : List Str) (j : Nat) : Prop := ∃ l t, L[j]? = Option.some l ∧ T[j]? = Option.some t ∧ (l = t ∨ (l = [43] ∧ some t = true))
theorem okAt_succ {some : Str → Bool} {l t : Str} {L T : List Str} {j : Nat} : okAt some (l :: L) (t :: T) (j + 1) ↔ okAt some L T j := by
  unfold okAt; simp
theorem likeB_iff (some : Str → Bool) : ∀ (L T : List Str), likeB some L T = true ↔
    (∃ k, L[k]? = Option.some [35] ∧ k ≤ T.length ∧ ∀ j, j < k → okAt some L T j) ∨ (L.length = T.length ∧ ∀ j, j < L.length → okAt some L T j)
  | [], T => by
    simp only [likeB, List.isEmpty_iff]
    constructor
    · rintro rfl; exact .inr ⟨rfl, fun j h => absurd h (Nat.not_lt_zero _)⟩
    · rintro (⟨k, h, _⟩ | ⟨h, _⟩)
      · simp at h
      · exact List.length_eq_zero_iff.1 h.symm
  | l :: L, T => by
    unfold likeB
    by_cases hl : l = [35]
    · rw [if_pos hl]
      exact ⟨fun _ => .inl ⟨0, by simp [hl], Nat.zero_le _, fun j h => absurd h (Nat.not_lt_zero _)⟩, fun _ => rfl⟩
    · rw [if_neg hl]
      cases T with
      | nil =>
        constructor
        · intro h; cases h
        · rintro (⟨k, h, hk, _⟩ | ⟨h, _⟩)
          · obtain rfl : k = 0 := by simpa using hk
            simp at h; exact absurd h hl
          · simp at h
      | cons t T =>
        have ih := likeB_iff some L T
        simp only [Bool.and_eq_true, Bool.or_eq_true, decide_eq_true_eq, ih]
        have h0 : okAt some (l :: L) (t :: T) 0 ↔ (l = t ∨ (l = [43] ∧ some t = true)) := by unfold okAt; simp
        constructor
        · rintro ⟨h1, ⟨k, h2, h3, h4⟩ | ⟨h2, h3⟩⟩
          · refine .inl ⟨k + 1, by simpa using h2, by simpa using h3, fun j hj => ?_⟩
            cases j with
            | zero => exact h0.2 h1
            | succ j => exact okAt_succ.2 (h4 j (by omega))
          · refine .inr ⟨by simp [h2], fun j hj => ?_⟩
            cases j with
            | zero => exact h0.2 h1
            | succ j => exact okAt_succ.2 (h3 j (by simpa using hj))
        · rintro (⟨k, h2, h3, h4⟩ | ⟨h2, h3⟩)
          · cases k with
            | zero => simp at h2; exact absurd h2 hl
            | succ k => exact ⟨h0.1 (h4 0 (by omega)), .inl ⟨k, by simpa using h2, by simpa using h3, fun j hj => okAt_succ.1 (h4 (j + 1) (by omega))⟩⟩
          · exact ⟨h0.1 (h3 0 (by simp)), .inr ⟨by simpa using h2, fun j hj => okAt_succ.1 (h3 (j + 1) (by simp; omega))⟩⟩
/-- No, where a level takes nothing, or the text is over; and # did not stand ahead. -/
theorem likeB_no {some : Str → Bool} {L T : List Str} {i : Nat} (h : ∀ j : Nat, j ≤ i → L[j]? ≠ Option.some [35]) (hi : i < L.length) (hn : ¬ okAt some L T i) : likeB some L T = false := by
  cases e : likeB some L T with
  | false => rfl
  | true =>
    rcases (likeB_iff some L T).1 e with ⟨k, h1, h2, h3⟩ | ⟨h1, h2⟩
    · by_cases hk : k ≤ i
      · exact absurd h1 (h k hk)
      · exact absurd (h3 i (by omega)) hn
    · exact absurd (h2 i hi) hn
theorem likeB_end {some : Str → Bool} {L T : List Str} (h : ∀ j : Nat, L[j]? ≠ Option.some [35]) (hok : ∀ j, j < L.length → okAt some L T j) : likeB some L T = decide (L.length = T.length) := by
  by_cases hl : L.length = T.length
  · rw [decide_eq_true hl]; exact (likeB_iff some L T).2 (.inr ⟨hl, hok⟩)
  · rw [decide_eq_false hl]
    cases e : likeB some L T with
    | false => rfl
    | true =>
      rcases (likeB_iff some L T).1 e with ⟨k, h1, _⟩ | ⟨h1, _⟩
      · exact absurd h1 (h k)
      · exact absurd h1 hl
/-- Of a filter's levels only the last one may be #. -/
theorem rest_last {s : Str} (h : filterB s = true) {j : Nat} (hj : (spl 47 s)[j]? = some [35]) : j + 1 = (spl 47 s).length := by
  unfold filterB at h
  rw [Bool.and_eq_true] at h
  have := allIx_iff.1 h.2 j _ hj
  unfold levOk at this
  rw [if_pos (by simp)] at this
  simpa using this
theorem levOk_plus {s : Str} (h : filterB s = true) {j : Nat} {l : Str} (hj : (spl 47 s)[j]? = some l) : ((43 : UInt8) ∈ l → l = [43]) ∧ ((35 : UInt8) ∈ l → l = [35]) := by
  unfold filterB at h
  rw [Bool.and_eq_true] at h
  have := allIx_iff.1 h.2 j _ hj
  unfold levOk at this
  split at this
  · rename_i h35
    have e : l = [35] := by simp at this; exact this.1
    subst e
    exact ⟨fun h => by simp at h, fun _ => rfl⟩
  · rename_i h35
    exact ⟨fun h => by simpa [h] using this, fun h => absurd h h35⟩
theorem wildB_iff (s : Str) : wildB s = true ↔ (spl 47 s)[0]? = some [43] ∨ (spl 47 s)[0]? = some [35] := by
  obtain ⟨r, hr⟩ := spl_head 47 s
  rw [hr]; unfold wildB; simp
theorem topic_no {s : Str} (h : topicB s = true) : sizedB s = true ∧ (∀ l, l ∈ spl 47 s → ¬ (43 : UInt8) ∈ l ∧ ¬ (35 : UInt8) ∈ l) := by
  unfold topicB at h
  simp only [Bool.and_eq_true, decide_eq_true_eq] at h
  exact ⟨h.1.1, fun l hl => ⟨fun hm => h.1.2 (spl_mem hl _ hm).1, fun hm => h.2 (spl_mem hl _ hm).1⟩⟩
theorem topic_filter {s : Str} (h : topicB s = true) : filterB s = true ∧ wildB s = false := by
  obtain ⟨h1, h2⟩ := topic_no h
  constructor
  · unfold filterB
    rw [h1]
    refine allIx_iff.2 fun i l hl => ?_
    have := h2 l (List.mem_of_getElem? hl)
    unfold levOk; rw [if_neg this.2]; simp [this.1]
  · cases e : wildB s with
    | false => rfl
    | true =>
      rcases (wildB_iff s).1 e with h | h
      · exact absurd (by simp) (h2 _ (List.mem_of_getElem? h)).1
      · exact absurd (by simp) (h2 _ (List.mem_of_getElem? h)).2
theorem levOk_a {b : Bool} {l : Str} (q : (43 : UInt8) ∈ l) (h : ¬ l = [43]) : levOk b l = false := by
  unfold levOk; split
  · have : ¬ l = [35] := fun e => by subst e; simp at q
    simp [this]
  · simp [q, h]
theorem levOk_b {b : Bool} {l : Str} (q : (35 : UInt8) ∈ l) (h : ¬ l = [35]) : levOk b l = false := by
  unfold levOk; rw [if_pos q]; simp [h]
theorem levOk_c {b : Bool} {l : Str} (h : l = [35]) : levOk b l = b := by subst h; unfold levOk; simp
theorem levOk_d {b : Bool} {l : Str} (q : ¬ (35 : UInt8) ∈ l) (h : (43 : UInt8) ∈ l → l = [43]) : levOk b l = true := by
  unfold levOk; rw [if_neg q]
  by_cases h4 : (43 : UInt8) ∈ l
  · simp [h h4]
  · simp [h4]
theorem filter_no {s : Str} {i : Nat} {l : Str} (hi : (spl 47 s)[i]? = some l) (h : levOk (decide (i + 1 = (spl 47 s).length)) l = false) : filterB s = false := by
  unfold filterB levsOk; rw [allIx_no hi h]; simp
theorem filter_yes {s : Str} (h0 : sizedB s = true) (h : ∀ i l, (spl 47 s)[i]? = some l → levOk (decide (i + 1 = (spl 47 s).length)) l = true) : filterB s = true := by
  unfold filterB levsOk; rw [h0, allIx_iff.2 h]; rfl
theorem filter_small {s : Str} (h : sizedB s = false) : filterB s = false := by unfold filterB; rw [h]; rfl
theorem topic_ne {s : Str} (h : topicB s = true) : ∃ c, s[0]? = some c := by
  unfold topicB sizedB at h
  simp only [Bool.and_eq_true, decide_eq_true_eq] at h
  cases s with
  | nil => exact absurd rfl h.1.1.1.1
  | cons c s => exact ⟨c, rfl⟩
theorem headIs_at {s : Str} {c d : UInt8} (h : s[0]? = some c) : headIs d s = decide (c = d) := by
  cases s with
  | nil => cases h
  | cons x s => simp at h; subst h; simp [headIs]
end Go.Proofs.YthcclgoidchkdaaDoorC
