/- Histories that have an order, in plain Lean. -/
import Derived.Test.YthcclgoidchkdaaDoorLinP
set_option linter.unusedVariables false
set_option linter.unusedSimpArgs false
namespace Go.Proofs.YthcclgoidchkdaaDoorC
/-! ### calls one behind the other -/
def callN (i : Nat) : CallD := ⟨0, i, ⟨9, 0, [], [], false⟩, ans0, 2 * i + 1, 2 * i + 2⟩
def lN (n : Nat) : List CallD := (List.range n).map callN
theorem lN_len (n : Nat) : (lN n).length = n := by simp [lN]
theorem lN_at {n i : Nat} (h : i < n) : (lN n)[i]? = some (callN i) := by simp [lN, h]
theorem one_of {l : List Nat} (hn : l.Nodup) {a : Nat} (h : ∀ x, x ∈ l ↔ x = a) : l = [a] := by
  match l, hn, h with
  | [], _, h => exact absurd ((h a).2 rfl) (by simp)
  | [x], _, h => rw [(h x).1 (by simp)]
  | x :: y :: t, hn, h =>
    have h1 := (h x).1 (by simp)
    have h2 := (h y).1 (by simp)
    simp [h1, h2] at hn
def doneN (n i : Nat) : List Bool := List.replicate i true ++ List.replicate (n - i) false
theorem seenN {n i : Nat} (hi : i ≤ n) (k : Nat) : seen (doneN n i) k = decide (k < i) := by
  unfold seen doneN
  rw [List.getD_eq_getElem?_getD]
  by_cases h : k < i
  · rw [List.getElem?_append_left (by simpa using h)]; simp [h]
  · rw [List.getElem?_append_right (by simpa using Nat.le_of_not_lt h)]
    simp only [List.getElem?_replicate, List.length_replicate]
    rw [decide_eq_false h]
    split <;> rfl
theorem setN {n i : Nat} (hi : i < n) : (doneN n i).set i true = doneN n (i + 1) := by
  apply List.ext_getElem?
  intro k
  simp only [doneN, List.getElem?_set, List.getElem?_append, List.length_replicate, List.getElem?_replicate, List.length_append]
  by_cases h : i = k
  · subst h; simp; omega
  · rw [if_neg h]
    by_cases h1 : k < i
    · simp [h1, show k < i + 1 by omega]
    · have : ¬ k < i + 1 := by omega
      simp only [h1, this, if_false]
      by_cases h2 : k - i < n - i
      · rw [if_pos h2, if_pos (by omega)]
      · rw [if_neg h2, if_neg (by omega)]
theorem miniN {n i : Nat} (hi : i < n) : mini (lN n) (doneN n i) = [i] := by
  refine one_of (List.Nodup.sublist List.filter_sublist List.nodup_range) fun x => ?_
  show x ∈ mini _ _ ↔ _
  rw [mem_mini, lN_len]
  unfold freeB
  rw [seenN (by omega), lN_len]
  simp only [Bool.and_eq_true, Bool.not_eq_true', decide_eq_false_iff_not, List.all_eq_true, List.mem_range]
  constructor
  · rintro ⟨h1, h2, h3⟩
    have h4 := h3 i hi
    unfold clearB at h4
    rw [seenN (by omega)] at h4
    simp only [Bool.or_eq_true, beq_iff_eq, decide_eq_true_eq, Bool.not_eq_true'] at h4
    rcases h4 with (h4 | h4) | h4
    · exact h4.symm
    · omega
    · unfold aheadB at h4
      rw [lN_at hi, lN_at h1] at h4
      have h5 : ¬ (callN i).to_ < (callN x).from_ := of_decide_eq_false h4
      simp only [callN] at h5
      omega
  · rintro rfl
    refine ⟨hi, by omega, fun k hk => ?_⟩
    unfold clearB
    rw [seenN (by omega)]
    simp only [Bool.or_eq_true, beq_iff_eq, decide_eq_true_eq, Bool.not_eq_true']
    by_cases h1 : k < x
    · exact .inl (.inr h1)
    · refine .inr ?_
      unfold aheadB
      rw [lN_at hk, lN_at hi]
      refine decide_eq_false ?_
      simp only [callN]
      omega
theorem allsN {n : Nat} : ∀ (f i : Nat), i + f = n → alls (lN n) f (doneN n i) st0 = [List.range' i f]
  | 0, i, _ => rfl
  | f + 1, i, h => by
    have hs : stepB (lN n) st0 i = some st0 := by rw [stepB_at (lN_at (by omega))]; rfl
    unfold alls
    rw [miniN (by omega)]
    simp only [List.flatMap_cons, List.flatMap_nil, List.append_nil, hs]
    rw [setN (by omega), allsN f (i + 1) (by omega)]
    simp [List.range'_succ]
theorem ordersN (n : Nat) : orders (lN n) = [List.range n] := by
  unfold orders none0
  rw [lN_len]
  have := allsN (n := n) n 0 (by omega)
  unfold doneN at this
  simp only [List.replicate_zero, List.nil_append, Nat.sub_zero] at this
  rw [this, List.range_eq_range']

/-! ### calls that were done one behind the other, in some order of theirs -/
/-- A way, if whatever is behind another one in it doesn't end ahead of that one's begin. -/
theorem way_ok {l : List CallD} {n : Nat} (c : Nat → CallD) (pos : Nat → Nat) (st : Nat → StD) (hl : l.length = n) (h1 : ∀ i, i < n → l[pos i]? = some (c i)) (h2 : ∀ k, k < n → ∃ i, i < n ∧ pos i = k)
    (h3 : ∀ i j, i < n → j < n → pos i = pos j → i = j) (ha : ∀ i j, i < j → j < n → ¬ (c j).to_ < (c i).from_) (hd : ∀ i, i < n → doS (st i) (c i).op = (st (i + 1), (c i).ans)) :
    ∀ (f t : Nat) (done : List Bool), t + f = n → done.length = n → (∀ k, k < n → (seen done k = true ↔ ∃ j, j < t ∧ pos j = k)) → chkN l done (st t) ((List.range' t f).map pos) = true
  | 0, t, done, _, _, _ => rfl
  | f + 1, t, done, hf, hdl, hs => by
    have hp : pos t < n := by rw [← hl]; exact (List.getElem?_eq_some_iff.1 (h1 t (by omega))).1
    have hfree : freeB l done (pos t) = true := by
      unfold freeB
      rw [Bool.and_eq_true]
      constructor
      · cases hq : seen done (pos t) with
        | false => rfl
        | true =>
          obtain ⟨j, hj, hj2⟩ := (hs _ hp).1 hq
          have := h3 j t (by omega) (by omega) hj2; omega
      · rw [List.all_eq_true]
        intro k hk
        rw [List.mem_range, hl] at hk
        obtain ⟨j, hj, rfl⟩ := h2 k hk
        unfold clearB
        rcases Nat.lt_trichotomy j t with h | h | h
        · rw [(hs _ hk).2 ⟨j, h, rfl⟩]; simp
        · subst h; simp
        · have : aheadB l (pos j) (pos t) = false := by
            unfold aheadB
            rw [h1 j hj, h1 t (by omega)]
            exact decide_eq_false (ha t j h hj)
          rw [this]; simp
    have hst : stepB l (st t) (pos t) = some (st (t + 1)) := by
      rw [stepB_at (h1 t (by omega)), hd t (by omega)]; simp
    rw [List.range'_succ, List.map_cons]
    simp only [chkN, hst, hfree, Bool.true_and, Bool.and_eq_true, decide_eq_true_eq]
    refine ⟨by omega, way_ok c pos st hl h1 h2 h3 ha hd f (t + 1) (done.set (pos t) true) (by omega) (by simpa using hdl) fun k hk => ?_⟩
    rw [seen_set (by omega)]
    simp only [Bool.or_eq_true, decide_eq_true_eq, hs k hk]
    constructor
    · rintro (rfl | ⟨j, hj, hj2⟩)
      · exact ⟨t, by omega, rfl⟩
      · exact ⟨j, by omega, hj2⟩
    · rintro ⟨j, hj, hj2⟩
      by_cases h : j = t
      · subst h; exact .inl hj2.symm
      · exact .inr ⟨j, by omega, hj2⟩
theorem perm_order {l : List CallD} (c : Nat → CallD) (st : Nat → StD) {n : Nat} (hp : l.Perm ((List.range n).map c)) (hc : ∀ i j, i < n → j < n → c i = c j → i = j) (h0 : st 0 = st0)
    (ha : ∀ i j, i < j → j < n → ¬ (c j).to_ < (c i).from_) (hd : ∀ i, i < n → doS (st i) (c i).op = (st (i + 1), (c i).ans)) : orders l ≠ [] := by
  have hlen : l.length = n := by have := hp.length_eq; simpa using this
  have hn0 : ((List.range n).map c).Nodup := by
    rw [List.nodup_iff_pairwise_ne, List.pairwise_map]
    refine List.Pairwise.imp_of_mem ?_ (List.nodup_range (n := n))
    intro a b ha hb hne e
    exact hne (hc a b (List.mem_range.1 ha) (List.mem_range.1 hb) e)
  have hn : l.Nodup := hp.nodup_iff.2 hn0
  have hex : ∀ i, ∃ p, i < n → l[p]? = some (c i) := fun i => by
    by_cases hi : i < n
    · have : c i ∈ l := hp.mem_iff.2 (List.mem_map.2 ⟨i, List.mem_range.2 hi, rfl⟩)
      obtain ⟨p, hp'⟩ := List.getElem?_of_mem this
      exact ⟨p, fun _ => hp'⟩
    · exact ⟨0, fun h => absurd h hi⟩
  have hpos : ∃ pos : Nat → Nat, ∀ i, i < n → l[pos i]? = some (c i) := ⟨fun i => Classical.choose (hex i), fun i => Classical.choose_spec (hex i)⟩
  obtain ⟨pos, h1⟩ := hpos
  have uniq : ∀ (p q : Nat) (x : CallD), l[p]? = some x → l[q]? = some x → p = q := fun p q x hp' hq => by
    obtain ⟨a1, a2⟩ := List.getElem?_eq_some_iff.1 hp'
    obtain ⟨b1, b2⟩ := List.getElem?_eq_some_iff.1 hq
    exact (List.getElem_inj hn).1 (a2.trans b2.symm)
  have h2 : ∀ k, k < n → ∃ i, i < n ∧ pos i = k := fun k hk => by
    have hm : l[k]'(by omega) ∈ (List.range n).map c := hp.mem_iff.1 (List.getElem_mem _)
    obtain ⟨i, hi, hi2⟩ := List.mem_map.1 hm
    exact ⟨i, List.mem_range.1 hi, uniq _ _ _ (h1 i (List.mem_range.1 hi)) (by rw [hi2]; exact List.getElem?_eq_getElem _)⟩
  have h3 : ∀ i j, i < n → j < n → pos i = pos j → i = j := fun i j hi hj e => by
    have a := h1 i hi; have b := h1 j hj
    rw [e, b] at a
    exact (hc j i hj hi (Option.some.inj a)).symm
  have := way_ok c pos st hlen h1 h2 h3 ha hd n 0 (none0 l) (by omega) (by simp [none0, hlen]) (fun k hk => by
    have : seen (none0 l) k = false := by
      simp only [seen, none0, List.getD_eq_getElem?_getD, List.getElem?_replicate]
      split <;> rfl
    rw [this]; simp)
  rw [h0] at this
  intro he
  have hm := (mem_alls l l.length (none0 l) st0 ((List.range' 0 n).map pos)).2 ⟨by simp [hlen], this⟩
  unfold orders at he
  rw [he] at hm; cases hm
end Go.Proofs.YthcclgoidchkdaaDoorC
