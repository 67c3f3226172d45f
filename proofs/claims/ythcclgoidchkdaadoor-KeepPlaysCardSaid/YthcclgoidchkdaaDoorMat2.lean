/- The document's covering; the laws MatchTells, MatchCovers, MatchLevels. -/
import Derived.Test.YthcclgoidchkdaaDoorMat1
set_option linter.unusedVariables false
set_option linter.unusedSimpArgs false
set_option maxRecDepth 100000
namespace Go.Proofs.YthcclgoidchkdaaDoorC
open Go.RowKit
/-! ### plain laws -/
theorem like_trans : ∀ (F G T : List Str), likeB notRest F G = true → likeB anyS G T = true → likeB anyS F T = true
  | [], G, T, h1, h2 => by
    have : G = [] := by simpa [likeB] using h1
    subst this; exact h2
  | l :: F, G, T, h1, h2 => by
    unfold likeB at h1 ⊢
    by_cases hl : l = [35]
    · rw [if_pos hl]
    · rw [if_neg hl] at h1 ⊢
      cases G with
      | nil => cases h1
      | cons x G =>
        simp only [Bool.and_eq_true, Bool.or_eq_true, decide_eq_true_eq] at h1
        have hx : ¬ x = [35] := by rcases h1.1 with h | h; exact fun e => hl (h.trans e); exact h.2
        unfold likeB at h2
        rw [if_neg hx] at h2
        cases T with
        | nil => cases h2
        | cons y T =>
          simp only [Bool.and_eq_true, Bool.or_eq_true, decide_eq_true_eq] at h2
          have ih := like_trans F G T h1.2 h2.2
          simp only [Bool.and_eq_true, Bool.or_eq_true, decide_eq_true_eq]
          refine ⟨?_, ih⟩
          rcases h1.1 with h | h
          · subst h; exact h2.1
          · exact .inr ⟨h.1, trivial⟩
theorem like_self (p : Str → Bool) (L : List Str) : likeB p L L = true := (likeB_iff p L L).2 (.inr ⟨rfl, fun j hj => ⟨_, _, List.getElem?_eq_getElem hj, List.getElem?_eq_getElem hj, .inl rfl⟩⟩)
theorem headIs_first {c : UInt8} (hc : c ≠ 47) (s : Str) : headIs c s = decide ((pre1 47 s).head? = some c) := by
  cases s with
  | nil => rfl
  | cons x s =>
    unfold headIs pre1
    by_cases hx : x = 47
    · subst hx; simp [hc.symm]
    · have : (!(x == (47 : UInt8))) = true := by simpa using hx
      rw [List.takeWhile_cons, this]; rfl
theorem covers_match {f g t : Str} (h1 : coversB f g = true) (h2 : matchB g t = true) : matchB f t = true := by
  unfold coversB at h1; unfold matchB at h2 ⊢
  simp only [Bool.and_eq_true] at h1 h2 ⊢
  refine ⟨⟨⟨h1.1.1.1, h2.1.1.2⟩, ?_⟩, like_trans _ _ _ h1.2 h2.2⟩
  cases hw : wildB f with
  | false => rfl
  | true =>
    cases ht : headIs 36 t with
    | false => rfl
    | true =>
      exfalso
      have a1 := h1.1.2; have a2 := h2.1.2
      rw [hw] at a1; rw [ht] at a2
      have hg : headIs 36 g = false := by simpa using a1
      have hgw : wildB g = false := by simpa using a2
      obtain ⟨r, hr⟩ := spl_head 47 g; obtain ⟨q, hq⟩ := spl_head 47 t
      have hl := h2.2
      rw [hr, hq] at hl
      have hnw : ¬ pre1 47 g = [43] ∧ ¬ pre1 47 g = [35] := by unfold wildB at hgw; simpa using hgw
      unfold likeB at hl
      rw [if_neg hnw.2] at hl
      simp only [Bool.and_eq_true, Bool.or_eq_true, decide_eq_true_eq] at hl
      have e : pre1 47 g = pre1 47 t := by rcases hl.1 with h | h; exact h; exact absurd h.1 hnw.1
      rw [headIs_first (by decide), e, ← headIs_first (by decide), ht] at hg; cases hg
theorem topic_self {t : Str} (h : topicB t = true) : matchB t t = true := by
  unfold matchB; rw [(topic_filter h).1, h, (topic_filter h).2, like_self]; rfl
theorem hash_match {t : Str} (h : topicB t = true) : matchB [35] t = !headIs 36 t := by
  have h1 : filterB [35] = true := by decide
  have h2 : wildB [35] = true := by decide
  have h3 : likeB anyS (spl 47 [35]) (spl 47 t) = true := by show likeB anyS [[35]] _ = true; unfold likeB; rw [if_pos rfl]
  unfold matchB; rw [h1, h, h2, h3]; simp
theorem covers_self {f : Str} (h : filterB f = true) (hw : wildB f = false) : coversB f f = true := by unfold coversB; rw [h, hw, like_self]; rfl
theorem spl_joinB {b : UInt8} : ∀ (L : List Str), L ≠ [] → (∀ l ∈ L, ¬ b ∈ l) → spl b (joinB b L) = L
  | [], h, _ => absurd rfl h
  | [l], _, h => spl_not (h l (by simp))
  | l :: m :: L, _, h => by
    have ih := spl_joinB (m :: L) (by simp) (fun x hx => h x (List.mem_cons_of_mem _ hx))
    rw [joinB_cons b l (by simp)]
    obtain ⟨a, r, hr⟩ := spl_ex b (b :: joinB b (m :: L))
    have e := spl_eq b (joinB b (m :: L))
    have := spl_app b l (b :: joinB b (m :: L)) (out := []) (t := l) (spl_not (h l (by simp))) e
    rw [this, ih]; simp
theorem mem_joinB {b x : UInt8} : ∀ {L : List Str}, x ∈ joinB b L → x = b ∨ ∃ l ∈ L, x ∈ l
  | [l], h => .inr ⟨l, by simp, h⟩
  | l :: m :: L, h => by
    rw [joinB_cons b l (by simp)] at h
    rcases List.mem_append.1 h with h | h
    · exact .inr ⟨l, by simp, h⟩
    · rcases List.mem_cons.1 h with h | h
      · exact .inl h
      · rcases mem_joinB h with h | ⟨y, h1, h2⟩
        · exact .inl h
        · exact .inr ⟨y, List.mem_cons_of_mem _ h1, h2⟩
theorem joinB_len {b : UInt8} {n : Nat} : ∀ (L : List Str), (∀ l ∈ L, l.length ≤ n) → (joinB b L).length ≤ (n + 1) * L.length
  | [], _ => by simp [joinB]
  | [l], h => by have := h l (by simp); simp only [joinB, List.length_singleton]; omega
  | l :: m :: L, h => by
    have ih := joinB_len (b := b) (m :: L) (fun x hx => h x (List.mem_cons_of_mem _ hx))
    have h1 := h l (by simp)
    rw [joinB_cons b l (by simp)]
    simp only [List.length_append, List.length_cons] at ih ⊢
    rw [Nat.mul_add] at ih ⊢
    rw [Nat.mul_add]
    omega
/-- Levels, each with a / behind it. -/
def lead (L : List Str) : Str := L.flatMap fun l => l ++ [47]
theorem lead_len {n : Nat} : ∀ (L : List Str), (∀ l ∈ L, l.length ≤ n) → (lead L).length ≤ (n + 1) * L.length
  | [], _ => by simp [lead]
  | l :: L, h => by
    have ih := lead_len L (fun x hx => h x (List.mem_cons_of_mem _ hx))
    have h1 := h l (by simp)
    have e : lead (l :: L) = l ++ [47] ++ lead L := by simp [lead]
    rw [e]
    simp only [List.length_append, List.length_cons, List.length_nil, Nat.mul_add]
    omega
theorem topic_small {t : Str} (h : topicB t = true) : t.length ≤ 32 := by
  unfold topicB sizedB at h; simp only [Bool.and_eq_true, decide_eq_true_eq] at h; exact h.1.1.1.2
theorem lead_snoc (L : List Str) (l : Str) : lead (L ++ [l]) = lead L ++ l ++ [47] := by simp [lead]
theorem join_lead : ∀ (L : List Str) (x : Str), joinB 47 (L ++ [x]) = lead L ++ x
  | [], x => rfl
  | l :: L, x => by
    rw [List.cons_append, joinB_cons 47 l (by simp), join_lead L x]
    simp [lead]
theorem join_first {b : UInt8} {L : List Str} {i : Nat} {l : Str} (h : L[i]? = some l) (h0 : i = 0) : joinB b (L.take (i + 1)) = joinB b (L.take i) ++ l := by
  subst h0; rw [join_zero h]; rfl
theorem lead_lo {L : List Str} {i k : Nat} {l : Str} (h : L[i]? = some l) (hk : i < k) : lead (L.take (min (i + 1) k)) = lead (L.take (min i k)) ++ l ++ [47] := by
  rw [Nat.min_eq_left (by omega), Nat.min_eq_left (by omega), List.take_add_one, h]; exact lead_snoc _ _
theorem lead_hi {L : List Str} {i k : Nat} (hk : ¬ i < k) : lead (L.take (min (i + 1) k)) = lead (L.take (min i k)) := by
  rw [Nat.min_eq_right (by omega), Nat.min_eq_right (by omega)]
/-- What the levels of a topic are made into. -/
def plusAt (t : Str) (k : Nat) : Str := joinB 47 ((spl 47 t).set k [43])
def restAt (t : Str) (k : Nat) : Str := lead ((spl 47 t).take k) ++ [35]
theorem spl_plus {t : Str} {k : Nat} : spl 47 (plusAt t k) = (spl 47 t).set k [43] := by
  refine spl_joinB _ (fun e => spl_ne 47 t (by simpa using congrArg List.length e)) fun l hl => ?_
  rcases List.mem_or_eq_of_mem_set hl with h | h
  · exact fun hm => (spl_mem h _ hm).2 rfl
  · rw [h]; decide
theorem spl_rest {t : Str} {k : Nat} : spl 47 (restAt t k) = (spl 47 t).take k ++ [[35]] := by
  unfold restAt; rw [← join_lead]
  refine spl_joinB _ (by simp) fun l hl => ?_
  rcases List.mem_append.1 hl with h | h
  · exact fun hm => (spl_mem (List.mem_of_mem_take h) _ hm).2 rfl
  · rw [List.mem_singleton.1 h]; decide
theorem topic_zero {t : Str} (h : topicB t = true) : ¬ (0 : UInt8) ∈ t := by
  unfold topicB sizedB at h; simp only [Bool.and_eq_true, decide_eq_true_eq] at h; exact h.1.1.2
theorem match_long {f t : Str} (h : 32 < f.length) : matchB f t = false := by
  unfold matchB filterB sizedB
  rw [decide_eq_false (show ¬ f.length ≤ 32 by omega)]; simp
theorem wild_first {s : Str} {l : Str} (h : (spl 47 s)[0]? = some l) : wildB s = (decide (l = [43]) || decide (l = [35])) := by
  obtain ⟨r, hr⟩ := spl_head 47 s
  rw [hr] at h; cases h; rfl
theorem plus_match {t : Str} (ht : topicB t = true) {k : Nat} (hk : k < (spl 47 t).length) (hl : (plusAt t k).length ≤ 32) : matchB (plusAt t k) t = (decide (0 < k) || !headIs 36 t) := by
  have hlev := (topic_no ht).2
  have hs : sizedB (plusAt t k) = true := by
    unfold sizedB
    have h0 : ¬ (0 : UInt8) ∈ plusAt t k := fun hm => by
      rcases mem_joinB hm with h | ⟨l, h1, h2⟩
      · cases h
      · rcases List.mem_or_eq_of_mem_set h1 with h | h
        · exact topic_zero ht (spl_mem h _ h2).1
        · rw [h] at h2; revert h2; decide
    have hne : ¬ plusAt t k = [] := fun e => by
      have h1 := spl_plus (t := t) (k := k)
      rw [e] at h1
      have h2 : ([[]] : List Str)[k]? = some [43] := by rw [show ([[]] : List Str) = spl 47 [] from rfl, h1, List.getElem?_set]; simp [hk]
      cases k with
      | zero => simp at h2
      | succ k => simp at h2
    simp [h0, hl, hne]
  have hf : filterB (plusAt t k) = true := filter_yes hs fun i l hi => by
    rw [spl_plus, List.getElem?_set] at hi
    split at hi
    · first | (cases hi; exact levOk_d (by decide) (fun _ => rfl)) | (split at hi; (cases hi; exact levOk_d (by decide) (fun _ => rfl)); cases hi)
    · have := hlev l (List.mem_of_getElem? hi); exact levOk_d this.2 (fun h => absurd h this.1)
  have hlk : likeB anyS (spl 47 (plusAt t k)) (spl 47 t) = true := by
    rw [spl_plus]
    refine (likeB_iff _ _ _).2 (.inr ⟨by simp, fun j hj => ?_⟩)
    rw [List.length_set] at hj
    by_cases hjk : k = j
    · subst hjk; exact ⟨[43], _, by rw [List.getElem?_set]; simp [hk], List.getElem?_eq_getElem hj, .inr ⟨rfl, rfl⟩⟩
    · exact ⟨_, _, by rw [List.getElem?_set, if_neg hjk]; exact List.getElem?_eq_getElem hj, List.getElem?_eq_getElem hj, .inl rfl⟩
  have hw : wildB (plusAt t k) = decide (k = 0) := by
    by_cases h0 : k = 0
    · subst h0; rw [wild_first (l := [43]) (by rw [spl_plus, List.getElem?_set]; simp [hk])]; simp
    · obtain ⟨r, hr⟩ := spl_head 47 t
      have := hlev (pre1 47 t) (by rw [hr]; simp)
      rw [wild_first (l := pre1 47 t) (by rw [spl_plus, List.getElem?_set, if_neg h0, hr]; rfl)]
      have e1 : ¬ pre1 47 t = [43] := fun e => this.1 (by rw [e]; simp)
      have e2 : ¬ pre1 47 t = [35] := fun e => this.2 (by rw [e]; simp)
      simp [e1, e2, h0]
  unfold matchB; rw [hf, ht, hlk, hw]
  by_cases h0 : k = 0
  · subst h0; simp
  · have : 0 < k := by omega
    simp [h0, this]
theorem rest_match {t : Str} (ht : topicB t = true) {k : Nat} (hk : k < (spl 47 t).length) (hl : (restAt t k).length ≤ 32) : matchB (restAt t k) t = (decide (0 < k) || !headIs 36 t) := by
  have hlev := (topic_no ht).2
  have hs : sizedB (restAt t k) = true := by
    unfold sizedB
    have h0 : ¬ (0 : UInt8) ∈ restAt t k := fun hm => by
      unfold restAt at hm; rw [← join_lead] at hm
      rcases mem_joinB hm with h | ⟨l, h1, h2⟩
      · cases h
      · rcases List.mem_append.1 h1 with h | h
        · exact topic_zero ht (spl_mem (List.mem_of_mem_take h) _ h2).1
        · rw [List.mem_singleton.1 h] at h2; revert h2; decide
    have hne : ¬ restAt t k = [] := by unfold restAt; simp
    simp [h0, hl, hne]
  have hf : filterB (restAt t k) = true := filter_yes hs fun i l hi => by
    rw [spl_rest] at hi ⊢
    rcases Nat.lt_or_ge i k with h | h
    · rw [List.getElem?_append_left (by rw [List.length_take]; omega), List.getElem?_take, if_pos h] at hi
      have := hlev l (List.mem_of_getElem? hi); exact levOk_d this.2 (fun h => absurd h this.1)
    · rw [List.getElem?_append_right (by rw [List.length_take]; omega), List.length_take, Nat.min_eq_left (by omega)] at hi
      have hik : i = k := by have := (List.getElem?_eq_some_iff.1 hi).1; simp at this; omega
      subst hik
      have : l = [35] := by simp at hi; exact hi.symm
      rw [levOk_c this]; simp; omega
  have hlk : likeB anyS (spl 47 (restAt t k)) (spl 47 t) = true := by
    rw [spl_rest]
    refine (likeB_iff _ _ _).2 (.inl ⟨k, ?_, by omega, fun j hj => ?_⟩)
    · rw [List.getElem?_append_right (by rw [List.length_take]; omega), List.length_take, Nat.min_eq_left (by omega)]; simp
    · have hj2 : j < (spl 47 t).length := by omega
      exact ⟨_, _, by rw [List.getElem?_append_left (by rw [List.length_take]; omega), List.getElem?_take, if_pos hj]; exact List.getElem?_eq_getElem hj2, List.getElem?_eq_getElem hj2, .inl rfl⟩
  have hw : wildB (restAt t k) = decide (k = 0) := by
    by_cases h0 : k = 0
    · subst h0; rw [wild_first (l := [35]) (by rw [spl_rest]; rfl)]; simp
    · obtain ⟨r, hr⟩ := spl_head 47 t
      have := hlev (pre1 47 t) (by rw [hr]; simp)
      rw [wild_first (l := pre1 47 t) (by rw [spl_rest, List.getElem?_append_left (by rw [List.length_take]; omega), List.getElem?_take, if_pos (by omega), hr]; rfl)]
      have e1 : ¬ pre1 47 t = [43] := fun e => this.1 (by rw [e]; simp)
      have e2 : ¬ pre1 47 t = [35] := fun e => this.2 (by rw [e]; simp)
      simp [e1, e2, h0]
  unfold matchB; rw [hf, ht, hlk, hw]
  by_cases h0 : k = 0
  · subst h0; simp
  · have : 0 < k := by omega
    simp [h0, this]
end Go.Proofs.YthcclgoidchkdaaDoorC
