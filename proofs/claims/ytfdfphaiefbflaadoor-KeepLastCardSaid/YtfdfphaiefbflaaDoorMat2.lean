/- The document's covering; the laws MatchTells, MatchCovers, MatchLevels. -/
import Derived.Test.YtfdfphaiefbflaaDoorMat1
set_option linter.unusedVariables false
set_option linter.unusedSimpArgs false
set_option maxRecDepth 100000
namespace Go.Proofs.YtfdfphaiefbflaaDoorC
open Go.RowKit
/-! ### plain laws -/
theorem like_trans : ∀ (F G T : List Str), likeB notRest F G = true → likeB anyS G T = true → likeB anyS F T = true
  | [], G, T, h1, h2 => by
    have : G = [] := by simpa [likeB] using h1
    subst this; exact h2
  | l :: F, G, T, h1, h2 => by
    unfold likeB at h1 ⊢
    by_cases hl : l = [35]
    · rw [if_pos hl]
    · rw [if_neg hl] at h1 ⊢
      cases G with
      | nil => cases h1
      | cons x G =>
        simp only [Bool.and_eq_true, Bool.or_eq_true, decide_eq_true_eq] at h1
        have hx : ¬ x = [35] := by rcases h1.1 with h | h; exact fun e => hl (h.trans e); exact h.2
        unfold likeB at h2
        rw [if_neg hx] at h2
        cases T with
        | nil => cases h2
        | cons y T =>
          simp only [Bool.and_eq_true, Bool.or_eq_true, decide_eq_true_eq] at h2
          have ih := like_trans F G T h1.2 h2.2
          simp only [Bool.and_eq_true, Bool.or_eq_true, decide_eq_true_eq]
          refine ⟨?_, ih⟩
          rcases h1.1 with h | h
          · subst h; exact h2.1
          · exact .inr ⟨h.1, trivial⟩
theorem like_self (p : Str → Bool) (L : List Str) : likeB p L L = true := (likeB_iff p L L).2 (.inr ⟨rfl, fun j hj => ⟨_, _, List.getElem?_eq_getElem hj, List.getElem?_eq_getElem hj, .inl rfl⟩⟩)
theorem headIs_first {c : UInt8} (hc : c ≠ 47) (s : Str) : headIs c s = decide ((pre1 47 s).head? = some c) := by
  cases s with
  | nil => rfl
  | cons x s =>
    unfold headIs pre1
    by_cases hx : x = 47
    · subst hx; simp [hc.symm]
    · have : (!(x == (47 : UInt8))) = true := by simpa using hx
      rw [List.takeWhile_cons, this]; rfl
theorem covers_match {f g t : Str} (h1 : coversB f g = true) (h2 : matchB g t = true) : matchB f t = true := by
  unfold coversB at h1; unfold matchB at h2 ⊢
  simp only [Bool.and_eq_true] at h1 h2 ⊢
  refine ⟨⟨⟨h1.1.1.1, h2.1.1.2⟩, ?_⟩, like_trans _ _ _ h1.2 h2.2⟩
  cases hw : wildB f with
  | false => rfl
  | true =>
    cases ht : headIs 36 t with
    | false => rfl
    | true =>
      exfalso
      have a1 := h1.1.2; have a2 := h2.1.2
      rw [hw] at a1; rw [ht] at a2
      have hg : headIs 36 g = false := by simpa using a1
      have hgw : wildB g = false := by simpa using a2
      obtain ⟨r, hr⟩ := spl_head 47 g; obtain ⟨q, hq⟩ := spl_head 47 t
      have hl := h2.2
      rw [hr, hq] at hl
      have hnw : ¬ pre1 47 g = [43] ∧ ¬ pre1 47 g = [35] := by unfold wildB at hgw; simpa using hgw
      unfold likeB at hl
      rw [if_neg hnw.2] at hl
      simp only [Bool.and_eq_true, Bool.or_eq_true, decide_eq_true_eq] at hl
      have e : pre1 47 g = pre1 47 t := by rcases hl.1 with h | h; exact h; exact absurd h.1 hnw.1
      rw [headIs_first (by decide), e, ← headIs_first (by decide), ht] at hg; cases hg
theorem topic_self {t : Str} (h : topicB t = true) : matchB t t = true := by
  unfold matchB; rw [(topic_filter h).1, h, (topic_filter h).2, like_self]; rfl
theorem hash_match {t : Str} (h : topicB t = true) : matchB [35] t = !headIs 36 t := by
  have h1 : filterB [35] = true := by decide
  have h2 : wildB [35] = true := by decide
  have h3 : likeB anyS (spl 47 [35]) (spl 47 t) = true := by show likeB anyS [[35]] _ = true; unfold likeB; rw [if_pos rfl]
  unfold matchB; rw [h1, h, h2, h3]; simp
theorem covers_self {f : Str} (h : filterB f = true) (hw : wildB f = false) : coversB f f = true := by unfold coversB; rw [h, hw, like_self]; rfl
theorem spl_joinB {b : UInt8} : ∀ (L : List Str), L ≠ [] → (∀ l ∈ L, ¬ b ∈ l) → spl b (joinB b L) = L
  | [], h, _ => absurd rfl h
  | [l], _, h => spl_not (h l (by simp))
  | l :: m :: L, _, h => by
    have ih := spl_joinB (m :: L) (by simp) (fun x hx => h x (List.mem_cons_of_mem _ hx))
    rw [joinB_cons b l (by simp)]
    obtain ⟨a, r, hr⟩ := spl_ex b (b :: joinB b (m :: L))
    have e := spl_eq b (joinB b (m :: L))
    have := spl_app b l (b :: joinB b (m :: L)) (out := []) (t := l) (spl_not (h l (by simp))) e
    rw [this, ih]; simp
theorem mem_joinB {b x : UInt8} : ∀ {L : List Str}, x ∈ joinB b L → x = b ∨ ∃ l ∈ L, x ∈ l
  | [l], h => .inr ⟨l, by simp, h⟩
  | l :: m :: L, h => by
    rw [joinB_cons b l (by simp)] at h
    rcases List.mem_append.1 h with h | h
    · exact .inr ⟨l, by simp, h⟩
    · rcases List.mem_cons.1 h with h | h
      · exact .inl h
      · rcases mem_joinB h with h | ⟨y, h1, h2⟩
        · exact .inl h
        · exact .inr ⟨y, List.mem_cons_of_mem _ h1, h2⟩
theorem joinB_len {b : UInt8} {n : Nat} : ∀ (L : List Str), (∀ l ∈ L, l.length ≤ n) → (joinB b L).length ≤ (n + 1) * L.length
  | [], _ => by simp [joinB]
  | [l], h => by have := h l (by simp); simp only [joinB, List.length_singleton]; omega
  | l :: m :: L, h => by
    have ih := joinB_len (b := b) (m :: L) (fun x hx => h x (List.mem_cons_of_mem _ hx))
    have h1 := h l (by simp)
    rw [joinB_cons b l (by simp)]
    simp only [List.length_append, List.length_cons] at ih ⊢
    rw [Nat.mul_add] at ih ⊢
    rw [Nat.mul_add]
    omega
/-- Levels, each with a / behind it. -/
def lead (L : List Str) : Str := L.flatMap fun l => l ++ [47]
theorem lead_len {n : Nat} : ∀ (L : List Str), (∀ l ∈ L, l.length ≤ n) → (lead L).length ≤ (n + 1) * L.length
  | [], _ => by simp [lead]
  | l :: L, h => by
    have ih := lead_len L (fun x hx => h x (List.mem_cons_of_mem _ hx))
    have h1 := h l (by simp)
    have e : lead (l :: L) = l ++ [47] ++ lead L := by simp [lead]
    rw [e]
    simp only [List.length_append, List.length_cons, List.length_nil, Nat.mul_add]
    omega
theorem topic_small {t : Str} (h : topicB t = true) : t.length ≤ 32 := by
  unfold topicB sizedB at h; simp only [Bool.and_eq_true, decide_eq_true_eq] at h; exact h.1.1.1.2
theorem lead_snoc (L : List Str) (l : Str) : lead (L ++ [l]) = lead L ++ l ++ [47] := by simp [lead]
theorem join_lead : ∀ (L : List Str) (x : Str), joinB 47 (L ++ [x]) = lead L ++ x
  | [], x => rfl
  | l :: L, x => by
    rw [List.cons_append, joinB_cons 47 l (by simp), join_lead L x]
    simp [lead]
theorem join_first {b : UInt8} {L : List Str} {i : Nat} {l : Str} (h : L[i]? = some l) (h0 : i = 0) : joinB b (L.take (i + 1)) = joinB b (L.take i) ++ l := by
  subst h0; rw [join_zero h]; rfl
theorem lead_lo {L : List Str} {i k : Nat} {l : Str} (h : L[i]? = some l) (hk : i < k) : lead (L.take (min (i + 1) k)) = lead (L.take (min i k)) ++ l ++ [47] := by
  rw [Nat.min_eq_left (by omega), Nat.min_eq_left (by omega), List.take_add_one, h]; exact lead_snoc _ _
theorem lead_hi {L : List Str} {i k : Nat} (hk : ¬ i < k) : lead (L.take (min (i + 1) k)) = lead (L.take (min i k)) := by
  rw [Nat.min_eq_right (by omega), Nat.min_eq_right (by omega)]
/-- What the levels of a topic are made into. -/
def plusAt (t : Str) (k : Nat) : Str := joinB 47 ((spl 47 t).set k [43])
def restAt (t : Str) (k : Nat) : Str := lead ((spl 47 t).take k) ++ [35]
theorem spl_plus {t : Str} {k : Nat} : spl 47 (plusAt t k) = (spl 47 t).set k [43] := by
  refine spl_joinB _ (fun e => spl_ne 47 t (by simpa using congrArg List.length e)) fun l hl => ?_
  rcases List.mem_or_eq_of_mem_set hl with h | h
  · exact fun hm => (spl_mem h _ hm).2 rfl
  · rw [h]; decide
theorem spl_rest {t : Str} {k : Nat} : spl 47 (restAt t k) = (spl 47 t).take k ++ [[35]] := by
  unfold restAt; rw [← join_lead]
  refine spl_joinB _ (by simp) fun l hl => ?_
  rcases List.mem_append.1 hl with h | h
  · exact fun hm => (spl_mem (List.mem_of_mem_take h) _ hm).2 rfl
  · rw [List.mem_singleton.1 h]; decide
theorem topic_zero {t : Str} (h : topicB t = true) : ¬ (0 : UInt8) ∈ t := by
  unfold topicB sizedB at h; simp only [Bool.and_eq_true, decide_eq_true_eq] at h; exact h.1.1.2
theorem match_long {f t : Str} (h : 32 < f.length) : matchB f t = false := by
  unfold matchB filterB sizedB
  rw [decide_eq_false (show ¬ f.length ≤ 32 by omega)]; simp
theorem wild_first {s : Str} {l : Str} (h : (spl 47 s)[0]? = some l) : wildB s = (decide (l = [43]) || decide (l = [35])) := by
  obtain ⟨r, hr⟩ := spl_head 47 s
  rw [hr] at h; cases h; rfl
theorem plus_match {t : Str} (ht : topicB t = true) {k : Nat} (hk : k < (spl 47 t).length) (hl : (plusAt t k).length ≤ 32) : matchB (plusAt t k) t = (decide (0 < k) || !headIs 36 t) := by
  have hlev := (topic_no ht).2
  have hs : sizedB (plusAt t k) = true := by
    unfold sizedB
    have h0 : ¬ (0 : UInt8) ∈ plusAt t k := fun hm => by
      rcases mem_joinB hm with h | ⟨l, h1, h2⟩
      · cases h
      · rcases List.mem_or_eq_of_mem_set h1 with h | h
        · exact topic_zero ht (spl_mem h _ h2).1
        · rw [h] at h2; revert h2; decide
    have hne : ¬ plusAt t k = [] := fun e => by
      have h1 := spl_plus (t := t) (k := k)
      rw [e] at h1
      have h2 : ([[]] : List Str)[k]? = some [43] := by rw [show ([[]] : List Str) = spl 47 [] from rfl, h1, List.getElem?_set]; simp [hk]
      cases k with
      | zero => simp at h2
      | succ k => simp at h2
    simp [h0, hl, hne]
  have hf : filterB (plusAt t k) = true := filter_yes hs fun i l hi => by
    rw [spl_plus, List.getElem?_set] at hi
    split at hi
    · first | (cases hi; exact levOk_d (by decide) (fun _ => rfl)) | (split at hi; (cases hi; exact levOk_d (by decide) (fun _ => rfl)); cases hi)
    · have := hlev l (List.mem_of_getElem? hi); exact levOk_d this.2 (fun h => absurd h this.1)
  have hlk : likeB anyS (spl 47 (plusAt t k)) (spl 47 t) = true := by
    rw [spl_plus]
    refine (likeB_iff _ _ _).2 (.inr ⟨by simp, fun j hj => ?_⟩)
    rw [List.length_set] at hj
    by_cases hjk : k = j
    · subst hjk; exact ⟨[43], _, by rw [List.getElem?_set]; simp [hk], List.getElem?_eq_getElem hj, .inr ⟨rfl, rfl⟩⟩
    · exact ⟨_, _, by rw [List.getElem?_set, if_neg hjk]; exact List.getElem?_eq_getElem hj, List.getElem?_eq_getElem hj, .inl rfl⟩
  have hw : wildB (plusAt t k) = decide (k = 0) := by
    by_cases h0 : k = 0
    · subst h0; rw [wild_first (l := [43]) (by rw [spl_plus, List.getElem?_set]; simp [hk])]; simp
    · obtain ⟨r, hr⟩ := spl_head 47 t
      have := hlev (pre1 47 t) (by rw [hr]; simp)
      rw [wild_first (l := pre1 47 t) (by rw [spl_plus, List.getElem?_set, if_neg h0, hr]; rfl)]
      have e1 : ¬ pre1 47 t = [43] := fun e => this.1 (by rw [e]; simp)
      have e2 : ¬ pre1 47 t = [35] := fun e => this.2 (by rw [e]; simp)
      simp [e1, e2, h0]
  unfold matchB; rw [hf, ht, hlk, hw]
  by_cases h0 : k = 0
  · subst h0; simp
  · have : 0 < k := by omega
    simp [h0, this]
theorem rest_match {t : Str} (ht : topicB t = true) {k : Nat} (hk : k < (spl 47 t).length) (hl : (restAt t k).length ≤ 32) : matchB (restAt t k) t = (decide (0 < k) || !headIs 36 t) := by
  have hlev := (topic_no ht).2
  have hs : sizedB (restAt t k) = true := by
    unfold sizedB
    have h0 : ¬ (0 : UInt8) ∈ restAt t k := fun hm => by
      unfold restAt at hm; rw [← join_lead] at hm
      rcases mem_joinB hm with h | ⟨l, h1, h2⟩
      · cases h
      · rcases List.mem_append.1 h1 with h | h
        · exact topic_zero ht (spl_mem (List.mem_of_mem_take h) _ h2).1
        · rw [List.mem_singleton.1 h] at h2; revert h2; decide
    have hne : ¬ restAt t k = [] := by unfold restAt; simp
    simp [h0, hl, hne]
  have hf : filterB (restAt t k) = true := filter_yes hs fun i l hi => by
    rw [spl_rest] at hi ⊢
    rcases Nat.lt_or_ge i k with h | h
    · rw [List.getElem?_append_left (by rw [List.length_take]; omega), List.getElem?_take, if_pos h] at hi
      have := hlev l (List.mem_of_getElem? hi); exact levOk_d this.2 (fun h => absurd h this.1)
    · rw [List.getElem?_append_right (by rw [List.length_take]; omega), List.length_take, Nat.min_eq_left (by omega)] at hi
      have hik : i = k := by have := (List.getElem?_eq_some_iff.1 hi).1; simp at this; omega
      subst hik
      have : l = [35] := by simp at hi; exact hi.symm
      rw [levOk_c this]; simp; omega
  have hlk : likeB anyS (spl 47 (restAt t k)) (spl 47 t) = true := by
    rw [spl_rest]
    refine (likeB_iff _ _ _).2 (.inl ⟨k, ?_, by omega, fun j hj => ?_⟩)
    · rw [List.getElem?_append_right (by rw [List.length_take]; omega), List.length_take, Nat.min_eq_left (by omega)]; simp
    · have hj2 : j < (spl 47 t).length := by omega
      exact ⟨_, _, by rw [List.getElem?_append_left (by rw [List.length_take]; omega), List.getElem?_take, if_pos hj]; exact List.getElem?_eq_getElem hj2, List.getElem?_eq_getElem hj2, .inl rfl⟩
  have hw : wildB (restAt t k) = decide (k = 0) := by
    by_cases h0 : k = 0
    · subst h0; rw [wild_first (l := [35]) (by rw [spl_rest]; rfl)]; simp
    · obtain ⟨r, hr⟩ := spl_head 47 t
      have := hlev (pre1 47 t) (by rw [hr]; simp)
      rw [wild_first (l := pre1 47 t) (by rw [spl_rest, List.getElem?_append_left (by rw [List.length_take]; omega), List.getElem?_take, if_pos (by omega), hr]; rfl)]
      have e1 : ¬ pre1 47 t = [43] := fun e => this.1 (by rw [e]; simp)
      have e2 : ¬ pre1 47 t = [35] := fun e => this.2 (by rw [e]; simp)
      simp [e1, e2, h0]
  unfold matchB; rw [hf, ht, hlk, hw]
  by_cases h0 : k = 0
  · subst h0; simp
  · have : 0 < k := by omega
    simp [h0, this]
-- bellman/bellmanref02.Covers
set_option maxHeartbeats 2000000 in
theorem rcovers_ok (w : World) (f g : Str) (hnf : f.length ≤ 1000000) (hng : g.length ≤ 1000000) : Fn Tryd.prog 44 #[Sv f, Sv g] w fun u w' => u = .bool (coversB f g) := by
  have hX := Ext.refl Non w
  refine fn_of_W (args := [_, _]) Tryd.func44 rfl (by kernel_rfl) rfl ?_
  refine W_seq ?_
  refine W_region ?_
  refine wl_val (rn_assign (by conv => lhs; whnf)) ?_
  refine wl_nil ?_
  refine W_seq ?_
  refine W_seq ?_
  refine W_region ?_
  refine wl_val (rn_move (by conv => lhs; whnf)) ?_
  refine wl_call e_34 rfl (rfilter_ok w f hnf) ?_; intro v9 w1 hE1 hR1
  replace hX := hX.tr hE1
  subst hR1
  refine wl_val (rn_not rfl) ?_
  refine wl_val (rn_move (by conv => lhs; whnf)) ?_
  refine wl_split (d := 11) rfl (fun hg11 => ?_) (fun hg11 => ?_)
  · have hR : coversB f g = false := covers_no1 (by simpa using hg11)
    refine wl_no rfl (congrArg Value.bool hg11) ?_
    refine wl_no rfl (congrArg Value.bool hg11) ?_
    refine wl_no rfl (congrArg Value.bool hg11) ?_
    refine wl_val (rn_pickT (congrArg Value.bool hg11) (by conv => lhs; whnf)) ?_
    refine wl_val (rn_move (by conv => lhs; whnf)) ?_
    refine wl_no rfl rfl ?_
    refine wl_no rfl rfl ?_
    refine wl_no rfl rfl ?_
    refine wl_nou rfl rfl ?_
    refine wl_nou rfl rfl ?_
    refine wl_nou rfl rfl ?_
    refine wl_no rfl rfl ?_
    refine wl_val (rn_pickT rfl (by conv => lhs; whnf)) ?_
    refine wl_nil ?_
    refine W_condT rfl ?_
    refine W_seq ?_
    refine W_region ?_
    refine wl_val (rn_assign (by conv => lhs; whnf)) ?_
    refine wl_nil ?_
    refine W_ret ?_
    exact ⟨_, resR1 (res1_tmp rfl), hX, by rw [hR]; rfl⟩
  · have hF : filterB f = true := by simpa using hg11
    refine wl_yes rfl (congrArg Value.bool hg11) ?_
    refine wl_val (rn_move (by conv => lhs; whnf)) ?_
    refine wl_yes rfl (congrArg Value.bool hg11) ?_
    refine wl_call e_34 rfl (rfilter_ok w1 g hng) ?_; intro v13 w2 hE2 hR2
    replace hX := hX.tr hE2
    subst hR2
    refine wl_yes rfl (congrArg Value.bool hg11) ?_
    refine wl_val (rn_not rfl) ?_
    refine wl_val (rn_pickF (congrArg Value.bool hg11) (by conv => lhs; whnf)) ?_
    refine wl_val (rn_move (by conv => lhs; whnf)) ?_
    refine wl_split (d := 16) rfl (fun hg16 => ?_) (fun hg16 => ?_)
    · have hR : coversB f g = false := covers_no2 (by simpa using hg16)
      refine wl_no rfl (congrArg Value.bool hg16) ?_
      refine wl_no rfl (congrArg Value.bool hg16) ?_
      refine wl_no rfl (congrArg Value.bool hg16) ?_
      refine wl_nou rfl rfl ?_
      refine wl_nou rfl rfl ?_
      refine wl_nou rfl rfl ?_
      refine wl_no rfl (congrArg Value.bool hg16) ?_
      refine wl_val (rn_pickT (congrArg Value.bool hg16) (by conv => lhs; whnf)) ?_
      refine wl_nil ?_
      refine W_condT rfl ?_
      refine W_seq ?_
      refine W_region ?_
      refine wl_val (rn_assign (by conv => lhs; whnf)) ?_
      refine wl_nil ?_
      refine W_ret ?_
      exact ⟨_, resR1 (res1_tmp rfl), hX, by rw [hR]; rfl⟩
    · have hP : filterB g = true := by simpa using hg16
      obtain ⟨c, hc36⟩ := filter_ne hP
      have hh : headIs 36 g = decide (c = 36) := headIs_at hc36
      refine wl_yes rfl (congrArg Value.bool hg16) ?_
      refine wl_val (rn_move (by conv => lhs; whnf)) ?_
      refine wl_yes rfl (congrArg Value.bool hg16) ?_
      refine wl_call e_36 rfl (rwild_ok w2 f hnf) ?_; intro v18 w3 hE3 hR3
      replace hX := hX.tr hE3
      subst hR3
      refine wl_yes rfl (congrArg Value.bool hg16) ?_
      refine wl_val (rn_move (by conv => lhs; whnf)) ?_
      refine wl_split (d := 19) rfl (fun hg19 => ?_) (fun hg19 => ?_)
      · refine wl_yes rfl (congrArg Value.bool hg19) ?_
        refine wl_val (rn_move (by conv => lhs; whnf)) ?_
        refine wl_yes rfl (congrArg Value.bool hg19) ?_
        refine wl_val (rn_sindex us_9 rfl rfl (by omega) hc36) ?_
        refine wl_yes rfl (congrArg Value.bool hg19) ?_
        refine wl_val (rn_eql rfl rfl) ?_
        refine wl_yes rfl (congrArg Value.bool hg16) ?_
        refine wl_val (rn_pickT (congrArg Value.bool hg19) (by conv => lhs; whnf)) ?_
        refine wl_val (rn_pickF (congrArg Value.bool hg16) (by conv => lhs; whnf)) ?_
        refine wl_nil ?_
        refine W_cond rfl (fun hc0 => ?_) (fun hc0 => ?_)
        · have hR : coversB f g = false := by first | assumption | exact covers_no3 (by rw [hg19, hh, ← u8_dec]; exact hc0)
          refine W_seq ?_
          refine W_region ?_
          refine wl_val (rn_assign (by conv => lhs; whnf)) ?_
          refine wl_nil ?_
          refine W_ret ?_
          exact ⟨_, resR1 (res1_tmp rfl), hX, by rw [hR]; rfl⟩
        · have hw : (wildB f && headIs 36 g) = false := by first | (rw [hg19]; rfl) | (rw [hg19, hh, ← u8_dec]; exact hc0)
          refine W_skip ?_
          refine W_seq ?_
          refine W_region ?_
          refine wl_val (rn_move (by conv => lhs; whnf)) ?_
          refine wl_call e_16 rfl (rlevels_ok w3 f hnf) ?_; intro v26 w4 hE4 hR4
          replace hX := hX.tr hE4
          have hL := hR4; obtain ⟨a5, c5, hv5_, _⟩ := id hL.len; rw [List.length_map] at hv5_; subst hv5_
          obtain ⟨wL, hwL⟩ : ∃ x, x = w4 := ⟨_, rfl⟩
          rw [← hwL] at hL
          have hV : Ext Non wL w4 := by rw [hwL]; exact Ext.refl _ _
          have hsl := spl_len_le 47 f
          refine wl_val (rn_move (by conv => lhs; whnf)) ?_
          refine wl_call e_16 rfl (rlevels_ok w4 g hng) ?_; intro v28 w5 hE5 hR5
          replace hX := hX.tr hE5
          replace hV := hV.tr hE5
          have hT := hR5; obtain ⟨a6, c6, hv6_, _⟩ := id hT.len; rw [List.length_map] at hv6_; subst hv6_
          obtain ⟨wT, hwT⟩ : ∃ x, x = w5 := ⟨_, rfl⟩
          rw [← hwT] at hT
          have hU : Ext Non wT w5 := by rw [hwT]; exact Ext.refl _ _
          have hsg := spl_len_le 47 g
          have hq := covers_eq hF hP hw
          refine wl_val (rn_assign (by conv => lhs; whnf)) ?_
          refine wl_val (rn_assign (by conv => lhs; whnf)) ?_
          refine wl_nil ?_
          refine W_seq ?_
          refine W_seq ?_
          refine W_region ?_
          refine wl_val (rn_assign (by conv => lhs; whnf)) ?_
          refine wl_nil ?_
          refine W_block ?_   -- block 0
          refine W_loopS (S := Nat) [5, 6, 7] (fun i => [.slice a5 (spl 47 f).length c5, .slice a6 (spl 47 g).length c6, .int .i64 (i : Nat)]) (fun i A => (Ext Non w A) ∧ (Ext Non wL A ∧ Ext Non wT A ∧ i ≤ (spl 47 f).length ∧ i ≤ (spl 47 g).length ∧ ∀ j, j < i → okAt notRest (spl 47 f) (spl 47 g) j ∧ (spl 47 f)[j]? ≠ some [35])) (fun i => (spl 47 f).length - i) 0 ⟨rfl, rfl, rfl, trivial⟩ ⟨hX, ⟨hV, hU, Nat.zero_le _, Nat.zero_le _, fun j h => absurd h (Nat.not_lt_zero _)⟩⟩ ?_
          rintro τ0 i A0 ⟨hX, hI0⟩
          obtain ⟨hV, hU, hil, hil2, hall⟩ := hI0
          refine W_seq ?_
          refine W_seq ?_
          refine W_region ?_
          refine wl_val (rn_move (by conv => lhs; whnf)) ?_
          refine wl_val (rn_move (by conv => lhs; whnf)) ?_
          refine wl_val (rn_len sl_24 rfl) ?_
          refine wl_val (rn_lss rfl rfl) ?_
          refine wl_nil ?_
          refine W_cond rfl (fun hc1 => ?_) (fun hc1 => ?_)
          · have hlt := of_decide_eq_true hc1; simp only [Int.ofNat_lt] at hlt
            obtain ⟨l, hxl⟩ : ∃ l, ((spl 47 f))[i]? = some l := ⟨_, List.getElem?_eq_getElem hlt⟩
            obtain ⟨bb, oo, ea⟩ := hL.base (by intro e; have := congrArg List.length e; simp only [List.length_map, List.length_nil] at this; omega); subst ea
            refine W_skip ?_
            refine W_seq ?_
            refine W_block ?_   -- block 1
            refine W_seq ?_
            refine W_seq ?_
            refine W_region ?_
            refine wl_val (rn_move (by conv => lhs; whnf)) ?_
            refine wl_val (rn_move (by conv => lhs; whnf)) ?_
            refine wl_val (rn_indexAddr sl_24 rfl rfl (by omega)) ?_
            refine wl_val (rn_load p_9 rfl ((hL.ext hV (fun _ h => h)).at0 (eS_at hxl) rfl)) ?_
            refine wl_val (rn_seql rfl rfl) ?_
            refine wl_nil ?_
            refine W_cond rfl (fun hc2 => ?_) (fun hc2 => ?_)
            · have hR : coversB f g = true := by rw [hq]; exact like_yes (by rw [hxl, of_decide_eq_true hc2]) hil2 hall
              refine W_seq ?_
              refine W_region ?_
              refine wl_val (rn_assign (by conv => lhs; whnf)) ?_
              refine wl_nil ?_
              refine W_ret ?_
              exact ⟨_, resR1 (res1_tmp rfl), hX, by rw [hR]; rfl⟩
            · have q35 : ¬ l = [35] := of_decide_eq_false hc2
              refine W_skip ?_
              refine W_seq ?_
              refine W_drawE mixed ?_; intro w6 hE6
              replace hX := hX.tr hE6
              replace hV := hV.tr hE6
              replace hU := hU.tr hE6
              have hS := Ext.refl Non w6
              refine wd_take 0 _ _ rfl (by kernel_rfl) hS (yd_do fun A hA => rn_move (by conv => lhs; whnf)) ?_
              refine wd_take 1 _ _ rfl (by kernel_rfl) hS (yd_do fun A hA => rn_move (by conv => lhs; whnf)) ?_
              refine wd_take 2 _ _ rfl (by kernel_rfl) hS (yd_do fun A hA => rn_len sl_24 rfl) ?_
              refine wd_take 3 _ _ rfl (by kernel_rfl) hS (yd_do fun A hA => rn_geq rfl rfl) ?_
              refine wd_take 4 _ _ rfl (by kernel_rfl) hS (yd_do fun A hA => rn_move (by conv => lhs; whnf)) ?_
              refine wd_split (d := 44) rfl (fun hg44 => ?_) (fun hg44 => ?_)
              · have hR : coversB f g = false := by rw [hq]; exact like_no hxl q35 hall (not_okAt2 (by have := of_decide_eq_true hg44; omega))
                refine wd_take 5 _ _ rfl (by kernel_rfl) hS (yd_no rfl (congrArg Value.bool hg44)) ?_
                refine wd_take 6 _ _ rfl (by kernel_rfl) hS (yd_no rfl (congrArg Value.bool hg44)) ?_
                refine wd_take 7 _ _ rfl (by kernel_rfl) hS (yd_no rfl (congrArg Value.bool hg44)) ?_
                refine wd_take 8 _ _ rfl (by kernel_rfl) hS (yd_no rfl (congrArg Value.bool hg44)) ?_
                refine wd_take 9 _ _ rfl (by kernel_rfl) hS (yd_no rfl (congrArg Value.bool hg44)) ?_
                refine wd_take 10 _ _ rfl (by kernel_rfl) hS (yd_no rfl (congrArg Value.bool hg44)) ?_
                refine wd_take 11 _ _ rfl (by kernel_rfl) hS (yd_no rfl (congrArg Value.bool hg44)) ?_
                refine wd_take 12 _ _ rfl (by kernel_rfl) hS (yd_no rfl (congrArg Value.bool hg44)) ?_
                refine wd_take 13 _ _ rfl (by kernel_rfl) hS (yd_no rfl (congrArg Value.bool hg44)) ?_
                refine wd_take 14 _ _ rfl (by kernel_rfl) hS (yd_no rfl (congrArg Value.bool hg44)) ?_
                refine wd_take 15 _ _ rfl (by kernel_rfl) hS (yd_nou rfl rfl) ?_
                refine wd_take 16 _ _ rfl (by kernel_rfl) hS (yd_nou rfl rfl) ?_
                refine wd_take 17 _ _ rfl (by kernel_rfl) hS (yd_nou rfl rfl) ?_
                refine wd_take 18 _ _ rfl (by kernel_rfl) hS (yd_nou rfl rfl) ?_
                refine wd_take 19 _ _ rfl (by kernel_rfl) hS (yd_nou rfl rfl) ?_
                refine wd_take 20 _ _ rfl (by kernel_rfl) hS (yd_nou rfl rfl) ?_
                refine wd_take 21 _ _ rfl (by kernel_rfl) hS (yd_nou rfl rfl) ?_
                refine wd_take 22 _ _ rfl (by kernel_rfl) hS (yd_nou rfl rfl) ?_
                refine wd_take 23 _ _ rfl (by kernel_rfl) hS (yd_nou rfl rfl) ?_
                refine wd_take 24 _ _ rfl (by kernel_rfl) hS (yd_nou rfl rfl) ?_
                refine wd_take 25 _ _ rfl (by kernel_rfl) hS (yd_nou rfl rfl) ?_
                refine wd_take 26 _ _ rfl (by kernel_rfl) hS (yd_nou rfl rfl) ?_
                refine wd_take 27 _ _ rfl (by kernel_rfl) hS (yd_no rfl (congrArg Value.bool hg44)) ?_
                refine wd_take 28 _ _ rfl (by kernel_rfl) hS (yd_do fun A hA => rn_pickT (congrArg Value.bool hg44) (by conv => lhs; whnf)) ?_
                refine wd_done (by kernel_rfl) ?_ _
                replace hX := hX.tr hS
                replace hV := hV.tr hS
                replace hU := hU.tr hS
                refine W_condT rfl ?_
                refine W_seq ?_
                refine W_region ?_
                refine wl_val (rn_assign (by conv => lhs; whnf)) ?_
                refine wl_nil ?_
                refine W_ret ?_
                exact ⟨_, resR1 (res1_tmp rfl), hX, by rw [hR]; rfl⟩
              · have hxT : i < (spl 47 g).length := by have := of_decide_eq_false hg44; omega
                obtain ⟨y, hy⟩ : ∃ y, (spl 47 g)[i]? = some y := ⟨_, List.getElem?_eq_getElem hxT⟩
                obtain ⟨bb2, oo2, ea2⟩ := hT.base (by intro e; have := congrArg List.length e; simp only [List.length_map, List.length_nil] at this; omega); subst ea2
                refine wd_take 5 _ _ rfl (by kernel_rfl) hS (yd_yes rfl (congrArg Value.bool hg44) fun A hA => rn_move (by conv => lhs; whnf)) ?_
                refine wd_take 6 _ _ rfl (by kernel_rfl) hS (yd_yes rfl (congrArg Value.bool hg44) fun A hA => rn_move (by conv => lhs; whnf)) ?_
                refine wd_take 7 _ _ rfl (by kernel_rfl) hS (yd_yes rfl (congrArg Value.bool hg44) fun A hA => rn_indexAddr sl_24 rfl rfl (by omega)) ?_
                refine wd_take 8 _ _ rfl (by kernel_rfl) hS (yd_yes rfl (congrArg Value.bool hg44) fun A hA => rn_load p_9 rfl (((hL.ext hV (fun _ h => h)).ext hA (fun _ h => h.elim)).at0 (eS_at hxl) rfl)) ?_
                refine wd_take 9 _ _ rfl (by kernel_rfl) hS (yd_yes rfl (congrArg Value.bool hg44) fun A hA => rn_move (by conv => lhs; whnf)) ?_
                refine wd_take 10 _ _ rfl (by kernel_rfl) hS (yd_yes rfl (congrArg Value.bool hg44) fun A hA => rn_move (by conv => lhs; whnf)) ?_
                refine wd_take 11 _ _ rfl (by kernel_rfl) hS (yd_yes rfl (congrArg Value.bool hg44) fun A hA => rn_indexAddr sl_24 rfl rfl (by omega)) ?_
                refine wd_take 12 _ _ rfl (by kernel_rfl) hS (yd_yes rfl (congrArg Value.bool hg44) fun A hA => rn_load p_9 rfl (((hT.ext hU (fun _ h => h)).ext hA (fun _ h => h.elim)).at0 (eS_at hy) rfl)) ?_
                refine wd_take 13 _ _ rfl (by kernel_rfl) hS (yd_yes rfl (congrArg Value.bool hg44) fun A hA => rn_sneq rfl rfl) ?_
                refine wd_take 14 _ _ rfl (by kernel_rfl) hS (yd_yes rfl (congrArg Value.bool hg44) fun A hA => rn_move (by conv => lhs; whnf)) ?_
                refine wd_split (d := 54) rfl (fun hg54 => ?_) (fun hg54 => ?_)
                · have q1 : ¬ l = y := by simpa using of_decide_eq_true hg54
                  refine wd_take 15 _ _ rfl (by kernel_rfl) hS (yd_yes rfl (congrArg Value.bool hg54) fun A hA => rn_move (by conv => lhs; whnf)) ?_
                  refine wd_take 16 _ _ rfl (by kernel_rfl) hS (yd_yes rfl (congrArg Value.bool hg54) fun A hA => rn_move (by conv => lhs; whnf)) ?_
                  refine wd_take 17 _ _ rfl (by kernel_rfl) hS (yd_yes rfl (congrArg Value.bool hg54) fun A hA => rn_indexAddr sl_24 rfl rfl (by omega)) ?_
                  refine wd_take 18 _ _ rfl (by kernel_rfl) hS (yd_yes rfl (congrArg Value.bool hg54) fun A hA => rn_load p_9 rfl (((hL.ext hV (fun _ h => h)).ext hA (fun _ h => h.elim)).at0 (eS_at hxl) rfl)) ?_
                  refine wd_take 19 _ _ rfl (by kernel_rfl) hS (yd_yes rfl (congrArg Value.bool hg54) fun A hA => rn_sneq rfl rfl) ?_
                  refine wd_take 20 _ _ rfl (by kernel_rfl) hS (yd_yes rfl (congrArg Value.bool hg54) fun A hA => rn_move (by conv => lhs; whnf)) ?_
                  refine wd_split (d := 60) rfl (fun hg60 => ?_) (fun hg60 => ?_)
                  · have hR : coversB f g = false := by rw [hq]; exact like_no hxl q35 hall (not_okAt hxl hy q1 (fun e => absurd e (by simpa using of_decide_eq_true hg60)))
                    refine wd_take 21 _ _ rfl (by kernel_rfl) hS (yd_no rfl (congrArg Value.bool hg60)) ?_
                    refine wd_take 22 _ _ rfl (by kernel_rfl) hS (yd_no rfl (congrArg Value.bool hg60)) ?_
                    refine wd_take 23 _ _ rfl (by kernel_rfl) hS (yd_no rfl (congrArg Value.bool hg60)) ?_
                    refine wd_take 24 _ _ rfl (by kernel_rfl) hS (yd_no rfl (congrArg Value.bool hg60)) ?_
                    refine wd_take 25 _ _ rfl (by kernel_rfl) hS (yd_no rfl (congrArg Value.bool hg60)) ?_
                    refine wd_take 26 _ _ rfl (by kernel_rfl) hS (yd_yes rfl (congrArg Value.bool hg54) fun A hA => rn_pickT (congrArg Value.bool hg60) (by conv => lhs; whnf)) ?_
                    refine wd_take 27 _ _ rfl (by kernel_rfl) hS (yd_yes rfl (congrArg Value.bool hg44) fun A hA => rn_pickT (congrArg Value.bool hg54) (by conv => lhs; whnf)) ?_
                    refine wd_take 28 _ _ rfl (by kernel_rfl) hS (yd_do fun A hA => rn_pickF (congrArg Value.bool hg44) (by conv => lhs; whnf)) ?_
                    refine wd_done (by kernel_rfl) ?_ _
                    replace hX := hX.tr hS
                    replace hV := hV.tr hS
                    replace hU := hU.tr hS
                    refine W_condT rfl ?_
                    refine W_seq ?_
                    refine W_region ?_
                    refine wl_val (rn_assign (by conv => lhs; whnf)) ?_
                    refine wl_nil ?_
                    refine W_ret ?_
                    exact ⟨_, resR1 (res1_tmp rfl), hX, by rw [hR]; rfl⟩
                  · have q2 : l = [43] := by simpa using of_decide_eq_false hg60
                    refine wd_take 21 _ _ rfl (by kernel_rfl) hS (yd_yes rfl (congrArg Value.bool hg60) fun A hA => rn_move (by conv => lhs; whnf)) ?_
                    refine wd_take 22 _ _ rfl (by kernel_rfl) hS (yd_yes rfl (congrArg Value.bool hg60) fun A hA => rn_move (by conv => lhs; whnf)) ?_
                    refine wd_take 23 _ _ rfl (by kernel_rfl) hS (yd_yes rfl (congrArg Value.bool hg60) fun A hA => rn_indexAddr sl_24 rfl rfl (by omega)) ?_
                    refine wd_take 24 _ _ rfl (by kernel_rfl) hS (yd_yes rfl (congrArg Value.bool hg60) fun A hA => rn_load p_9 rfl (((hT.ext hU (fun _ h => h)).ext hA (fun _ h => h.elim)).at0 (eS_at hy) rfl)) ?_
                    refine wd_take 25 _ _ rfl (by kernel_rfl) hS (yd_yes rfl (congrArg Value.bool hg60) fun A hA => rn_seql rfl rfl) ?_
                    refine wd_take 26 _ _ rfl (by kernel_rfl) hS (yd_yes rfl (congrArg Value.bool hg54) fun A hA => rn_pickF (congrArg Value.bool hg60) (by conv => lhs; whnf)) ?_
                    refine wd_take 27 _ _ rfl (by kernel_rfl) hS (yd_yes rfl (congrArg Value.bool hg44) fun A hA => rn_pickT (congrArg Value.bool hg54) (by conv => lhs; whnf)) ?_
                    refine wd_take 28 _ _ rfl (by kernel_rfl) hS (yd_do fun A hA => rn_pickF (congrArg Value.bool hg44) (by conv => lhs; whnf)) ?_
                    refine wd_done (by kernel_rfl) ?_ _
                    replace hX := hX.tr hS
                    replace hV := hV.tr hS
                    replace hU := hU.tr hS
                    refine W_cond rfl (fun hc3 => ?_) (fun hc3 => ?_)
                    · have hR : coversB f g = false := by first | assumption | (rw [hq]; exact like_no hxl q35 hall (not_okAt hxl hy q1 (fun _ => by have := of_decide_eq_true hc3; simp [notRest, this])))
                      refine W_seq ?_
                      refine W_region ?_
                      refine wl_val (rn_assign (by conv => lhs; whnf)) ?_
                      refine wl_nil ?_
                      refine W_ret ?_
                      exact ⟨_, resR1 (res1_tmp rfl), hX, by rw [hR]; rfl⟩
                    · have hok : okAt notRest (spl 47 f) (spl 47 g) i := by first | assumption | exact ⟨l, y, hxl, hy, .inr ⟨q2, by have := of_decide_eq_false hc3; simp [notRest, this]⟩⟩
                      refine W_skip ?_
                      refine W_region ?_
                      refine wl_val (rn_move (by conv => lhs; whnf)) ?_
                      refine wl_val (rn_add rfl rfl (by omega)) ?_
                      refine wl_val (rn_assign (by conv => lhs; whnf)) ?_
                      refine wl_nil ?_
                      exact ⟨rfl, i + 1, ⟨rfl, rfl, rfl, trivial⟩, ⟨hX, ⟨hV, hU, hlt, hxT, fun j hj => by rcases Nat.lt_or_ge j i with h | h; exact hall j h; (obtain rfl : j = i := by omega); exact ⟨hok, by rw [hxl]; exact fun e => q35 (Option.some.inj e)⟩⟩⟩, by omega⟩
                · have hok : okAt notRest (spl 47 f) (spl 47 g) i := ⟨l, y, hxl, hy, .inl (by simpa using of_decide_eq_false hg54)⟩
                  refine wd_take 15 _ _ rfl (by kernel_rfl) hS (yd_no rfl (congrArg Value.bool hg54)) ?_
                  refine wd_take 16 _ _ rfl (by kernel_rfl) hS (yd_no rfl (congrArg Value.bool hg54)) ?_
                  refine wd_take 17 _ _ rfl (by kernel_rfl) hS (yd_no rfl (congrArg Value.bool hg54)) ?_
                  refine wd_take 18 _ _ rfl (by kernel_rfl) hS (yd_no rfl (congrArg Value.bool hg54)) ?_
                  refine wd_take 19 _ _ rfl (by kernel_rfl) hS (yd_no rfl (congrArg Value.bool hg54)) ?_
                  refine wd_take 20 _ _ rfl (by kernel_rfl) hS (yd_no rfl (congrArg Value.bool hg54)) ?_
                  refine wd_take 21 _ _ rfl (by kernel_rfl) hS (yd_nou rfl rfl) ?_
                  refine wd_take 22 _ _ rfl (by kernel_rfl) hS (yd_nou rfl rfl) ?_
                  refine wd_take 23 _ _ rfl (by kernel_rfl) hS (yd_nou rfl rfl) ?_
                  refine wd_take 24 _ _ rfl (by kernel_rfl) hS (yd_nou rfl rfl) ?_
                  refine wd_take 25 _ _ rfl (by kernel_rfl) hS (yd_nou rfl rfl) ?_
                  refine wd_take 26 _ _ rfl (by kernel_rfl) hS (yd_no rfl (congrArg Value.bool hg54)) ?_
                  refine wd_take 27 _ _ rfl (by kernel_rfl) hS (yd_yes rfl (congrArg Value.bool hg44) fun A hA => rn_pickF (congrArg Value.bool hg54) (by conv => lhs; whnf)) ?_
                  refine wd_take 28 _ _ rfl (by kernel_rfl) hS (yd_do fun A hA => rn_pickF (congrArg Value.bool hg44) (by conv => lhs; whnf)) ?_
                  refine wd_done (by kernel_rfl) ?_ _
                  replace hX := hX.tr hS
                  replace hV := hV.tr hS
                  replace hU := hU.tr hS
                  refine W_condF rfl ?_
                  refine W_skip ?_
                  refine W_region ?_
                  refine wl_val (rn_move (by conv => lhs; whnf)) ?_
                  refine wl_val (rn_add rfl rfl (by omega)) ?_
                  refine wl_val (rn_assign (by conv => lhs; whnf)) ?_
                  refine wl_nil ?_
                  exact ⟨rfl, i + 1, ⟨rfl, rfl, rfl, trivial⟩, ⟨hX, ⟨hV, hU, hlt, hxT, fun j hj => by rcases Nat.lt_or_ge j i with h | h; exact hall j h; (obtain rfl : j = i := by omega); exact ⟨hok, by rw [hxl]; exact fun e => q35 (Option.some.inj e)⟩⟩⟩, by omega⟩
          · have hge := of_decide_eq_false hc1; simp only [Int.ofNat_lt, Nat.not_lt] at hge
            have hR : coversB f g = decide (((spl 47 f).length : Int) = ((spl 47 g).length : Int)) := by rw [hq]; exact like_end (fun j hj => hall j (by omega))
            refine W_exit ?_   -- exit 0
            refine W_seq ?_
            refine W_region ?_
            refine wl_val (rn_move (by conv => lhs; whnf)) ?_
            refine wl_val (rn_len sl_24 rfl) ?_
            refine wl_val (rn_move (by conv => lhs; whnf)) ?_
            refine wl_val (rn_len sl_24 rfl) ?_
            refine wl_val (rn_eql rfl rfl) ?_
            refine wl_val (rn_assign (by conv => lhs; whnf)) ?_
            refine wl_nil ?_
            refine W_ret ?_
            exact ⟨_, resR1 (res1_tmp rfl), hX, by rw [hR]; rfl⟩
      · have hw : (wildB f && headIs 36 g) = false := by rw [hg19]; rfl
        refine wl_no rfl (congrArg Value.bool hg19) ?_
        refine wl_no rfl (congrArg Value.bool hg19) ?_
        refine wl_no rfl (congrArg Value.bool hg19) ?_
        refine wl_yes rfl (congrArg Value.bool hg16) ?_
        refine wl_val (rn_pickF (congrArg Value.bool hg19) (by conv => lhs; whnf)) ?_
        refine wl_val (rn_pickF (congrArg Value.bool hg16) (by conv => lhs; whnf)) ?_
        refine wl_nil ?_
        refine W_condF rfl ?_
        refine W_skip ?_
        refine W_seq ?_
        refine W_region ?_
        refine wl_val (rn_move (by conv => lhs; whnf)) ?_
        refine wl_call e_16 rfl (rlevels_ok w3 f hnf) ?_; intro v26 w7 hE7 hR7
        replace hX := hX.tr hE7
        have hL := hR7; obtain ⟨a5, c5, hv5_, _⟩ := id hL.len; rw [List.length_map] at hv5_; subst hv5_
        obtain ⟨wL, hwL⟩ : ∃ x, x = w7 := ⟨_, rfl⟩
        rw [← hwL] at hL
        have hV : Ext Non wL w7 := by rw [hwL]; exact Ext.refl _ _
        have hsl := spl_len_le 47 f
        refine wl_val (rn_move (by conv => lhs; whnf)) ?_
        refine wl_call e_16 rfl (rlevels_ok w7 g hng) ?_; intro v28 w8 hE8 hR8
        replace hX := hX.tr hE8
        replace hV := hV.tr hE8
        have hT := hR8; obtain ⟨a6, c6, hv6_, _⟩ := id hT.len; rw [List.length_map] at hv6_; subst hv6_
        obtain ⟨wT, hwT⟩ : ∃ x, x = w8 := ⟨_, rfl⟩
        rw [← hwT] at hT
        have hU : Ext Non wT w8 := by rw [hwT]; exact Ext.refl _ _
        have hsg := spl_len_le 47 g
        have hq := covers_eq hF hP hw
        refine wl_val (rn_assign (by conv => lhs; whnf)) ?_
        refine wl_val (rn_assign (by conv => lhs; whnf)) ?_
        refine wl_nil ?_
        refine W_seq ?_
        refine W_seq ?_
        refine W_region ?_
        refine wl_val (rn_assign (by conv => lhs; whnf)) ?_
        refine wl_nil ?_
        refine W_block ?_   -- block 0
        refine W_loopS (S := Nat) [5, 6, 7] (fun i => [.slice a5 (spl 47 f).length c5, .slice a6 (spl 47 g).length c6, .int .i64 (i : Nat)]) (fun i A => (Ext Non w A) ∧ (Ext Non wL A ∧ Ext Non wT A ∧ i ≤ (spl 47 f).length ∧ i ≤ (spl 47 g).length ∧ ∀ j, j < i → okAt notRest (spl 47 f) (spl 47 g) j ∧ (spl 47 f)[j]? ≠ some [35])) (fun i => (spl 47 f).length - i) 0 ⟨rfl, rfl, rfl, trivial⟩ ⟨hX, ⟨hV, hU, Nat.zero_le _, Nat.zero_le _, fun j h => absurd h (Nat.not_lt_zero _)⟩⟩ ?_
        rintro τ0 i A0 ⟨hX, hI0⟩
        obtain ⟨hV, hU, hil, hil2, hall⟩ := hI0
        refine W_seq ?_
        refine W_seq ?_
        refine W_region ?_
        refine wl_val (rn_move (by conv => lhs; whnf)) ?_
        refine wl_val (rn_move (by conv => lhs; whnf)) ?_
        refine wl_val (rn_len sl_24 rfl) ?_
        refine wl_val (rn_lss rfl rfl) ?_
        refine wl_nil ?_
        refine W_cond rfl (fun hc1 => ?_) (fun hc1 => ?_)
        · have hlt := of_decide_eq_true hc1; simp only [Int.ofNat_lt] at hlt
          obtain ⟨l, hxl⟩ : ∃ l, ((spl 47 f))[i]? = some l := ⟨_, List.getElem?_eq_getElem hlt⟩
          obtain ⟨bb, oo, ea⟩ := hL.base (by intro e; have := congrArg List.length e; simp only [List.length_map, List.length_nil] at this; omega); subst ea
          refine W_skip ?_
          refine W_seq ?_
          refine W_block ?_   -- block 1
          refine W_seq ?_
          refine W_seq ?_
          refine W_region ?_
          refine wl_val (rn_move (by conv => lhs; whnf)) ?_
          refine wl_val (rn_move (by conv => lhs; whnf)) ?_
          refine wl_val (rn_indexAddr sl_24 rfl rfl (by omega)) ?_
          refine wl_val (rn_load p_9 rfl ((hL.ext hV (fun _ h => h)).at0 (eS_at hxl) rfl)) ?_
          refine wl_val (rn_seql rfl rfl) ?_
          refine wl_nil ?_
          refine W_cond rfl (fun hc2 => ?_) (fun hc2 => ?_)
          · have hR : coversB f g = true := by rw [hq]; exact like_yes (by rw [hxl, of_decide_eq_true hc2]) hil2 hall
            refine W_seq ?_
            refine W_region ?_
            refine wl_val (rn_assign (by conv => lhs; whnf)) ?_
            refine wl_nil ?_
            refine W_ret ?_
            exact ⟨_, resR1 (res1_tmp rfl), hX, by rw [hR]; rfl⟩
          · have q35 : ¬ l = [35] := of_decide_eq_false hc2
            refine W_skip ?_
            refine W_seq ?_
            refine W_drawE mixed ?_; intro w9 hE9
            replace hX := hX.tr hE9
            replace hV := hV.tr hE9
            replace hU := hU.tr hE9
            have hS := Ext.refl Non w9
            refine wd_take 0 _ _ rfl (by kernel_rfl) hS (yd_do fun A hA => rn_move (by conv => lhs; whnf)) ?_
            refine wd_take 1 _ _ rfl (by kernel_rfl) hS (yd_do fun A hA => rn_move (by conv => lhs; whnf)) ?_
            refine wd_take 2 _ _ rfl (by kernel_rfl) hS (yd_do fun A hA => rn_len sl_24 rfl) ?_
            refine wd_take 3 _ _ rfl (by kernel_rfl) hS (yd_do fun A hA => rn_geq rfl rfl) ?_
            refine wd_take 4 _ _ rfl (by kernel_rfl) hS (yd_do fun A hA => rn_move (by conv => lhs; whnf)) ?_
            refine wd_split (d := 44) rfl (fun hg44 => ?_) (fun hg44 => ?_)
            · have hR : coversB f g = false := by rw [hq]; exact like_no hxl q35 hall (not_okAt2 (by have := of_decide_eq_true hg44; omega))
              refine wd_take 5 _ _ rfl (by kernel_rfl) hS (yd_no rfl (congrArg Value.bool hg44)) ?_
              refine wd_take 6 _ _ rfl (by kernel_rfl) hS (yd_no rfl (congrArg Value.bool hg44)) ?_
              refine wd_take 7 _ _ rfl (by kernel_rfl) hS (yd_no rfl (congrArg Value.bool hg44)) ?_
              refine wd_take 8 _ _ rfl (by kernel_rfl) hS (yd_no rfl (congrArg Value.bool hg44)) ?_
              refine wd_take 9 _ _ rfl (by kernel_rfl) hS (yd_no rfl (congrArg Value.bool hg44)) ?_
              refine wd_take 10 _ _ rfl (by kernel_rfl) hS (yd_no rfl (congrArg Value.bool hg44)) ?_
              refine wd_take 11 _ _ rfl (by kernel_rfl) hS (yd_no rfl (congrArg Value.bool hg44)) ?_
              refine wd_take 12 _ _ rfl (by kernel_rfl) hS (yd_no rfl (congrArg Value.bool hg44)) ?_
              refine wd_take 13 _ _ rfl (by kernel_rfl) hS (yd_no rfl (congrArg Value.bool hg44)) ?_
              refine wd_take 14 _ _ rfl (by kernel_rfl) hS (yd_no rfl (congrArg Value.bool hg44)) ?_
              refine wd_take 15 _ _ rfl (by kernel_rfl) hS (yd_nou rfl rfl) ?_
              refine wd_take 16 _ _ rfl (by kernel_rfl) hS (yd_nou rfl rfl) ?_
              refine wd_take 17 _ _ rfl (by kernel_rfl) hS (yd_nou rfl rfl) ?_
              refine wd_take 18 _ _ rfl (by kernel_rfl) hS (yd_nou rfl rfl) ?_
              refine wd_take 19 _ _ rfl (by kernel_rfl) hS (yd_nou rfl rfl) ?_
              refine wd_take 20 _ _ rfl (by kernel_rfl) hS (yd_nou rfl rfl) ?_
              refine wd_take 21 _ _ rfl (by kernel_rfl) hS (yd_nou rfl rfl) ?_
              refine wd_take 22 _ _ rfl (by kernel_rfl) hS (yd_nou rfl rfl) ?_
              refine wd_take 23 _ _ rfl (by kernel_rfl) hS (yd_nou rfl rfl) ?_
              refine wd_take 24 _ _ rfl (by kernel_rfl) hS (yd_nou rfl rfl) ?_
              refine wd_take 25 _ _ rfl (by kernel_rfl) hS (yd_nou rfl rfl) ?_
              refine wd_take 26 _ _ rfl (by kernel_rfl) hS (yd_nou rfl rfl) ?_
              refine wd_take 27 _ _ rfl (by kernel_rfl) hS (yd_no rfl (congrArg Value.bool hg44)) ?_
              refine wd_take 28 _ _ rfl (by kernel_rfl) hS (yd_do fun A hA => rn_pickT (congrArg Value.bool hg44) (by conv => lhs; whnf)) ?_
              refine wd_done (by kernel_rfl) ?_ _
              replace hX := hX.tr hS
              replace hV := hV.tr hS
              replace hU := hU.tr hS
              refine W_condT rfl ?_
              refine W_seq ?_
              refine W_region ?_
              refine wl_val (rn_assign (by conv => lhs; whnf)) ?_
              refine wl_nil ?_
              refine W_ret ?_
              exact ⟨_, resR1 (res1_tmp rfl), hX, by rw [hR]; rfl⟩
            · have hxT : i < (spl 47 g).length := by have := of_decide_eq_false hg44; omega
              obtain ⟨y, hy⟩ : ∃ y, (spl 47 g)[i]? = some y := ⟨_, List.getElem?_eq_getElem hxT⟩
              obtain ⟨bb2, oo2, ea2⟩ := hT.base (by intro e; have := congrArg List.length e; simp only [List.length_map, List.length_nil] at this; omega); subst ea2
              refine wd_take 5 _ _ rfl (by kernel_rfl) hS (yd_yes rfl (congrArg Value.bool hg44) fun A hA => rn_move (by conv => lhs; whnf)) ?_
              refine wd_take 6 _ _ rfl (by kernel_rfl) hS (yd_yes rfl (congrArg Value.bool hg44) fun A hA => rn_move (by conv => lhs; whnf)) ?_
              refine wd_take 7 _ _ rfl (by kernel_rfl) hS (yd_yes rfl (congrArg Value.bool hg44) fun A hA => rn_indexAddr sl_24 rfl rfl (by omega)) ?_
              refine wd_take 8 _ _ rfl (by kernel_rfl) hS (yd_yes rfl (congrArg Value.bool hg44) fun A hA => rn_load p_9 rfl (((hL.ext hV (fun _ h => h)).ext hA (fun _ h => h.elim)).at0 (eS_at hxl) rfl)) ?_
              refine wd_take 9 _ _ rfl (by kernel_rfl) hS (yd_yes rfl (congrArg Value.bool hg44) fun A hA => rn_move (by conv => lhs; whnf)) ?_
              refine wd_take 10 _ _ rfl (by kernel_rfl) hS (yd_yes rfl (congrArg Value.bool hg44) fun A hA => rn_move (by conv => lhs; whnf)) ?_
              refine wd_take 11 _ _ rfl (by kernel_rfl) hS (yd_yes rfl (congrArg Value.bool hg44) fun A hA => rn_indexAddr sl_24 rfl rfl (by omega)) ?_
              refine wd_take 12 _ _ rfl (by kernel_rfl) hS (yd_yes rfl (congrArg Value.bool hg44) fun A hA => rn_load p_9 rfl (((hT.ext hU (fun _ h => h)).ext hA (fun _ h => h.elim)).at0 (eS_at hy) rfl)) ?_
              refine wd_take 13 _ _ rfl (by kernel_rfl) hS (yd_yes rfl (congrArg Value.bool hg44) fun A hA => rn_sneq rfl rfl) ?_
              refine wd_take 14 _ _ rfl (by kernel_rfl) hS (yd_yes rfl (congrArg Value.bool hg44) fun A hA => rn_move (by conv => lhs; whnf)) ?_
              refine wd_split (d := 54) rfl (fun hg54 => ?_) (fun hg54 => ?_)
              · have q1 : ¬ l = y := by simpa using of_decide_eq_true hg54
                refine wd_take 15 _ _ rfl (by kernel_rfl) hS (yd_yes rfl (congrArg Value.bool hg54) fun A hA => rn_move (by conv => lhs; whnf)) ?_
                refine wd_take 16 _ _ rfl (by kernel_rfl) hS (yd_yes rfl (congrArg Value.bool hg54) fun A hA => rn_move (by conv => lhs; whnf)) ?_
                refine wd_take 17 _ _ rfl (by kernel_rfl) hS (yd_yes rfl (congrArg Value.bool hg54) fun A hA => rn_indexAddr sl_24 rfl rfl (by omega)) ?_
                refine wd_take 18 _ _ rfl (by kernel_rfl) hS (yd_yes rfl (congrArg Value.bool hg54) fun A hA => rn_load p_9 rfl (((hL.ext hV (fun _ h => h)).ext hA (fun _ h => h.elim)).at0 (eS_at hxl) rfl)) ?_
                refine wd_take 19 _ _ rfl (by kernel_rfl) hS (yd_yes rfl (congrArg Value.bool hg54) fun A hA => rn_sneq rfl rfl) ?_
                refine wd_take 20 _ _ rfl (by kernel_rfl) hS (yd_yes rfl (congrArg Value.bool hg54) fun A hA => rn_move (by conv => lhs; whnf)) ?_
                refine wd_split (d := 60) rfl (fun hg60 => ?_) (fun hg60 => ?_)
                · have hR : coversB f g = false := by rw [hq]; exact like_no hxl q35 hall (not_okAt hxl hy q1 (fun e => absurd e (by simpa using of_decide_eq_true hg60)))
                  refine wd_take 21 _ _ rfl (by kernel_rfl) hS (yd_no rfl (congrArg Value.bool hg60)) ?_
                  refine wd_take 22 _ _ rfl (by kernel_rfl) hS (yd_no rfl (congrArg Value.bool hg60)) ?_
                  refine wd_take 23 _ _ rfl (by kernel_rfl) hS (yd_no rfl (congrArg Value.bool hg60)) ?_
                  refine wd_take 24 _ _ rfl (by kernel_rfl) hS (yd_no rfl (congrArg Value.bool hg60)) ?_
                  refine wd_take 25 _ _ rfl (by kernel_rfl) hS (yd_no rfl (congrArg Value.bool hg60)) ?_
                  refine wd_take 26 _ _ rfl (by kernel_rfl) hS (yd_yes rfl (congrArg Value.bool hg54) fun A hA => rn_pickT (congrArg Value.bool hg60) (by conv => lhs; whnf)) ?_
                  refine wd_take 27 _ _ rfl (by kernel_rfl) hS (yd_yes rfl (congrArg Value.bool hg44) fun A hA => rn_pickT (congrArg Value.bool hg54) (by conv => lhs; whnf)) ?_
                  refine wd_take 28 _ _ rfl (by kernel_rfl) hS (yd_do fun A hA => rn_pickF (congrArg Value.bool hg44) (by conv => lhs; whnf)) ?_
                  refine wd_done (by kernel_rfl) ?_ _
                  replace hX := hX.tr hS
                  replace hV := hV.tr hS
                  replace hU := hU.tr hS
                  refine W_condT rfl ?_
                  refine W_seq ?_
                  refine W_region ?_
                  refine wl_val (rn_assign (by conv => lhs; whnf)) ?_
                  refine wl_nil ?_
                  refine W_ret ?_
                  exact ⟨_, resR1 (res1_tmp rfl), hX, by rw [hR]; rfl⟩
                · have q2 : l = [43] := by simpa using of_decide_eq_false hg60
                  refine wd_take 21 _ _ rfl (by kernel_rfl) hS (yd_yes rfl (congrArg Value.bool hg60) fun A hA => rn_move (by conv => lhs; whnf)) ?_
                  refine wd_take 22 _ _ rfl (by kernel_rfl) hS (yd_yes rfl (congrArg Value.bool hg60) fun A hA => rn_move (by conv => lhs; whnf)) ?_
                  refine wd_take 23 _ _ rfl (by kernel_rfl) hS (yd_yes rfl (congrArg Value.bool hg60) fun A hA => rn_indexAddr sl_24 rfl rfl (by omega)) ?_
                  refine wd_take 24 _ _ rfl (by kernel_rfl) hS (yd_yes rfl (congrArg Value.bool hg60) fun A hA => rn_load p_9 rfl (((hT.ext hU (fun _ h => h)).ext hA (fun _ h => h.elim)).at0 (eS_at hy) rfl)) ?_
                  refine wd_take 25 _ _ rfl (by kernel_rfl) hS (yd_yes rfl (congrArg Value.bool hg60) fun A hA => rn_seql rfl rfl) ?_
                  refine wd_take 26 _ _ rfl (by kernel_rfl) hS (yd_yes rfl (congrArg Value.bool hg54) fun A hA => rn_pickF (congrArg Value.bool hg60) (by conv => lhs; whnf)) ?_
                  refine wd_take 27 _ _ rfl (by kernel_rfl) hS (yd_yes rfl (congrArg Value.bool hg44) fun A hA => rn_pickT (congrArg Value.bool hg54) (by conv => lhs; whnf)) ?_
                  refine wd_take 28 _ _ rfl (by kernel_rfl) hS (yd_do fun A hA => rn_pickF (congrArg Value.bool hg44) (by conv => lhs; whnf)) ?_
                  refine wd_done (by kernel_rfl) ?_ _
                  replace hX := hX.tr hS
                  replace hV := hV.tr hS
                  replace hU := hU.tr hS
                  refine W_cond rfl (fun hc3 => ?_) (fun hc3 => ?_)
                  · have hR : coversB f g = false := by first | assumption | (rw [hq]; exact like_no hxl q35 hall (not_okAt hxl hy q1 (fun _ => by have := of_decide_eq_true hc3; simp [notRest, this])))
                    refine W_seq ?_
                    refine W_region ?_
                    refine wl_val (rn_assign (by conv => lhs; whnf)) ?_
                    refine wl_nil ?_
                    refine W_ret ?_
                    exact ⟨_, resR1 (res1_tmp rfl), hX, by rw [hR]; rfl⟩
                  · have hok : okAt notRest (spl 47 f) (spl 47 g) i := by first | assumption | exact ⟨l, y, hxl, hy, .inr ⟨q2, by have := of_decide_eq_false hc3; simp [notRest, this]⟩⟩
                    refine W_skip ?_
                    refine W_region ?_
                    refine wl_val (rn_move (by conv => lhs; whnf)) ?_
                    refine wl_val (rn_add rfl rfl (by omega)) ?_
                    refine wl_val (rn_assign (by conv => lhs; whnf)) ?_
                    refine wl_nil ?_
                    exact ⟨rfl, i + 1, ⟨rfl, rfl, rfl, trivial⟩, ⟨hX, ⟨hV, hU, hlt, hxT, fun j hj => by rcases Nat.lt_or_ge j i with h | h; exact hall j h; (obtain rfl : j = i := by omega); exact ⟨hok, by rw [hxl]; exact fun e => q35 (Option.some.inj e)⟩⟩⟩, by omega⟩
              · have hok : okAt notRest (spl 47 f) (spl 47 g) i := ⟨l, y, hxl, hy, .inl (by simpa using of_decide_eq_false hg54)⟩
                refine wd_take 15 _ _ rfl (by kernel_rfl) hS (yd_no rfl (congrArg Value.bool hg54)) ?_
                refine wd_take 16 _ _ rfl (by kernel_rfl) hS (yd_no rfl (congrArg Value.bool hg54)) ?_
                refine wd_take 17 _ _ rfl (by kernel_rfl) hS (yd_no rfl (congrArg Value.bool hg54)) ?_
                refine wd_take 18 _ _ rfl (by kernel_rfl) hS (yd_no rfl (congrArg Value.bool hg54)) ?_
                refine wd_take 19 _ _ rfl (by kernel_rfl) hS (yd_no rfl (congrArg Value.bool hg54)) ?_
                refine wd_take 20 _ _ rfl (by kernel_rfl) hS (yd_no rfl (congrArg Value.bool hg54)) ?_
                refine wd_take 21 _ _ rfl (by kernel_rfl) hS (yd_nou rfl rfl) ?_
                refine wd_take 22 _ _ rfl (by kernel_rfl) hS (yd_nou rfl rfl) ?_
                refine wd_take 23 _ _ rfl (by kernel_rfl) hS (yd_nou rfl rfl) ?_
                refine wd_take 24 _ _ rfl (by kernel_rfl) hS (yd_nou rfl rfl) ?_
                refine wd_take 25 _ _ rfl (by kernel_rfl) hS (yd_nou rfl rfl) ?_
                refine wd_take 26 _ _ rfl (by kernel_rfl) hS (yd_no rfl (congrArg Value.bool hg54)) ?_
                refine wd_take 27 _ _ rfl (by kernel_rfl) hS (yd_yes rfl (congrArg Value.bool hg44) fun A hA => rn_pickF (congrArg Value.bool hg54) (by conv => lhs; whnf)) ?_
                refine wd_take 28 _ _ rfl (by kernel_rfl) hS (yd_do fun A hA => rn_pickF (congrArg Value.bool hg44) (by conv => lhs; whnf)) ?_
                refine wd_done (by kernel_rfl) ?_ _
                replace hX := hX.tr hS
                replace hV := hV.tr hS
                replace hU := hU.tr hS
                refine W_condF rfl ?_
                refine W_skip ?_
                refine W_region ?_
                refine wl_val (rn_move (by conv => lhs; whnf)) ?_
                refine wl_val (rn_add rfl rfl (by omega)) ?_
                refine wl_val (rn_assign (by conv => lhs; whnf)) ?_
                refine wl_nil ?_
                exact ⟨rfl, i + 1, ⟨rfl, rfl, rfl, trivial⟩, ⟨hX, ⟨hV, hU, hlt, hxT, fun j hj => by rcases Nat.lt_or_ge j i with h | h; exact hall j h; (obtain rfl : j = i := by omega); exact ⟨hok, by rw [hxl]; exact fun e => q35 (Option.some.inj e)⟩⟩⟩, by omega⟩
        · have hge := of_decide_eq_false hc1; simp only [Int.ofNat_lt, Nat.not_lt] at hge
          have hR : coversB f g = decide (((spl 47 f).length : Int) = ((spl 47 g).length : Int)) := by rw [hq]; exact like_end (fun j hj => hall j (by omega))
          refine W_exit ?_   -- exit 0
          refine W_seq ?_
          refine W_region ?_
          refine wl_val (rn_move (by conv => lhs; whnf)) ?_
          refine wl_val (rn_len sl_24 rfl) ?_
          refine wl_val (rn_move (by conv => lhs; whnf)) ?_
          refine wl_val (rn_len sl_24 rfl) ?_
          refine wl_val (rn_eql rfl rfl) ?_
          refine wl_val (rn_assign (by conv => lhs; whnf)) ?_
          refine wl_nil ?_
          refine W_ret ?_
          exact ⟨_, resR1 (res1_tmp rfl), hX, by rw [hR]; rfl⟩
-- bellman/bellmanref02.Any
theorem rany_ok (w : World) (l : List Str) (t : Str) {v : Value} (hll : ∀ x ∈ l, x.length ≤ 1000000) (hnt : t.length ≤ 1000000) (hs : Sl Non w v 1 (l.map eS1)) : Fn Tryd.prog 46 #[v, Sv t] w fun u w' => u = .bool (anyMatch l t) := by
  have hbig2 : big = 9223372036854775807 := rfl
  obtain ⟨a, c, rfl, hbg⟩ := hs.len
  simp only [List.length_map] at hs hbg ⊢
  have hX := Ext.refl Non w
  refine fn_of_W (args := [_, _]) Tryd.func46 rfl (by kernel_rfl) rfl ?_
  refine W_seq ?_
  refine W_region ?_
  refine wl_val (rn_assign (by conv => lhs; whnf)) ?_
  refine wl_nil ?_
  refine W_seq ?_
  refine W_seq ?_
  refine W_region ?_
  refine wl_val (rn_assign (by conv => lhs; whnf)) ?_
  refine wl_nil ?_
  refine W_block ?_   -- block 0
  refine W_loopS (S := Nat) [0, 1, 5] (fun i => [.slice a l.length c, Sv t, .int .i64 (i : Nat)]) (fun i A => (Ext Non w A) ∧ (i ≤ l.length ∧ (l.take i).any (fun f => matchB f t) = false)) (fun i => l.length - i) 0 ⟨rfl, rfl, rfl, trivial⟩ ⟨hX, ⟨Nat.zero_le _, by simp⟩⟩ ?_
  rintro τ0 i A0 ⟨hX, hI0⟩
  obtain ⟨hil, hno⟩ := hI0
  refine W_seq ?_
  refine W_seq ?_
  refine W_region ?_
  refine wl_val (rn_move (by conv => lhs; whnf)) ?_
  refine wl_val (rn_move (by conv => lhs; whnf)) ?_
  refine wl_val (rn_len sl_24 rfl) ?_
  refine wl_val (rn_lss rfl rfl) ?_
  refine wl_nil ?_
  refine W_cond rfl (fun hc0 => ?_) (fun hc0 => ?_)
  · have hlt := of_decide_eq_true hc0; simp only [Int.ofNat_lt] at hlt
    obtain ⟨x, hi⟩ : ∃ x, (l)[i]? = some x := ⟨_, List.getElem?_eq_getElem hlt⟩
    obtain ⟨bb, oo, ea⟩ := hs.base (by intro e; have := congrArg List.length e; simp only [List.length_map, List.length_nil] at this; omega); subst ea
    refine W_skip ?_
    refine W_seq ?_
    refine W_block ?_   -- block 1
    refine W_seq ?_
    refine W_region ?_
    refine wl_val (rn_move (by conv => lhs; whnf)) ?_
    refine wl_val (rn_move (by conv => lhs; whnf)) ?_
    refine wl_val (rn_indexAddr sl_24 rfl rfl (by omega)) ?_
    refine wl_val (rn_load p_9 rfl ((hs.ext hX (fun _ h => h)).at0 (eS_at hi) rfl)) ?_
    refine wl_val (rn_move (by conv => lhs; whnf)) ?_
    refine wl_call e_43 rfl (rmatch_ok A0 x t (hll x (List.mem_of_getElem? hi)) hnt) ?_; intro v17 w1 hE1 hR1
    replace hX := hX.tr hE1
    subst hR1
    refine wl_nil ?_
    refine W_cond rfl (fun hc1 => ?_) (fun hc1 => ?_)
    · have hR : anyMatch l t = true := List.any_eq_true.2 ⟨x, List.mem_of_getElem? hi, hc1⟩
      refine W_seq ?_
      refine W_region ?_
      refine wl_val (rn_assign (by conv => lhs; whnf)) ?_
      refine wl_nil ?_
      refine W_ret ?_
      exact ⟨_, resR1 (res1_tmp rfl), hX, by rw [hR]; rfl⟩
    · refine W_skip ?_
      refine W_region ?_
      refine wl_val (rn_move (by conv => lhs; whnf)) ?_
      refine wl_val (rn_add rfl rfl (by omega)) ?_
      refine wl_val (rn_assign (by conv => lhs; whnf)) ?_
      refine wl_nil ?_
      exact ⟨rfl, i + 1, ⟨rfl, rfl, rfl, trivial⟩, ⟨hX, ⟨hlt, by rw [List.take_add_one, hi]; simp [hno, hc1]⟩⟩, by omega⟩
  · have hge := of_decide_eq_false hc0; simp only [Int.ofNat_lt, Nat.not_lt] at hge
    rw [List.take_of_length_le hge] at hno
    refine W_exit ?_   -- exit 0
    refine W_seq ?_
    refine W_region ?_
    refine wl_val (rn_assign (by conv => lhs; whnf)) ?_
    refine wl_nil ?_
    refine W_ret ?_
    exact ⟨_, resR1 (res1_tmp rfl), hX, by unfold anyMatch; rw [hno]; rfl⟩
-- bellman/bellmanlaw02.awake
theorem awake02_ok (w : World)  : Fn Tryd.prog 40 #[] w fun u w' => u = .bool true := by
  have hX := Ext.refl Non w
  refine fn_of_W (args := []) Tryd.func40 rfl (by kernel_rfl) rfl ?_
  refine W_seq ?_
  refine W_region ?_
  refine wl_val (rn_assign (by conv => lhs; whnf)) ?_
  refine wl_nil ?_
  refine W_seq ?_
  refine W_region ?_
  refine wl_call e_41 rfl (tmatch_ok w [97, 47, 43] [97, 47, 98] (by decide) (by decide)) ?_; intro v1 w1 hE1 hR1
  replace hX := hX.tr hE1
  subst hR1
  refine wl_val (rn_move (by conv => lhs; whnf)) ?_
  refine wl_split (d := 2) rfl (fun hg2 => ?_) (fun hg2 => ?_)
  · refine wl_yes rfl (congrArg Value.bool hg2) ?_
    refine wl_call e_41 rfl (tmatch_ok w1 [97, 47, 43] [97] (by decide) (by decide)) ?_; intro v3 w2 hE2 hR2
    replace hX := hX.tr hE2
    subst hR2
    refine wl_yes rfl (congrArg Value.bool hg2) ?_
    refine wl_val (rn_not rfl) ?_
    refine wl_val (rn_pickT (congrArg Value.bool hg2) (by conv => lhs; whnf)) ?_
    refine wl_val (rn_move (by conv => lhs; whnf)) ?_
    refine wl_split (d := 6) rfl (fun hg6 => ?_) (fun hg6 => ?_)
    · refine wl_yes rfl (congrArg Value.bool hg6) ?_
      refine wl_call e_41 rfl (tmatch_ok w2 [97, 47, 43] [97, 47, 98, 47, 99] (by decide) (by decide)) ?_; intro v7 w3 hE3 hR3
      replace hX := hX.tr hE3
      subst hR3
      refine wl_yes rfl (congrArg Value.bool hg6) ?_
      refine wl_val (rn_not rfl) ?_
      refine wl_val (rn_pickT (congrArg Value.bool hg6) (by conv => lhs; whnf)) ?_
      refine wl_val (rn_assign (by conv => lhs; whnf)) ?_
      refine wl_nil ?_
      refine W_ret ?_
      exact ⟨_, resR1 (res1_tmp rfl), hX, by show Value.bool (!matchB [97, 47, 43] [97, 47, 98, 47, 99]) = .bool true; exact congrArg Value.bool (by decide)⟩
    · exact absurd hg6 (by decide)
  · exact absurd hg2 (by decide)
-- bellman/bellmanlaw02.MatchTells
set_option maxHeartbeats 2000000 in
theorem matchTells_ok (w : World) (f g t : Str) (l : List Str) {v : Value} (hs : Sl Non w v 1 (l.map eS1)) : Fn Tryd.prog 11 #[Sv f, Sv g, Sv t, v] w fun u w' => u = .bool true := by
  have hbig2 : big = 9223372036854775807 := rfl
  obtain ⟨a, c, rfl, hbg⟩ := hs.len
  simp only [List.length_map] at hs hbg ⊢
  have hX := Ext.refl Non w
  refine fn_of_W (args := [_, _, _, _]) Tryd.func11 rfl (by kernel_rfl) rfl ?_
  refine W_seq ?_
  refine W_region ?_
  refine wl_val (rn_assign (by conv => lhs; whnf)) ?_
  refine wl_nil ?_
  refine W_seq ?_
  refine W_seq ?_
  refine W_region ?_
  refine wl_call e_40 rfl (awake02_ok w) ?_; intro v10 w1 hE1 hR1
  replace hX := hX.tr hE1
  subst hR1
  refine wl_val (rn_not rfl) ?_
  refine wl_nil ?_
  refine W_cond rfl (fun hc0 => ?_) (fun hc0 => ?_)
  · exact absurd hc0 (by decide)
  · refine W_skip ?_
    refine W_seq ?_
    refine W_seq ?_
    refine W_region ?_
    refine wl_val (rn_move (by conv => lhs; whnf)) ?_
    refine wl_call e_15 rfl (long2_ok w1 f) ?_; intro v13 w2 hE2 hR2
    replace hX := hX.tr hE2
    subst hR2
    refine wl_val (rn_move (by conv => lhs; whnf)) ?_
    refine wl_split (d := 14) rfl (fun hg14 => ?_) (fun hg14 => ?_)
    · refine wl_no rfl (congrArg Value.bool hg14) ?_
      refine wl_no rfl (congrArg Value.bool hg14) ?_
      refine wl_val (rn_pickT (congrArg Value.bool hg14) (by conv => lhs; whnf)) ?_
      refine wl_val (rn_move (by conv => lhs; whnf)) ?_
      refine wl_no rfl rfl ?_
      refine wl_no rfl rfl ?_
      refine wl_val (rn_pickT rfl (by conv => lhs; whnf)) ?_
      refine wl_val (rn_move (by conv => lhs; whnf)) ?_
      refine wl_no rfl rfl ?_
      refine wl_no rfl rfl ?_
      refine wl_no rfl rfl ?_
      refine wl_val (rn_pickT rfl (by conv => lhs; whnf)) ?_
      refine wl_nil ?_
      refine W_condT rfl ?_
      refine W_seq ?_
      refine W_region ?_
      refine wl_val (rn_assign (by conv => lhs; whnf)) ?_
      refine wl_nil ?_
      refine W_ret ?_
      first | exact ⟨_, resR1 (res1_tmp rfl), hX, rfl⟩ | exact ⟨_, resR1 (res1_tmp rfl), hX, (by show Value.bool (decide (anyMatch l t = anyMatch l t)) = _; rw [decide_eq_true rfl])⟩
    · have hnf : f.length ≤ 1000000 := by have := of_decide_eq_false hg14; omega
      refine wl_yes rfl (congrArg Value.bool hg14) ?_
      refine wl_val (rn_move (by conv => lhs; whnf)) ?_
      refine wl_yes rfl (congrArg Value.bool hg14) ?_
      refine wl_call e_15 rfl (long2_ok w2 g) ?_; intro v16 w3 hE3 hR3
      replace hX := hX.tr hE3
      subst hR3
      refine wl_val (rn_pickF (congrArg Value.bool hg14) (by conv => lhs; whnf)) ?_
      refine wl_val (rn_move (by conv => lhs; whnf)) ?_
      refine wl_split (d := 18) rfl (fun hg18 => ?_) (fun hg18 => ?_)
      · refine wl_no rfl (congrArg Value.bool hg18) ?_
        refine wl_no rfl (congrArg Value.bool hg18) ?_
        refine wl_val (rn_pickT (congrArg Value.bool hg18) (by conv => lhs; whnf)) ?_
        refine wl_val (rn_move (by conv => lhs; whnf)) ?_
        refine wl_no rfl rfl ?_
        refine wl_no rfl rfl ?_
        refine wl_no rfl rfl ?_
        refine wl_val (rn_pickT rfl (by conv => lhs; whnf)) ?_
        refine wl_nil ?_
        refine W_condT rfl ?_
        refine W_seq ?_
        refine W_region ?_
        refine wl_val (rn_assign (by conv => lhs; whnf)) ?_
        refine wl_nil ?_
        refine W_ret ?_
        first | exact ⟨_, resR1 (res1_tmp rfl), hX, rfl⟩ | exact ⟨_, resR1 (res1_tmp rfl), hX, (by show Value.bool (decide (anyMatch l t = anyMatch l t)) = _; rw [decide_eq_true rfl])⟩
      · have hng : g.length ≤ 1000000 := by have := of_decide_eq_false hg18; omega
        refine wl_yes rfl (congrArg Value.bool hg18) ?_
        refine wl_val (rn_move (by conv => lhs; whnf)) ?_
        refine wl_yes rfl (congrArg Value.bool hg18) ?_
        refine wl_call e_15 rfl (long2_ok w3 t) ?_; intro v20 w4 hE4 hR4
        replace hX := hX.tr hE4
        subst hR4
        refine wl_val (rn_pickF (congrArg Value.bool hg18) (by conv => lhs; whnf)) ?_
        refine wl_val (rn_move (by conv => lhs; whnf)) ?_
        refine wl_split (d := 22) rfl (fun hg22 => ?_) (fun hg22 => ?_)
        · refine wl_no rfl (congrArg Value.bool hg22) ?_
          refine wl_no rfl (congrArg Value.bool hg22) ?_
          refine wl_no rfl (congrArg Value.bool hg22) ?_
          refine wl_val (rn_pickT (congrArg Value.bool hg22) (by conv => lhs; whnf)) ?_
          refine wl_nil ?_
          refine W_condT rfl ?_
          refine W_seq ?_
          refine W_region ?_
          refine wl_val (rn_assign (by conv => lhs; whnf)) ?_
          refine wl_nil ?_
          refine W_ret ?_
          first | exact ⟨_, resR1 (res1_tmp rfl), hX, rfl⟩ | exact ⟨_, resR1 (res1_tmp rfl), hX, (by show Value.bool (decide (anyMatch l t = anyMatch l t)) = _; rw [decide_eq_true rfl])⟩
        · have hnt : t.length ≤ 1000000 := by have := of_decide_eq_false hg22; omega
          refine wl_yes rfl (congrArg Value.bool hg22) ?_
          refine wl_val (rn_move (by conv => lhs; whnf)) ?_
          refine wl_yes rfl (congrArg Value.bool hg22) ?_
          refine wl_val (rn_len sl_24 rfl) ?_
          refine wl_yes rfl (congrArg Value.bool hg22) ?_
          refine wl_val (rn_gtr rfl rfl) ?_
          refine wl_val (rn_pickF (congrArg Value.bool hg22) (by conv => lhs; whnf)) ?_
          refine wl_nil ?_
          refine W_cond rfl (fun hc1 => ?_) (fun hc1 => ?_)
          · refine W_seq ?_
            refine W_region ?_
            refine wl_val (rn_assign (by conv => lhs; whnf)) ?_
            refine wl_nil ?_
            refine W_ret ?_
            first | exact ⟨_, resR1 (res1_tmp rfl), hX, rfl⟩ | exact ⟨_, resR1 (res1_tmp rfl), hX, (by show Value.bool (decide (anyMatch l t = anyMatch l t)) = _; rw [decide_eq_true rfl])⟩
          · have hs0 := hs
            refine W_skip ?_
            refine W_seq ?_
            refine W_seq ?_
            refine W_region ?_
            refine wl_val (rn_assign (by conv => lhs; whnf)) ?_
            refine wl_nil ?_
            refine W_block ?_   -- block 0
            refine W_loopS (S := Nat) [0, 1, 2, 3, 9] (fun i => [Sv f, Sv g, Sv t, .slice a l.length c, .int .i64 (i : Nat)]) (fun i A => (Ext Non w A) ∧ (i ≤ l.length ∧ ∀ (j : Nat) x, j < i → l[j]? = some x → x.length ≤ 1000000)) (fun i => l.length - i) 0 ⟨rfl, rfl, rfl, rfl, rfl, trivial⟩ ⟨hX, ⟨Nat.zero_le _, fun j x h => absurd h (Nat.not_lt_zero _)⟩⟩ ?_
            rintro τ0 i A0 ⟨hX, hI0⟩
            obtain ⟨hil, hall⟩ := hI0
            refine W_seq ?_
            refine W_seq ?_
            refine W_region ?_
            refine wl_val (rn_move (by conv => lhs; whnf)) ?_
            refine wl_val (rn_move (by conv => lhs; whnf)) ?_
            refine wl_val (rn_len sl_24 rfl) ?_
            refine wl_val (rn_lss rfl rfl) ?_
            refine wl_nil ?_
            refine W_cond rfl (fun hc2 => ?_) (fun hc2 => ?_)
            · have hlt := of_decide_eq_true hc2; simp only [Int.ofNat_lt] at hlt
              obtain ⟨x, hi⟩ : ∃ x, (l)[i]? = some x := ⟨_, List.getElem?_eq_getElem hlt⟩
              obtain ⟨bb, oo, ea⟩ := hs.base (by intro e; have := congrArg List.length e; simp only [List.length_map, List.length_nil] at this; omega); subst ea
              refine W_skip ?_
              refine W_seq ?_
              refine W_block ?_   -- block 1
              refine W_seq ?_
              refine W_region ?_
              refine wl_val (rn_move (by conv => lhs; whnf)) ?_
              refine wl_val (rn_move (by conv => lhs; whnf)) ?_
              refine wl_val (rn_indexAddr sl_24 rfl rfl (by omega)) ?_
              refine wl_val (rn_load p_9 rfl ((hs.ext hX (fun _ h => h)).at0 (eS_at hi) rfl)) ?_
              refine wl_call e_15 rfl (long2_ok A0 x) ?_; intro v37 w5 hE5 hR5
              replace hX := hX.tr hE5
              subst hR5
              refine wl_nil ?_
              refine W_cond rfl (fun hc3 => ?_) (fun hc3 => ?_)
              · refine W_seq ?_
                refine W_region ?_
                refine wl_val (rn_assign (by conv => lhs; whnf)) ?_
                refine wl_nil ?_
                refine W_ret ?_
                first | exact ⟨_, resR1 (res1_tmp rfl), hX, rfl⟩ | exact ⟨_, resR1 (res1_tmp rfl), hX, (by show Value.bool (decide (anyMatch l t = anyMatch l t)) = _; rw [decide_eq_true rfl])⟩
              · refine W_skip ?_
                refine W_region ?_
                refine wl_val (rn_move (by conv => lhs; whnf)) ?_
                refine wl_val (rn_add rfl rfl (by omega)) ?_
                refine wl_val (rn_assign (by conv => lhs; whnf)) ?_
                refine wl_nil ?_
                exact ⟨rfl, i + 1, ⟨rfl, rfl, rfl, rfl, rfl, trivial⟩, ⟨hX, ⟨hlt, fun j y hj hy => by rcases Nat.lt_or_ge j i with h | h; exact hall j y h hy; (obtain rfl : j = i := by omega); rw [hi] at hy; cases hy; have := of_decide_eq_false hc3; omega⟩⟩, by omega⟩
            · have hge := of_decide_eq_false hc2; simp only [Int.ofNat_lt, Nat.not_lt] at hge
              have hll : ∀ x ∈ l, x.length ≤ 1000000 := fun x hx => by obtain ⟨j, hj⟩ := List.getElem?_of_mem hx; exact hall j x (by have := (List.getElem?_eq_some_iff.1 hj).1; omega) hj
              refine W_exit ?_   -- exit 0
              refine W_seq ?_
              refine W_region ?_
              refine wl_val (rn_move (by conv => lhs; whnf)) ?_
              refine wl_val (rn_move (by conv => lhs; whnf)) ?_
              refine wl_call e_41 rfl (tmatch_ok A0 f t hnf hnt) ?_; intro v40 w6 hE6 hR6
              replace hX := hX.tr hE6
              subst hR6
              refine wl_val (rn_move (by conv => lhs; whnf)) ?_
              refine wl_val (rn_move (by conv => lhs; whnf)) ?_
              refine wl_call e_43 rfl (rmatch_ok w6 f t hnf hnt) ?_; intro v43 w7 hE7 hR7
              replace hX := hX.tr hE7
              subst hR7
              refine wl_val (rn_beql ub_4 rfl rfl) ?_
              refine wl_val (rn_move (by conv => lhs; whnf)) ?_
              refine wl_split (d := 45) rfl (fun hg45 => ?_) (fun hg45 => ?_)
              · refine wl_yes rfl (congrArg Value.bool hg45) ?_
                refine wl_val (rn_move (by conv => lhs; whnf)) ?_
                refine wl_yes rfl (congrArg Value.bool hg45) ?_
                refine wl_val (rn_move (by conv => lhs; whnf)) ?_
                refine wl_yes rfl (congrArg Value.bool hg45) ?_
                refine wl_call e_42 rfl (tcovers_ok w7 f g hnf hng) ?_; intro v48 w8 hE8 hR8
                replace hX := hX.tr hE8
                subst hR8
                refine wl_yes rfl (congrArg Value.bool hg45) ?_
                refine wl_val (rn_move (by conv => lhs; whnf)) ?_
                refine wl_yes rfl (congrArg Value.bool hg45) ?_
                refine wl_val (rn_move (by conv => lhs; whnf)) ?_
                refine wl_yes rfl (congrArg Value.bool hg45) ?_
                refine wl_call e_44 rfl (rcovers_ok w8 f g hnf hng) ?_; intro v51 w9 hE9 hR9
                replace hX := hX.tr hE9
                subst hR9
                refine wl_yes rfl (congrArg Value.bool hg45) ?_
                refine wl_val (rn_beql ub_4 rfl rfl) ?_
                refine wl_val (rn_pickT (congrArg Value.bool hg45) (by conv => lhs; whnf)) ?_
                refine wl_val (rn_move (by conv => lhs; whnf)) ?_
                refine wl_split (d := 54) rfl (fun hg54 => ?_) (fun hg54 => ?_)
                · refine wl_yes rfl (congrArg Value.bool hg54) ?_
                  refine wl_val (rn_move (by conv => lhs; whnf)) ?_
                  refine wl_yes rfl (congrArg Value.bool hg54) ?_
                  refine wl_val (rn_move (by conv => lhs; whnf)) ?_
                  refine wl_yes rfl (congrArg Value.bool hg54) ?_
                  refine wl_call e_45 rfl (tany_ok w9 l t hll hnt (hs0.ext hX (fun _ h => h))) ?_; intro v57 w10 hE10 hR10
                  replace hX := hX.tr hE10
                  subst hR10
                  refine wl_yes rfl (congrArg Value.bool hg54) ?_
                  refine wl_val (rn_move (by conv => lhs; whnf)) ?_
                  refine wl_yes rfl (congrArg Value.bool hg54) ?_
                  refine wl_val (rn_move (by conv => lhs; whnf)) ?_
                  refine wl_yes rfl (congrArg Value.bool hg54) ?_
                  refine wl_call e_46 rfl (rany_ok w10 l t hll hnt (hs0.ext hX (fun _ h => h))) ?_; intro v60 w11 hE11 hR11
                  replace hX := hX.tr hE11
                  subst hR11
                  refine wl_yes rfl (congrArg Value.bool hg54) ?_
                  refine wl_val (rn_beql ub_4 rfl rfl) ?_
                  refine wl_val (rn_pickT (congrArg Value.bool hg54) (by conv => lhs; whnf)) ?_
                  refine wl_val (rn_assign (by conv => lhs; whnf)) ?_
                  refine wl_nil ?_
                  refine W_ret ?_
                  first | exact ⟨_, resR1 (res1_tmp rfl), hX, rfl⟩ | exact ⟨_, resR1 (res1_tmp rfl), hX, (by show Value.bool (decide (anyMatch l t = anyMatch l t)) = _; rw [decide_eq_true rfl])⟩
                · exact absurd hg54 (by simp)
              · exact absurd hg45 (by simp)
-- bellman/bellmanlaw02.MatchCovers
set_option maxHeartbeats 2000000 in
theorem matchCovers_ok (w : World) (f g t : Str) : Fn Tryd.prog 10 #[Sv f, Sv g, Sv t] w fun u w' => u = .bool true := by
  have hX := Ext.refl Non w
  refine fn_of_W (args := [_, _, _]) Tryd.func10 rfl (by kernel_rfl) rfl ?_
  refine W_seq ?_
  refine W_region ?_
  refine wl_val (rn_assign (by conv => lhs; whnf)) ?_
  refine wl_nil ?_
  refine W_seq ?_
  refine W_seq ?_
  refine W_region ?_
  refine wl_call e_40 rfl (awake02_ok w) ?_; intro v7 w1 hE1 hR1
  replace hX := hX.tr hE1
  subst hR1
  refine wl_val (rn_not rfl) ?_
  refine wl_nil ?_
  refine W_cond rfl (fun hc0 => ?_) (fun hc0 => ?_)
  · exact absurd hc0 (by decide)
  · refine W_skip ?_
    refine W_seq ?_
    refine W_seq ?_
    refine W_region ?_
    refine wl_val (rn_move (by conv => lhs; whnf)) ?_
    refine wl_call e_15 rfl (long2_ok w1 f) ?_; intro v10 w2 hE2 hR2
    replace hX := hX.tr hE2
    subst hR2
    refine wl_val (rn_move (by conv => lhs; whnf)) ?_
    refine wl_split (d := 11) rfl (fun hg11 => ?_) (fun hg11 => ?_)
    · refine wl_no rfl (congrArg Value.bool hg11) ?_
      refine wl_no rfl (congrArg Value.bool hg11) ?_
      refine wl_val (rn_pickT (congrArg Value.bool hg11) (by conv => lhs; whnf)) ?_
      refine wl_val (rn_move (by conv => lhs; whnf)) ?_
      refine wl_no rfl rfl ?_
      refine wl_no rfl rfl ?_
      refine wl_val (rn_pickT rfl (by conv => lhs; whnf)) ?_
      refine wl_nil ?_
      refine W_condT rfl ?_
      refine W_seq ?_
      refine W_region ?_
      refine wl_val (rn_assign (by conv => lhs; whnf)) ?_
      refine wl_nil ?_
      refine W_ret ?_
      first | exact ⟨_, resR1 (res1_tmp rfl), hX, rfl⟩ | exact ⟨_, resR1 (res1_tmp rfl), hX, (by rw [covers_self hF hW]; rfl)⟩
    · have hnf : f.length ≤ 1000000 := by have := of_decide_eq_false hg11; omega
      refine wl_yes rfl (congrArg Value.bool hg11) ?_
      refine wl_val (rn_move (by conv => lhs; whnf)) ?_
      refine wl_yes rfl (congrArg Value.bool hg11) ?_
      refine wl_call e_15 rfl (long2_ok w2 g) ?_; intro v13 w3 hE3 hR3
      replace hX := hX.tr hE3
      subst hR3
      refine wl_val (rn_pickF (congrArg Value.bool hg11) (by conv => lhs; whnf)) ?_
      refine wl_val (rn_move (by conv => lhs; whnf)) ?_
      refine wl_split (d := 15) rfl (fun hg15 => ?_) (fun hg15 => ?_)
      · refine wl_no rfl (congrArg Value.bool hg15) ?_
        refine wl_no rfl (congrArg Value.bool hg15) ?_
        refine wl_val (rn_pickT (congrArg Value.bool hg15) (by conv => lhs; whnf)) ?_
        refine wl_nil ?_
        refine W_condT rfl ?_
        refine W_seq ?_
        refine W_region ?_
        refine wl_val (rn_assign (by conv => lhs; whnf)) ?_
        refine wl_nil ?_
        refine W_ret ?_
        first | exact ⟨_, resR1 (res1_tmp rfl), hX, rfl⟩ | exact ⟨_, resR1 (res1_tmp rfl), hX, (by rw [covers_self hF hW]; rfl)⟩
      · have hng : g.length ≤ 1000000 := by have := of_decide_eq_false hg15; omega
        refine wl_yes rfl (congrArg Value.bool hg15) ?_
        refine wl_val (rn_move (by conv => lhs; whnf)) ?_
        refine wl_yes rfl (congrArg Value.bool hg15) ?_
        refine wl_call e_15 rfl (long2_ok w3 t) ?_; intro v17 w4 hE4 hR4
        replace hX := hX.tr hE4
        subst hR4
        refine wl_val (rn_pickF (congrArg Value.bool hg15) (by conv => lhs; whnf)) ?_
        refine wl_nil ?_
        refine W_cond rfl (fun hc1 => ?_) (fun hc1 => ?_)
        · refine W_seq ?_
          refine W_region ?_
          refine wl_val (rn_assign (by conv => lhs; whnf)) ?_
          refine wl_nil ?_
          refine W_ret ?_
          first | exact ⟨_, resR1 (res1_tmp rfl), hX, rfl⟩ | exact ⟨_, resR1 (res1_tmp rfl), hX, (by rw [covers_self hF hW]; rfl)⟩
        · have hnt : t.length ≤ 1000000 := by have := of_decide_eq_false hc1; omega
          refine W_skip ?_
          refine W_seq ?_
          refine W_seq ?_
          refine W_region ?_
          refine wl_val (rn_move (by conv => lhs; whnf)) ?_
          refine wl_val (rn_move (by conv => lhs; whnf)) ?_
          refine wl_call e_42 rfl (tcovers_ok w4 f g hnf hng) ?_; intro v21 w5 hE5 hR5
          replace hX := hX.tr hE5
          subst hR5
          refine wl_val (rn_move (by conv => lhs; whnf)) ?_
          refine wl_split (d := 22) rfl (fun hg22 => ?_) (fun hg22 => ?_)
          · refine wl_yes rfl (congrArg Value.bool hg22) ?_
            refine wl_val (rn_move (by conv => lhs; whnf)) ?_
            refine wl_yes rfl (congrArg Value.bool hg22) ?_
            refine wl_val (rn_move (by conv => lhs; whnf)) ?_
            refine wl_yes rfl (congrArg Value.bool hg22) ?_
            refine wl_call e_41 rfl (tmatch_ok w5 g t hng hnt) ?_; intro v25 w6 hE6 hR6
            replace hX := hX.tr hE6
            subst hR6
            refine wl_val (rn_pickT (congrArg Value.bool hg22) (by conv => lhs; whnf)) ?_
            refine wl_val (rn_move (by conv => lhs; whnf)) ?_
            refine wl_split (d := 27) rfl (fun hg27 => ?_) (fun hg27 => ?_)
            · refine wl_yes rfl (congrArg Value.bool hg27) ?_
              refine wl_val (rn_move (by conv => lhs; whnf)) ?_
              refine wl_yes rfl (congrArg Value.bool hg27) ?_
              refine wl_val (rn_move (by conv => lhs; whnf)) ?_
              refine wl_yes rfl (congrArg Value.bool hg27) ?_
              refine wl_call e_41 rfl (tmatch_ok w6 f t hnf hnt) ?_; intro v30 w7 hE7 hR7
              replace hX := hX.tr hE7
              subst hR7
              refine wl_yes rfl (congrArg Value.bool hg27) ?_
              refine wl_val (rn_not rfl) ?_
              refine wl_val (rn_pickT (congrArg Value.bool hg27) (by conv => lhs; whnf)) ?_
              refine wl_nil ?_
              refine W_cond rfl (fun hc2 => ?_) (fun hc2 => ?_)
              · exact absurd hc2 (by rw [covers_match hg22 hg27]; simp)
              · refine W_skip ?_
                refine W_seq ?_
                refine W_seq ?_
                refine W_drawE mixed ?_; intro w8 hE8
                replace hX := hX.tr hE8
                have hS := Ext.refl Non w8
                refine wd_take 0 _ _ rfl (by kernel_rfl) hS (yd_do fun A hA => rn_move (by conv => lhs; whnf)) ?_
                refine wd_only 1 _ rfl (by kernel_rfl) ?_
                refine s1_do ?_
                refine wl_call e_32 rfl (rtopic_ok w8 t hnt) ?_; intro v34 w9 hE9 hR9
                replace hS := hS.tr hE9
                subst hR9
                refine wl_nil ⟨hS, ?_⟩
                refine wd_take 2 _ _ rfl (by kernel_rfl) hS (yd_do fun A hA => rn_move (by conv => lhs; whnf)) ?_
                refine wd_split (d := 35) rfl (fun hg35 => ?_) (fun hg35 => ?_)
                · obtain ⟨c, hc36⟩ := topic_ne hg35
                  have hh : headIs 36 t = decide (c = 36) := headIs_at hc36
                  refine wd_take 3 _ _ rfl (by kernel_rfl) hS (yd_yes rfl (congrArg Value.bool hg35) fun A hA => rn_move (by conv => lhs; whnf)) ?_
                  refine wd_take 4 _ _ rfl (by kernel_rfl) hS (yd_yes rfl (congrArg Value.bool hg35) fun A hA => rn_move (by conv => lhs; whnf)) ?_
                  refine wd_only 5 _ rfl (by kernel_rfl) ?_
                  refine s1_yes rfl (congrArg Value.bool hg35) ?_
                  refine wl_call e_41 rfl (tmatch_ok w9 t t hnt hnt) ?_; intro v38 w10 hE10 hR10
                  replace hS := hS.tr hE10
                  subst hR10
                  refine wl_nil ⟨hS, ?_⟩
                  refine wd_take 6 _ _ rfl (by kernel_rfl) hS (yd_yes rfl (congrArg Value.bool hg35) fun A hA => rn_not rfl) ?_
                  refine wd_take 7 _ _ rfl (by kernel_rfl) hS (yd_yes rfl (congrArg Value.bool hg35) fun A hA => rn_move (by conv => lhs; whnf)) ?_
                  refine wd_split (d := 40) rfl (fun hg40 => ?_) (fun hg40 => ?_)
                  · exact absurd hg40 (by rw [topic_self hg35]; simp)
                  · refine wd_take 8 _ _ rfl (by kernel_rfl) hS (yd_yes rfl (congrArg Value.bool hg40) fun A hA => rn_move (by conv => lhs; whnf)) ?_
                    refine wd_take 10 _ _ rfl (by kernel_rfl) hS (yd_yes rfl (congrArg Value.bool hg40) fun A hA => rn_move (by conv => lhs; whnf)) ?_
                    refine wd_take 11 _ _ rfl (by kernel_rfl) hS (yd_yes rfl (congrArg Value.bool hg40) fun A hA => rn_sindex us_9 rfl rfl (by omega) hc36) ?_
                    refine wd_take 12 _ _ rfl (by kernel_rfl) hS (yd_yes rfl (congrArg Value.bool hg40) fun A hA => rn_neq rfl rfl) ?_
                    refine wd_only 9 _ rfl (by kernel_rfl) ?_
                    refine s1_yes rfl (congrArg Value.bool hg40) ?_
                    refine wl_call e_41 rfl (tmatch_ok w10 [35] t (by decide) hnt) ?_; intro v42 w11 hE11 hR11
                    replace hS := hS.tr hE11
                    subst hR11
                    refine wl_nil ⟨hS, ?_⟩
                    refine wd_take 13 _ _ rfl (by kernel_rfl) hS (yd_yes rfl (congrArg Value.bool hg40) fun A hA => rn_bneq ub_4 rfl rfl) ?_
                    refine wd_take 14 _ _ rfl (by kernel_rfl) hS (yd_yes rfl (congrArg Value.bool hg35) fun A hA => rn_pickF (congrArg Value.bool hg40) (by conv => lhs; whnf)) ?_
                    refine wd_take 15 _ _ rfl (by kernel_rfl) hS (yd_do fun A hA => rn_pickT (congrArg Value.bool hg35) (by conv => lhs; whnf)) ?_
                    refine wd_done (by kernel_rfl) ?_ _
                    replace hX := hX.tr hS
                    refine W_cond rfl (fun hc3 => ?_) (fun hc3 => ?_)
                    · exact absurd hc3 (by rw [hash_match hg35, hh, ← u8_dec]; simp)
                    · refine W_skip ?_
                      refine W_seq ?_
                      refine W_region ?_
                      refine wl_val (rn_move (by conv => lhs; whnf)) ?_
                      refine wl_call e_34 rfl (rfilter_ok w11 f hnf) ?_; intro v50 w12 hE12 hR12
                      replace hX := hX.tr hE12
                      subst hR12
                      refine wl_val (rn_not rfl) ?_
                      refine wl_val (rn_move (by conv => lhs; whnf)) ?_
                      refine wl_split (d := 52) rfl (fun hg52 => ?_) (fun hg52 => ?_)
                      · refine wl_no rfl (congrArg Value.bool hg52) ?_
                        refine wl_no rfl (congrArg Value.bool hg52) ?_
                        refine wl_val (rn_pickT (congrArg Value.bool hg52) (by conv => lhs; whnf)) ?_
                        refine wl_val (rn_move (by conv => lhs; whnf)) ?_
                        refine wl_no rfl rfl ?_
                        refine wl_no rfl rfl ?_
                        refine wl_no rfl rfl ?_
                        refine wl_val (rn_pickT rfl (by conv => lhs; whnf)) ?_
                        refine wl_val (rn_assign (by conv => lhs; whnf)) ?_
                        refine wl_nil ?_
                        refine W_ret ?_
                        first | exact ⟨_, resR1 (res1_tmp rfl), hX, rfl⟩ | exact ⟨_, resR1 (res1_tmp rfl), hX, (by rw [covers_self hF hW]; rfl)⟩
                      · have hF : filterB f = true := by simpa using hg52
                        refine wl_yes rfl (congrArg Value.bool hg52) ?_
                        refine wl_val (rn_move (by conv => lhs; whnf)) ?_
                        refine wl_yes rfl (congrArg Value.bool hg52) ?_
                        refine wl_call e_36 rfl (rwild_ok w12 f hnf) ?_; intro v54 w13 hE13 hR13
                        replace hX := hX.tr hE13
                        subst hR13
                        refine wl_val (rn_pickF (congrArg Value.bool hg52) (by conv => lhs; whnf)) ?_
                        refine wl_val (rn_move (by conv => lhs; whnf)) ?_
                        refine wl_split (d := 56) rfl (fun hg56 => ?_) (fun hg56 => ?_)
                        · refine wl_no rfl (congrArg Value.bool hg56) ?_
                          refine wl_no rfl (congrArg Value.bool hg56) ?_
                          refine wl_no rfl (congrArg Value.bool hg56) ?_
                          refine wl_val (rn_pickT (congrArg Value.bool hg56) (by conv => lhs; whnf)) ?_
                          refine wl_val (rn_assign (by conv => lhs; whnf)) ?_
                          refine wl_nil ?_
                          refine W_ret ?_
                          first | exact ⟨_, resR1 (res1_tmp rfl), hX, rfl⟩ | exact ⟨_, resR1 (res1_tmp rfl), hX, (by rw [covers_self hF hW]; rfl)⟩
                        · have hW : wildB f = false := hg56
                          refine wl_yes rfl (congrArg Value.bool hg56) ?_
                          refine wl_val (rn_move (by conv => lhs; whnf)) ?_
                          refine wl_yes rfl (congrArg Value.bool hg56) ?_
                          refine wl_val (rn_move (by conv => lhs; whnf)) ?_
                          refine wl_yes rfl (congrArg Value.bool hg56) ?_
                          refine wl_call e_42 rfl (tcovers_ok w13 f f hnf hnf) ?_; intro v59 w14 hE14 hR14
                          replace hX := hX.tr hE14
                          subst hR14
                          refine wl_val (rn_pickF (congrArg Value.bool hg56) (by conv => lhs; whnf)) ?_
                          refine wl_val (rn_assign (by conv => lhs; whnf)) ?_
                          refine wl_nil ?_
                          refine W_ret ?_
                          first | exact ⟨_, resR1 (res1_tmp rfl), hX, rfl⟩ | exact ⟨_, resR1 (res1_tmp rfl), hX, (by rw [covers_self hF hW]; rfl)⟩
                · refine wd_take 3 _ _ rfl (by kernel_rfl) hS (yd_no rfl (congrArg Value.bool hg35)) ?_
                  refine wd_take 4 _ _ rfl (by kernel_rfl) hS (yd_no rfl (congrArg Value.bool hg35)) ?_
                  refine wd_only 5 _ rfl (by kernel_rfl) ?_
                  refine s1_no rfl (congrArg Value.bool hg35) ⟨hS, ?_⟩
                  refine wd_take 6 _ _ rfl (by kernel_rfl) hS (yd_no rfl (congrArg Value.bool hg35)) ?_
                  refine wd_take 7 _ _ rfl (by kernel_rfl) hS (yd_no rfl (congrArg Value.bool hg35)) ?_
                  refine wd_take 8 _ _ rfl (by kernel_rfl) hS (yd_nou rfl rfl) ?_
                  refine wd_take 10 _ _ rfl (by kernel_rfl) hS (yd_nou rfl rfl) ?_
                  refine wd_take 11 _ _ rfl (by kernel_rfl) hS (yd_nou rfl rfl) ?_
                  refine wd_take 12 _ _ rfl (by kernel_rfl) hS (yd_nou rfl rfl) ?_
                  refine wd_only 9 _ rfl (by kernel_rfl) ?_
                  refine s1_nou rfl rfl ⟨hS, ?_⟩
                  refine wd_take 13 _ _ rfl (by kernel_rfl) hS (yd_nou rfl rfl) ?_
                  refine wd_take 14 _ _ rfl (by kernel_rfl) hS (yd_no rfl (congrArg Value.bool hg35)) ?_
                  refine wd_take 15 _ _ rfl (by kernel_rfl) hS (yd_do fun A hA => rn_pickF (congrArg Value.bool hg35) (by conv => lhs; whnf)) ?_
                  refine wd_done (by kernel_rfl) ?_ _
                  replace hX := hX.tr hS
                  refine W_condF rfl ?_
                  refine W_skip ?_
                  refine W_seq ?_
                  refine W_region ?_
                  refine wl_val (rn_move (by conv => lhs; whnf)) ?_
                  refine wl_call e_34 rfl (rfilter_ok w9 f hnf) ?_; intro v50 w15 hE15 hR15
                  replace hX := hX.tr hE15
                  subst hR15
                  refine wl_val (rn_not rfl) ?_
                  refine wl_val (rn_move (by conv => lhs; whnf)) ?_
                  refine wl_split (d := 52) rfl (fun hg52 => ?_) (fun hg52 => ?_)
                  · refine wl_no rfl (congrArg Value.bool hg52) ?_
                    refine wl_no rfl (congrArg Value.bool hg52) ?_
                    refine wl_val (rn_pickT (congrArg Value.bool hg52) (by conv => lhs; whnf)) ?_
                    refine wl_val (rn_move (by conv => lhs; whnf)) ?_
                    refine wl_no rfl rfl ?_
                    refine wl_no rfl rfl ?_
                    refine wl_no rfl rfl ?_
                    refine wl_val (rn_pickT rfl (by conv => lhs; whnf)) ?_
                    refine wl_val (rn_assign (by conv => lhs; whnf)) ?_
                    refine wl_nil ?_
                    refine W_ret ?_
                    first | exact ⟨_, resR1 (res1_tmp rfl), hX, rfl⟩ | exact ⟨_, resR1 (res1_tmp rfl), hX, (by rw [covers_self hF hW]; rfl)⟩
                  · have hF : filterB f = true := by simpa using hg52
                    refine wl_yes rfl (congrArg Value.bool hg52) ?_
                    refine wl_val (rn_move (by conv => lhs; whnf)) ?_
                    refine wl_yes rfl (congrArg Value.bool hg52) ?_
                    refine wl_call e_36 rfl (rwild_ok w15 f hnf) ?_; intro v54 w16 hE16 hR16
                    replace hX := hX.tr hE16
                    subst hR16
                    refine wl_val (rn_pickF (congrArg Value.bool hg52) (by conv => lhs; whnf)) ?_
                    refine wl_val (rn_move (by conv => lhs; whnf)) ?_
                    refine wl_split (d := 56) rfl (fun hg56 => ?_) (fun hg56 => ?_)
                    · refine wl_no rfl (congrArg Value.bool hg56) ?_
                      refine wl_no rfl (congrArg Value.bool hg56) ?_
                      refine wl_no rfl (congrArg Value.bool hg56) ?_
                      refine wl_val (rn_pickT (congrArg Value.bool hg56) (by conv => lhs; whnf)) ?_
                      refine wl_val (rn_assign (by conv => lhs; whnf)) ?_
                      refine wl_nil ?_
                      refine W_ret ?_
                      first | exact ⟨_, resR1 (res1_tmp rfl), hX, rfl⟩ | exact ⟨_, resR1 (res1_tmp rfl), hX, (by rw [covers_self hF hW]; rfl)⟩
                    · have hW : wildB f = false := hg56
                      refine wl_yes rfl (congrArg Value.bool hg56) ?_
                      refine wl_val (rn_move (by conv => lhs; whnf)) ?_
                      refine wl_yes rfl (congrArg Value.bool hg56) ?_
                      refine wl_val (rn_move (by conv => lhs; whnf)) ?_
                      refine wl_yes rfl (congrArg Value.bool hg56) ?_
                      refine wl_call e_42 rfl (tcovers_ok w16 f f hnf hnf) ?_; intro v59 w17 hE17 hR17
                      replace hX := hX.tr hE17
                      subst hR17
                      refine wl_val (rn_pickF (congrArg Value.bool hg56) (by conv => lhs; whnf)) ?_
                      refine wl_val (rn_assign (by conv => lhs; whnf)) ?_
                      refine wl_nil ?_
                      refine W_ret ?_
                      first | exact ⟨_, resR1 (res1_tmp rfl), hX, rfl⟩ | exact ⟨_, resR1 (res1_tmp rfl), hX, (by rw [covers_self hF hW]; rfl)⟩
            · refine wl_no rfl (congrArg Value.bool hg27) ?_
              refine wl_no rfl (congrArg Value.bool hg27) ?_
              refine wl_no rfl (congrArg Value.bool hg27) ?_
              refine wl_no rfl (congrArg Value.bool hg27) ?_
              refine wl_val (rn_pickF (congrArg Value.bool hg27) (by conv => lhs; whnf)) ?_
              refine wl_nil ?_
              refine W_condF rfl ?_
              refine W_skip ?_
              refine W_seq ?_
              refine W_seq ?_
              refine W_drawE mixed ?_; intro w18 hE18
              replace hX := hX.tr hE18
              have hS := Ext.refl Non w18
              refine wd_take 0 _ _ rfl (by kernel_rfl) hS (yd_do fun A hA => rn_move (by conv => lhs; whnf)) ?_
              refine wd_only 1 _ rfl (by kernel_rfl) ?_
              refine s1_do ?_
              refine wl_call e_32 rfl (rtopic_ok w18 t hnt) ?_; intro v34 w19 hE19 hR19
              replace hS := hS.tr hE19
              subst hR19
              refine wl_nil ⟨hS, ?_⟩
              refine wd_take 2 _ _ rfl (by kernel_rfl) hS (yd_do fun A hA => rn_move (by conv => lhs; whnf)) ?_
              refine wd_split (d := 35) rfl (fun hg35 => ?_) (fun hg35 => ?_)
              · obtain ⟨c, hc36⟩ := topic_ne hg35
                have hh : headIs 36 t = decide (c = 36) := headIs_at hc36
                refine wd_take 3 _ _ rfl (by kernel_rfl) hS (yd_yes rfl (congrArg Value.bool hg35) fun A hA => rn_move (by conv => lhs; whnf)) ?_
                refine wd_take 4 _ _ rfl (by kernel_rfl) hS (yd_yes rfl (congrArg Value.bool hg35) fun A hA => rn_move (by conv => lhs; whnf)) ?_
                refine wd_only 5 _ rfl (by kernel_rfl) ?_
                refine s1_yes rfl (congrArg Value.bool hg35) ?_
                refine wl_call e_41 rfl (tmatch_ok w19 t t hnt hnt) ?_; intro v38 w20 hE20 hR20
                replace hS := hS.tr hE20
                subst hR20
                refine wl_nil ⟨hS, ?_⟩
                refine wd_take 6 _ _ rfl (by kernel_rfl) hS (yd_yes rfl (congrArg Value.bool hg35) fun A hA => rn_not rfl) ?_
                refine wd_take 7 _ _ rfl (by kernel_rfl) hS (yd_yes rfl (congrArg Value.bool hg35) fun A hA => rn_move (by conv => lhs; whnf)) ?_
                refine wd_split (d := 40) rfl (fun hg40 => ?_) (fun hg40 => ?_)
                · exact absurd hg40 (by rw [topic_self hg35]; simp)
                · refine wd_take 8 _ _ rfl (by kernel_rfl) hS (yd_yes rfl (congrArg Value.bool hg40) fun A hA => rn_move (by conv => lhs; whnf)) ?_
                  refine wd_take 10 _ _ rfl (by kernel_rfl) hS (yd_yes rfl (congrArg Value.bool hg40) fun A hA => rn_move (by conv => lhs; whnf)) ?_
                  refine wd_take 11 _ _ rfl (by kernel_rfl) hS (yd_yes rfl (congrArg Value.bool hg40) fun A hA => rn_sindex us_9 rfl rfl (by omega) hc36) ?_
                  refine wd_take 12 _ _ rfl (by kernel_rfl) hS (yd_yes rfl (congrArg Value.bool hg40) fun A hA => rn_neq rfl rfl) ?_
                  refine wd_only 9 _ rfl (by kernel_rfl) ?_
                  refine s1_yes rfl (congrArg Value.bool hg40) ?_
                  refine wl_call e_41 rfl (tmatch_ok w20 [35] t (by decide) hnt) ?_; intro v42 w21 hE21 hR21
                  replace hS := hS.tr hE21
                  subst hR21
                  refine wl_nil ⟨hS, ?_⟩
                  refine wd_take 13 _ _ rfl (by kernel_rfl) hS (yd_yes rfl (congrArg Value.bool hg40) fun A hA => rn_bneq ub_4 rfl rfl) ?_
                  refine wd_take 14 _ _ rfl (by kernel_rfl) hS (yd_yes rfl (congrArg Value.bool hg35) fun A hA => rn_pickF (congrArg Value.bool hg40) (by conv => lhs; whnf)) ?_
                  refine wd_take 15 _ _ rfl (by kernel_rfl) hS (yd_do fun A hA => rn_pickT (congrArg Value.bool hg35) (by conv => lhs; whnf)) ?_
                  refine wd_done (by kernel_rfl) ?_ _
                  replace hX := hX.tr hS
                  refine W_cond rfl (fun hc3 => ?_) (fun hc3 => ?_)
                  · exact absurd hc3 (by rw [hash_match hg35, hh, ← u8_dec]; simp)
                  · refine W_skip ?_
                    refine W_seq ?_
                    refine W_region ?_
                    refine wl_val (rn_move (by conv => lhs; whnf)) ?_
                    refine wl_call e_34 rfl (rfilter_ok w21 f hnf) ?_; intro v50 w22 hE22 hR22
                    replace hX := hX.tr hE22
                    subst hR22
                    refine wl_val (rn_not rfl) ?_
                    refine wl_val (rn_move (by conv => lhs; whnf)) ?_
                    refine wl_split (d := 52) rfl (fun hg52 => ?_) (fun hg52 => ?_)
                    · refine wl_no rfl (congrArg Value.bool hg52) ?_
                      refine wl_no rfl (congrArg Value.bool hg52) ?_
                      refine wl_val (rn_pickT (congrArg Value.bool hg52) (by conv => lhs; whnf)) ?_
                      refine wl_val (rn_move (by conv => lhs; whnf)) ?_
                      refine wl_no rfl rfl ?_
                      refine wl_no rfl rfl ?_
                      refine wl_no rfl rfl ?_
                      refine wl_val (rn_pickT rfl (by conv => lhs; whnf)) ?_
                      refine wl_val (rn_assign (by conv => lhs; whnf)) ?_
                      refine wl_nil ?_
                      refine W_ret ?_
                      first | exact ⟨_, resR1 (res1_tmp rfl), hX, rfl⟩ | exact ⟨_, resR1 (res1_tmp rfl), hX, (by rw [covers_self hF hW]; rfl)⟩
                    · have hF : filterB f = true := by simpa using hg52
                      refine wl_yes rfl (congrArg Value.bool hg52) ?_
                      refine wl_val (rn_move (by conv => lhs; whnf)) ?_
                      refine wl_yes rfl (congrArg Value.bool hg52) ?_
                      refine wl_call e_36 rfl (rwild_ok w22 f hnf) ?_; intro v54 w23 hE23 hR23
                      replace hX := hX.tr hE23
                      subst hR23
                      refine wl_val (rn_pickF (congrArg Value.bool hg52) (by conv => lhs; whnf)) ?_
                      refine wl_val (rn_move (by conv => lhs; whnf)) ?_
                      refine wl_split (d := 56) rfl (fun hg56 => ?_) (fun hg56 => ?_)
                      · refine wl_no rfl (congrArg Value.bool hg56) ?_
                        refine wl_no rfl (congrArg Value.bool hg56) ?_
                        refine wl_no rfl (congrArg Value.bool hg56) ?_
                        refine wl_val (rn_pickT (congrArg Value.bool hg56) (by conv => lhs; whnf)) ?_
                        refine wl_val (rn_assign (by conv => lhs; whnf)) ?_
                        refine wl_nil ?_
                        refine W_ret ?_
                        first | exact ⟨_, resR1 (res1_tmp rfl), hX, rfl⟩ | exact ⟨_, resR1 (res1_tmp rfl), hX, (by rw [covers_self hF hW]; rfl)⟩
                      · have hW : wildB f = false := hg56
                        refine wl_yes rfl (congrArg Value.bool hg56) ?_
                        refine wl_val (rn_move (by conv => lhs; whnf)) ?_
                        refine wl_yes rfl (congrArg Value.bool hg56) ?_
                        refine wl_val (rn_move (by conv => lhs; whnf)) ?_
                        refine wl_yes rfl (congrArg Value.bool hg56) ?_
                        refine wl_call e_42 rfl (tcovers_ok w23 f f hnf hnf) ?_; intro v59 w24 hE24 hR24
                        replace hX := hX.tr hE24
                        subst hR24
                        refine wl_val (rn_pickF (congrArg Value.bool hg56) (by conv => lhs; whnf)) ?_
                        refine wl_val (rn_assign (by conv => lhs; whnf)) ?_
                        refine wl_nil ?_
                        refine W_ret ?_
                        first | exact ⟨_, resR1 (res1_tmp rfl), hX, rfl⟩ | exact ⟨_, resR1 (res1_tmp rfl), hX, (by rw [covers_self hF hW]; rfl)⟩
              · refine wd_take 3 _ _ rfl (by kernel_rfl) hS (yd_no rfl (congrArg Value.bool hg35)) ?_
                refine wd_take 4 _ _ rfl (by kernel_rfl) hS (yd_no rfl (congrArg Value.bool hg35)) ?_
                refine wd_only 5 _ rfl (by kernel_rfl) ?_
                refine s1_no rfl (congrArg Value.bool hg35) ⟨hS, ?_⟩
                refine wd_take 6 _ _ rfl (by kernel_rfl) hS (yd_no rfl (congrArg Value.bool hg35)) ?_
                refine wd_take 7 _ _ rfl (by kernel_rfl) hS (yd_no rfl (congrArg Value.bool hg35)) ?_
                refine wd_take 8 _ _ rfl (by kernel_rfl) hS (yd_nou rfl rfl) ?_
                refine wd_take 10 _ _ rfl (by kernel_rfl) hS (yd_nou rfl rfl) ?_
                refine wd_take 11 _ _ rfl (by kernel_rfl) hS (yd_nou rfl rfl) ?_
                refine wd_take 12 _ _ rfl (by kernel_rfl) hS (yd_nou rfl rfl) ?_
                refine wd_only 9 _ rfl (by kernel_rfl) ?_
                refine s1_nou rfl rfl ⟨hS, ?_⟩
                refine wd_take 13 _ _ rfl (by kernel_rfl) hS (yd_nou rfl rfl) ?_
                refine wd_take 14 _ _ rfl (by kernel_rfl) hS (yd_no rfl (congrArg Value.bool hg35)) ?_
                refine wd_take 15 _ _ rfl (by kernel_rfl) hS (yd_do fun A hA => rn_pickF (congrArg Value.bool hg35) (by conv => lhs; whnf)) ?_
                refine wd_done (by kernel_rfl) ?_ _
                replace hX := hX.tr hS
                refine W_condF rfl ?_
                refine W_skip ?_
                refine W_seq ?_
                refine W_region ?_
                refine wl_val (rn_move (by conv => lhs; whnf)) ?_
                refine wl_call e_34 rfl (rfilter_ok w19 f hnf) ?_; intro v50 w25 hE25 hR25
                replace hX := hX.tr hE25
                subst hR25
                refine wl_val (rn_not rfl) ?_
                refine wl_val (rn_move (by conv => lhs; whnf)) ?_
                refine wl_split (d := 52) rfl (fun hg52 => ?_) (fun hg52 => ?_)
                · refine wl_no rfl (congrArg Value.bool hg52) ?_
                  refine wl_no rfl (congrArg Value.bool hg52) ?_
                  refine wl_val (rn_pickT (congrArg Value.bool hg52) (by conv => lhs; whnf)) ?_
                  refine wl_val (rn_move (by conv => lhs; whnf)) ?_
                  refine wl_no rfl rfl ?_
                  refine wl_no rfl rfl ?_
                  refine wl_no rfl rfl ?_
                  refine wl_val (rn_pickT rfl (by conv => lhs; whnf)) ?_
                  refine wl_val (rn_assign (by conv => lhs; whnf)) ?_
                  refine wl_nil ?_
                  refine W_ret ?_
                  first | exact ⟨_, resR1 (res1_tmp rfl), hX, rfl⟩ | exact ⟨_, resR1 (res1_tmp rfl), hX, (by rw [covers_self hF hW]; rfl)⟩
                · have hF : filterB f = true := by simpa using hg52
                  refine wl_yes rfl (congrArg Value.bool hg52) ?_
                  refine wl_val (rn_move (by conv => lhs; whnf)) ?_
                  refine wl_yes rfl (congrArg Value.bool hg52) ?_
                  refine wl_call e_36 rfl (rwild_ok w25 f hnf) ?_; intro v54 w26 hE26 hR26
                  replace hX := hX.tr hE26
                  subst hR26
                  refine wl_val (rn_pickF (congrArg Value.bool hg52) (by conv => lhs; whnf)) ?_
                  refine wl_val (rn_move (by conv => lhs; whnf)) ?_
                  refine wl_split (d := 56) rfl (fun hg56 => ?_) (fun hg56 => ?_)
                  · refine wl_no rfl (congrArg Value.bool hg56) ?_
                    refine wl_no rfl (congrArg Value.bool hg56) ?_
                    refine wl_no rfl (congrArg Value.bool hg56) ?_
                    refine wl_val (rn_pickT (congrArg Value.bool hg56) (by conv => lhs; whnf)) ?_
                    refine wl_val (rn_assign (by conv => lhs; whnf)) ?_
                    refine wl_nil ?_
                    refine W_ret ?_
                    first | exact ⟨_, resR1 (res1_tmp rfl), hX, rfl⟩ | exact ⟨_, resR1 (res1_tmp rfl), hX, (by rw [covers_self hF hW]; rfl)⟩
                  · have hW : wildB f = false := hg56
                    refine wl_yes rfl (congrArg Value.bool hg56) ?_
                    refine wl_val (rn_move (by conv => lhs; whnf)) ?_
                    refine wl_yes rfl (congrArg Value.bool hg56) ?_
                    refine wl_val (rn_move (by conv => lhs; whnf)) ?_
                    refine wl_yes rfl (congrArg Value.bool hg56) ?_
                    refine wl_call e_42 rfl (tcovers_ok w26 f f hnf hnf) ?_; intro v59 w27 hE27 hR27
                    replace hX := hX.tr hE27
                    subst hR27
                    refine wl_val (rn_pickF (congrArg Value.bool hg56) (by conv => lhs; whnf)) ?_
                    refine wl_val (rn_assign (by conv => lhs; whnf)) ?_
                    refine wl_nil ?_
                    refine W_ret ?_
                    first | exact ⟨_, resR1 (res1_tmp rfl), hX, rfl⟩ | exact ⟨_, resR1 (res1_tmp rfl), hX, (by rw [covers_self hF hW]; rfl)⟩
          · refine wl_no rfl (congrArg Value.bool hg22) ?_
            refine wl_no rfl (congrArg Value.bool hg22) ?_
            refine wl_no rfl (congrArg Value.bool hg22) ?_
            refine wl_val (rn_pickF (congrArg Value.bool hg22) (by conv => lhs; whnf)) ?_
            refine wl_val (rn_move (by conv => lhs; whnf)) ?_
            refine wl_no rfl rfl ?_
            refine wl_no rfl rfl ?_
            refine wl_no rfl rfl ?_
            refine wl_no rfl rfl ?_
            refine wl_val (rn_pickF rfl (by conv => lhs; whnf)) ?_
            refine wl_nil ?_
            refine W_condF rfl ?_
            refine W_skip ?_
            refine W_seq ?_
            refine W_seq ?_
            refine W_drawE mixed ?_; intro w28 hE28
            replace hX := hX.tr hE28
            have hS := Ext.refl Non w28
            refine wd_take 0 _ _ rfl (by kernel_rfl) hS (yd_do fun A hA => rn_move (by conv => lhs; whnf)) ?_
            refine wd_only 1 _ rfl (by kernel_rfl) ?_
            refine s1_do ?_
            refine wl_call e_32 rfl (rtopic_ok w28 t hnt) ?_; intro v34 w29 hE29 hR29
            replace hS := hS.tr hE29
            subst hR29
            refine wl_nil ⟨hS, ?_⟩
            refine wd_take 2 _ _ rfl (by kernel_rfl) hS (yd_do fun A hA => rn_move (by conv => lhs; whnf)) ?_
            refine wd_split (d := 35) rfl (fun hg35 => ?_) (fun hg35 => ?_)
            · obtain ⟨c, hc36⟩ := topic_ne hg35
              have hh : headIs 36 t = decide (c = 36) := headIs_at hc36
              refine wd_take 3 _ _ rfl (by kernel_rfl) hS (yd_yes rfl (congrArg Value.bool hg35) fun A hA => rn_move (by conv => lhs; whnf)) ?_
              refine wd_take 4 _ _ rfl (by kernel_rfl) hS (yd_yes rfl (congrArg Value.bool hg35) fun A hA => rn_move (by conv => lhs; whnf)) ?_
              refine wd_only 5 _ rfl (by kernel_rfl) ?_
              refine s1_yes rfl (congrArg Value.bool hg35) ?_
              refine wl_call e_41 rfl (tmatch_ok w29 t t hnt hnt) ?_; intro v38 w30 hE30 hR30
              replace hS := hS.tr hE30
              subst hR30
              refine wl_nil ⟨hS, ?_⟩
              refine wd_take 6 _ _ rfl (by kernel_rfl) hS (yd_yes rfl (congrArg Value.bool hg35) fun A hA => rn_not rfl) ?_
              refine wd_take 7 _ _ rfl (by kernel_rfl) hS (yd_yes rfl (congrArg Value.bool hg35) fun A hA => rn_move (by conv => lhs; whnf)) ?_
              refine wd_split (d := 40) rfl (fun hg40 => ?_) (fun hg40 => ?_)
              · exact absurd hg40 (by rw [topic_self hg35]; simp)
              · refine wd_take 8 _ _ rfl (by kernel_rfl) hS (yd_yes rfl (congrArg Value.bool hg40) fun A hA => rn_move (by conv => lhs; whnf)) ?_
                refine wd_take 10 _ _ rfl (by kernel_rfl) hS (yd_yes rfl (congrArg Value.bool hg40) fun A hA => rn_move (by conv => lhs; whnf)) ?_
                refine wd_take 11 _ _ rfl (by kernel_rfl) hS (yd_yes rfl (congrArg Value.bool hg40) fun A hA => rn_sindex us_9 rfl rfl (by omega) hc36) ?_
                refine wd_take 12 _ _ rfl (by kernel_rfl) hS (yd_yes rfl (congrArg Value.bool hg40) fun A hA => rn_neq rfl rfl) ?_
                refine wd_only 9 _ rfl (by kernel_rfl) ?_
                refine s1_yes rfl (congrArg Value.bool hg40) ?_
                refine wl_call e_41 rfl (tmatch_ok w30 [35] t (by decide) hnt) ?_; intro v42 w31 hE31 hR31
                replace hS := hS.tr hE31
                subst hR31
                refine wl_nil ⟨hS, ?_⟩
                refine wd_take 13 _ _ rfl (by kernel_rfl) hS (yd_yes rfl (congrArg Value.bool hg40) fun A hA => rn_bneq ub_4 rfl rfl) ?_
                refine wd_take 14 _ _ rfl (by kernel_rfl) hS (yd_yes rfl (congrArg Value.bool hg35) fun A hA => rn_pickF (congrArg Value.bool hg40) (by conv => lhs; whnf)) ?_
                refine wd_take 15 _ _ rfl (by kernel_rfl) hS (yd_do fun A hA => rn_pickT (congrArg Value.bool hg35) (by conv => lhs; whnf)) ?_
                refine wd_done (by kernel_rfl) ?_ _
                replace hX := hX.tr hS
                refine W_cond rfl (fun hc3 => ?_) (fun hc3 => ?_)
                · exact absurd hc3 (by rw [hash_match hg35, hh, ← u8_dec]; simp)
                · refine W_skip ?_
                  refine W_seq ?_
                  refine W_region ?_
                  refine wl_val (rn_move (by conv => lhs; whnf)) ?_
                  refine wl_call e_34 rfl (rfilter_ok w31 f hnf) ?_; intro v50 w32 hE32 hR32
                  replace hX := hX.tr hE32
                  subst hR32
                  refine wl_val (rn_not rfl) ?_
                  refine wl_val (rn_move (by conv => lhs; whnf)) ?_
                  refine wl_split (d := 52) rfl (fun hg52 => ?_) (fun hg52 => ?_)
                  · refine wl_no rfl (congrArg Value.bool hg52) ?_
                    refine wl_no rfl (congrArg Value.bool hg52) ?_
                    refine wl_val (rn_pickT (congrArg Value.bool hg52) (by conv => lhs; whnf)) ?_
                    refine wl_val (rn_move (by conv => lhs; whnf)) ?_
                    refine wl_no rfl rfl ?_
                    refine wl_no rfl rfl ?_
                    refine wl_no rfl rfl ?_
                    refine wl_val (rn_pickT rfl (by conv => lhs; whnf)) ?_
                    refine wl_val (rn_assign (by conv => lhs; whnf)) ?_
                    refine wl_nil ?_
                    refine W_ret ?_
                    first | exact ⟨_, resR1 (res1_tmp rfl), hX, rfl⟩ | exact ⟨_, resR1 (res1_tmp rfl), hX, (by rw [covers_self hF hW]; rfl)⟩
                  · have hF : filterB f = true := by simpa using hg52
                    refine wl_yes rfl (congrArg Value.bool hg52) ?_
                    refine wl_val (rn_move (by conv => lhs; whnf)) ?_
                    refine wl_yes rfl (congrArg Value.bool hg52) ?_
                    refine wl_call e_36 rfl (rwild_ok w32 f hnf) ?_; intro v54 w33 hE33 hR33
                    replace hX := hX.tr hE33
                    subst hR33
                    refine wl_val (rn_pickF (congrArg Value.bool hg52) (by conv => lhs; whnf)) ?_
                    refine wl_val (rn_move (by conv => lhs; whnf)) ?_
                    refine wl_split (d := 56) rfl (fun hg56 => ?_) (fun hg56 => ?_)
                    · refine wl_no rfl (congrArg Value.bool hg56) ?_
                      refine wl_no rfl (congrArg Value.bool hg56) ?_
                      refine wl_no rfl (congrArg Value.bool hg56) ?_
                      refine wl_val (rn_pickT (congrArg Value.bool hg56) (by conv => lhs; whnf)) ?_
                      refine wl_val (rn_assign (by conv => lhs; whnf)) ?_
                      refine wl_nil ?_
                      refine W_ret ?_
                      first | exact ⟨_, resR1 (res1_tmp rfl), hX, rfl⟩ | exact ⟨_, resR1 (res1_tmp rfl), hX, (by rw [covers_self hF hW]; rfl)⟩
                    · have hW : wildB f = false := hg56
                      refine wl_yes rfl (congrArg Value.bool hg56) ?_
                      refine wl_val (rn_move (by conv => lhs; whnf)) ?_
                      refine wl_yes rfl (congrArg Value.bool hg56) ?_
                      refine wl_val (rn_move (by conv => lhs; whnf)) ?_
                      refine wl_yes rfl (congrArg Value.bool hg56) ?_
                      refine wl_call e_42 rfl (tcovers_ok w33 f f hnf hnf) ?_; intro v59 w34 hE34 hR34
                      replace hX := hX.tr hE34
                      subst hR34
                      refine wl_val (rn_pickF (congrArg Value.bool hg56) (by conv => lhs; whnf)) ?_
                      refine wl_val (rn_assign (by conv => lhs; whnf)) ?_
                      refine wl_nil ?_
                      refine W_ret ?_
                      first | exact ⟨_, resR1 (res1_tmp rfl), hX, rfl⟩ | exact ⟨_, resR1 (res1_tmp rfl), hX, (by rw [covers_self hF hW]; rfl)⟩
            · refine wd_take 3 _ _ rfl (by kernel_rfl) hS (yd_no rfl (congrArg Value.bool hg35)) ?_
              refine wd_take 4 _ _ rfl (by kernel_rfl) hS (yd_no rfl (congrArg Value.bool hg35)) ?_
              refine wd_only 5 _ rfl (by kernel_rfl) ?_
              refine s1_no rfl (congrArg Value.bool hg35) ⟨hS, ?_⟩
              refine wd_take 6 _ _ rfl (by kernel_rfl) hS (yd_no rfl (congrArg Value.bool hg35)) ?_
              refine wd_take 7 _ _ rfl (by kernel_rfl) hS (yd_no rfl (congrArg Value.bool hg35)) ?_
              refine wd_take 8 _ _ rfl (by kernel_rfl) hS (yd_nou rfl rfl) ?_
              refine wd_take 10 _ _ rfl (by kernel_rfl) hS (yd_nou rfl rfl) ?_
              refine wd_take 11 _ _ rfl (by kernel_rfl) hS (yd_nou rfl rfl) ?_
              refine wd_take 12 _ _ rfl (by kernel_rfl) hS (yd_nou rfl rfl) ?_
              refine wd_only 9 _ rfl (by kernel_rfl) ?_
              refine s1_nou rfl rfl ⟨hS, ?_⟩
              refine wd_take 13 _ _ rfl (by kernel_rfl) hS (yd_nou rfl rfl) ?_
              refine wd_take 14 _ _ rfl (by kernel_rfl) hS (yd_no rfl (congrArg Value.bool hg35)) ?_
              refine wd_take 15 _ _ rfl (by kernel_rfl) hS (yd_do fun A hA => rn_pickF (congrArg Value.bool hg35) (by conv => lhs; whnf)) ?_
              refine wd_done (by kernel_rfl) ?_ _
              replace hX := hX.tr hS
              refine W_condF rfl ?_
              refine W_skip ?_
              refine W_seq ?_
              refine W_region ?_
              refine wl_val (rn_move (by conv => lhs; whnf)) ?_
              refine wl_call e_34 rfl (rfilter_ok w29 f hnf) ?_; intro v50 w35 hE35 hR35
              replace hX := hX.tr hE35
              subst hR35
              refine wl_val (rn_not rfl) ?_
              refine wl_val (rn_move (by conv => lhs; whnf)) ?_
              refine wl_split (d := 52) rfl (fun hg52 => ?_) (fun hg52 => ?_)
              · refine wl_no rfl (congrArg Value.bool hg52) ?_
                refine wl_no rfl (congrArg Value.bool hg52) ?_
                refine wl_val (rn_pickT (congrArg Value.bool hg52) (by conv => lhs; whnf)) ?_
                refine wl_val (rn_move (by conv => lhs; whnf)) ?_
                refine wl_no rfl rfl ?_
                refine wl_no rfl rfl ?_
                refine wl_no rfl rfl ?_
                refine wl_val (rn_pickT rfl (by conv => lhs; whnf)) ?_
                refine wl_val (rn_assign (by conv => lhs; whnf)) ?_
                refine wl_nil ?_
                refine W_ret ?_
                first | exact ⟨_, resR1 (res1_tmp rfl), hX, rfl⟩ | exact ⟨_, resR1 (res1_tmp rfl), hX, (by rw [covers_self hF hW]; rfl)⟩
              · have hF : filterB f = true := by simpa using hg52
                refine wl_yes rfl (congrArg Value.bool hg52) ?_
                refine wl_val (rn_move (by conv => lhs; whnf)) ?_
                refine wl_yes rfl (congrArg Value.bool hg52) ?_
                refine wl_call e_36 rfl (rwild_ok w35 f hnf) ?_; intro v54 w36 hE36 hR36
                replace hX := hX.tr hE36
                subst hR36
                refine wl_val (rn_pickF (congrArg Value.bool hg52) (by conv => lhs; whnf)) ?_
                refine wl_val (rn_move (by conv => lhs; whnf)) ?_
                refine wl_split (d := 56) rfl (fun hg56 => ?_) (fun hg56 => ?_)
                · refine wl_no rfl (congrArg Value.bool hg56) ?_
                  refine wl_no rfl (congrArg Value.bool hg56) ?_
                  refine wl_no rfl (congrArg Value.bool hg56) ?_
                  refine wl_val (rn_pickT (congrArg Value.bool hg56) (by conv => lhs; whnf)) ?_
                  refine wl_val (rn_assign (by conv => lhs; whnf)) ?_
                  refine wl_nil ?_
                  refine W_ret ?_
                  first | exact ⟨_, resR1 (res1_tmp rfl), hX, rfl⟩ | exact ⟨_, resR1 (res1_tmp rfl), hX, (by rw [covers_self hF hW]; rfl)⟩
                · have hW : wildB f = false := hg56
                  refine wl_yes rfl (congrArg Value.bool hg56) ?_
                  refine wl_val (rn_move (by conv => lhs; whnf)) ?_
                  refine wl_yes rfl (congrArg Value.bool hg56) ?_
                  refine wl_val (rn_move (by conv => lhs; whnf)) ?_
                  refine wl_yes rfl (congrArg Value.bool hg56) ?_
                  refine wl_call e_42 rfl (tcovers_ok w36 f f hnf hnf) ?_; intro v59 w37 hE37 hR37
                  replace hX := hX.tr hE37
                  subst hR37
                  refine wl_val (rn_pickF (congrArg Value.bool hg56) (by conv => lhs; whnf)) ?_
                  refine wl_val (rn_assign (by conv => lhs; whnf)) ?_
                  refine wl_nil ?_
                  refine W_ret ?_
                  first | exact ⟨_, resR1 (res1_tmp rfl), hX, rfl⟩ | exact ⟨_, resR1 (res1_tmp rfl), hX, (by rw [covers_self hF hW]; rfl)⟩
-- bellman/bellmanlaw02.MatchLevels
set_option maxHeartbeats 4000000 in
theorem matchLevels_ok (w : World) (t : Str) (q : Nat) (hq0 : q ≤ 255) : Fn Tryd.prog 9 #[Sv t, .int .u8 (q : Nat)] w fun u w' => u = .bool true := by
  have hsl := spl_len_le 47 t
  have hn0 : 0 < (spl 47 t).length := List.length_pos_iff.2 (spl_ne 47 t)
  have hkn : q % (spl 47 t).length < (spl 47 t).length := Nat.mod_lt _ hn0
  have hX := Ext.refl Non w
  refine fn_of_W (args := [_, _]) Tryd.func9 rfl (by kernel_rfl) rfl ?_
  refine W_seq ?_
  refine W_region ?_
  refine wl_val (rn_assign (by conv => lhs; whnf)) ?_
  refine wl_nil ?_
  refine W_seq ?_
  refine W_seq ?_
  refine W_region ?_
  refine wl_call e_40 rfl (awake02_ok w) ?_; intro v12 w1 hE1 hR1
  replace hX := hX.tr hE1
  subst hR1
  refine wl_val (rn_not rfl) ?_
  refine wl_nil ?_
  refine W_cond rfl (fun hc0 => ?_) (fun hc0 => ?_)
  · exact absurd hc0 (by decide)
  · refine W_skip ?_
    refine W_seq ?_
    refine W_seq ?_
    refine W_region ?_
    refine wl_val (rn_move (by conv => lhs; whnf)) ?_
    refine wl_call e_32 rfl (rtopic_any w1 t) ?_; intro v15 w2 hE2 hR2
    replace hX := hX.tr hE2
    subst hR2
    refine wl_val (rn_not rfl) ?_
    refine wl_nil ?_
    refine W_cond rfl (fun hc1 => ?_) (fun hc1 => ?_)
    · refine W_seq ?_
      refine W_region ?_
      refine wl_val (rn_assign (by conv => lhs; whnf)) ?_
      refine wl_nil ?_
      refine W_ret ?_
      first | exact ⟨_, resR1 (res1_tmp rfl), hX, rfl⟩ | exact ⟨_, resR1 (res1_tmp rfl), hX, (by rw [decide_eq_true hlen32]; rfl)⟩ | exact ⟨_, resR1 (res1_tmp rfl), hX, (by rw [hmr]; exact congrArg Value.bool (decide_eq_true rfl))⟩
    · have hT : topicB t = true := by simpa using hc1
      have htl : t.length ≤ 32 := topic_small hT
      have hnt : t.length ≤ 1000000 := by omega
      have hlev : ∀ l ∈ (spl 47 t), l.length ≤ 32 := fun l hl => by have := spl_le hl; omega
      have hmv : ∀ l ∈ ((spl 47 t).set (q % (spl 47 t).length) [43]), l.length ≤ 32 := fun l hl => by rcases List.mem_or_eq_of_mem_set hl with h | h; exact hlev l h; rw [h]; decide
      obtain ⟨c, hc36⟩ := topic_ne hT
      have hh : headIs 36 t = decide (c = 36) := headIs_at hc36
      refine W_skip ?_
      refine W_seq ?_
      refine W_region ?_
      refine wl_val (rn_move (by conv => lhs; whnf)) ?_
      refine wl_call e_16 rfl (rlevels_ok w2 t hnt) ?_; intro v18 w3 hE3 hR3
      replace hX := hX.tr hE3
      have hL := hR3; obtain ⟨a5, c5, hv5_, _⟩ := id hL.len; rw [List.length_map] at hv5_; subst hv5_
      obtain ⟨wL, hwL⟩ : ∃ x, x = w3 := ⟨_, rfl⟩
      rw [← hwL] at hL
      have hV : Ext Non wL w3 := by rw [hwL]; exact Ext.refl _ _
      refine wl_val (rn_assign (by conv => lhs; whnf)) ?_
      refine wl_nil ?_
      refine W_seq ?_
      refine W_region ?_
      refine wl_val (rn_move (by conv => lhs; whnf)) ?_
      refine wl_val (rn_convert ui_5 ui_3 rfl (wrap_id (by omega))) ?_
      refine wl_val (rn_move (by conv => lhs; whnf)) ?_
      refine wl_val (rn_len sl_24 rfl) ?_
      refine wl_val (rn_rem (a := q) (b := (spl 47 t).length) rfl rfl hn0 (by omega)) ?_
      refine wl_val (rn_assign (by conv => lhs; whnf)) ?_
      refine wl_nil ?_
      refine W_seq ?_
      refine W_region ?_
      refine wl_val (rn_assign (by conv => lhs; whnf)) ?_
      refine wl_val (rn_assign (by conv => lhs; whnf)) ?_
      refine wl_nil ?_
      refine W_seq ?_
      refine W_seq ?_
      refine W_region ?_
      refine wl_val (rn_assign (by conv => lhs; whnf)) ?_
      refine wl_nil ?_
      refine W_block ?_   -- block 0
      refine W_loopS (S := Nat) [0, 5, 6, 7, 8, 9] (fun i => [Sv t, .slice a5 (spl 47 t).length c5, .int .i64 ((q % (spl 47 t).length : Nat) : Int), Sv (joinB 47 (((spl 47 t).set (q % (spl 47 t).length) [43]).take i)), Sv (lead ((spl 47 t).take (min i (q % (spl 47 t).length)))), .int .i64 (i : Nat)]) (fun i A => (Ext Non w A) ∧ (Ext Non wL A ∧ i ≤ (spl 47 t).length)) (fun i => (spl 47 t).length - i) 0 ⟨rfl, rfl, rfl, rfl, (congrArg Sv (show ([] : Str) = _ by rw [Nat.zero_min]; rfl)), rfl, trivial⟩ ⟨hX, ⟨hV, Nat.zero_le _⟩⟩ ?_
      rintro τ0 i A0 ⟨hX, hI0⟩
      obtain ⟨hV, hil⟩ := hI0
      have hjl : (joinB 47 (((spl 47 t).set (q % (spl 47 t).length) [43]).take i)).length ≤ 33 * 33 := by have h1 := joinB_len (b := 47) (n := 32) (((spl 47 t).set (q % (spl 47 t).length) [43]).take i) (fun l hl => hmv l (List.mem_of_mem_take hl)); rw [List.length_take] at h1; omega
      have hgl : (lead ((spl 47 t).take (min i (q % (spl 47 t).length)))).length ≤ 33 * 33 := by have h1 := lead_len (n := 32) ((spl 47 t).take (min i (q % (spl 47 t).length))) (fun l hl => hlev l (List.mem_of_mem_take hl)); rw [List.length_take] at h1; omega
      refine W_seq ?_
      refine W_seq ?_
      refine W_region ?_
      refine wl_val (rn_move (by conv => lhs; whnf)) ?_
      refine wl_val (rn_move (by conv => lhs; whnf)) ?_
      refine wl_val (rn_len sl_24 rfl) ?_
      refine wl_val (rn_lss rfl rfl) ?_
      refine wl_nil ?_
      refine W_cond rfl (fun hc2 => ?_) (fun hc2 => ?_)
      · have hlt := of_decide_eq_true hc2; simp only [Int.ofNat_lt] at hlt
        obtain ⟨l, hxl⟩ : ∃ l, ((spl 47 t))[i]? = some l := ⟨_, List.getElem?_eq_getElem hlt⟩
        obtain ⟨bb, oo, ea⟩ := hL.base (by intro e; have := congrArg List.length e; simp only [List.length_map, List.length_nil] at this; omega); subst ea
        have hl32 := hlev l (List.mem_of_getElem? hxl)
        refine W_skip ?_
        refine W_seq ?_
        refine W_block ?_   -- block 1
        refine W_seq ?_
        refine W_region ?_
        refine wl_val (rn_move (by conv => lhs; whnf)) ?_
        refine wl_val (rn_move (by conv => lhs; whnf)) ?_
        refine wl_val (rn_indexAddr sl_24 rfl rfl (by omega)) ?_
        refine wl_val (rn_load p_9 rfl ((hL.ext hV (fun _ h => h)).at0 (eS_at hxl) rfl)) ?_
        refine wl_val (rn_assign (by conv => lhs; whnf)) ?_
        refine wl_nil ?_
        refine W_seq ?_
        refine W_seq ?_
        refine W_region ?_
        refine wl_val (rn_move (by conv => lhs; whnf)) ?_
        refine wl_val (rn_move (by conv => lhs; whnf)) ?_
        refine wl_val (rn_eql rfl rfl) ?_
        refine wl_nil ?_
        refine W_cond rfl (fun hc3 => ?_) (fun hc3 => ?_)
        · have hm : ((spl 47 t).set (q % (spl 47 t).length) [43])[i]? = some [43] := by have := of_decide_eq_true hc3; rw [List.getElem?_set, if_pos (by omega), if_pos (by omega)]
          refine W_region ?_
          refine wl_val (rn_assign (by conv => lhs; whnf)) ?_
          refine wl_nil ?_
          refine W_seq ?_
          refine W_seq ?_
          refine W_region ?_
          refine wl_val (rn_move (by conv => lhs; whnf)) ?_
          refine wl_val (rn_gtr rfl rfl) ?_
          refine wl_nil ?_
          refine W_cond rfl (fun hc4 => ?_) (fun hc4 => ?_)
          · have hip : 0 < i := by have := of_decide_eq_true hc4; omega
            refine W_region ?_
            refine wl_val (rn_move (by conv => lhs; whnf)) ?_
            refine wl_val (rn_sadd rfl rfl (by simp only [List.length_singleton]; omega)) ?_
            refine wl_val (rn_assign (by conv => lhs; whnf)) ?_
            refine wl_nil ?_
            refine W_seq ?_
            refine W_region ?_
            refine wl_val (rn_move (by conv => lhs; whnf)) ?_
            refine wl_val (rn_move (by conv => lhs; whnf)) ?_
            refine wl_val (rn_sadd rfl rfl (by first | (simp only [List.length_append, List.length_singleton]; omega) | (simp only [List.length_singleton]; omega) | omega)) ?_
            refine wl_val (rn_assign (by conv => lhs; whnf)) ?_
            refine wl_nil ?_
            refine W_seq ?_
            refine W_region ?_
            refine wl_val (rn_move (by conv => lhs; whnf)) ?_
            refine wl_val (rn_move (by conv => lhs; whnf)) ?_
            refine wl_val (rn_lss rfl rfl) ?_
            refine wl_nil ?_
            refine W_cond rfl (fun hc5 => ?_) (fun hc5 => ?_)
            · have hik : i < q % (spl 47 t).length := by have := of_decide_eq_true hc5; omega
              refine W_region ?_
              refine wl_val (rn_move (by conv => lhs; whnf)) ?_
              refine wl_val (rn_move (by conv => lhs; whnf)) ?_
              refine wl_val (rn_move (by conv => lhs; whnf)) ?_
              refine wl_val (rn_indexAddr sl_24 rfl rfl (by omega)) ?_
              refine wl_val (rn_load p_9 rfl ((hL.ext hV (fun _ h => h)).at0 (eS_at hxl) rfl)) ?_
              refine wl_val (rn_sadd rfl rfl (by omega)) ?_
              refine wl_val (rn_sadd rfl rfl (by simp only [List.length_append, List.length_singleton]; omega)) ?_
              refine wl_val (rn_assign (by conv => lhs; whnf)) ?_
              refine wl_nil ?_
              refine W_region ?_
              refine wl_val (rn_move (by conv => lhs; whnf)) ?_
              refine wl_val (rn_add rfl rfl (by omega)) ?_
              refine wl_val (rn_assign (by conv => lhs; whnf)) ?_
              refine wl_nil ?_
              
              exact ⟨rfl, i + 1, ⟨rfl, rfl, rfl, (congrArg Sv (by first | exact (join_step hm hip).symm | exact (join_first hm hiz).symm)), (congrArg Sv (by first | exact (lead_lo hxl hik).symm | exact (lead_hi hik).symm)), rfl, trivial⟩, ⟨hX, ⟨hV, hlt⟩⟩, by omega⟩
            · have hik : ¬ i < q % (spl 47 t).length := by have := of_decide_eq_false hc5; omega
              refine W_skip ?_
              refine W_region ?_
              refine wl_val (rn_move (by conv => lhs; whnf)) ?_
              refine wl_val (rn_add rfl rfl (by omega)) ?_
              refine wl_val (rn_assign (by conv => lhs; whnf)) ?_
              refine wl_nil ?_
              
              exact ⟨rfl, i + 1, ⟨rfl, rfl, rfl, (congrArg Sv (by first | exact (join_step hm hip).symm | exact (join_first hm hiz).symm)), (congrArg Sv (by first | exact (lead_lo hxl hik).symm | exact (lead_hi hik).symm)), rfl, trivial⟩, ⟨hX, ⟨hV, hlt⟩⟩, by omega⟩
          · have hiz : i = 0 := by have := of_decide_eq_false hc4; omega
            refine W_skip ?_
            refine W_seq ?_
            refine W_region ?_
            refine wl_val (rn_move (by conv => lhs; whnf)) ?_
            refine wl_val (rn_move (by conv => lhs; whnf)) ?_
            refine wl_val (rn_sadd rfl rfl (by first | (simp only [List.length_append, List.length_singleton]; omega) | (simp only [List.length_singleton]; omega) | omega)) ?_
            refine wl_val (rn_assign (by conv => lhs; whnf)) ?_
            refine wl_nil ?_
            refine W_seq ?_
            refine W_region ?_
            refine wl_val (rn_move (by conv => lhs; whnf)) ?_
            refine wl_val (rn_move (by conv => lhs; whnf)) ?_
            refine wl_val (rn_lss rfl rfl) ?_
            refine wl_nil ?_
            refine W_cond rfl (fun hc5 => ?_) (fun hc5 => ?_)
            · have hik : i < q % (spl 47 t).length := by have := of_decide_eq_true hc5; omega
              refine W_region ?_
              refine wl_val (rn_move (by conv => lhs; whnf)) ?_
              refine wl_val (rn_move (by conv => lhs; whnf)) ?_
              refine wl_val (rn_move (by conv => lhs; whnf)) ?_
              refine wl_val (rn_indexAddr sl_24 rfl rfl (by omega)) ?_
              refine wl_val (rn_load p_9 rfl ((hL.ext hV (fun _ h => h)).at0 (eS_at hxl) rfl)) ?_
              refine wl_val (rn_sadd rfl rfl (by omega)) ?_
              refine wl_val (rn_sadd rfl rfl (by simp only [List.length_append, List.length_singleton]; omega)) ?_
              refine wl_val (rn_assign (by conv => lhs; whnf)) ?_
              refine wl_nil ?_
              refine W_region ?_
              refine wl_val (rn_move (by conv => lhs; whnf)) ?_
              refine wl_val (rn_add rfl rfl (by omega)) ?_
              refine wl_val (rn_assign (by conv => lhs; whnf)) ?_
              refine wl_nil ?_
              
              exact ⟨rfl, i + 1, ⟨rfl, rfl, rfl, (congrArg Sv (by first | exact (join_step hm hip).symm | exact (join_first hm hiz).symm)), (congrArg Sv (by first | exact (lead_lo hxl hik).symm | exact (lead_hi hik).symm)), rfl, trivial⟩, ⟨hX, ⟨hV, hlt⟩⟩, by omega⟩
            · have hik : ¬ i < q % (spl 47 t).length := by have := of_decide_eq_false hc5; omega
              refine W_skip ?_
              refine W_region ?_
              refine wl_val (rn_move (by conv => lhs; whnf)) ?_
              refine wl_val (rn_add rfl rfl (by omega)) ?_
              refine wl_val (rn_assign (by conv => lhs; whnf)) ?_
              refine wl_nil ?_
              
              exact ⟨rfl, i + 1, ⟨rfl, rfl, rfl, (congrArg Sv (by first | exact (join_step hm hip).symm | exact (join_first hm hiz).symm)), (congrArg Sv (by first | exact (lead_lo hxl hik).symm | exact (lead_hi hik).symm)), rfl, trivial⟩, ⟨hX, ⟨hV, hlt⟩⟩, by omega⟩
        · have hm : ((spl 47 t).set (q % (spl 47 t).length) [43])[i]? = some l := by have := of_decide_eq_false hc3; rw [List.getElem?_set, if_neg (by omega)]; exact hxl
          refine W_skip ?_
          refine W_seq ?_
          refine W_seq ?_
          refine W_region ?_
          refine wl_val (rn_move (by conv => lhs; whnf)) ?_
          refine wl_val (rn_gtr rfl rfl) ?_
          refine wl_nil ?_
          refine W_cond rfl (fun hc4 => ?_) (fun hc4 => ?_)
          · have hip : 0 < i := by have := of_decide_eq_true hc4; omega
            refine W_region ?_
            refine wl_val (rn_move (by conv => lhs; whnf)) ?_
            refine wl_val (rn_sadd rfl rfl (by simp only [List.length_singleton]; omega)) ?_
            refine wl_val (rn_assign (by conv => lhs; whnf)) ?_
            refine wl_nil ?_
            refine W_seq ?_
            refine W_region ?_
            refine wl_val (rn_move (by conv => lhs; whnf)) ?_
            refine wl_val (rn_move (by conv => lhs; whnf)) ?_
            refine wl_val (rn_sadd rfl rfl (by first | (simp only [List.length_append, List.length_singleton]; omega) | (simp only [List.length_singleton]; omega) | omega)) ?_
            refine wl_val (rn_assign (by conv => lhs; whnf)) ?_
            refine wl_nil ?_
            refine W_seq ?_
            refine W_region ?_
            refine wl_val (rn_move (by conv => lhs; whnf)) ?_
            refine wl_val (rn_move (by conv => lhs; whnf)) ?_
            refine wl_val (rn_lss rfl rfl) ?_
            refine wl_nil ?_
            refine W_cond rfl (fun hc5 => ?_) (fun hc5 => ?_)
            · have hik : i < q % (spl 47 t).length := by have := of_decide_eq_true hc5; omega
              refine W_region ?_
              refine wl_val (rn_move (by conv => lhs; whnf)) ?_
              refine wl_val (rn_move (by conv => lhs; whnf)) ?_
              refine wl_val (rn_move (by conv => lhs; whnf)) ?_
              refine wl_val (rn_indexAddr sl_24 rfl rfl (by omega)) ?_
              refine wl_val (rn_load p_9 rfl ((hL.ext hV (fun _ h => h)).at0 (eS_at hxl) rfl)) ?_
              refine wl_val (rn_sadd rfl rfl (by omega)) ?_
              refine wl_val (rn_sadd rfl rfl (by simp only [List.length_append, List.length_singleton]; omega)) ?_
              refine wl_val (rn_assign (by conv => lhs; whnf)) ?_
              refine wl_nil ?_
              refine W_region ?_
              refine wl_val (rn_move (by conv => lhs; whnf)) ?_
              refine wl_val (rn_add rfl rfl (by omega)) ?_
              refine wl_val (rn_assign (by conv => lhs; whnf)) ?_
              refine wl_nil ?_
              
              exact ⟨rfl, i + 1, ⟨rfl, rfl, rfl, (congrArg Sv (by first | exact (join_step hm hip).symm | exact (join_first hm hiz).symm)), (congrArg Sv (by first | exact (lead_lo hxl hik).symm | exact (lead_hi hik).symm)), rfl, trivial⟩, ⟨hX, ⟨hV, hlt⟩⟩, by omega⟩
            · have hik : ¬ i < q % (spl 47 t).length := by have := of_decide_eq_false hc5; omega
              refine W_skip ?_
              refine W_region ?_
              refine wl_val (rn_move (by conv => lhs; whnf)) ?_
              refine wl_val (rn_add rfl rfl (by omega)) ?_
              refine wl_val (rn_assign (by conv => lhs; whnf)) ?_
              refine wl_nil ?_
              
              exact ⟨rfl, i + 1, ⟨rfl, rfl, rfl, (congrArg Sv (by first | exact (join_step hm hip).symm | exact (join_first hm hiz).symm)), (congrArg Sv (by first | exact (lead_lo hxl hik).symm | exact (lead_hi hik).symm)), rfl, trivial⟩, ⟨hX, ⟨hV, hlt⟩⟩, by omega⟩
          · have hiz : i = 0 := by have := of_decide_eq_false hc4; omega
            refine W_skip ?_
            refine W_seq ?_
            refine W_region ?_
            refine wl_val (rn_move (by conv => lhs; whnf)) ?_
            refine wl_val (rn_move (by conv => lhs; whnf)) ?_
            refine wl_val (rn_sadd rfl rfl (by first | (simp only [List.length_append, List.length_singleton]; omega) | (simp only [List.length_singleton]; omega) | omega)) ?_
            refine wl_val (rn_assign (by conv => lhs; whnf)) ?_
            refine wl_nil ?_
            refine W_seq ?_
            refine W_region ?_
            refine wl_val (rn_move (by conv => lhs; whnf)) ?_
            refine wl_val (rn_move (by conv => lhs; whnf)) ?_
            refine wl_val (rn_lss rfl rfl) ?_
            refine wl_nil ?_
            refine W_cond rfl (fun hc5 => ?_) (fun hc5 => ?_)
            · have hik : i < q % (spl 47 t).length := by have := of_decide_eq_true hc5; omega
              refine W_region ?_
              refine wl_val (rn_move (by conv => lhs; whnf)) ?_
              refine wl_val (rn_move (by conv => lhs; whnf)) ?_
              refine wl_val (rn_move (by conv => lhs; whnf)) ?_
              refine wl_val (rn_indexAddr sl_24 rfl rfl (by omega)) ?_
              refine wl_val (rn_load p_9 rfl ((hL.ext hV (fun _ h => h)).at0 (eS_at hxl) rfl)) ?_
              refine wl_val (rn_sadd rfl rfl (by omega)) ?_
              refine wl_val (rn_sadd rfl rfl (by simp only [List.length_append, List.length_singleton]; omega)) ?_
              refine wl_val (rn_assign (by conv => lhs; whnf)) ?_
              refine wl_nil ?_
              refine W_region ?_
              refine wl_val (rn_move (by conv => lhs; whnf)) ?_
              refine wl_val (rn_add rfl rfl (by omega)) ?_
              refine wl_val (rn_assign (by conv => lhs; whnf)) ?_
              refine wl_nil ?_
              
              exact ⟨rfl, i + 1, ⟨rfl, rfl, rfl, (congrArg Sv (by first | exact (join_step hm hip).symm | exact (join_first hm hiz).symm)), (congrArg Sv (by first | exact (lead_lo hxl hik).symm | exact (lead_hi hik).symm)), rfl, trivial⟩, ⟨hX, ⟨hV, hlt⟩⟩, by omega⟩
            · have hik : ¬ i < q % (spl 47 t).length := by have := of_decide_eq_false hc5; omega
              refine W_skip ?_
              refine W_region ?_
              refine wl_val (rn_move (by conv => lhs; whnf)) ?_
              refine wl_val (rn_add rfl rfl (by omega)) ?_
              refine wl_val (rn_assign (by conv => lhs; whnf)) ?_
              refine wl_nil ?_
              
              exact ⟨rfl, i + 1, ⟨rfl, rfl, rfl, (congrArg Sv (by first | exact (join_step hm hip).symm | exact (join_first hm hiz).symm)), (congrArg Sv (by first | exact (lead_lo hxl hik).symm | exact (lead_hi hik).symm)), rfl, trivial⟩, ⟨hX, ⟨hV, hlt⟩⟩, by omega⟩
      · have hge := of_decide_eq_false hc2; simp only [Int.ofNat_lt, Nat.not_lt] at hge
        have hie : i = ((spl 47 t)).length := by omega
        subst hie
        have eF : joinB 47 (((spl 47 t).set (q % (spl 47 t).length) [43]).take (spl 47 t).length) = plusAt t (q % (spl 47 t).length) := by unfold plusAt; rw [List.take_of_length_le (by rw [List.length_set]; exact Nat.le_refl _)]
        have eG : lead ((spl 47 t).take (min (spl 47 t).length (q % (spl 47 t).length))) ++ [35] = restAt t (q % (spl 47 t).length) := by unfold restAt; rw [Nat.min_eq_right (by omega)]
        have hpl : (plusAt t (q % (spl 47 t).length)).length ≤ 1000000 := by rw [← eF]; omega
        have hrl : (restAt t (q % (spl 47 t).length)).length ≤ 1000000 := by rw [← eG]; simp only [List.length_append, List.length_singleton]; omega
        refine W_exit ?_   -- exit 0
        refine W_seq ?_
        refine W_region ?_
        refine wl_val (rn_move (by conv => lhs; whnf)) ?_
        refine wl_val (rn_sadd rfl rfl (by simp only [List.length_singleton]; omega)) ?_
        refine wl_val (rn_assign (by conv => lhs; whnf)) ?_
        refine wl_nil ?_
        refine W_seq ?_
        refine W_region ?_
        refine wl_val (rn_move (by conv => lhs; whnf)) ?_
        rw [eF, eG]
        refine wl_val (rn_gtr rfl rfl) ?_
        refine wl_val (rn_move (by conv => lhs; whnf)) ?_
        refine wl_split (d := 58) rfl (fun hg58 => ?_) (fun hg58 => ?_)
        · have hk0 : 0 < q % (spl 47 t).length := by have := of_decide_eq_true hg58; omega
          have hwant : (decide (0 < q % (spl 47 t).length) || !headIs 36 t) = true := by rw [decide_eq_true hk0]; rfl
          refine wl_no rfl (congrArg Value.bool hg58) ?_
          refine wl_no rfl (congrArg Value.bool hg58) ?_
          refine wl_no rfl (congrArg Value.bool hg58) ?_
          refine wl_val (rn_pickT (congrArg Value.bool hg58) (by conv => lhs; whnf)) ?_
          refine wl_val (rn_assign (by conv => lhs; whnf)) ?_
          refine wl_nil ?_
          refine W_seq ?_
          refine W_seq ?_
          refine W_region ?_
          refine wl_val (rn_move (by conv => lhs; whnf)) ?_
          refine wl_val (rn_slen us_9 rfl) ?_
          refine wl_val (rn_gtr rfl rfl) ?_
          refine wl_val (rn_move (by conv => lhs; whnf)) ?_
          refine wl_split (d := 66) rfl (fun hg66 => ?_) (fun hg66 => ?_)
          · refine wl_no rfl (congrArg Value.bool hg66) ?_
            refine wl_no rfl (congrArg Value.bool hg66) ?_
            refine wl_no rfl (congrArg Value.bool hg66) ?_
            refine wl_val (rn_pickT (congrArg Value.bool hg66) (by conv => lhs; whnf)) ?_
            refine wl_nil ?_
            refine W_condT rfl ?_
            refine W_seq ?_
            refine W_region ?_
            refine wl_val (rn_move (by conv => lhs; whnf)) ?_
            refine wl_val (rn_move (by conv => lhs; whnf)) ?_
            refine wl_call e_41 rfl (tmatch_ok A0 (plusAt t (q % (spl 47 t).length)) t hpl hnt) ?_; intro v73 w4 hE4 hR4
            replace hX := hX.tr hE4
            replace hV := hV.tr hE4
            subst hR4
            refine wl_val (rn_not rfl) ?_
            refine wl_val (rn_move (by conv => lhs; whnf)) ?_
            refine wl_split (d := 75) rfl (fun hg75 => ?_) (fun hg75 => ?_)
            · refine wl_no rfl (congrArg Value.bool hg75) ?_
              refine wl_no rfl (congrArg Value.bool hg75) ?_
              refine wl_no rfl (congrArg Value.bool hg75) ?_
              refine wl_val (rn_pickT (congrArg Value.bool hg75) (by conv => lhs; whnf)) ?_
              refine wl_val (rn_assign (by conv => lhs; whnf)) ?_
              refine wl_nil ?_
              refine W_ret ?_
              first | exact ⟨_, resR1 (res1_tmp rfl), hX, rfl⟩ | exact ⟨_, resR1 (res1_tmp rfl), hX, (by rw [decide_eq_true hlen32]; rfl)⟩ | exact ⟨_, resR1 (res1_tmp rfl), hX, (by rw [hmr]; exact congrArg Value.bool (decide_eq_true rfl))⟩
            · have hlen32 : ((plusAt t (q % (spl 47 t).length)).length : Int) ≤ 32 := by (by_cases h : 32 < (plusAt t (q % (spl 47 t).length)).length); (rw [match_long (t := t) h] at hg75; exact absurd hg75 (by simp)); omega
              refine wl_yes rfl (congrArg Value.bool hg75) ?_
              refine wl_val (rn_move (by conv => lhs; whnf)) ?_
              refine wl_yes rfl (congrArg Value.bool hg75) ?_
              refine wl_val (rn_slen us_9 rfl) ?_
              refine wl_yes rfl (congrArg Value.bool hg75) ?_
              refine wl_val (rn_leq rfl rfl) ?_
              refine wl_val (rn_pickF (congrArg Value.bool hg75) (by conv => lhs; whnf)) ?_
              refine wl_val (rn_assign (by conv => lhs; whnf)) ?_
              refine wl_nil ?_
              refine W_ret ?_
              first | exact ⟨_, resR1 (res1_tmp rfl), hX, rfl⟩ | exact ⟨_, resR1 (res1_tmp rfl), hX, (by rw [decide_eq_true hlen32]; rfl)⟩ | exact ⟨_, resR1 (res1_tmp rfl), hX, (by rw [hmr]; exact congrArg Value.bool (decide_eq_true rfl))⟩
          · have hp32 : (plusAt t (q % (spl 47 t).length)).length ≤ 32 := by have := of_decide_eq_false hg66; omega
            refine wl_yes rfl (congrArg Value.bool hg66) ?_
            refine wl_val (rn_move (by conv => lhs; whnf)) ?_
            refine wl_yes rfl (congrArg Value.bool hg66) ?_
            refine wl_val (rn_slen us_9 rfl) ?_
            refine wl_yes rfl (congrArg Value.bool hg66) ?_
            refine wl_val (rn_gtr rfl rfl) ?_
            refine wl_val (rn_pickF (congrArg Value.bool hg66) (by conv => lhs; whnf)) ?_
            refine wl_nil ?_
            refine W_cond rfl (fun hc6 => ?_) (fun hc6 => ?_)
            · refine W_seq ?_
              refine W_region ?_
              refine wl_val (rn_move (by conv => lhs; whnf)) ?_
              refine wl_val (rn_move (by conv => lhs; whnf)) ?_
              refine wl_call e_41 rfl (tmatch_ok A0 (plusAt t (q % (spl 47 t).length)) t hpl hnt) ?_; intro v73 w5 hE5 hR5
              replace hX := hX.tr hE5
              replace hV := hV.tr hE5
              subst hR5
              refine wl_val (rn_not rfl) ?_
              refine wl_val (rn_move (by conv => lhs; whnf)) ?_
              refine wl_split (d := 75) rfl (fun hg75 => ?_) (fun hg75 => ?_)
              · refine wl_no rfl (congrArg Value.bool hg75) ?_
                refine wl_no rfl (congrArg Value.bool hg75) ?_
                refine wl_no rfl (congrArg Value.bool hg75) ?_
                refine wl_val (rn_pickT (congrArg Value.bool hg75) (by conv => lhs; whnf)) ?_
                refine wl_val (rn_assign (by conv => lhs; whnf)) ?_
                refine wl_nil ?_
                refine W_ret ?_
                first | exact ⟨_, resR1 (res1_tmp rfl), hX, rfl⟩ | exact ⟨_, resR1 (res1_tmp rfl), hX, (by rw [decide_eq_true hlen32]; rfl)⟩ | exact ⟨_, resR1 (res1_tmp rfl), hX, (by rw [hmr]; exact congrArg Value.bool (decide_eq_true rfl))⟩
              · have hlen32 : ((plusAt t (q % (spl 47 t).length)).length : Int) ≤ 32 := by (by_cases h : 32 < (plusAt t (q % (spl 47 t).length)).length); (rw [match_long (t := t) h] at hg75; exact absurd hg75 (by simp)); omega
                refine wl_yes rfl (congrArg Value.bool hg75) ?_
                refine wl_val (rn_move (by conv => lhs; whnf)) ?_
                refine wl_yes rfl (congrArg Value.bool hg75) ?_
                refine wl_val (rn_slen us_9 rfl) ?_
                refine wl_yes rfl (congrArg Value.bool hg75) ?_
                refine wl_val (rn_leq rfl rfl) ?_
                refine wl_val (rn_pickF (congrArg Value.bool hg75) (by conv => lhs; whnf)) ?_
                refine wl_val (rn_assign (by conv => lhs; whnf)) ?_
                refine wl_nil ?_
                refine W_ret ?_
                first | exact ⟨_, resR1 (res1_tmp rfl), hX, rfl⟩ | exact ⟨_, resR1 (res1_tmp rfl), hX, (by rw [decide_eq_true hlen32]; rfl)⟩ | exact ⟨_, resR1 (res1_tmp rfl), hX, (by rw [hmr]; exact congrArg Value.bool (decide_eq_true rfl))⟩
            · have hr32 : (restAt t (q % (spl 47 t).length)).length ≤ 32 := by have := of_decide_eq_false hc6; omega
              have hmf := (plus_match hT hkn hp32).trans hwant
              have hmr := (rest_match hT hkn hr32).trans hwant
              refine W_skip ?_
              refine W_seq ?_
              refine W_region ?_
              refine wl_val (rn_move (by conv => lhs; whnf)) ?_
              refine wl_val (rn_move (by conv => lhs; whnf)) ?_
              refine wl_call e_41 rfl (tmatch_ok A0 (plusAt t (q % (spl 47 t).length)) t hpl hnt) ?_; intro v82 w6 hE6 hR6
              replace hX := hX.tr hE6
              replace hV := hV.tr hE6
              subst hR6
              refine wl_val (rn_move (by conv => lhs; whnf)) ?_
              refine wl_val (rn_beql ub_4 rfl rfl) ?_
              refine wl_val (rn_move (by conv => lhs; whnf)) ?_
              refine wl_split (d := 85) rfl (fun hg85 => ?_) (fun hg85 => ?_)
              · refine wl_yes rfl (congrArg Value.bool hg85) ?_
                refine wl_val (rn_move (by conv => lhs; whnf)) ?_
                refine wl_yes rfl (congrArg Value.bool hg85) ?_
                refine wl_val (rn_move (by conv => lhs; whnf)) ?_
                refine wl_yes rfl (congrArg Value.bool hg85) ?_
                refine wl_call e_41 rfl (tmatch_ok w6 (restAt t (q % (spl 47 t).length)) t hrl hnt) ?_; intro v88 w7 hE7 hR7
                replace hX := hX.tr hE7
                replace hV := hV.tr hE7
                subst hR7
                refine wl_yes rfl (congrArg Value.bool hg85) ?_
                refine wl_val (rn_move (by conv => lhs; whnf)) ?_
                refine wl_yes rfl (congrArg Value.bool hg85) ?_
                refine wl_val (rn_beql ub_4 rfl rfl) ?_
                refine wl_val (rn_pickT (congrArg Value.bool hg85) (by conv => lhs; whnf)) ?_
                refine wl_val (rn_assign (by conv => lhs; whnf)) ?_
                refine wl_nil ?_
                refine W_ret ?_
                first | exact ⟨_, resR1 (res1_tmp rfl), hX, rfl⟩ | exact ⟨_, resR1 (res1_tmp rfl), hX, (by rw [decide_eq_true hlen32]; rfl)⟩ | exact ⟨_, resR1 (res1_tmp rfl), hX, (by rw [hmr]; exact congrArg Value.bool (decide_eq_true rfl))⟩
              · exact absurd hg85 (by rw [hmf]; simp)
        · have hk0 : ¬ 0 < q % (spl 47 t).length := by have := of_decide_eq_false hg58; omega
          have hwant : (decide (0 < q % (spl 47 t).length) || !headIs 36 t) = decide ((c.toNat : Int) ≠ 36) := by rw [decide_eq_false hk0, hh, ← u8_dec]; simp
          refine wl_yes rfl (congrArg Value.bool hg58) ?_
          refine wl_val (rn_move (by conv => lhs; whnf)) ?_
          refine wl_yes rfl (congrArg Value.bool hg58) ?_
          refine wl_val (rn_sindex us_9 rfl rfl (by omega) hc36) ?_
          refine wl_yes rfl (congrArg Value.bool hg58) ?_
          refine wl_val (rn_neq rfl rfl) ?_
          refine wl_val (rn_pickF (congrArg Value.bool hg58) (by conv => lhs; whnf)) ?_
          refine wl_val (rn_assign (by conv => lhs; whnf)) ?_
          refine wl_nil ?_
          refine W_seq ?_
          refine W_seq ?_
          refine W_region ?_
          refine wl_val (rn_move (by conv => lhs; whnf)) ?_
          refine wl_val (rn_slen us_9 rfl) ?_
          refine wl_val (rn_gtr rfl rfl) ?_
          refine wl_val (rn_move (by conv => lhs; whnf)) ?_
          refine wl_split (d := 66) rfl (fun hg66 => ?_) (fun hg66 => ?_)
          · refine wl_no rfl (congrArg Value.bool hg66) ?_
            refine wl_no rfl (congrArg Value.bool hg66) ?_
            refine wl_no rfl (congrArg Value.bool hg66) ?_
            refine wl_val (rn_pickT (congrArg Value.bool hg66) (by conv => lhs; whnf)) ?_
            refine wl_nil ?_
            refine W_condT rfl ?_
            refine W_seq ?_
            refine W_region ?_
            refine wl_val (rn_move (by conv => lhs; whnf)) ?_
            refine wl_val (rn_move (by conv => lhs; whnf)) ?_
            refine wl_call e_41 rfl (tmatch_ok A0 (plusAt t (q % (spl 47 t).length)) t hpl hnt) ?_; intro v73 w8 hE8 hR8
            replace hX := hX.tr hE8
            replace hV := hV.tr hE8
            subst hR8
            refine wl_val (rn_not rfl) ?_
            refine wl_val (rn_move (by conv => lhs; whnf)) ?_
            refine wl_split (d := 75) rfl (fun hg75 => ?_) (fun hg75 => ?_)
            · refine wl_no rfl (congrArg Value.bool hg75) ?_
              refine wl_no rfl (congrArg Value.bool hg75) ?_
              refine wl_no rfl (congrArg Value.bool hg75) ?_
              refine wl_val (rn_pickT (congrArg Value.bool hg75) (by conv => lhs; whnf)) ?_
              refine wl_val (rn_assign (by conv => lhs; whnf)) ?_
              refine wl_nil ?_
              refine W_ret ?_
              first | exact ⟨_, resR1 (res1_tmp rfl), hX, rfl⟩ | exact ⟨_, resR1 (res1_tmp rfl), hX, (by rw [decide_eq_true hlen32]; rfl)⟩ | exact ⟨_, resR1 (res1_tmp rfl), hX, (by rw [hmr]; exact congrArg Value.bool (decide_eq_true rfl))⟩
            · have hlen32 : ((plusAt t (q % (spl 47 t).length)).length : Int) ≤ 32 := by (by_cases h : 32 < (plusAt t (q % (spl 47 t).length)).length); (rw [match_long (t := t) h] at hg75; exact absurd hg75 (by simp)); omega
              refine wl_yes rfl (congrArg Value.bool hg75) ?_
              refine wl_val (rn_move (by conv => lhs; whnf)) ?_
              refine wl_yes rfl (congrArg Value.bool hg75) ?_
              refine wl_val (rn_slen us_9 rfl) ?_
              refine wl_yes rfl (congrArg Value.bool hg75) ?_
              refine wl_val (rn_leq rfl rfl) ?_
              refine wl_val (rn_pickF (congrArg Value.bool hg75) (by conv => lhs; whnf)) ?_
              refine wl_val (rn_assign (by conv => lhs; whnf)) ?_
              refine wl_nil ?_
              refine W_ret ?_
              first | exact ⟨_, resR1 (res1_tmp rfl), hX, rfl⟩ | exact ⟨_, resR1 (res1_tmp rfl), hX, (by rw [decide_eq_true hlen32]; rfl)⟩ | exact ⟨_, resR1 (res1_tmp rfl), hX, (by rw [hmr]; exact congrArg Value.bool (decide_eq_true rfl))⟩
          · have hp32 : (plusAt t (q % (spl 47 t).length)).length ≤ 32 := by have := of_decide_eq_false hg66; omega
            refine wl_yes rfl (congrArg Value.bool hg66) ?_
            refine wl_val (rn_move (by conv => lhs; whnf)) ?_
            refine wl_yes rfl (congrArg Value.bool hg66) ?_
            refine wl_val (rn_slen us_9 rfl) ?_
            refine wl_yes rfl (congrArg Value.bool hg66) ?_
            refine wl_val (rn_gtr rfl rfl) ?_
            refine wl_val (rn_pickF (congrArg Value.bool hg66) (by conv => lhs; whnf)) ?_
            refine wl_nil ?_
            refine W_cond rfl (fun hc6 => ?_) (fun hc6 => ?_)
            · refine W_seq ?_
              refine W_region ?_
              refine wl_val (rn_move (by conv => lhs; whnf)) ?_
              refine wl_val (rn_move (by conv => lhs; whnf)) ?_
              refine wl_call e_41 rfl (tmatch_ok A0 (plusAt t (q % (spl 47 t).length)) t hpl hnt) ?_; intro v73 w9 hE9 hR9
              replace hX := hX.tr hE9
              replace hV := hV.tr hE9
              subst hR9
              refine wl_val (rn_not rfl) ?_
              refine wl_val (rn_move (by conv => lhs; whnf)) ?_
              refine wl_split (d := 75) rfl (fun hg75 => ?_) (fun hg75 => ?_)
              · refine wl_no rfl (congrArg Value.bool hg75) ?_
                refine wl_no rfl (congrArg Value.bool hg75) ?_
                refine wl_no rfl (congrArg Value.bool hg75) ?_
                refine wl_val (rn_pickT (congrArg Value.bool hg75) (by conv => lhs; whnf)) ?_
                refine wl_val (rn_assign (by conv => lhs; whnf)) ?_
                refine wl_nil ?_
                refine W_ret ?_
                first | exact ⟨_, resR1 (res1_tmp rfl), hX, rfl⟩ | exact ⟨_, resR1 (res1_tmp rfl), hX, (by rw [decide_eq_true hlen32]; rfl)⟩ | exact ⟨_, resR1 (res1_tmp rfl), hX, (by rw [hmr]; exact congrArg Value.bool (decide_eq_true rfl))⟩
              · have hlen32 : ((plusAt t (q % (spl 47 t).length)).length : Int) ≤ 32 := by (by_cases h : 32 < (plusAt t (q % (spl 47 t).length)).length); (rw [match_long (t := t) h] at hg75; exact absurd hg75 (by simp)); omega
                refine wl_yes rfl (congrArg Value.bool hg75) ?_
                refine wl_val (rn_move (by conv => lhs; whnf)) ?_
                refine wl_yes rfl (congrArg Value.bool hg75) ?_
                refine wl_val (rn_slen us_9 rfl) ?_
                refine wl_yes rfl (congrArg Value.bool hg75) ?_
                refine wl_val (rn_leq rfl rfl) ?_
                refine wl_val (rn_pickF (congrArg Value.bool hg75) (by conv => lhs; whnf)) ?_
                refine wl_val (rn_assign (by conv => lhs; whnf)) ?_
                refine wl_nil ?_
                refine W_ret ?_
                first | exact ⟨_, resR1 (res1_tmp rfl), hX, rfl⟩ | exact ⟨_, resR1 (res1_tmp rfl), hX, (by rw [decide_eq_true hlen32]; rfl)⟩ | exact ⟨_, resR1 (res1_tmp rfl), hX, (by rw [hmr]; exact congrArg Value.bool (decide_eq_true rfl))⟩
            · have hr32 : (restAt t (q % (spl 47 t).length)).length ≤ 32 := by have := of_decide_eq_false hc6; omega
              have hmf := (plus_match hT hkn hp32).trans hwant
              have hmr := (rest_match hT hkn hr32).trans hwant
              refine W_skip ?_
              refine W_seq ?_
              refine W_region ?_
              refine wl_val (rn_move (by conv => lhs; whnf)) ?_
              refine wl_val (rn_move (by conv => lhs; whnf)) ?_
              refine wl_call e_41 rfl (tmatch_ok A0 (plusAt t (q % (spl 47 t).length)) t hpl hnt) ?_; intro v82 w10 hE10 hR10
              replace hX := hX.tr hE10
              replace hV := hV.tr hE10
              subst hR10
              refine wl_val (rn_move (by conv => lhs; whnf)) ?_
              refine wl_val (rn_beql ub_4 rfl rfl) ?_
              refine wl_val (rn_move (by conv => lhs; whnf)) ?_
              refine wl_split (d := 85) rfl (fun hg85 => ?_) (fun hg85 => ?_)
              · refine wl_yes rfl (congrArg Value.bool hg85) ?_
                refine wl_val (rn_move (by conv => lhs; whnf)) ?_
                refine wl_yes rfl (congrArg Value.bool hg85) ?_
                refine wl_val (rn_move (by conv => lhs; whnf)) ?_
                refine wl_yes rfl (congrArg Value.bool hg85) ?_
                refine wl_call e_41 rfl (tmatch_ok w10 (restAt t (q % (spl 47 t).length)) t hrl hnt) ?_; intro v88 w11 hE11 hR11
                replace hX := hX.tr hE11
                replace hV := hV.tr hE11
                subst hR11
                refine wl_yes rfl (congrArg Value.bool hg85) ?_
                refine wl_val (rn_move (by conv => lhs; whnf)) ?_
                refine wl_yes rfl (congrArg Value.bool hg85) ?_
                refine wl_val (rn_beql ub_4 rfl rfl) ?_
                refine wl_val (rn_pickT (congrArg Value.bool hg85) (by conv => lhs; whnf)) ?_
                refine wl_val (rn_assign (by conv => lhs; whnf)) ?_
                refine wl_nil ?_
                refine W_ret ?_
                first | exact ⟨_, resR1 (res1_tmp rfl), hX, rfl⟩ | exact ⟨_, resR1 (res1_tmp rfl), hX, (by rw [decide_eq_true hlen32]; rfl)⟩ | exact ⟨_, resR1 (res1_tmp rfl), hX, (by rw [hmr]; exact congrArg Value.bool (decide_eq_true rfl))⟩
              · exact absurd hg85 (by rw [hmf]; simp)
end Go.Proofs.YtfdfphaiefbflaaDoorC
