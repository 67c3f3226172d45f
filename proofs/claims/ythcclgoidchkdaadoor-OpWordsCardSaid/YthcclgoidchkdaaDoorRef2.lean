/- The document's matching of filters and topics. -/
import Derived.Test.YthcclgoidchkdaaDoorRef1
set_option linter.unusedVariables false
set_option linter.unusedSimpArgs false
set_option maxRecDepth 100000
namespace Go.Proofs.YthcclgoidchkdaaDoorC
open Go.RowKit
abbrev anyS : Str → Bool := fun _ => true
theorem match_no1 {f t : Str} (h : filterB f = false) : matchB f t = false := by unfold matchB; rw [h]; rfl
theorem match_no2 {f t : Str} (h : topicB t = false) : matchB f t = false := by unfold matchB; rw [h]; simp
theorem match_no3 {f t : Str} (h : (wildB f && headIs 36 t) = true) : matchB f t = false := by unfold matchB; rw [h]; simp
theorem match_eq {f t : Str} (h1 : filterB f = true) (h2 : topicB t = true) (h3 : (wildB f && headIs 36 t) = false) : matchB f t = likeB anyS (spl 47 f) (spl 47 t) := by unfold matchB; rw [h1, h2, h3]; rfl
/-- As many levels as are looked at one by one. -/
def cutOk (L T : List Str) (m : Nat) : Prop := (m + 1 = L.length ∧ L[m]? = some [35] ∧ m ≤ T.length) ∨ (m = L.length ∧ T.length = m ∧ ∀ j : Nat, L[j]? ≠ some [35])
theorem cut_yes {L T : List Str} {m : Nat} (h : cutOk L T m) (hall : ∀ j, j < m → okAt anyS L T j) : likeB anyS L T = true := by
  rcases h with ⟨h1, h2, h3⟩ | ⟨h1, h2, h3⟩
  · exact (likeB_iff anyS L T).2 (.inl ⟨m, h2, h3, hall⟩)
  · exact (likeB_iff anyS L T).2 (.inr ⟨by omega, fun j hj => hall j (by omega)⟩)
theorem cut_no {L T : List Str} {m i : Nat} {l t : Str} (h : cutOk L T m) (hf : ∀ j : Nat, L[j]? = some [35] → j + 1 = L.length) (hi : i < m) (hl : L[i]? = some l) (ht : T[i]? = some t) (h1 : ¬ l = [43]) (h2 : ¬ l = t) : likeB anyS L T = false := by
  have hlt := (List.getElem?_eq_some_iff.1 hl).1
  refine likeB_no (i := i) (fun j hj e => ?_) hlt ?_
  · have := hf j e
    rcases h with ⟨h3, _⟩ | ⟨_, _, h4⟩
    · omega
    · exact h4 j e
  · rintro ⟨l2, t2, e1, e2, h3⟩
    rw [hl] at e1; rw [ht] at e2; cases e1; cases e2
    rcases h3 with h3 | h3
    · exact h2 h3
    · exact h1 h3.1
theorem cut_small {L T : List Str} (hf : ∀ j : Nat, L[j]? = some [35] → j + 1 = L.length) (h : T.length < L.length - 1) : likeB anyS L T = false := by
  cases e : likeB anyS L T with
  | false => rfl
  | true =>
    rcases (likeB_iff anyS L T).1 e with ⟨k, h1, h2, _⟩ | ⟨h1, _⟩
    · have := hf k h1; omega
    · omega
theorem cut_len {L T : List Str} (hn : ∀ j : Nat, L[j]? ≠ some [35]) (h : ¬ T.length = L.length) : likeB anyS L T = false := by
  cases e : likeB anyS L T with
  | false => rfl
  | true =>
    rcases (likeB_iff anyS L T).1 e with ⟨k, h1, h2, _⟩ | ⟨h1, _⟩
    · exact absurd h1 (hn k)
    · exact absurd h1.symm h
theorem no_rest {L : List Str} {l : Str} (hf : ∀ j : Nat, L[j]? = some [35] → j + 1 = L.length) (hl : L[L.length - 1]? = some l) (h : ¬ l = [35]) : ∀ j : Nat, L[j]? ≠ some [35] := fun j e => by
  have := hf j e
  have e2 : L.length - 1 = j := by omega
  rw [e2, e] at hl; cases hl; exact h rfl
-- bellman/bellmanref02.Match
set_option maxHeartbeats 1600000 in
theorem rmatch_ok (w : World) (f t : Str) (hnf : f.length ≤ 1000000) (hnt : t.length ≤ 1000000) : Fn Tryd.prog 86 #[Sv f, Sv t] w fun u w' => u = .bool (matchB f t) := by
  have hX := Ext.refl Non w
  refine fn_of_W (args := [_, _]) Tryd.func86 rfl (by kernel_rfl) rfl ?_
  refine W_seq ?_
  refine W_region ?_
  refine wl_val (rn_assign (by conv => lhs; whnf)) ?_
  refine wl_nil ?_
  refine W_seq ?_
  refine W_seq ?_
  refine W_region ?_
  refine wl_val (rn_move (by conv => lhs; whnf)) ?_
  refine wl_call e_137 rfl (rfilter_ok w f hnf) ?_; intro v10 w1 hE1 hR1
  replace hX := hX.tr hE1
  subst hR1
  refine wl_val (rn_not rfl) ?_
  refine wl_val (rn_move (by conv => lhs; whnf)) ?_
  refine wl_split (d := 12) rfl (fun hg12 => ?_) (fun hg12 => ?_)
  · have hR : matchB f t = false := match_no1 (by simpa using hg12)
    refine wl_no rfl (congrArg Value.bool hg12) ?_
    refine wl_no rfl (congrArg Value.bool hg12) ?_
    refine wl_no rfl (congrArg Value.bool hg12) ?_
    refine wl_val (rn_pickT (congrArg Value.bool hg12) (by conv => lhs; whnf)) ?_
    refine wl_nil ?_
    refine W_condT rfl ?_
    refine W_seq ?_
    refine W_region ?_
    refine wl_val (rn_assign (by conv => lhs; whnf)) ?_
    refine wl_nil ?_
    refine W_ret ?_
    exact ⟨_, resR1 (res1_tmp rfl), hX, by rw [hR]; rfl⟩
  · have hF : filterB f = true := by simpa using hg12
    refine wl_yes rfl (congrArg Value.bool hg12) ?_
    refine wl_val (rn_move (by conv => lhs; whnf)) ?_
    refine wl_yes rfl (congrArg Value.bool hg12) ?_
    refine wl_call e_81 rfl (rtopic_ok w1 t hnt) ?_; intro v14 w2 hE2 hR2
    replace hX := hX.tr hE2
    subst hR2
    refine wl_yes rfl (congrArg Value.bool hg12) ?_
    refine wl_val (rn_not rfl) ?_
    refine wl_val (rn_pickF (congrArg Value.bool hg12) (by conv => lhs; whnf)) ?_
    refine wl_nil ?_
    refine W_cond rfl (fun hc0 => ?_) (fun hc0 => ?_)
    · have hR : matchB f t = false := match_no2 (by simpa using hc0)
      refine W_seq ?_
      refine W_region ?_
      refine wl_val (rn_assign (by conv => lhs; whnf)) ?_
      refine wl_nil ?_
      refine W_ret ?_
      exact ⟨_, resR1 (res1_tmp rfl), hX, by rw [hR]; rfl⟩
    · have hP : topicB t = true := by simpa using hc0
      obtain ⟨c, hc36⟩ := topic_ne hP
      have hh : headIs 36 t = decide (c = 36) := headIs_at hc36
      refine W_skip ?_
      refine W_seq ?_
      refine W_seq ?_
      refine W_region ?_
      refine wl_val (rn_move (by conv => lhs; whnf)) ?_
      refine wl_call e_138 rfl (rwild_ok w2 f hnf) ?_; intro v18 w3 hE3 hR3
      replace hX := hX.tr hE3
      subst hR3
      refine wl_val (rn_move (by conv => lhs; whnf)) ?_
      refine wl_split (d := 19) rfl (fun hg19 => ?_) (fun hg19 => ?_)
      · refine wl_yes rfl (congrArg Value.bool hg19) ?_
        refine wl_val (rn_move (by conv => lhs; whnf)) ?_
        refine wl_yes rfl (congrArg Value.bool hg19) ?_
        refine wl_val (rn_sindex us_9 rfl rfl (by omega) hc36) ?_
        refine wl_yes rfl (congrArg Value.bool hg19) ?_
        refine wl_val (rn_eql rfl rfl) ?_
        refine wl_val (rn_pickT (congrArg Value.bool hg19) (by conv => lhs; whnf)) ?_
        refine wl_nil ?_
        refine W_cond rfl (fun hc1 => ?_) (fun hc1 => ?_)
        · have hR : matchB f t = false := match_no3 (by rw [hg19, hh, ← u8_dec]; exact hc1)
          refine W_seq ?_
          refine W_region ?_
          refine wl_val (rn_assign (by conv => lhs; whnf)) ?_
          refine wl_nil ?_
          refine W_ret ?_
          exact ⟨_, resR1 (res1_tmp rfl), hX, by rw [hR]; rfl⟩
        · have hw : (wildB f && headIs 36 t) = false := by rw [hg19, hh, ← u8_dec]; exact hc1
          refine W_skip ?_
          refine W_seq ?_
          refine W_region ?_
          refine wl_val (rn_move (by conv => lhs; whnf)) ?_
          refine wl_call e_139 rfl (rlevels_ok w3 f hnf) ?_; intro v25 w4 hE4 hR4
          replace hX := hX.tr hE4
          have hL := hR4; obtain ⟨a5, c5, hv5_, _⟩ := id hL.len; rw [List.length_map] at hv5_; subst hv5_
          obtain ⟨wL, hwL⟩ : ∃ x, x = w4 := ⟨_, rfl⟩
          rw [← hwL] at hL
          have hV : Ext Non wL w4 := by rw [hwL]; exact Ext.refl _ _
          have hsl := spl_len_le 47 f
          have hl0 : 0 < (spl 47 f).length := List.length_pos_iff.2 (spl_ne 47 f)
          refine wl_val (rn_move (by conv => lhs; whnf)) ?_
          refine wl_call e_139 rfl (rlevels_ok w4 t hnt) ?_; intro v27 w5 hE5 hR5
          replace hX := hX.tr hE5
          replace hV := hV.tr hE5
          have hT := hR5; obtain ⟨a6, c6, hv6_, _⟩ := id hT.len; rw [List.length_map] at hv6_; subst hv6_
          obtain ⟨wT, hwT⟩ : ∃ x, x = w5 := ⟨_, rfl⟩
          rw [← hwT] at hT
          have hU : Ext Non wT w5 := by rw [hwT]; exact Ext.refl _ _
          have hst := spl_len_le 47 t
          have hq := match_eq hF hP hw
          have hrl : ∀ j : Nat, (spl 47 f)[j]? = some [35] → j + 1 = (spl 47 f).length := fun j e => rest_last hF e
          obtain ⟨l0, hl9⟩ : ∃ l0, (spl 47 f)[(spl 47 f).length - 1]? = some l0 := ⟨_, List.getElem?_eq_getElem (by omega)⟩
          have he1 : (((spl 47 f).length : Int) - 1).toNat = (spl 47 f).length - 1 := by omega
          obtain ⟨bb, oo, ea⟩ := hL.base (by intro e; have := congrArg List.length e; simp only [List.length_map, List.length_nil] at this; omega); subst ea
          refine wl_val (rn_assign (by conv => lhs; whnf)) ?_
          refine wl_val (rn_assign (by conv => lhs; whnf)) ?_
          refine wl_nil ?_
          refine W_seq ?_
          refine W_region ?_
          refine wl_val (rn_move (by conv => lhs; whnf)) ?_
          refine wl_val (rn_len sl_68 rfl) ?_
          refine wl_val (rn_assign (by conv => lhs; whnf)) ?_
          refine wl_nil ?_
          refine W_seq ?_
          refine W_seq ?_
          refine W_region ?_
          refine wl_val (rn_move (by conv => lhs; whnf)) ?_
          refine wl_val (rn_move (by conv => lhs; whnf)) ?_
          refine wl_val (rn_sub rfl rfl (by omega)) ?_
          refine wl_val (rn_indexAddr sl_68 rfl rfl (by omega)) ?_
          refine wl_val (rn_load p_9 rfl ((hL.ext hV (fun _ h => h)).at0 (eS_at (i := (((spl 47 f).length : Int) - 1).toNat) (by rw [he1]; exact hl9)) rfl)) ?_
          refine wl_val (rn_seql rfl rfl) ?_
          refine wl_nil ?_
          refine W_cond rfl (fun hc2 => ?_) (fun hc2 => ?_)
          · obtain rfl : l0 = [35] := of_decide_eq_true hc2
            obtain ⟨m, hm⟩ : ∃ m, m = (spl 47 f).length - 1 := ⟨_, rfl⟩
            refine W_seq ?_
            refine W_region ?_
            refine wl_val (rn_move (by conv => lhs; whnf)) ?_
            refine wl_val (rn_sub rfl rfl (by omega)) ?_
            refine wl_val (rn_assign (by conv => lhs; whnf)) ?_
            refine wl_nil ?_
            refine W_seq ?_
            refine W_region ?_
            refine wl_val (rn_move (by conv => lhs; whnf)) ?_
            refine wl_val (rn_len sl_68 rfl) ?_
            refine wl_val (rn_move (by conv => lhs; whnf)) ?_
            refine wl_val (rn_lss rfl rfl) ?_
            refine wl_nil ?_
            refine W_cond rfl (fun hc3 => ?_) (fun hc3 => ?_)
            · have hR : matchB f t = false := by rw [hq]; exact cut_small hrl (by have := of_decide_eq_true hc3; omega)
              refine W_seq ?_
              refine W_region ?_
              refine wl_val (rn_assign (by conv => lhs; whnf)) ?_
              refine wl_nil ?_
              refine W_ret ?_
              exact ⟨_, resR1 (res1_tmp rfl), hX, by rw [hR]; rfl⟩
            · have hcut : cutOk (spl 47 f) (spl 47 t) m := .inl ⟨by omega, by rw [hm]; exact hl9, by have := of_decide_eq_false hc3; omega⟩
              refine W_skip ?_
              refine W_seq ?_
              refine W_seq ?_
              refine W_region ?_
              refine wl_val (rn_assign (by conv => lhs; whnf)) ?_
              refine wl_nil ?_
              refine W_block ?_   -- block 0
              refine W_loopS (S := Nat) [5, 6, 7, 8] (fun i => [.slice (some ⟨bb, oo, none⟩) (spl 47 f).length c5, .slice a6 (spl 47 t).length c6, .int .i64 (m : Nat), .int .i64 (i : Nat)]) (fun i A => (Ext Non w A) ∧ (Ext Non wL A ∧ Ext Non wT A ∧ i ≤ m ∧ ∀ j, j < i → okAt anyS (spl 47 f) (spl 47 t) j)) (fun i => m - i) 0 ⟨rfl, rfl, (congrArg (Value.int .i64) (by omega)), rfl, trivial⟩ ⟨hX, ⟨hV, hU, Nat.zero_le _, fun j h => absurd h (Nat.not_lt_zero _)⟩⟩ ?_
              rintro τ0 i A0 ⟨hX, hI0⟩
              obtain ⟨hV, hU, hil, hall⟩ := hI0
              refine W_seq ?_
              refine W_seq ?_
              refine W_region ?_
              refine wl_val (rn_move (by conv => lhs; whnf)) ?_
              refine wl_val (rn_move (by conv => lhs; whnf)) ?_
              refine wl_val (rn_lss rfl rfl) ?_
              refine wl_nil ?_
              refine W_cond rfl (fun hc4 => ?_) (fun hc4 => ?_)
              · have hlt := of_decide_eq_true hc4; simp only [Int.ofNat_lt] at hlt
                have hml : m ≤ (spl 47 f).length ∧ m ≤ (spl 47 t).length := by rcases hcut with ⟨h1, _, h3⟩ | ⟨h1, h2, _⟩ <;> omega
                obtain ⟨l, hi⟩ : ∃ l, (spl 47 f)[i]? = some l := ⟨_, List.getElem?_eq_getElem (by omega)⟩
                obtain ⟨x, hj⟩ : ∃ x, (spl 47 t)[i]? = some x := ⟨_, List.getElem?_eq_getElem (by omega)⟩
                obtain ⟨bb2, oo2, ea2⟩ := hT.base (by intro e; have := congrArg List.length e; simp only [List.length_map, List.length_nil] at this; omega); subst ea2
                refine W_skip ?_
                refine W_seq ?_
                refine W_block ?_   -- block 1
                refine W_seq ?_
                refine W_drawE mixed ?_; intro w6 hE6
                replace hX := hX.tr hE6
                replace hV := hV.tr hE6
                replace hU := hU.tr hE6
                have hS := Ext.refl Non w6
                refine wd_take 0 _ _ rfl (by kernel_rfl) hS (yd_do fun A hA => rn_move (by conv => lhs; whnf)) ?_
                refine wd_take 1 _ _ rfl (by kernel_rfl) hS (yd_do fun A hA => rn_move (by conv => lhs; whnf)) ?_
                refine wd_take 2 _ _ rfl (by kernel_rfl) hS (yd_do fun A hA => rn_indexAddr sl_68 rfl rfl (by omega)) ?_
                refine wd_take 3 _ _ rfl (by kernel_rfl) hS (yd_do fun A hA => rn_load p_9 rfl (((hL.ext hV (fun _ h => h)).ext hA (fun _ h => h.elim)).at0 (eS_at hi) rfl)) ?_
                refine wd_take 4 _ _ rfl (by kernel_rfl) hS (yd_do fun A hA => rn_sneq rfl rfl) ?_
                refine wd_take 5 _ _ rfl (by kernel_rfl) hS (yd_do fun A hA => rn_move (by conv => lhs; whnf)) ?_
                refine wd_split (d := 56) rfl (fun hg56 => ?_) (fun hg56 => ?_)
                · have qp : ¬ l = [43] := by simpa using of_decide_eq_true hg56
                  refine wd_take 6 _ _ rfl (by kernel_rfl) hS (yd_yes rfl (congrArg Value.bool hg56) fun A hA => rn_move (by conv => lhs; whnf)) ?_
                  refine wd_take 7 _ _ rfl (by kernel_rfl) hS (yd_yes rfl (congrArg Value.bool hg56) fun A hA => rn_move (by conv => lhs; whnf)) ?_
                  refine wd_take 8 _ _ rfl (by kernel_rfl) hS (yd_yes rfl (congrArg Value.bool hg56) fun A hA => rn_indexAddr sl_68 rfl rfl (by omega)) ?_
                  refine wd_take 9 _ _ rfl (by kernel_rfl) hS (yd_yes rfl (congrArg Value.bool hg56) fun A hA => rn_load p_9 rfl (((hL.ext hV (fun _ h => h)).ext hA (fun _ h => h.elim)).at0 (eS_at hi) rfl)) ?_
                  refine wd_take 10 _ _ rfl (by kernel_rfl) hS (yd_yes rfl (congrArg Value.bool hg56) fun A hA => rn_move (by conv => lhs; whnf)) ?_
                  refine wd_take 11 _ _ rfl (by kernel_rfl) hS (yd_yes rfl (congrArg Value.bool hg56) fun A hA => rn_move (by conv => lhs; whnf)) ?_
                  refine wd_take 12 _ _ rfl (by kernel_rfl) hS (yd_yes rfl (congrArg Value.bool hg56) fun A hA => rn_indexAddr sl_68 rfl rfl (by omega)) ?_
                  refine wd_take 13 _ _ rfl (by kernel_rfl) hS (yd_yes rfl (congrArg Value.bool hg56) fun A hA => rn_load p_9 rfl (((hT.ext hU (fun _ h => h)).ext hA (fun _ h => h.elim)).at0 (eS_at hj) rfl)) ?_
                  refine wd_take 14 _ _ rfl (by kernel_rfl) hS (yd_yes rfl (congrArg Value.bool hg56) fun A hA => rn_sneq rfl rfl) ?_
                  refine wd_take 15 _ _ rfl (by kernel_rfl) hS (yd_do fun A hA => rn_pickT (congrArg Value.bool hg56) (by conv => lhs; whnf)) ?_
                  refine wd_done (by kernel_rfl) ?_ _
                  replace hX := hX.tr hS
                  replace hV := hV.tr hS
                  replace hU := hU.tr hS
                  refine W_cond rfl (fun hc5 => ?_) (fun hc5 => ?_)
                  · have hR : matchB f t = false := by rw [hq]; exact cut_no hcut hrl hlt hi hj qp (by simpa using of_decide_eq_true hc5)
                    refine W_seq ?_
                    refine W_region ?_
                    refine wl_val (rn_assign (by conv => lhs; whnf)) ?_
                    refine wl_nil ?_
                    refine W_ret ?_
                    exact ⟨_, resR1 (res1_tmp rfl), hX, by rw [hR]; rfl⟩
                  · have qk : l = x ∨ (l = [43] ∧ anyS x = true) := .inl (by simpa using of_decide_eq_false hc5)
                    refine W_skip ?_
                    refine W_region ?_
                    refine wl_val (rn_move (by conv => lhs; whnf)) ?_
                    refine wl_val (rn_add rfl rfl (by omega)) ?_
                    refine wl_val (rn_assign (by conv => lhs; whnf)) ?_
                    refine wl_nil ?_
                    exact ⟨rfl, i + 1, ⟨rfl, rfl, rfl, rfl, trivial⟩, ⟨hX, ⟨hV, hU, hlt, fun j hj2 => by rcases Nat.lt_or_ge j i with h | h; exact hall j h; (obtain rfl : j = i := by omega); exact ⟨l, x, hi, hj, qk⟩⟩⟩, by omega⟩
                · have qk : l = x ∨ (l = [43] ∧ anyS x = true) := .inr ⟨by simpa using of_decide_eq_false hg56, rfl⟩
                  refine wd_take 6 _ _ rfl (by kernel_rfl) hS (yd_no rfl (congrArg Value.bool hg56)) ?_
                  refine wd_take 7 _ _ rfl (by kernel_rfl) hS (yd_no rfl (congrArg Value.bool hg56)) ?_
                  refine wd_take 8 _ _ rfl (by kernel_rfl) hS (yd_no rfl (congrArg Value.bool hg56)) ?_
                  refine wd_take 9 _ _ rfl (by kernel_rfl) hS (yd_no rfl (congrArg Value.bool hg56)) ?_
                  refine wd_take 10 _ _ rfl (by kernel_rfl) hS (yd_no rfl (congrArg Value.bool hg56)) ?_
                  refine wd_take 11 _ _ rfl (by kernel_rfl) hS (yd_no rfl (congrArg Value.bool hg56)) ?_
                  refine wd_take 12 _ _ rfl (by kernel_rfl) hS (yd_no rfl (congrArg Value.bool hg56)) ?_
                  refine wd_take 13 _ _ rfl (by kernel_rfl) hS (yd_no rfl (congrArg Value.bool hg56)) ?_
                  refine wd_take 14 _ _ rfl (by kernel_rfl) hS (yd_no rfl (congrArg Value.bool hg56)) ?_
                  refine wd_take 15 _ _ rfl (by kernel_rfl) hS (yd_do fun A hA => rn_pickF (congrArg Value.bool hg56) (by conv => lhs; whnf)) ?_
                  refine wd_done (by kernel_rfl) ?_ _
                  replace hX := hX.tr hS
                  replace hV := hV.tr hS
                  replace hU := hU.tr hS
                  refine W_condF rfl ?_
                  refine W_skip ?_
                  refine W_region ?_
                  refine wl_val (rn_move (by conv => lhs; whnf)) ?_
                  refine wl_val (rn_add rfl rfl (by omega)) ?_
                  refine wl_val (rn_assign (by conv => lhs; whnf)) ?_
                  refine wl_nil ?_
                  exact ⟨rfl, i + 1, ⟨rfl, rfl, rfl, rfl, trivial⟩, ⟨hX, ⟨hV, hU, hlt, fun j hj2 => by rcases Nat.lt_or_ge j i with h | h; exact hall j h; (obtain rfl : j = i := by omega); exact ⟨l, x, hi, hj, qk⟩⟩⟩, by omega⟩
              · have hge := of_decide_eq_false hc4; simp only [Int.ofNat_lt, Nat.not_lt] at hge
                have hR : matchB f t = true := by rw [hq]; exact cut_yes hcut (fun j hj => hall j (by omega))
                refine W_exit ?_   -- exit 0
                refine W_seq ?_
                refine W_region ?_
                refine wl_val (rn_assign (by conv => lhs; whnf)) ?_
                refine wl_nil ?_
                refine W_ret ?_
                exact ⟨_, resR1 (res1_tmp rfl), hX, by rw [hR]; rfl⟩
          · have hne : ¬ l0 = [35] := of_decide_eq_false hc2
            obtain ⟨m, hm⟩ : ∃ m, m = (spl 47 f).length := ⟨_, rfl⟩
            refine W_seq ?_
            refine W_region ?_
            refine wl_val (rn_move (by conv => lhs; whnf)) ?_
            refine wl_val (rn_len sl_68 rfl) ?_
            refine wl_val (rn_move (by conv => lhs; whnf)) ?_
            refine wl_val (rn_neq rfl rfl) ?_
            refine wl_nil ?_
            refine W_cond rfl (fun hc6 => ?_) (fun hc6 => ?_)
            · have hR : matchB f t = false := by rw [hq]; exact cut_len (no_rest hrl hl9 hne) (by have := of_decide_eq_true hc6; simp only [ne_eq, Int.natCast_inj] at this; exact this)
              refine W_seq ?_
              refine W_region ?_
              refine wl_val (rn_assign (by conv => lhs; whnf)) ?_
              refine wl_nil ?_
              refine W_ret ?_
              exact ⟨_, resR1 (res1_tmp rfl), hX, by rw [hR]; rfl⟩
            · have hcut : cutOk (spl 47 f) (spl 47 t) m := .inr ⟨hm, by have := of_decide_eq_false hc6; simp only [ne_eq, Int.natCast_inj, Classical.not_not] at this; omega, no_rest hrl hl9 hne⟩
              refine W_skip ?_
              refine W_seq ?_
              refine W_seq ?_
              refine W_region ?_
              refine wl_val (rn_assign (by conv => lhs; whnf)) ?_
              refine wl_nil ?_
              refine W_block ?_   -- block 0
              refine W_loopS (S := Nat) [5, 6, 7, 8] (fun i => [.slice (some ⟨bb, oo, none⟩) (spl 47 f).length c5, .slice a6 (spl 47 t).length c6, .int .i64 (m : Nat), .int .i64 (i : Nat)]) (fun i A => (Ext Non w A) ∧ (Ext Non wL A ∧ Ext Non wT A ∧ i ≤ m ∧ ∀ j, j < i → okAt anyS (spl 47 f) (spl 47 t) j)) (fun i => m - i) 0 ⟨rfl, rfl, (congrArg (Value.int .i64) (by omega)), rfl, trivial⟩ ⟨hX, ⟨hV, hU, Nat.zero_le _, fun j h => absurd h (Nat.not_lt_zero _)⟩⟩ ?_
              rintro τ0 i A0 ⟨hX, hI0⟩
              obtain ⟨hV, hU, hil, hall⟩ := hI0
              refine W_seq ?_
              refine W_seq ?_
              refine W_region ?_
              refine wl_val (rn_move (by conv => lhs; whnf)) ?_
              refine wl_val (rn_move (by conv => lhs; whnf)) ?_
              refine wl_val (rn_lss rfl rfl) ?_
              refine wl_nil ?_
              refine W_cond rfl (fun hc4 => ?_) (fun hc4 => ?_)
              · have hlt := of_decide_eq_true hc4; simp only [Int.ofNat_lt] at hlt
                have hml : m ≤ (spl 47 f).length ∧ m ≤ (spl 47 t).length := by rcases hcut with ⟨h1, _, h3⟩ | ⟨h1, h2, _⟩ <;> omega
                obtain ⟨l, hi⟩ : ∃ l, (spl 47 f)[i]? = some l := ⟨_, List.getElem?_eq_getElem (by omega)⟩
                obtain ⟨x, hj⟩ : ∃ x, (spl 47 t)[i]? = some x := ⟨_, List.getElem?_eq_getElem (by omega)⟩
                obtain ⟨bb2, oo2, ea2⟩ := hT.base (by intro e; have := congrArg List.length e; simp only [List.length_map, List.length_nil] at this; omega); subst ea2
                refine W_skip ?_
                refine W_seq ?_
                refine W_block ?_   -- block 1
                refine W_seq ?_
                refine W_drawE mixed ?_; intro w7 hE7
                replace hX := hX.tr hE7
                replace hV := hV.tr hE7
                replace hU := hU.tr hE7
                have hS := Ext.refl Non w7
                refine wd_take 0 _ _ rfl (by kernel_rfl) hS (yd_do fun A hA => rn_move (by conv => lhs; whnf)) ?_
                refine wd_take 1 _ _ rfl (by kernel_rfl) hS (yd_do fun A hA => rn_move (by conv => lhs; whnf)) ?_
                refine wd_take 2 _ _ rfl (by kernel_rfl) hS (yd_do fun A hA => rn_indexAddr sl_68 rfl rfl (by omega)) ?_
                refine wd_take 3 _ _ rfl (by kernel_rfl) hS (yd_do fun A hA => rn_load p_9 rfl (((hL.ext hV (fun _ h => h)).ext hA (fun _ h => h.elim)).at0 (eS_at hi) rfl)) ?_
                refine wd_take 4 _ _ rfl (by kernel_rfl) hS (yd_do fun A hA => rn_sneq rfl rfl) ?_
                refine wd_take 5 _ _ rfl (by kernel_rfl) hS (yd_do fun A hA => rn_move (by conv => lhs; whnf)) ?_
                refine wd_split (d := 56) rfl (fun hg56 => ?_) (fun hg56 => ?_)
                · have qp : ¬ l = [43] := by simpa using of_decide_eq_true hg56
                  refine wd_take 6 _ _ rfl (by kernel_rfl) hS (yd_yes rfl (congrArg Value.bool hg56) fun A hA => rn_move (by conv => lhs; whnf)) ?_
                  refine wd_take 7 _ _ rfl (by kernel_rfl) hS (yd_yes rfl (congrArg Value.bool hg56) fun A hA => rn_move (by conv => lhs; whnf)) ?_
                  refine wd_take 8 _ _ rfl (by kernel_rfl) hS (yd_yes rfl (congrArg Value.bool hg56) fun A hA => rn_indexAddr sl_68 rfl rfl (by omega)) ?_
                  refine wd_take 9 _ _ rfl (by kernel_rfl) hS (yd_yes rfl (congrArg Value.bool hg56) fun A hA => rn_load p_9 rfl (((hL.ext hV (fun _ h => h)).ext hA (fun _ h => h.elim)).at0 (eS_at hi) rfl)) ?_
                  refine wd_take 10 _ _ rfl (by kernel_rfl) hS (yd_yes rfl (congrArg Value.bool hg56) fun A hA => rn_move (by conv => lhs; whnf)) ?_
                  refine wd_take 11 _ _ rfl (by kernel_rfl) hS (yd_yes rfl (congrArg Value.bool hg56) fun A hA => rn_move (by conv => lhs; whnf)) ?_
                  refine wd_take 12 _ _ rfl (by kernel_rfl) hS (yd_yes rfl (congrArg Value.bool hg56) fun A hA => rn_indexAddr sl_68 rfl rfl (by omega)) ?_
                  refine wd_take 13 _ _ rfl (by kernel_rfl) hS (yd_yes rfl (congrArg Value.bool hg56) fun A hA => rn_load p_9 rfl (((hT.ext hU (fun _ h => h)).ext hA (fun _ h => h.elim)).at0 (eS_at hj) rfl)) ?_
                  refine wd_take 14 _ _ rfl (by kernel_rfl) hS (yd_yes rfl (congrArg Value.bool hg56) fun A hA => rn_sneq rfl rfl) ?_
                  refine wd_take 15 _ _ rfl (by kernel_rfl) hS (yd_do fun A hA => rn_pickT (congrArg Value.bool hg56) (by conv => lhs; whnf)) ?_
                  refine wd_done (by kernel_rfl) ?_ _
                  replace hX := hX.tr hS
                  replace hV := hV.tr hS
                  replace hU := hU.tr hS
                  refine W_cond rfl (fun hc5 => ?_) (fun hc5 => ?_)
                  · have hR : matchB f t = false := by rw [hq]; exact cut_no hcut hrl hlt hi hj qp (by simpa using of_decide_eq_true hc5)
                    refine W_seq ?_
                    refine W_region ?_
                    refine wl_val (rn_assign (by conv => lhs; whnf)) ?_
                    refine wl_nil ?_
                    refine W_ret ?_
                    exact ⟨_, resR1 (res1_tmp rfl), hX, by rw [hR]; rfl⟩
                  · have qk : l = x ∨ (l = [43] ∧ anyS x = true) := .inl (by simpa using of_decide_eq_false hc5)
                    refine W_skip ?_
                    refine W_region ?_
                    refine wl_val (rn_move (by conv => lhs; whnf)) ?_
                    refine wl_val (rn_add rfl rfl (by omega)) ?_
                    refine wl_val (rn_assign (by conv => lhs; whnf)) ?_
                    refine wl_nil ?_
                    exact ⟨rfl, i + 1, ⟨rfl, rfl, rfl, rfl, trivial⟩, ⟨hX, ⟨hV, hU, hlt, fun j hj2 => by rcases Nat.lt_or_ge j i with h | h; exact hall j h; (obtain rfl : j = i := by omega); exact ⟨l, x, hi, hj, qk⟩⟩⟩, by omega⟩
                · have qk : l = x ∨ (l = [43] ∧ anyS x = true) := .inr ⟨by simpa using of_decide_eq_false hg56, rfl⟩
                  refine wd_take 6 _ _ rfl (by kernel_rfl) hS (yd_no rfl (congrArg Value.bool hg56)) ?_
                  refine wd_take 7 _ _ rfl (by kernel_rfl) hS (yd_no rfl (congrArg Value.bool hg56)) ?_
                  refine wd_take 8 _ _ rfl (by kernel_rfl) hS (yd_no rfl (congrArg Value.bool hg56)) ?_
                  refine wd_take 9 _ _ rfl (by kernel_rfl) hS (yd_no rfl (congrArg Value.bool hg56)) ?_
                  refine wd_take 10 _ _ rfl (by kernel_rfl) hS (yd_no rfl (congrArg Value.bool hg56)) ?_
                  refine wd_take 11 _ _ rfl (by kernel_rfl) hS (yd_no rfl (congrArg Value.bool hg56)) ?_
                  refine wd_take 12 _ _ rfl (by kernel_rfl) hS (yd_no rfl (congrArg Value.bool hg56)) ?_
                  refine wd_take 13 _ _ rfl (by kernel_rfl) hS (yd_no rfl (congrArg Value.bool hg56)) ?_
                  refine wd_take 14 _ _ rfl (by kernel_rfl) hS (yd_no rfl (congrArg Value.bool hg56)) ?_
                  refine wd_take 15 _ _ rfl (by kernel_rfl) hS (yd_do fun A hA => rn_pickF (congrArg Value.bool hg56) (by conv => lhs; whnf)) ?_
                  refine wd_done (by kernel_rfl) ?_ _
                  replace hX := hX.tr hS
                  replace hV := hV.tr hS
                  replace hU := hU.tr hS
                  refine W_condF rfl ?_
                  refine W_skip ?_
                  refine W_region ?_
                  refine wl_val (rn_move (by conv => lhs; whnf)) ?_
                  refine wl_val (rn_add rfl rfl (by omega)) ?_
                  refine wl_val (rn_assign (by conv => lhs; whnf)) ?_
                  refine wl_nil ?_
                  exact ⟨rfl, i + 1, ⟨rfl, rfl, rfl, rfl, trivial⟩, ⟨hX, ⟨hV, hU, hlt, fun j hj2 => by rcases Nat.lt_or_ge j i with h | h; exact hall j h; (obtain rfl : j = i := by omega); exact ⟨l, x, hi, hj, qk⟩⟩⟩, by omega⟩
              · have hge := of_decide_eq_false hc4; simp only [Int.ofNat_lt, Nat.not_lt] at hge
                have hR : matchB f t = true := by rw [hq]; exact cut_yes hcut (fun j hj => hall j (by omega))
                refine W_exit ?_   -- exit 0
                refine W_seq ?_
                refine W_region ?_
                refine wl_val (rn_assign (by conv => lhs; whnf)) ?_
                refine wl_nil ?_
                refine W_ret ?_
                exact ⟨_, resR1 (res1_tmp rfl), hX, by rw [hR]; rfl⟩
      · have hw : (wildB f && headIs 36 t) = false := by rw [hg19]; rfl
        refine wl_no rfl (congrArg Value.bool hg19) ?_
        refine wl_no rfl (congrArg Value.bool hg19) ?_
        refine wl_no rfl (congrArg Value.bool hg19) ?_
        refine wl_val (rn_pickF (congrArg Value.bool hg19) (by conv => lhs; whnf)) ?_
        refine wl_nil ?_
        refine W_condF rfl ?_
        refine W_skip ?_
        refine W_seq ?_
        refine W_region ?_
        refine wl_val (rn_move (by conv => lhs; whnf)) ?_
        refine wl_call e_139 rfl (rlevels_ok w3 f hnf) ?_; intro v25 w8 hE8 hR8
        replace hX := hX.tr hE8
        have hL := hR8; obtain ⟨a5, c5, hv5_, _⟩ := id hL.len; rw [List.length_map] at hv5_; subst hv5_
        obtain ⟨wL, hwL⟩ : ∃ x, x = w8 := ⟨_, rfl⟩
        rw [← hwL] at hL
        have hV : Ext Non wL w8 := by rw [hwL]; exact Ext.refl _ _
        have hsl := spl_len_le 47 f
        have hl0 : 0 < (spl 47 f).length := List.length_pos_iff.2 (spl_ne 47 f)
        refine wl_val (rn_move (by conv => lhs; whnf)) ?_
        refine wl_call e_139 rfl (rlevels_ok w8 t hnt) ?_; intro v27 w9 hE9 hR9
        replace hX := hX.tr hE9
        replace hV := hV.tr hE9
        have hT := hR9; obtain ⟨a6, c6, hv6_, _⟩ := id hT.len; rw [List.length_map] at hv6_; subst hv6_
        obtain ⟨wT, hwT⟩ : ∃ x, x = w9 := ⟨_, rfl⟩
        rw [← hwT] at hT
        have hU : Ext Non wT w9 := by rw [hwT]; exact Ext.refl _ _
        have hst := spl_len_le 47 t
        have hq := match_eq hF hP hw
        have hrl : ∀ j : Nat, (spl 47 f)[j]? = some [35] → j + 1 = (spl 47 f).length := fun j e => rest_last hF e
        obtain ⟨l0, hl9⟩ : ∃ l0, (spl 47 f)[(spl 47 f).length - 1]? = some l0 := ⟨_, List.getElem?_eq_getElem (by omega)⟩
        have he1 : (((spl 47 f).length : Int) - 1).toNat = (spl 47 f).length - 1 := by omega
        obtain ⟨bb, oo, ea⟩ := hL.base (by intro e; have := congrArg List.length e; simp only [List.length_map, List.length_nil] at this; omega); subst ea
        refine wl_val (rn_assign (by conv => lhs; whnf)) ?_
        refine wl_val (rn_assign (by conv => lhs; whnf)) ?_
        refine wl_nil ?_
        refine W_seq ?_
        refine W_region ?_
        refine wl_val (rn_move (by conv => lhs; whnf)) ?_
        refine wl_val (rn_len sl_68 rfl) ?_
        refine wl_val (rn_assign (by conv => lhs; whnf)) ?_
        refine wl_nil ?_
        refine W_seq ?_
        refine W_seq ?_
        refine W_region ?_
        refine wl_val (rn_move (by conv => lhs; whnf)) ?_
        refine wl_val (rn_move (by conv => lhs; whnf)) ?_
        refine wl_val (rn_sub rfl rfl (by omega)) ?_
        refine wl_val (rn_indexAddr sl_68 rfl rfl (by omega)) ?_
        refine wl_val (rn_load p_9 rfl ((hL.ext hV (fun _ h => h)).at0 (eS_at (i := (((spl 47 f).length : Int) - 1).toNat) (by rw [he1]; exact hl9)) rfl)) ?_
        refine wl_val (rn_seql rfl rfl) ?_
        refine wl_nil ?_
        refine W_cond rfl (fun hc2 => ?_) (fun hc2 => ?_)
        · obtain rfl : l0 = [35] := of_decide_eq_true hc2
          obtain ⟨m, hm⟩ : ∃ m, m = (spl 47 f).length - 1 := ⟨_, rfl⟩
          refine W_seq ?_
          refine W_region ?_
          refine wl_val (rn_move (by conv => lhs; whnf)) ?_
          refine wl_val (rn_sub rfl rfl (by omega)) ?_
          refine wl_val (rn_assign (by conv => lhs; whnf)) ?_
          refine wl_nil ?_
          refine W_seq ?_
          refine W_region ?_
          refine wl_val (rn_move (by conv => lhs; whnf)) ?_
          refine wl_val (rn_len sl_68 rfl) ?_
          refine wl_val (rn_move (by conv => lhs; whnf)) ?_
          refine wl_val (rn_lss rfl rfl) ?_
          refine wl_nil ?_
          refine W_cond rfl (fun hc3 => ?_) (fun hc3 => ?_)
          · have hR : matchB f t = false := by rw [hq]; exact cut_small hrl (by have := of_decide_eq_true hc3; omega)
            refine W_seq ?_
            refine W_region ?_
            refine wl_val (rn_assign (by conv => lhs; whnf)) ?_
            refine wl_nil ?_
            refine W_ret ?_
            exact ⟨_, resR1 (res1_tmp rfl), hX, by rw [hR]; rfl⟩
          · have hcut : cutOk (spl 47 f) (spl 47 t) m := .inl ⟨by omega, by rw [hm]; exact hl9, by have := of_decide_eq_false hc3; omega⟩
            refine W_skip ?_
            refine W_seq ?_
            refine W_seq ?_
            refine W_region ?_
            refine wl_val (rn_assign (by conv => lhs; whnf)) ?_
            refine wl_nil ?_
            refine W_block ?_   -- block 0
            refine W_loopS (S := Nat) [5, 6, 7, 8] (fun i => [.slice (some ⟨bb, oo, none⟩) (spl 47 f).length c5, .slice a6 (spl 47 t).length c6, .int .i64 (m : Nat), .int .i64 (i : Nat)]) (fun i A => (Ext Non w A) ∧ (Ext Non wL A ∧ Ext Non wT A ∧ i ≤ m ∧ ∀ j, j < i → okAt anyS (spl 47 f) (spl 47 t) j)) (fun i => m - i) 0 ⟨rfl, rfl, (congrArg (Value.int .i64) (by omega)), rfl, trivial⟩ ⟨hX, ⟨hV, hU, Nat.zero_le _, fun j h => absurd h (Nat.not_lt_zero _)⟩⟩ ?_
            rintro τ0 i A0 ⟨hX, hI0⟩
            obtain ⟨hV, hU, hil, hall⟩ := hI0
            refine W_seq ?_
            refine W_seq ?_
            refine W_region ?_
            refine wl_val (rn_move (by conv => lhs; whnf)) ?_
            refine wl_val (rn_move (by conv => lhs; whnf)) ?_
            refine wl_val (rn_lss rfl rfl) ?_
            refine wl_nil ?_
            refine W_cond rfl (fun hc4 => ?_) (fun hc4 => ?_)
            · have hlt := of_decide_eq_true hc4; simp only [Int.ofNat_lt] at hlt
              have hml : m ≤ (spl 47 f).length ∧ m ≤ (spl 47 t).length := by rcases hcut with ⟨h1, _, h3⟩ | ⟨h1, h2, _⟩ <;> omega
              obtain ⟨l, hi⟩ : ∃ l, (spl 47 f)[i]? = some l := ⟨_, List.getElem?_eq_getElem (by omega)⟩
              obtain ⟨x, hj⟩ : ∃ x, (spl 47 t)[i]? = some x := ⟨_, List.getElem?_eq_getElem (by omega)⟩
              obtain ⟨bb2, oo2, ea2⟩ := hT.base (by intro e; have := congrArg List.length e; simp only [List.length_map, List.length_nil] at this; omega); subst ea2
              refine W_skip ?_
              refine W_seq ?_
              refine W_block ?_   -- block 1
              refine W_seq ?_
              refine W_drawE mixed ?_; intro w10 hE10
              replace hX := hX.tr hE10
              replace hV := hV.tr hE10
              replace hU := hU.tr hE10
              have hS := Ext.refl Non w10
              refine wd_take 0 _ _ rfl (by kernel_rfl) hS (yd_do fun A hA => rn_move (by conv => lhs; whnf)) ?_
              refine wd_take 1 _ _ rfl (by kernel_rfl) hS (yd_do fun A hA => rn_move (by conv => lhs; whnf)) ?_
              refine wd_take 2 _ _ rfl (by kernel_rfl) hS (yd_do fun A hA => rn_indexAddr sl_68 rfl rfl (by omega)) ?_
              refine wd_take 3 _ _ rfl (by kernel_rfl) hS (yd_do fun A hA => rn_load p_9 rfl (((hL.ext hV (fun _ h => h)).ext hA (fun _ h => h.elim)).at0 (eS_at hi) rfl)) ?_
              refine wd_take 4 _ _ rfl (by kernel_rfl) hS (yd_do fun A hA => rn_sneq rfl rfl) ?_
              refine wd_take 5 _ _ rfl (by kernel_rfl) hS (yd_do fun A hA => rn_move (by conv => lhs; whnf)) ?_
              refine wd_split (d := 56) rfl (fun hg56 => ?_) (fun hg56 => ?_)
              · have qp : ¬ l = [43] := by simpa using of_decide_eq_true hg56
                refine wd_take 6 _ _ rfl (by kernel_rfl) hS (yd_yes rfl (congrArg Value.bool hg56) fun A hA => rn_move (by conv => lhs; whnf)) ?_
                refine wd_take 7 _ _ rfl (by kernel_rfl) hS (yd_yes rfl (congrArg Value.bool hg56) fun A hA => rn_move (by conv => lhs; whnf)) ?_
                refine wd_take 8 _ _ rfl (by kernel_rfl) hS (yd_yes rfl (congrArg Value.bool hg56) fun A hA => rn_indexAddr sl_68 rfl rfl (by omega)) ?_
                refine wd_take 9 _ _ rfl (by kernel_rfl) hS (yd_yes rfl (congrArg Value.bool hg56) fun A hA => rn_load p_9 rfl (((hL.ext hV (fun _ h => h)).ext hA (fun _ h => h.elim)).at0 (eS_at hi) rfl)) ?_
                refine wd_take 10 _ _ rfl (by kernel_rfl) hS (yd_yes rfl (congrArg Value.bool hg56) fun A hA => rn_move (by conv => lhs; whnf)) ?_
                refine wd_take 11 _ _ rfl (by kernel_rfl) hS (yd_yes rfl (congrArg Value.bool hg56) fun A hA => rn_move (by conv => lhs; whnf)) ?_
                refine wd_take 12 _ _ rfl (by kernel_rfl) hS (yd_yes rfl (congrArg Value.bool hg56) fun A hA => rn_indexAddr sl_68 rfl rfl (by omega)) ?_
                refine wd_take 13 _ _ rfl (by kernel_rfl) hS (yd_yes rfl (congrArg Value.bool hg56) fun A hA => rn_load p_9 rfl (((hT.ext hU (fun _ h => h)).ext hA (fun _ h => h.elim)).at0 (eS_at hj) rfl)) ?_
                refine wd_take 14 _ _ rfl (by kernel_rfl) hS (yd_yes rfl (congrArg Value.bool hg56) fun A hA => rn_sneq rfl rfl) ?_
                refine wd_take 15 _ _ rfl (by kernel_rfl) hS (yd_do fun A hA => rn_pickT (congrArg Value.bool hg56) (by conv => lhs; whnf)) ?_
                refine wd_done (by kernel_rfl) ?_ _
                replace hX := hX.tr hS
                replace hV := hV.tr hS
                replace hU := hU.tr hS
                refine W_cond rfl (fun hc5 => ?_) (fun hc5 => ?_)
                · have hR : matchB f t = false := by rw [hq]; exact cut_no hcut hrl hlt hi hj qp (by simpa using of_decide_eq_true hc5)
                  refine W_seq ?_
                  refine W_region ?_
                  refine wl_val (rn_assign (by conv => lhs; whnf)) ?_
                  refine wl_nil ?_
                  refine W_ret ?_
                  exact ⟨_, resR1 (res1_tmp rfl), hX, by rw [hR]; rfl⟩
                · have qk : l = x ∨ (l = [43] ∧ anyS x = true) := .inl (by simpa using of_decide_eq_false hc5)
                  refine W_skip ?_
                  refine W_region ?_
                  refine wl_val (rn_move (by conv => lhs; whnf)) ?_
                  refine wl_val (rn_add rfl rfl (by omega)) ?_
                  refine wl_val (rn_assign (by conv => lhs; whnf)) ?_
                  refine wl_nil ?_
                  exact ⟨rfl, i + 1, ⟨rfl, rfl, rfl, rfl, trivial⟩, ⟨hX, ⟨hV, hU, hlt, fun j hj2 => by rcases Nat.lt_or_ge j i with h | h; exact hall j h; (obtain rfl : j = i := by omega); exact ⟨l, x, hi, hj, qk⟩⟩⟩, by omega⟩
              · have qk : l = x ∨ (l = [43] ∧ anyS x = true) := .inr ⟨by simpa using of_decide_eq_false hg56, rfl⟩
                refine wd_take 6 _ _ rfl (by kernel_rfl) hS (yd_no rfl (congrArg Value.bool hg56)) ?_
                refine wd_take 7 _ _ rfl (by kernel_rfl) hS (yd_no rfl (congrArg Value.bool hg56)) ?_
                refine wd_take 8 _ _ rfl (by kernel_rfl) hS (yd_no rfl (congrArg Value.bool hg56)) ?_
                refine wd_take 9 _ _ rfl (by kernel_rfl) hS (yd_no rfl (congrArg Value.bool hg56)) ?_
                refine wd_take 10 _ _ rfl (by kernel_rfl) hS (yd_no rfl (congrArg Value.bool hg56)) ?_
                refine wd_take 11 _ _ rfl (by kernel_rfl) hS (yd_no rfl (congrArg Value.bool hg56)) ?_
                refine wd_take 12 _ _ rfl (by kernel_rfl) hS (yd_no rfl (congrArg Value.bool hg56)) ?_
                refine wd_take 13 _ _ rfl (by kernel_rfl) hS (yd_no rfl (congrArg Value.bool hg56)) ?_
                refine wd_take 14 _ _ rfl (by kernel_rfl) hS (yd_no rfl (congrArg Value.bool hg56)) ?_
                refine wd_take 15 _ _ rfl (by kernel_rfl) hS (yd_do fun A hA => rn_pickF (congrArg Value.bool hg56) (by conv => lhs; whnf)) ?_
                refine wd_done (by kernel_rfl) ?_ _
                replace hX := hX.tr hS
                replace hV := hV.tr hS
                replace hU := hU.tr hS
                refine W_condF rfl ?_
                refine W_skip ?_
                refine W_region ?_
                refine wl_val (rn_move (by conv => lhs; whnf)) ?_
                refine wl_val (rn_add rfl rfl (by omega)) ?_
                refine wl_val (rn_assign (by conv => lhs; whnf)) ?_
                refine wl_nil ?_
                exact ⟨rfl, i + 1, ⟨rfl, rfl, rfl, rfl, trivial⟩, ⟨hX, ⟨hV, hU, hlt, fun j hj2 => by rcases Nat.lt_or_ge j i with h | h; exact hall j h; (obtain rfl : j = i := by omega); exact ⟨l, x, hi, hj, qk⟩⟩⟩, by omega⟩
            · have hge := of_decide_eq_false hc4; simp only [Int.ofNat_lt, Nat.not_lt] at hge
              have hR : matchB f t = true := by rw [hq]; exact cut_yes hcut (fun j hj => hall j (by omega))
              refine W_exit ?_   -- exit 0
              refine W_seq ?_
              refine W_region ?_
              refine wl_val (rn_assign (by conv => lhs; whnf)) ?_
              refine wl_nil ?_
              refine W_ret ?_
              exact ⟨_, resR1 (res1_tmp rfl), hX, by rw [hR]; rfl⟩
        · have hne : ¬ l0 = [35] := of_decide_eq_false hc2
          obtain ⟨m, hm⟩ : ∃ m, m = (spl 47 f).length := ⟨_, rfl⟩
          refine W_seq ?_
          refine W_region ?_
          refine wl_val (rn_move (by conv => lhs; whnf)) ?_
          refine wl_val (rn_len sl_68 rfl) ?_
          refine wl_val (rn_move (by conv => lhs; whnf)) ?_
          refine wl_val (rn_neq rfl rfl) ?_
          refine wl_nil ?_
          refine W_cond rfl (fun hc6 => ?_) (fun hc6 => ?_)
          · have hR : matchB f t = false := by rw [hq]; exact cut_len (no_rest hrl hl9 hne) (by have := of_decide_eq_true hc6; simp only [ne_eq, Int.natCast_inj] at this; exact this)
            refine W_seq ?_
            refine W_region ?_
            refine wl_val (rn_assign (by conv => lhs; whnf)) ?_
            refine wl_nil ?_
            refine W_ret ?_
            exact ⟨_, resR1 (res1_tmp rfl), hX, by rw [hR]; rfl⟩
          · have hcut : cutOk (spl 47 f) (spl 47 t) m := .inr ⟨hm, by have := of_decide_eq_false hc6; simp only [ne_eq, Int.natCast_inj, Classical.not_not] at this; omega, no_rest hrl hl9 hne⟩
            refine W_skip ?_
            refine W_seq ?_
            refine W_seq ?_
            refine W_region ?_
            refine wl_val (rn_assign (by conv => lhs; whnf)) ?_
            refine wl_nil ?_
            refine W_block ?_   -- block 0
            refine W_loopS (S := Nat) [5, 6, 7, 8] (fun i => [.slice (some ⟨bb, oo, none⟩) (spl 47 f).length c5, .slice a6 (spl 47 t).length c6, .int .i64 (m : Nat), .int .i64 (i : Nat)]) (fun i A => (Ext Non w A) ∧ (Ext Non wL A ∧ Ext Non wT A ∧ i ≤ m ∧ ∀ j, j < i → okAt anyS (spl 47 f) (spl 47 t) j)) (fun i => m - i) 0 ⟨rfl, rfl, (congrArg (Value.int .i64) (by omega)), rfl, trivial⟩ ⟨hX, ⟨hV, hU, Nat.zero_le _, fun j h => absurd h (Nat.not_lt_zero _)⟩⟩ ?_
            rintro τ0 i A0 ⟨hX, hI0⟩
            obtain ⟨hV, hU, hil, hall⟩ := hI0
            refine W_seq ?_
            refine W_seq ?_
            refine W_region ?_
            refine wl_val (rn_move (by conv => lhs; whnf)) ?_
            refine wl_val (rn_move (by conv => lhs; whnf)) ?_
            refine wl_val (rn_lss rfl rfl) ?_
            refine wl_nil ?_
            refine W_cond rfl (fun hc4 => ?_) (fun hc4 => ?_)
            · have hlt := of_decide_eq_true hc4; simp only [Int.ofNat_lt] at hlt
              have hml : m ≤ (spl 47 f).length ∧ m ≤ (spl 47 t).length := by rcases hcut with ⟨h1, _, h3⟩ | ⟨h1, h2, _⟩ <;> omega
              obtain ⟨l, hi⟩ : ∃ l, (spl 47 f)[i]? = some l := ⟨_, List.getElem?_eq_getElem (by omega)⟩
              obtain ⟨x, hj⟩ : ∃ x, (spl 47 t)[i]? = some x := ⟨_, List.getElem?_eq_getElem (by omega)⟩
              obtain ⟨bb2, oo2, ea2⟩ := hT.base (by intro e; have := congrArg List.length e; simp only [List.length_map, List.length_nil] at this; omega); subst ea2
              refine W_skip ?_
              refine W_seq ?_
              refine W_block ?_   -- block 1
              refine W_seq ?_
              refine W_drawE mixed ?_; intro w11 hE11
              replace hX := hX.tr hE11
              replace hV := hV.tr hE11
              replace hU := hU.tr hE11
              have hS := Ext.refl Non w11
              refine wd_take 0 _ _ rfl (by kernel_rfl) hS (yd_do fun A hA => rn_move (by conv => lhs; whnf)) ?_
              refine wd_take 1 _ _ rfl (by kernel_rfl) hS (yd_do fun A hA => rn_move (by conv => lhs; whnf)) ?_
              refine wd_take 2 _ _ rfl (by kernel_rfl) hS (yd_do fun A hA => rn_indexAddr sl_68 rfl rfl (by omega)) ?_
              refine wd_take 3 _ _ rfl (by kernel_rfl) hS (yd_do fun A hA => rn_load p_9 rfl (((hL.ext hV (fun _ h => h)).ext hA (fun _ h => h.elim)).at0 (eS_at hi) rfl)) ?_
              refine wd_take 4 _ _ rfl (by kernel_rfl) hS (yd_do fun A hA => rn_sneq rfl rfl) ?_
              refine wd_take 5 _ _ rfl (by kernel_rfl) hS (yd_do fun A hA => rn_move (by conv => lhs; whnf)) ?_
              refine wd_split (d := 56) rfl (fun hg56 => ?_) (fun hg56 => ?_)
              · have qp : ¬ l = [43] := by simpa using of_decide_eq_true hg56
                refine wd_take 6 _ _ rfl (by kernel_rfl) hS (yd_yes rfl (congrArg Value.bool hg56) fun A hA => rn_move (by conv => lhs; whnf)) ?_
                refine wd_take 7 _ _ rfl (by kernel_rfl) hS (yd_yes rfl (congrArg Value.bool hg56) fun A hA => rn_move (by conv => lhs; whnf)) ?_
                refine wd_take 8 _ _ rfl (by kernel_rfl) hS (yd_yes rfl (congrArg Value.bool hg56) fun A hA => rn_indexAddr sl_68 rfl rfl (by omega)) ?_
                refine wd_take 9 _ _ rfl (by kernel_rfl) hS (yd_yes rfl (congrArg Value.bool hg56) fun A hA => rn_load p_9 rfl (((hL.ext hV (fun _ h => h)).ext hA (fun _ h => h.elim)).at0 (eS_at hi) rfl)) ?_
                refine wd_take 10 _ _ rfl (by kernel_rfl) hS (yd_yes rfl (congrArg Value.bool hg56) fun A hA => rn_move (by conv => lhs; whnf)) ?_
                refine wd_take 11 _ _ rfl (by kernel_rfl) hS (yd_yes rfl (congrArg Value.bool hg56) fun A hA => rn_move (by conv => lhs; whnf)) ?_
                refine wd_take 12 _ _ rfl (by kernel_rfl) hS (yd_yes rfl (congrArg Value.bool hg56) fun A hA => rn_indexAddr sl_68 rfl rfl (by omega)) ?_
                refine wd_take 13 _ _ rfl (by kernel_rfl) hS (yd_yes rfl (congrArg Value.bool hg56) fun A hA => rn_load p_9 rfl (((hT.ext hU (fun _ h => h)).ext hA (fun _ h => h.elim)).at0 (eS_at hj) rfl)) ?_
                refine wd_take 14 _ _ rfl (by kernel_rfl) hS (yd_yes rfl (congrArg Value.bool hg56) fun A hA => rn_sneq rfl rfl) ?_
                refine wd_take 15 _ _ rfl (by kernel_rfl) hS (yd_do fun A hA => rn_pickT (congrArg Value.bool hg56) (by conv => lhs; whnf)) ?_
                refine wd_done (by kernel_rfl) ?_ _
                replace hX := hX.tr hS
                replace hV := hV.tr hS
                replace hU := hU.tr hS
                refine W_cond rfl (fun hc5 => ?_) (fun hc5 => ?_)
                · have hR : matchB f t = false := by rw [hq]; exact cut_no hcut hrl hlt hi hj qp (by simpa using of_decide_eq_true hc5)
                  refine W_seq ?_
                  refine W_region ?_
                  refine wl_val (rn_assign (by conv => lhs; whnf)) ?_
                  refine wl_nil ?_
                  refine W_ret ?_
                  exact ⟨_, resR1 (res1_tmp rfl), hX, by rw [hR]; rfl⟩
                · have qk : l = x ∨ (l = [43] ∧ anyS x = true) := .inl (by simpa using of_decide_eq_false hc5)
                  refine W_skip ?_
                  refine W_region ?_
                  refine wl_val (rn_move (by conv => lhs; whnf)) ?_
                  refine wl_val (rn_add rfl rfl (by omega)) ?_
                  refine wl_val (rn_assign (by conv => lhs; whnf)) ?_
                  refine wl_nil ?_
                  exact ⟨rfl, i + 1, ⟨rfl, rfl, rfl, rfl, trivial⟩, ⟨hX, ⟨hV, hU, hlt, fun j hj2 => by rcases Nat.lt_or_ge j i with h | h; exact hall j h; (obtain rfl : j = i := by omega); exact ⟨l, x, hi, hj, qk⟩⟩⟩, by omega⟩
              · have qk : l = x ∨ (l = [43] ∧ anyS x = true) := .inr ⟨by simpa using of_decide_eq_false hg56, rfl⟩
                refine wd_take 6 _ _ rfl (by kernel_rfl) hS (yd_no rfl (congrArg Value.bool hg56)) ?_
                refine wd_take 7 _ _ rfl (by kernel_rfl) hS (yd_no rfl (congrArg Value.bool hg56)) ?_
                refine wd_take 8 _ _ rfl (by kernel_rfl) hS (yd_no rfl (congrArg Value.bool hg56)) ?_
                refine wd_take 9 _ _ rfl (by kernel_rfl) hS (yd_no rfl (congrArg Value.bool hg56)) ?_
                refine wd_take 10 _ _ rfl (by kernel_rfl) hS (yd_no rfl (congrArg Value.bool hg56)) ?_
                refine wd_take 11 _ _ rfl (by kernel_rfl) hS (yd_no rfl (congrArg Value.bool hg56)) ?_
                refine wd_take 12 _ _ rfl (by kernel_rfl) hS (yd_no rfl (congrArg Value.bool hg56)) ?_
                refine wd_take 13 _ _ rfl (by kernel_rfl) hS (yd_no rfl (congrArg Value.bool hg56)) ?_
                refine wd_take 14 _ _ rfl (by kernel_rfl) hS (yd_no rfl (congrArg Value.bool hg56)) ?_
                refine wd_take 15 _ _ rfl (by kernel_rfl) hS (yd_do fun A hA => rn_pickF (congrArg Value.bool hg56) (by conv => lhs; whnf)) ?_
                refine wd_done (by kernel_rfl) ?_ _
                replace hX := hX.tr hS
                replace hV := hV.tr hS
                replace hU := hU.tr hS
                refine W_condF rfl ?_
                refine W_skip ?_
                refine W_region ?_
                refine wl_val (rn_move (by conv => lhs; whnf)) ?_
                refine wl_val (rn_add rfl rfl (by omega)) ?_
                refine wl_val (rn_assign (by conv => lhs; whnf)) ?_
                refine wl_nil ?_
                exact ⟨rfl, i + 1, ⟨rfl, rfl, rfl, rfl, trivial⟩, ⟨hX, ⟨hV, hU, hlt, fun j hj2 => by rcases Nat.lt_or_ge j i with h | h; exact hall j h; (obtain rfl : j = i := by omega); exact ⟨l, x, hi, hj, qk⟩⟩⟩, by omega⟩
            · have hge := of_decide_eq_false hc4; simp only [Int.ofNat_lt, Nat.not_lt] at hge
              have hR : matchB f t = true := by rw [hq]; exact cut_yes hcut (fun j hj => hall j (by omega))
              refine W_exit ?_   -- exit 0
              refine W_seq ?_
              refine W_region ?_
              refine wl_val (rn_assign (by conv => lhs; whnf)) ?_
              refine wl_nil ?_
              refine W_ret ?_
              exact ⟨_, resR1 (res1_tmp rfl), hX, by rw [hR]; rfl⟩
end Go.Proofs.YthcclgoidchkdaaDoorC
