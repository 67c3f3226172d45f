/- The laws TopicTells and TopicJoins. -/
import Derived.Test.YtfdfphaiefbflaaDoorTop3
set_option linter.unusedVariables false
set_option linter.unusedSimpArgs false
set_option maxRecDepth 100000
namespace Go.Proofs.YtfdfphaiefbflaaDoorC
open Go.RowKit
theorem joinB_take_le (b : UInt8) : ∀ (L : List Str) (i : Nat), (joinB b (L.take i)).length ≤ (joinB b L).length
  | [], i => by simp
  | [x], 0 => by simp [joinB]
  | [x], i + 1 => by simp
  | x :: y :: L, 0 => by simp [joinB]
  | x :: y :: L, i + 1 => by
    have ih := joinB_take_le b (y :: L) i
    rw [List.take_succ_cons, joinB_cons b x (r := y :: L) (by simp)]
    cases i with
    | zero => simp [joinB]
    | succ i =>
      rw [joinB_cons b x (by simp)]
      simp only [List.length_append, List.length_cons] at *
      omega
theorem join_step {b : UInt8} {L : List Str} {i : Nat} {l : Str} (h : L[i]? = some l) (h0 : 0 < i) : joinB b (L.take (i + 1)) = joinB b (L.take i) ++ [b] ++ l := by
  have hlt := (List.getElem?_eq_some_iff.1 h).1
  have hne : L.take i ≠ [] := fun e => by have h1 := congrArg List.length e; rw [List.length_take, List.length_nil] at h1; omega
  have e : L.take (i + 1) = L.take i ++ [l] := by rw [List.take_add_one, h]; rfl
  rw [e, joinB_snoc b _ _ hne]; simp
theorem join_zero {b : UInt8} {L : List Str} {l : Str} (h : L[0]? = some l) : joinB b (L.take 1) = l := by
  cases L with
  | nil => cases h
  | cons x L => simp at h; subst h; simp [joinB]
-- bellman/bellmanref01.Texts
theorem texts_ok (w : World) (l m : List Str) {v x : Value} (hs : Sl Non w v 1 (l.map eS1)) (hx : Sl Non w x 1 (m.map eS1)) (hn : l.length ≤ 1000000) : Fn Tryd.prog 38 #[v, x] w fun u w' => u = .bool (decide (l = m)) := by
  obtain ⟨a, c, rfl, _⟩ := hs.len
  obtain ⟨a2, c2, rfl, _⟩ := hx.len
  simp only [List.length_map] at hs hx ⊢
  have hX := Ext.refl Non w
  refine fn_of_W (args := [_, _]) Tryd.func38 rfl (by kernel_rfl) rfl ?_
  refine W_seq ?_
  refine W_region ?_
  refine wl_val (rn_assign (by conv => lhs; whnf)) ?_
  refine wl_nil ?_
  refine W_seq ?_
  refine W_seq ?_
  refine W_region ?_
  refine wl_val (rn_move (by conv => lhs; whnf)) ?_
  refine wl_val (rn_len sl_24 rfl) ?_
  refine wl_val (rn_move (by conv => lhs; whnf)) ?_
  refine wl_val (rn_len sl_24 rfl) ?_
  refine wl_val (rn_neq rfl rfl) ?_
  refine wl_nil ?_
  refine W_cond rfl (fun hc0 => ?_) (fun hc0 => ?_)
  · refine W_seq ?_
    refine W_region ?_
    refine wl_val (rn_assign (by conv => lhs; whnf)) ?_
    refine wl_nil ?_
    refine W_ret ?_
    have hnl : ¬ l = m := fun e => by have := of_decide_eq_true hc0; simp only [ne_eq, Int.natCast_inj] at this; exact this (by rw [e])
    exact ⟨_, resR1 (res1_tmp rfl), hX, by rw [decide_eq_false hnl]; rfl⟩
  · have hln : l.length = m.length := by have := of_decide_eq_false hc0; simp only [ne_eq, Int.natCast_inj, Classical.not_not] at this; exact this
    refine W_skip ?_
    refine W_seq ?_
    refine W_seq ?_
    refine W_region ?_
    refine wl_val (rn_assign (by conv => lhs; whnf)) ?_
    refine wl_nil ?_
    refine W_block ?_   -- block 0
    refine W_loopS (S := Nat) [0, 1, 5] (fun i => [.slice a l.length c, .slice a2 m.length c2, .int .i64 (i : Nat)]) (fun i A => (Ext Non w A) ∧ (i ≤ l.length ∧ l.take i = m.take i)) (fun i => l.length - i) 0 ⟨rfl, rfl, rfl, trivial⟩ ⟨hX, ⟨Nat.zero_le _, by simp⟩⟩ ?_
    rintro τ0 i A0 ⟨hX, hI0⟩
    obtain ⟨hil, htk⟩ := hI0
    refine W_seq ?_
    refine W_seq ?_
    refine W_region ?_
    refine wl_val (rn_move (by conv => lhs; whnf)) ?_
    refine wl_val (rn_move (by conv => lhs; whnf)) ?_
    refine wl_val (rn_len sl_24 rfl) ?_
    refine wl_val (rn_lss rfl rfl) ?_
    refine wl_nil ?_
    refine W_cond rfl (fun hc1 => ?_) (fun hc1 => ?_)
    · have hlt := of_decide_eq_true hc1; simp only [Int.ofNat_lt] at hlt
      obtain ⟨x, hi⟩ : ∃ x, (l)[i]? = some x := ⟨_, List.getElem?_eq_getElem hlt⟩
      obtain ⟨bb, oo, ea⟩ := hs.base (by intro e; have := congrArg List.length e; simp only [List.length_map, List.length_nil] at this; omega); subst ea
      obtain ⟨y, hj⟩ : ∃ y, m[i]? = some y := ⟨_, List.getElem?_eq_getElem (by omega)⟩
      obtain ⟨bb2, oo2, ea2⟩ := hx.base (by intro e; have := congrArg List.length e; simp only [List.length_map, List.length_nil] at this; omega); subst ea2
      refine W_skip ?_
      refine W_seq ?_
      refine W_block ?_   -- block 1
      refine W_seq ?_
      refine W_drawE mixed ?_; intro w1 hE1
      replace hX := hX.tr hE1
      have hS := Ext.refl Non w1
      refine wd_take 0 _ _ rfl (by kernel_rfl) hS (yd_do fun A hA => rn_move (by conv => lhs; whnf)) ?_
      refine wd_take 1 _ _ rfl (by kernel_rfl) hS (yd_do fun A hA => rn_move (by conv => lhs; whnf)) ?_
      refine wd_take 2 _ _ rfl (by kernel_rfl) hS (yd_do fun A hA => rn_indexAddr sl_24 rfl rfl (by omega)) ?_
      refine wd_take 3 _ _ rfl (by kernel_rfl) hS (yd_do fun A hA => rn_load p_9 rfl (((hs.ext hX (fun _ h => h)).ext hA (fun _ h => h.elim)).at0 (eS_at hi) rfl)) ?_
      refine wd_take 4 _ _ rfl (by kernel_rfl) hS (yd_do fun A hA => rn_move (by conv => lhs; whnf)) ?_
      refine wd_take 5 _ _ rfl (by kernel_rfl) hS (yd_do fun A hA => rn_move (by conv => lhs; whnf)) ?_
      refine wd_take 6 _ _ rfl (by kernel_rfl) hS (yd_do fun A hA => rn_indexAddr sl_24 rfl rfl (by omega)) ?_
      refine wd_take 7 _ _ rfl (by kernel_rfl) hS (yd_do fun A hA => rn_load p_9 rfl (((hx.ext hX (fun _ h => h)).ext hA (fun _ h => h.elim)).at0 (eS_at hj) rfl)) ?_
      refine wd_take 8 _ _ rfl (by kernel_rfl) hS (yd_do fun A hA => rn_sneq rfl rfl) ?_
      refine wd_done (by kernel_rfl) ?_ _
      replace hX := hX.tr hS
      refine W_cond rfl (fun hc2 => ?_) (fun hc2 => ?_)
      · refine W_seq ?_
        refine W_region ?_
        refine wl_val (rn_assign (by conv => lhs; whnf)) ?_
        refine wl_nil ?_
        refine W_ret ?_
        have hnl : ¬ l = m := fun e => by have h1 := of_decide_eq_true hc2; rw [e, hj] at hi; cases hi; exact h1 rfl
        exact ⟨_, resR1 (res1_tmp rfl), hX, by rw [decide_eq_false hnl]; rfl⟩
      · refine W_skip ?_
        refine W_region ?_
        refine wl_val (rn_move (by conv => lhs; whnf)) ?_
        refine wl_val (rn_add rfl rfl (by omega)) ?_
        refine wl_val (rn_assign (by conv => lhs; whnf)) ?_
        refine wl_nil ?_
        have hxy : x = y := by have := of_decide_eq_false hc2; simpa using this
        exact ⟨rfl, i + 1, ⟨rfl, rfl, rfl, trivial⟩, ⟨hX, ⟨hlt, by rw [List.take_add_one, List.take_add_one, htk, hi, hj, hxy]⟩⟩, by omega⟩
    · have hge := of_decide_eq_false hc1; simp only [Int.ofNat_lt, Nat.not_lt] at hge
      have hlm : l = m := by have h1 : l.take i = l := List.take_of_length_le hge; have h2 : m.take i = m := List.take_of_length_le (by omega); rw [← h1, ← h2, htk]
      refine W_exit ?_   -- exit 0
      refine W_seq ?_
      refine W_region ?_
      refine wl_val (rn_assign (by conv => lhs; whnf)) ?_
      refine wl_nil ?_
      refine W_ret ?_
      exact ⟨_, resR1 (res1_tmp rfl), hX, by rw [decide_eq_true hlm]; rfl⟩
-- bellman/bellmanlaw01.TopicTells
set_option maxHeartbeats 1000000 in
theorem topicTells_ok (w : World) (s : Str) : Fn Tryd.prog 7 #[Sv s] w fun u w' => u = .bool true := by
  have hsl := spl_len_le 47 s
  have hX := Ext.refl Non w
  refine fn_of_W (args := [_]) Tryd.func7 rfl (by kernel_rfl) rfl ?_
  refine W_seq ?_
  refine W_region ?_
  refine wl_val (rn_assign (by conv => lhs; whnf)) ?_
  refine wl_nil ?_
  refine W_seq ?_
  refine W_seq ?_
  refine W_region ?_
  refine wl_call e_14 rfl (awake01_ok w) ?_; intro v4 w1 hE1 hR1
  replace hX := hX.tr hE1
  subst hR1
  refine wl_val (rn_not rfl) ?_
  refine wl_nil ?_
  refine W_cond rfl (fun hc0 => ?_) (fun hc0 => ?_)
  · exact absurd hc0 (by decide)
  · refine W_skip ?_
    refine W_seq ?_
    refine W_seq ?_
    refine W_region ?_
    refine wl_val (rn_move (by conv => lhs; whnf)) ?_
    refine wl_call e_15 rfl (long2_ok w1 s) ?_; intro v7 w2 hE2 hR2
    replace hX := hX.tr hE2
    subst hR2
    refine wl_nil ?_
    refine W_cond rfl (fun hc1 => ?_) (fun hc1 => ?_)
    · refine W_seq ?_
      refine W_region ?_
      refine wl_val (rn_assign (by conv => lhs; whnf)) ?_
      refine wl_nil ?_
      refine W_ret ?_
      exact ⟨_, resR1 (res1_tmp rfl), hX, rfl⟩
    · have hn3 : s.length ≤ 300 := by have := of_decide_eq_false hc1; omega
      have hn : s.length ≤ 1000000 := by omega
      refine W_skip ?_
      refine W_seq ?_
      refine W_region ?_
      refine wl_val (rn_move (by conv => lhs; whnf)) ?_
      refine wl_call e_16 rfl (rlevels_ok w2 s hn) ?_; intro v9 w3 hE3 hR3
      replace hX := hX.tr hE3
      have hL := hR3; obtain ⟨a3, c3, hv3_, _⟩ := id hL.len; rw [List.length_map] at hv3_; subst hv3_
      obtain ⟨wL, hwL⟩ : ∃ x, x = w3 := ⟨_, rfl⟩
      rw [← hwL] at hL
      have hV : Ext Non wL w3 := by rw [hwL]; exact Ext.refl _ _
      refine wl_val (rn_assign (by conv => lhs; whnf)) ?_
      refine wl_nil ?_
      refine W_seq ?_
      refine W_region ?_
      refine wl_val (rn_move (by conv => lhs; whnf)) ?_
      refine wl_call e_31 rfl (ttopic_ok w3 s hn) ?_; intro v11 w4 hE4 hR4
      replace hX := hX.tr hE4
      replace hV := hV.tr hE4
      subst hR4
      refine wl_val (rn_move (by conv => lhs; whnf)) ?_
      refine wl_call e_32 rfl (rtopic_ok w4 s hn) ?_; intro v13 w5 hE5 hR5
      replace hX := hX.tr hE5
      replace hV := hV.tr hE5
      subst hR5
      refine wl_val (rn_beql ub_4 rfl rfl) ?_
      refine wl_val (rn_move (by conv => lhs; whnf)) ?_
      refine wl_split (d := 15) rfl (fun hg15 => ?_) (fun hg15 => ?_)
      · refine wl_yes rfl (congrArg Value.bool hg15) ?_
        refine wl_val (rn_move (by conv => lhs; whnf)) ?_
        refine wl_yes rfl (congrArg Value.bool hg15) ?_
        refine wl_call e_33 rfl (tfilter_ok w5 s hn) ?_; intro v17 w6 hE6 hR6
        replace hX := hX.tr hE6
        replace hV := hV.tr hE6
        subst hR6
        refine wl_yes rfl (congrArg Value.bool hg15) ?_
        refine wl_val (rn_move (by conv => lhs; whnf)) ?_
        refine wl_yes rfl (congrArg Value.bool hg15) ?_
        refine wl_call e_34 rfl (rfilter_ok w6 s hn) ?_; intro v19 w7 hE7 hR7
        replace hX := hX.tr hE7
        replace hV := hV.tr hE7
        subst hR7
        refine wl_yes rfl (congrArg Value.bool hg15) ?_
        refine wl_val (rn_beql ub_4 rfl rfl) ?_
        refine wl_val (rn_pickT (congrArg Value.bool hg15) (by conv => lhs; whnf)) ?_
        refine wl_val (rn_move (by conv => lhs; whnf)) ?_
        refine wl_split (d := 22) rfl (fun hg22 => ?_) (fun hg22 => ?_)
        · refine wl_yes rfl (congrArg Value.bool hg22) ?_
          refine wl_val (rn_move (by conv => lhs; whnf)) ?_
          refine wl_yes rfl (congrArg Value.bool hg22) ?_
          refine wl_call e_35 rfl (twild_ok w7 s hn) ?_; intro v24 w8 hE8 hR8
          replace hX := hX.tr hE8
          replace hV := hV.tr hE8
          subst hR8
          refine wl_yes rfl (congrArg Value.bool hg22) ?_
          refine wl_val (rn_move (by conv => lhs; whnf)) ?_
          refine wl_yes rfl (congrArg Value.bool hg22) ?_
          refine wl_call e_36 rfl (rwild_ok w8 s hn) ?_; intro v26 w9 hE9 hR9
          replace hX := hX.tr hE9
          replace hV := hV.tr hE9
          subst hR9
          refine wl_yes rfl (congrArg Value.bool hg22) ?_
          refine wl_val (rn_beql ub_4 rfl rfl) ?_
          refine wl_val (rn_pickT (congrArg Value.bool hg22) (by conv => lhs; whnf)) ?_
          refine wl_val (rn_move (by conv => lhs; whnf)) ?_
          refine wl_split (d := 29) rfl (fun hg29 => ?_) (fun hg29 => ?_)
          · refine wl_yes rfl (congrArg Value.bool hg29) ?_
            refine wl_val (rn_move (by conv => lhs; whnf)) ?_
            refine wl_yes rfl (congrArg Value.bool hg29) ?_
            refine wl_call e_37 rfl (tdepth_ok w9 s hn) ?_; intro v31 w10 hE10 hR10
            replace hX := hX.tr hE10
            replace hV := hV.tr hE10
            subst hR10
            refine wl_yes rfl (congrArg Value.bool hg29) ?_
            refine wl_val (rn_move (by conv => lhs; whnf)) ?_
            refine wl_yes rfl (congrArg Value.bool hg29) ?_
            refine wl_val (rn_len sl_24 rfl) ?_
            refine wl_yes rfl (congrArg Value.bool hg29) ?_
            refine wl_val (rn_eql rfl rfl) ?_
            refine wl_val (rn_pickT (congrArg Value.bool hg29) (by conv => lhs; whnf)) ?_
            refine wl_val (rn_move (by conv => lhs; whnf)) ?_
            refine wl_split (d := 36) rfl (fun hg36 => ?_) (fun hg36 => ?_)
            · refine wl_yes rfl (congrArg Value.bool hg36) ?_
              refine wl_val (rn_move (by conv => lhs; whnf)) ?_
              refine wl_yes rfl (congrArg Value.bool hg36) ?_
              refine wl_call e_39 rfl (levels_ok w10 s hn) ?_; intro v38 w11 hE11 hR11
              replace hX := hX.tr hE11
              replace hV := hV.tr hE11
              have hM := hR11
              obtain ⟨wM, hwM⟩ : ∃ x, x = w11 := ⟨_, rfl⟩
              rw [← hwM] at hM
              have hVM : Ext Non wM w11 := by rw [hwM]; exact Ext.refl _ _
              refine wl_yes rfl (congrArg Value.bool hg36) ?_
              refine wl_val (rn_move (by conv => lhs; whnf)) ?_
              refine wl_yes rfl (congrArg Value.bool hg36) ?_
              refine wl_call e_38 rfl (texts_ok w11 (spl 47 s) (spl 47 s) (hM.ext hVM (fun _ h => h)) (hL.ext hV (fun _ h => h)) (by omega)) ?_; intro v40 w12 hE12 hR12
              replace hX := hX.tr hE12
              replace hV := hV.tr hE12
              replace hVM := hVM.tr hE12
              subst hR12
              refine wl_val (rn_pickT (congrArg Value.bool hg36) (by conv => lhs; whnf)) ?_
              refine wl_val (rn_assign (by conv => lhs; whnf)) ?_
              refine wl_nil ?_
              refine W_ret ?_
              exact ⟨_, resR1 (res1_tmp rfl), hX, by show Value.bool (decide (spl 47 s = spl 47 s)) = _; rw [decide_eq_true rfl]⟩
            · exact absurd hg36 (by simp)
          · exact absurd hg29 (by unfold wildB; simp)
        · exact absurd hg22 (by simp)
      · exact absurd hg15 (by simp)
-- bellman/bellmanlaw01.TopicJoins
set_option maxHeartbeats 1000000 in
theorem topicJoins_ok (w : World) (s : Str) : Fn Tryd.prog 8 #[Sv s] w fun u w' => u = .bool true := by
  have hsl := spl_len_le 47 s
  have hX := Ext.refl Non w
  refine fn_of_W (args := [_]) Tryd.func8 rfl (by kernel_rfl) rfl ?_
  refine W_seq ?_
  refine W_region ?_
  refine wl_val (rn_assign (by conv => lhs; whnf)) ?_
  refine wl_nil ?_
  refine W_seq ?_
  refine W_seq ?_
  refine W_region ?_
  refine wl_call e_14 rfl (awake01_ok w) ?_; intro v6 w1 hE1 hR1
  replace hX := hX.tr hE1
  subst hR1
  refine wl_val (rn_not rfl) ?_
  refine wl_nil ?_
  refine W_cond rfl (fun hc0 => ?_) (fun hc0 => ?_)
  · exact absurd hc0 (by decide)
  · refine W_skip ?_
    refine W_seq ?_
    refine W_seq ?_
    refine W_region ?_
    refine wl_val (rn_move (by conv => lhs; whnf)) ?_
    refine wl_call e_15 rfl (long2_ok w1 s) ?_; intro v9 w2 hE2 hR2
    replace hX := hX.tr hE2
    subst hR2
    refine wl_nil ?_
    refine W_cond rfl (fun hc1 => ?_) (fun hc1 => ?_)
    · refine W_seq ?_
      refine W_region ?_
      refine wl_val (rn_assign (by conv => lhs; whnf)) ?_
      refine wl_nil ?_
      refine W_ret ?_
      exact ⟨_, resR1 (res1_tmp rfl), hX, rfl⟩
    · have hn3 : s.length ≤ 300 := by have := of_decide_eq_false hc1; omega
      have hn : s.length ≤ 1000000 := by omega
      refine W_skip ?_
      refine W_seq ?_
      refine W_region ?_
      refine wl_val (rn_move (by conv => lhs; whnf)) ?_
      refine wl_call e_39 rfl (levels_ok w2 s hn) ?_; intro v11 w3 hE3 hR3
      replace hX := hX.tr hE3
      have hL := hR3; obtain ⟨a3, c3, hv3_, _⟩ := id hL.len; rw [List.length_map] at hv3_; subst hv3_
      obtain ⟨wL, hwL⟩ : ∃ x, x = w3 := ⟨_, rfl⟩
      rw [← hwL] at hL
      have hV : Ext Non wL w3 := by rw [hwL]; exact Ext.refl _ _
      refine wl_val (rn_assign (by conv => lhs; whnf)) ?_
      refine wl_nil ?_
      refine W_seq ?_
      refine W_region ?_
      refine wl_val (rn_assign (by conv => lhs; whnf)) ?_
      refine wl_nil ?_
      refine W_seq ?_
      refine W_seq ?_
      refine W_region ?_
      refine wl_val (rn_assign (by conv => lhs; whnf)) ?_
      refine wl_nil ?_
      refine W_block ?_   -- block 0
      refine W_loopS (S := Nat) [0, 3, 4, 5] (fun i => [Sv s, .slice a3 (spl 47 s).length c3, Sv (joinB 47 ((spl 47 s).take i)), .int .i64 (i : Nat)]) (fun i A => (Ext Non w A) ∧ (Ext Non wL A ∧ i ≤ (spl 47 s).length)) (fun i => (spl 47 s).length - i) 0 ⟨rfl, rfl, rfl, rfl, trivial⟩ ⟨hX, ⟨hV, Nat.zero_le _⟩⟩ ?_
      rintro τ0 i A0 ⟨hX, hI0⟩
      obtain ⟨hV, hil⟩ := hI0
      refine W_seq ?_
      refine W_seq ?_
      refine W_region ?_
      refine wl_val (rn_move (by conv => lhs; whnf)) ?_
      refine wl_val (rn_move (by conv => lhs; whnf)) ?_
      refine wl_val (rn_len sl_24 rfl) ?_
      refine wl_val (rn_lss rfl rfl) ?_
      refine wl_val (rn_move (by conv => lhs; whnf)) ?_
      refine wl_split (d := 16) rfl (fun hg16 => ?_) (fun hg16 => ?_)
      · have hlt := of_decide_eq_true hg16; simp only [Int.ofNat_lt] at hlt
        obtain ⟨l, hi⟩ : ∃ l, ((spl 47 s))[i]? = some l := ⟨_, List.getElem?_eq_getElem hlt⟩
        obtain ⟨bb, oo, ea⟩ := hL.base (by intro e; have := congrArg List.length e; simp only [List.length_map, List.length_nil] at this; omega); subst ea
        have hjl := joinB_take_le 47 (spl 47 s) i
        rw [join_spl] at hjl
        have hll := spl_le (List.mem_of_getElem? hi)
        refine wl_yes rfl (congrArg Value.bool hg16) ?_
        refine wl_val (rn_move (by conv => lhs; whnf)) ?_
        refine wl_yes rfl (congrArg Value.bool hg16) ?_
        refine wl_val (rn_lss rfl rfl) ?_
        refine wl_val (rn_pickT (congrArg Value.bool hg16) (by conv => lhs; whnf)) ?_
        refine wl_nil ?_
        refine W_cond rfl (fun hc2 => ?_) (fun hc2 => ?_)
        · refine W_skip ?_
          refine W_seq ?_
          refine W_block ?_   -- block 1
          refine W_seq ?_
          refine W_seq ?_
          refine W_region ?_
          refine wl_val (rn_move (by conv => lhs; whnf)) ?_
          refine wl_val (rn_gtr rfl rfl) ?_
          refine wl_nil ?_
          refine W_cond rfl (fun hc3 => ?_) (fun hc3 => ?_)
          · have hip : 0 < i := by have := of_decide_eq_true hc3; omega
            refine W_region ?_
            refine wl_val (rn_move (by conv => lhs; whnf)) ?_
            refine wl_val (rn_sadd rfl rfl (by simp only [List.length_singleton]; omega)) ?_
            refine wl_val (rn_assign (by conv => lhs; whnf)) ?_
            refine wl_nil ?_
            refine W_region ?_
            refine wl_val (rn_move (by conv => lhs; whnf)) ?_
            refine wl_val (rn_move (by conv => lhs; whnf)) ?_
            refine wl_val (rn_move (by conv => lhs; whnf)) ?_
            refine wl_val (rn_indexAddr sl_24 rfl rfl (by omega)) ?_
            refine wl_val (rn_load p_9 rfl ((hL.ext hV (fun _ h => h)).at0 (eS_at hi) rfl)) ?_
            refine wl_val (rn_sadd rfl rfl (by first | omega | (simp only [List.length_append, List.length_singleton]; omega))) ?_
            refine wl_val (rn_assign (by conv => lhs; whnf)) ?_
            refine wl_nil ?_
            refine W_region ?_
            refine wl_val (rn_move (by conv => lhs; whnf)) ?_
            refine wl_val (rn_add rfl rfl (by omega)) ?_
            refine wl_val (rn_assign (by conv => lhs; whnf)) ?_
            refine wl_nil ?_
            
            exact ⟨rfl, i + 1, ⟨rfl, rfl, (congrArg Sv (join_step hi hip).symm), rfl, trivial⟩, ⟨hX, ⟨hV, hlt⟩⟩, by omega⟩
          · have hiz : i = 0 := by have := of_decide_eq_false hc3; omega
            refine W_skip ?_
            refine W_region ?_
            refine wl_val (rn_move (by conv => lhs; whnf)) ?_
            refine wl_val (rn_move (by conv => lhs; whnf)) ?_
            refine wl_val (rn_move (by conv => lhs; whnf)) ?_
            refine wl_val (rn_indexAddr sl_24 rfl rfl (by omega)) ?_
            refine wl_val (rn_load p_9 rfl ((hL.ext hV (fun _ h => h)).at0 (eS_at hi) rfl)) ?_
            refine wl_val (rn_sadd rfl rfl (by first | omega | (simp only [List.length_append, List.length_singleton]; omega))) ?_
            refine wl_val (rn_assign (by conv => lhs; whnf)) ?_
            refine wl_nil ?_
            refine W_region ?_
            refine wl_val (rn_move (by conv => lhs; whnf)) ?_
            refine wl_val (rn_add rfl rfl (by omega)) ?_
            refine wl_val (rn_assign (by conv => lhs; whnf)) ?_
            refine wl_nil ?_
            subst hiz
            exact ⟨rfl, 1, ⟨rfl, rfl, (congrArg Sv (show joinB 47 ((spl 47 s).take 0) ++ l = joinB 47 ((spl 47 s).take 1) by rw [join_zero hi]; rfl)), rfl, trivial⟩, ⟨hX, ⟨hV, hlt⟩⟩, by omega⟩
        · exact absurd (of_decide_eq_false hc2) (by omega)
      · have hge := of_decide_eq_false hg16; simp only [Int.ofNat_lt, Nat.not_lt] at hge
        have hjs : joinB 47 ((spl 47 s).take i) = s := by rw [List.take_of_length_le hge, join_spl]
        refine wl_no rfl (congrArg Value.bool hg16) ?_
        refine wl_no rfl (congrArg Value.bool hg16) ?_
        refine wl_val (rn_pickF (congrArg Value.bool hg16) (by conv => lhs; whnf)) ?_
        refine wl_nil ?_
        refine W_condF rfl ?_
        refine W_exit ?_   -- exit 0
        refine W_seq ?_
        refine W_region ?_
        refine wl_val (rn_move (by conv => lhs; whnf)) ?_
        refine wl_val (rn_move (by conv => lhs; whnf)) ?_
        refine wl_val (rn_seql rfl rfl) ?_
        refine wl_val (rn_move (by conv => lhs; whnf)) ?_
        refine wl_split (d := 35) rfl (fun hg35 => ?_) (fun hg35 => ?_)
        · refine wl_yes rfl (congrArg Value.bool hg35) ?_
          refine wl_val (rn_move (by conv => lhs; whnf)) ?_
          refine wl_yes rfl (congrArg Value.bool hg35) ?_
          refine wl_call e_31 rfl (ttopic_ok A0 s hn) ?_; intro v37 w4 hE4 hR4
          replace hX := hX.tr hE4
          replace hV := hV.tr hE4
          subst hR4
          refine wl_yes rfl (congrArg Value.bool hg35) ?_
          refine wl_val (rn_not rfl) ?_
          refine wl_yes rfl (congrArg Value.bool hg35) ?_
          refine wl_val (rn_move (by conv => lhs; whnf)) ?_
          refine wl_split (d := 39) rfl (fun hg39 => ?_) (fun hg39 => ?_)
          · refine wl_no rfl (congrArg Value.bool hg39) ?_
            refine wl_no rfl (congrArg Value.bool hg39) ?_
            refine wl_no rfl (congrArg Value.bool hg39) ?_
            refine wl_nou rfl rfl ?_
            refine wl_nou rfl rfl ?_
            refine wl_nou rfl rfl ?_
            refine wl_no rfl (congrArg Value.bool hg39) ?_
            refine wl_yes rfl (congrArg Value.bool hg35) ?_
            refine wl_val (rn_pickT (congrArg Value.bool hg39) (by conv => lhs; whnf)) ?_
            refine wl_val (rn_pickT (congrArg Value.bool hg35) (by conv => lhs; whnf)) ?_
            refine wl_val (rn_assign (by conv => lhs; whnf)) ?_
            refine wl_nil ?_
            refine W_ret ?_
            exact ⟨_, resR1 (res1_tmp rfl), hX, rfl⟩
          · have hT : topicB s = true := by simpa using hg39
            refine wl_yes rfl (congrArg Value.bool hg39) ?_
            refine wl_val (rn_move (by conv => lhs; whnf)) ?_
            refine wl_yes rfl (congrArg Value.bool hg39) ?_
            refine wl_call e_33 rfl (tfilter_ok w4 s hn) ?_; intro v41 w5 hE5 hR5
            replace hX := hX.tr hE5
            replace hV := hV.tr hE5
            subst hR5
            refine wl_yes rfl (congrArg Value.bool hg39) ?_
            refine wl_val (rn_move (by conv => lhs; whnf)) ?_
            refine wl_split (d := 42) rfl (fun hg42 => ?_) (fun hg42 => ?_)
            · refine wl_yes rfl (congrArg Value.bool hg42) ?_
              refine wl_val (rn_move (by conv => lhs; whnf)) ?_
              refine wl_yes rfl (congrArg Value.bool hg42) ?_
              refine wl_call e_35 rfl (twild_ok w5 s hn) ?_; intro v44 w6 hE6 hR6
              replace hX := hX.tr hE6
              replace hV := hV.tr hE6
              subst hR6
              refine wl_yes rfl (congrArg Value.bool hg42) ?_
              refine wl_val (rn_not rfl) ?_
              refine wl_yes rfl (congrArg Value.bool hg39) ?_
              refine wl_val (rn_pickT (congrArg Value.bool hg42) (by conv => lhs; whnf)) ?_
              refine wl_yes rfl (congrArg Value.bool hg35) ?_
              refine wl_val (rn_pickF (congrArg Value.bool hg39) (by conv => lhs; whnf)) ?_
              refine wl_val (rn_pickT (congrArg Value.bool hg35) (by conv => lhs; whnf)) ?_
              refine wl_val (rn_assign (by conv => lhs; whnf)) ?_
              refine wl_nil ?_
              refine W_ret ?_
              exact ⟨_, resR1 (res1_tmp rfl), hX, by have hw := (topic_filter hT).2; unfold wildB at hw; rw [hw]; rfl⟩
            · exact absurd hg42 (by rw [(topic_filter hT).1]; simp)
        · exact absurd (of_decide_eq_false hg35) (by rw [hjs]; simp)
end Go.Proofs.YtfdfphaiefbflaaDoorC
