/- The functions of a map with rising keys. -/
import Derived.Test.YtfdfphaiefbflaaSet2
set_option linter.unusedVariables false
set_option linter.unusedSimpArgs false
set_option maxRecDepth 100000
namespace Go.Proofs.YtfdfphaiefbflaaC
open Go.RowKit
-- (bellman/set.Map[int, struct{}]).Put
set_option maxHeartbeats 800000 in
theorem mput_iu (w : World) (ks : List Int) (vs : List (List Value)) {v1 v2 : Value} (x : Int) (hm : MapR Non w eI1 0 v1 v2 ks vs) (hord : Sorted ltI ks) (hn : ks.length ≤ 1000000) (hv1 : ∀ r ∈ vs, ∀ u ∈ r, u.oneCell' = true)  : Fn Try.prog 84 #[.agg #[v1, v2], .int .i64 x, .agg #[]] w fun u w' => ∃ u1 u2, u = .agg #[u1, u2] ∧ MapR (Old w) w' eI1 0 u1 u2 (putK ltI ks x) (putV ltI ks x vs []) := by
  obtain ⟨q1, n1, c1, rfl⟩ := hm.keys.shape; obtain ⟨q2, n2, c2, rfl⟩ := hm.vals.shape
  have hlb := lb_le (lt := ltI) ks x
  have hlen := hm.len
  have hX := Ext.refl Non w
  refine fn_of_W (args := [_, _, _]) Try.func84 rfl (by kernel_rfl) rfl ?_
  refine W_seq ?_
  refine W_region ?_
  refine wl_boxS rfl ?_; intro b3 w1 hb3 hE1 hB3
  have hq3 : w.heap.size ≤ b3 := Nat.le_trans hX.size hb3
  have hl3 : Mine Non w b3 := .inr hq3
  replace hX := hX.tr hE1
  refine wl_boxS rfl ?_; intro b5 w2 hb5 hE2 hB5
  have hn3_5 : b3 < b5 := Nat.lt_of_lt_of_le hB3.lt hb5
  have hq5 : w.heap.size ≤ b5 := Nat.le_trans hX.size hb5
  have hl5 : Mine Non w b5 := .inr hq5
  replace hX := hX.tr hE2
  replace hB3 := hB3.ext hE2 id
  refine wl_alloc z_41 ?_; intro b6 w3 hb6 hE3 hB6
  have hn3_6 : b3 < b6 := Nat.lt_of_lt_of_le hB3.lt hb6
  have hn5_6 : b5 < b6 := Nat.lt_of_lt_of_le hB5.lt hb6
  have hq6 : w.heap.size ≤ b6 := Nat.le_trans hX.size hb6
  have hl6 : Mine Non w b6 := .inr hq6
  replace hX := hX.tr hE3
  replace hB3 := hB3.ext hE3 id; replace hB5 := hB5.ext hE3 id
  refine wl_nil ?_
  refine W_seq ?_
  refine W_region ?_
  refine wl_val (rn_fieldAddr f_41_0 (by decide) rfl) ?_
  refine wl_val (rn_load1 p_36 rfl hB3 rfl) ?_
  refine wl_val (rn_move (by conv => lhs; whnf)) ?_
  refine wl_call e_100 rfl (bs_i w3 ks x (hm.keys.ext hX (fun _ h => h)) hord hn) ?_; intro v13 w4 hE4 hR4
  replace hX := hX.tr hE4
  replace hB3 := hB3.ext hE4 id; replace hB5 := hB5.ext hE4 id; replace hB6 := hB6.ext hE4 id
  subst hR4
  refine wl_val (rn_move (by conv => lhs; whnf)) ?_
  refine wl_val (rn_extract rfl rfl) ?_
  refine wl_val (rn_extract rfl rfl) ?_
  refine wl_val (rn_assign (by conv => lhs; whnf)) ?_
  refine wl_val (rn_assign (by conv => lhs; whnf)) ?_
  refine wl_nil ?_
  refine W_seq ?_
  refine W_drawF (fun i => i = b6) mixed ?_; intro w5 hE5
  replace hX := hX.tr hE5
  replace hB3 := hB3.ext hE5 id; replace hB5 := hB5.ext hE5 id; replace hB6 := hB6.ext hE5 id
  have hS := Ext.refl (fun i => i = b6) w5
  have hB6c := hB6
  refine wd_take 0 _ _ rfl (by kernel_rfl) hS (yd_do fun A hA => rn_fieldAddr f_41_0 (by decide) rfl) ?_
  refine wd_take 1 _ _ rfl (by kernel_rfl) hS (yd_do fun A hA => rn_load1 p_36 rfl (hB3.ext hA (fun e => by omega)) rfl) ?_
  refine wd_take 2 _ _ rfl (by kernel_rfl) hS (yd_do fun A hA => rn_move (by conv => lhs; whnf)) ?_
  refine wd_take 3 _ _ rfl (by kernel_rfl) hS (yd_do fun A hA => rn_move (by conv => lhs; whnf)) ?_
  refine wd_take 4 _ _ rfl (by kernel_rfl) hS (yd_do fun A hA => rn_move (by conv => lhs; whnf)) ?_
  refine wd_take 6 _ _ rfl (by kernel_rfl) hS (yd_do fun A hA => rn_fieldAddr f_41_1 (by decide) rfl) ?_
  refine wd_take 7 _ _ rfl (by kernel_rfl) hS (yd_do fun A hA => rn_load1 p_39 rfl (hB3.ext hA (fun e => by omega)) rfl) ?_
  refine wd_take 8 _ _ rfl (by kernel_rfl) hS (yd_do fun A hA => rn_move (by conv => lhs; whnf)) ?_
  refine wd_take 9 _ _ rfl (by kernel_rfl) hS (yd_do fun A hA => rn_move (by conv => lhs; whnf)) ?_
  refine wd_take 10 _ _ rfl (by kernel_rfl) hS (yd_do fun A hA => rn_loadB s_112 rfl rfl (hB5.ext hA (fun e => by omega))) ?_
  refine wd_only 5 _ rfl (by kernel_rfl) ?_
  refine s1_do ?_
  refine wl_call e_76 rfl (put_i w5 (lb ltI ks x) (isAt ltI ks x) (ks.map eI1) (hm.keys.ext (hX.mine hS (.inr hq6)) (fun _ h => h)) (by rw [List.length_map]; exact hlb) (fun h => by rw [List.length_map]; exact isAt_lt h) rfl rfl (eI_one ks) (by rw [List.length_map]; exact hn)) ?_; intro v21 w6 hE6 hR6
  replace hS := hS.tr hE6
  replace hB6c := hB6c.ext hE6 id
  obtain ⟨p21, s21, hp21, hO21⟩ := hR6
  obtain ⟨a21, l21, c21, rfl⟩ := id hO21.shape
  have hz6 := hB6.lt; have hzs := hS.size; have hzx := hX.size
  refine wl_nil ⟨hS, ?_⟩
  refine wd_only 11 _ rfl (by kernel_rfl) ?_
  refine s1_do ?_
  refine wl_call e_106 rfl (put_u w6 (lb ltI ks x) (isAt ltI ks x) vs (hm.vals.ext (hX.mine hS (.inr hq6)) (fun _ h => h)) (by rw [hlen]; exact hlb) (fun h => by rw [hlen]; exact isAt_lt h) rfl hv1 (by rw [hlen]; exact hn)) ?_; intro v27 w7 hE7 hR7
  replace hS := hS.tr hE7
  replace hB6c := hB6c.ext hE7 id
  replace hO21 := hO21.ext hE7 id
  obtain ⟨p27, s27, hp27, hO27⟩ := hR7
  obtain ⟨a27, l27, c27, rfl⟩ := id hO27.shape
  have hzs2 := hS.size
  refine wl_nil ⟨hS, ?_⟩
  refine wd_take 12 _ _ rfl (by kernel_rfl) hS (yd_do fun A hA => rn_build' b_41 rfl rfl (cs := [.slice a21 l21 c21, .slice a27 l27 c27]) rfl) ?_
  refine wd_only 13 _ rfl (by kernel_rfl) ?_
  refine s1_do ?_
  replace hB6 := hB6c
  refine wl_storeB s_41 rfl rfl rfl (two1 rfl rfl) hB6 rfl ?_; intro w8 hE8 hB6 hz8
  replace hS := hS.mine hE8 (.inl rfl)
  replace hO21 := hO21.ext hE8 (fun e => by omega)
  replace hO27 := hO27.ext hE8 (fun e => by omega)
  refine wl_nil ⟨hS, ?_⟩
  refine wd_done (by kernel_rfl) ?_ _
  replace hX := hX.mine hS (.inr hq6)
  refine W_ret ?_
  exact ⟨_, resR1 (res1_box s_41 rfl hB6 rfl), hX, ⟨_, _, rfl, ⟨by rw [← putK_map]; exact hO21.sl (fun h => by unfold Old at h; omega), hO27.sl (fun h => by unfold Old at h; omega), putV_len hm.len⟩⟩⟩
-- (bellman/set.Map[int, struct{}]).Len
theorem mlen_iu (w : World) (ks : List Int) (vs : List (List Value)) {v1 v2 : Value} (hm : MapR Non w eI1 0 v1 v2 ks vs) (hn : ks.length ≤ 1000000) : Fn Try.prog 73 #[.agg #[v1, v2]] w fun u w' => u = .int .i64 (ks.length : Nat) := by
  obtain ⟨q1, c1, rfl, _⟩ := hm.keys.len; obtain ⟨q2, n2, c2, rfl⟩ := hm.vals.shape
  have hkl : (ks.map eI1).length = ks.length := List.length_map _
  have hX := Ext.refl Non w
  refine fn_of_W (args := [_]) Try.func73 rfl (by kernel_rfl) rfl ?_
  refine W_seq ?_
  refine W_region ?_
  refine wl_boxS rfl ?_; intro b1 w1 hb1 hE1 hB1
  have hq1 : w.heap.size ≤ b1 := Nat.le_trans hX.size hb1
  have hl1 : Mine Non w b1 := .inr hq1
  replace hX := hX.tr hE1
  refine wl_val (rn_assign (by conv => lhs; whnf)) ?_
  refine wl_nil ?_
  refine W_seq ?_
  refine W_region ?_
  refine wl_val (rn_fieldAddr f_41_0 (by decide) rfl) ?_
  refine wl_val (rn_load1 p_36 rfl hB1 rfl) ?_
  refine wl_val (rn_len sl_36 rfl) ?_
  refine wl_val (rn_assign (by conv => lhs; whnf)) ?_
  refine wl_nil ?_
  refine W_ret ?_
  exact ⟨_, resR1 (res1_tmp rfl), hX, by show Value.int .i64 ((ks.map eI1).length : Nat) = _; rw [hkl]⟩
-- (bellman/set.Map[int, struct{}]).Get
theorem mget_iu (w : World) (ks : List Int) (vs : List (List Value)) {v1 v2 : Value} (x : Int) (hm : MapR Non w eI1 0 v1 v2 ks vs) (hord : Sorted ltI ks) (hn : ks.length ≤ 1000000) : Fn Try.prog 72 #[.agg #[v1, v2], .int .i64 x] w fun u w' => u = .tuple #[.agg #[], .bool (isAt ltI ks x)] := by
  obtain ⟨q1, n1, c1, rfl⟩ := hm.keys.shape; obtain ⟨q2, c2, rfl, _⟩ := hm.vals.len
  have hlb := lb_le (lt := ltI) ks x
  have hlen := hm.len
  have hX := Ext.refl Non w
  refine fn_of_W (args := [_, _]) Try.func72 rfl (by kernel_rfl) rfl ?_
  refine W_seq ?_
  refine W_region ?_
  refine wl_boxS rfl ?_; intro b2 w1 hb2 hE1 hB2
  have hq2 : w.heap.size ≤ b2 := Nat.le_trans hX.size hb2
  have hl2 : Mine Non w b2 := .inr hq2
  replace hX := hX.tr hE1
  refine wl_alloc z_112 ?_; intro b4 w2 hb4 hE2 hB4
  have hn2_4 : b2 < b4 := Nat.lt_of_lt_of_le hB2.lt hb4
  have hq4 : w.heap.size ≤ b4 := Nat.le_trans hX.size hb4
  have hl4 : Mine Non w b4 := .inr hq4
  replace hX := hX.tr hE2
  replace hB2 := hB2.ext hE2 id
  refine wl_val (rn_assign (by conv => lhs; whnf)) ?_
  refine wl_nil ?_
  refine W_seq ?_
  refine W_region ?_
  refine wl_val (rn_fieldAddr f_41_0 (by decide) rfl) ?_
  refine wl_val (rn_load1 p_36 rfl hB2 rfl) ?_
  refine wl_val (rn_move (by conv => lhs; whnf)) ?_
  refine wl_call e_100 rfl (bs_i w2 ks x (hm.keys.ext hX (fun _ h => h)) hord hn) ?_; intro v13 w3 hE3 hR3
  replace hX := hX.tr hE3
  replace hB2 := hB2.ext hE3 id; replace hB4 := hB4.ext hE3 id
  subst hR3
  refine wl_val (rn_move (by conv => lhs; whnf)) ?_
  refine wl_val (rn_extract rfl rfl) ?_
  refine wl_val (rn_extract rfl rfl) ?_
  refine wl_val (rn_assign (by conv => lhs; whnf)) ?_
  refine wl_val (rn_assign (by conv => lhs; whnf)) ?_
  refine wl_nil ?_
  refine W_seq ?_
  refine W_seq ?_
  refine W_region ?_
  refine wl_val (rn_move (by conv => lhs; whnf)) ?_
  refine wl_val (rn_not rfl) ?_
  refine wl_nil ?_
  refine W_cond rfl (fun hc0 => ?_) (fun hc0 => ?_)
  · have hat : isAt ltI ks x = false := by simpa using hc0
    refine W_seq ?_
    refine W_region ?_
    refine wl_alloc z_112 ?_; intro b8 w4 hb8 hE4 hB8
    have hn2_8 : b2 < b8 := Nat.lt_of_lt_of_le hB2.lt hb8
    have hn4_8 : b4 < b8 := Nat.lt_of_lt_of_le hB4.lt hb8
    have hq8 : w.heap.size ≤ b8 := Nat.le_trans hX.size hb8
    have hl8 : Mine Non w b8 := .inr hq8
    replace hX := hX.tr hE4
    replace hB2 := hB2.ext hE4 id; replace hB4 := hB4.ext hE4 id
    refine wl_nil ?_
    refine W_seq ?_
    refine W_region ?_
    refine wl_val (rn_loadB s_112 rfl rfl hB8) ?_
    refine wl_storeB s_112 rfl rfl rfl (by simp) hB4 rfl ?_; intro w5 hE5 hB4 hz5
    replace hX := hX.mine hE5 hl4
    replace hB2 := hB2.ext hE5 (fun h => by omega); replace hB8 := hB8.ext hE5 (fun h => by omega)
    refine wl_val (rn_assign (by conv => lhs; whnf)) ?_
    refine wl_nil ?_
    refine W_ret ?_
    exact ⟨_, resR2 (res1_box s_112 rfl hB4 rfl) (res1_tmp rfl), hX, by rw [hat]; rfl⟩
  · have hat : isAt ltI ks x = true := by simpa using hc0
    obtain ⟨b2v, o2v, ea⟩ := hm.vals.base (by intro e; have := congrArg List.length e; rw [hlen] at this; have h2 := isAt_lt hat; simp only [List.length_nil] at this; omega); subst ea
    refine W_skip ?_
    refine W_seq ?_
    refine W_region ?_
    refine wl_val (rn_fieldAddr f_41_1 (by decide) rfl) ?_
    refine wl_val (rn_load1 p_39 rfl hB2 rfl) ?_
    refine wl_val (rn_move (by conv => lhs; whnf)) ?_
    refine wl_val (rn_indexAddr sl_39 rfl rfl (by rw [hlen]; have := isAt_lt hat; omega)) ?_
    refine wl_val (rn_loadS s_112 (vs := []) rfl rfl (fun j hj => absurd hj (Nat.not_lt_zero _))) ?_
    refine wl_storeB s_112 rfl rfl rfl (by simp) hB4 rfl ?_; intro w6 hE6 hB4 hz6
    replace hX := hX.mine hE6 hl4
    replace hB2 := hB2.ext hE6 (fun h => by omega)
    refine wl_val (rn_assign (by conv => lhs; whnf)) ?_
    refine wl_nil ?_
    refine W_ret ?_
    exact ⟨_, resR2 (res1_box s_112 rfl hB4 rfl) (res1_tmp rfl), hX, by rw [hat]; rfl⟩
-- (bellman/set.Map[string, int]).Put
set_option maxHeartbeats 800000 in
theorem mput_si (w : World) (ks : List Str) (vs : List (List Value)) {v1 v2 : Value} (x : Str) (hm : MapR Non w eS1 1 v1 v2 ks vs) (hord : Sorted ltS ks) (hn : ks.length ≤ 1000000) (hv1 : ∀ r ∈ vs, ∀ u ∈ r, u.oneCell' = true) (y : Int) : Fn Try.prog 31 #[.agg #[v1, v2], Sv x, .int .i64 y] w fun u w' => ∃ u1 u2, u = .agg #[u1, u2] ∧ MapR (Old w) w' eS1 1 u1 u2 (putK ltS ks x) (putV ltS ks x vs [.int .i64 y]) := by
  obtain ⟨q1, n1, c1, rfl⟩ := hm.keys.shape; obtain ⟨q2, n2, c2, rfl⟩ := hm.vals.shape
  have hlb := lb_le (lt := ltS) ks x
  have hlen := hm.len
  have hX := Ext.refl Non w
  refine fn_of_W (args := [_, _, _]) Try.func31 rfl (by kernel_rfl) rfl ?_
  refine W_seq ?_
  refine W_region ?_
  refine wl_boxS rfl ?_; intro b3 w1 hb3 hE1 hB3
  have hq3 : w.heap.size ≤ b3 := Nat.le_trans hX.size hb3
  have hl3 : Mine Non w b3 := .inr hq3
  replace hX := hX.tr hE1
  refine wl_alloc z_55 ?_; intro b6 w2 hb6 hE2 hB6
  have hn3_6 : b3 < b6 := Nat.lt_of_lt_of_le hB3.lt hb6
  have hq6 : w.heap.size ≤ b6 := Nat.le_trans hX.size hb6
  have hl6 : Mine Non w b6 := .inr hq6
  replace hX := hX.tr hE2
  replace hB3 := hB3.ext hE2 id
  refine wl_nil ?_
  refine W_seq ?_
  refine W_region ?_
  refine wl_val (rn_fieldAddr f_55_0 (by decide) rfl) ?_
  refine wl_val (rn_load1 p_52 rfl hB3 rfl) ?_
  refine wl_val (rn_move (by conv => lhs; whnf)) ?_
  refine wl_call e_74 rfl (bs_s w2 ks x (hm.keys.ext hX (fun _ h => h)) hord hn) ?_; intro v13 w3 hE3 hR3
  replace hX := hX.tr hE3
  replace hB3 := hB3.ext hE3 id; replace hB6 := hB6.ext hE3 id
  subst hR3
  refine wl_val (rn_move (by conv => lhs; whnf)) ?_
  refine wl_val (rn_extract rfl rfl) ?_
  refine wl_val (rn_extract rfl rfl) ?_
  refine wl_val (rn_assign (by conv => lhs; whnf)) ?_
  refine wl_val (rn_assign (by conv => lhs; whnf)) ?_
  refine wl_nil ?_
  refine W_seq ?_
  refine W_drawF (fun i => i = b6) mixed ?_; intro w4 hE4
  replace hX := hX.tr hE4
  replace hB3 := hB3.ext hE4 id; replace hB6 := hB6.ext hE4 id
  have hS := Ext.refl (fun i => i = b6) w4
  have hB6c := hB6
  refine wd_take 0 _ _ rfl (by kernel_rfl) hS (yd_do fun A hA => rn_fieldAddr f_55_0 (by decide) rfl) ?_
  refine wd_take 1 _ _ rfl (by kernel_rfl) hS (yd_do fun A hA => rn_load1 p_52 rfl (hB3.ext hA (fun e => by omega)) rfl) ?_
  refine wd_take 2 _ _ rfl (by kernel_rfl) hS (yd_do fun A hA => rn_move (by conv => lhs; whnf)) ?_
  refine wd_take 3 _ _ rfl (by kernel_rfl) hS (yd_do fun A hA => rn_move (by conv => lhs; whnf)) ?_
  refine wd_take 4 _ _ rfl (by kernel_rfl) hS (yd_do fun A hA => rn_move (by conv => lhs; whnf)) ?_
  refine wd_take 6 _ _ rfl (by kernel_rfl) hS (yd_do fun A hA => rn_fieldAddr f_55_1 (by decide) rfl) ?_
  refine wd_take 7 _ _ rfl (by kernel_rfl) hS (yd_do fun A hA => rn_load1 p_36 rfl (hB3.ext hA (fun e => by omega)) rfl) ?_
  refine wd_take 8 _ _ rfl (by kernel_rfl) hS (yd_do fun A hA => rn_move (by conv => lhs; whnf)) ?_
  refine wd_take 9 _ _ rfl (by kernel_rfl) hS (yd_do fun A hA => rn_move (by conv => lhs; whnf)) ?_
  refine wd_take 10 _ _ rfl (by kernel_rfl) hS (yd_do fun A hA => rn_move (by conv => lhs; whnf)) ?_
  refine wd_only 5 _ rfl (by kernel_rfl) ?_
  refine s1_do ?_
  refine wl_call e_75 rfl (put_s w4 (lb ltS ks x) (isAt ltS ks x) (ks.map eS1) (hm.keys.ext (hX.mine hS (.inr hq6)) (fun _ h => h)) (by rw [List.length_map]; exact hlb) (fun h => by rw [List.length_map]; exact isAt_lt h) rfl rfl (eS_one ks) (by rw [List.length_map]; exact hn)) ?_; intro v21 w5 hE5 hR5
  replace hS := hS.tr hE5
  replace hB6c := hB6c.ext hE5 id
  obtain ⟨p21, s21, hp21, hO21⟩ := hR5
  obtain ⟨a21, l21, c21, rfl⟩ := id hO21.shape
  have hz6 := hB6.lt; have hzs := hS.size; have hzx := hX.size
  refine wl_nil ⟨hS, ?_⟩
  refine wd_only 11 _ rfl (by kernel_rfl) ?_
  refine s1_do ?_
  refine wl_call e_76 rfl (put_i w5 (lb ltS ks x) (isAt ltS ks x) vs (hm.vals.ext (hX.mine hS (.inr hq6)) (fun _ h => h)) (by rw [hlen]; exact hlb) (fun h => by rw [hlen]; exact isAt_lt h) rfl rfl hv1 (by rw [hlen]; exact hn)) ?_; intro v27 w6 hE6 hR6
  replace hS := hS.tr hE6
  replace hB6c := hB6c.ext hE6 id
  replace hO21 := hO21.ext hE6 id
  obtain ⟨p27, s27, hp27, hO27⟩ := hR6
  obtain ⟨a27, l27, c27, rfl⟩ := id hO27.shape
  have hzs2 := hS.size
  refine wl_nil ⟨hS, ?_⟩
  refine wd_take 12 _ _ rfl (by kernel_rfl) hS (yd_do fun A hA => rn_build' b_55 rfl rfl (cs := [.slice a21 l21 c21, .slice a27 l27 c27]) rfl) ?_
  refine wd_only 13 _ rfl (by kernel_rfl) ?_
  refine s1_do ?_
  replace hB6 := hB6c
  refine wl_storeB s_55 rfl rfl rfl (two1 rfl rfl) hB6 rfl ?_; intro w7 hE7 hB6 hz7
  replace hS := hS.mine hE7 (.inl rfl)
  replace hO21 := hO21.ext hE7 (fun e => by omega)
  replace hO27 := hO27.ext hE7 (fun e => by omega)
  refine wl_nil ⟨hS, ?_⟩
  refine wd_done (by kernel_rfl) ?_ _
  replace hX := hX.mine hS (.inr hq6)
  refine W_ret ?_
  exact ⟨_, resR1 (res1_box s_55 rfl hB6 rfl), hX, ⟨_, _, rfl, ⟨by rw [← putK_map]; exact hO21.sl (fun h => by unfold Old at h; omega), hO27.sl (fun h => by unfold Old at h; omega), putV_len hm.len⟩⟩⟩
-- (bellman/set.Map[string, int]).Len
theorem mlen_si (w : World) (ks : List Str) (vs : List (List Value)) {v1 v2 : Value} (hm : MapR Non w eS1 1 v1 v2 ks vs) (hn : ks.length ≤ 1000000) : Fn Try.prog 82 #[.agg #[v1, v2]] w fun u w' => u = .int .i64 (ks.length : Nat) := by
  obtain ⟨q1, c1, rfl, _⟩ := hm.keys.len; obtain ⟨q2, n2, c2, rfl⟩ := hm.vals.shape
  have hkl : (ks.map eS1).length = ks.length := List.length_map _
  have hX := Ext.refl Non w
  refine fn_of_W (args := [_]) Try.func82 rfl (by kernel_rfl) rfl ?_
  refine W_seq ?_
  refine W_region ?_
  refine wl_boxS rfl ?_; intro b1 w1 hb1 hE1 hB1
  have hq1 : w.heap.size ≤ b1 := Nat.le_trans hX.size hb1
  have hl1 : Mine Non w b1 := .inr hq1
  replace hX := hX.tr hE1
  refine wl_val (rn_assign (by conv => lhs; whnf)) ?_
  refine wl_nil ?_
  refine W_seq ?_
  refine W_region ?_
  refine wl_val (rn_fieldAddr f_55_0 (by decide) rfl) ?_
  refine wl_val (rn_load1 p_52 rfl hB1 rfl) ?_
  refine wl_val (rn_len sl_52 rfl) ?_
  refine wl_val (rn_assign (by conv => lhs; whnf)) ?_
  refine wl_nil ?_
  refine W_ret ?_
  exact ⟨_, resR1 (res1_tmp rfl), hX, by show Value.int .i64 ((ks.map eS1).length : Nat) = _; rw [hkl]⟩
-- (bellman/set.Map[string, int]).Get
theorem mget_si (w : World) (ks : List Str) (vs : List (List Value)) {v1 v2 : Value} (x : Str) (hm : MapR Non w eS1 1 v1 v2 ks vs) (hord : Sorted ltS ks) (hn : ks.length ≤ 1000000) (hvi : ∀ r ∈ vs, ∃ z : Int, r = [.int .i64 z]) : Fn Try.prog 35 #[.agg #[v1, v2], Sv x] w fun u w' => ∃ z : Int, u = .tuple #[.int .i64 z, .bool (isAt ltS ks x)] ∧ (isAt ltS ks x = true → vs[lb ltS ks x]? = some [.int .i64 z]) ∧ (isAt ltS ks x = false → z = 0) := by
  obtain ⟨q1, n1, c1, rfl⟩ := hm.keys.shape; obtain ⟨q2, c2, rfl, _⟩ := hm.vals.len
  have hlb := lb_le (lt := ltS) ks x
  have hlen := hm.len
  have hX := Ext.refl Non w
  refine fn_of_W (args := [_, _]) Try.func35 rfl (by kernel_rfl) rfl ?_
  refine W_seq ?_
  refine W_region ?_
  refine wl_boxS rfl ?_; intro b2 w1 hb2 hE1 hB2
  have hq2 : w.heap.size ≤ b2 := Nat.le_trans hX.size hb2
  have hl2 : Mine Non w b2 := .inr hq2
  replace hX := hX.tr hE1
  refine wl_val (rn_assign (by conv => lhs; whnf)) ?_
  refine wl_val (rn_assign (by conv => lhs; whnf)) ?_
  refine wl_nil ?_
  refine W_seq ?_
  refine W_region ?_
  refine wl_val (rn_fieldAddr f_55_0 (by decide) rfl) ?_
  refine wl_val (rn_load1 p_52 rfl hB2 rfl) ?_
  refine wl_val (rn_move (by conv => lhs; whnf)) ?_
  refine wl_call e_74 rfl (bs_s w1 ks x (hm.keys.ext hX (fun _ h => h)) hord hn) ?_; intro v13 w2 hE2 hR2
  replace hX := hX.tr hE2
  replace hB2 := hB2.ext hE2 id
  subst hR2
  refine wl_val (rn_move (by conv => lhs; whnf)) ?_
  refine wl_val (rn_extract rfl rfl) ?_
  refine wl_val (rn_extract rfl rfl) ?_
  refine wl_val (rn_assign (by conv => lhs; whnf)) ?_
  refine wl_val (rn_assign (by conv => lhs; whnf)) ?_
  refine wl_nil ?_
  refine W_seq ?_
  refine W_seq ?_
  refine W_region ?_
  refine wl_val (rn_move (by conv => lhs; whnf)) ?_
  refine wl_val (rn_not rfl) ?_
  refine wl_nil ?_
  refine W_cond rfl (fun hc0 => ?_) (fun hc0 => ?_)
  · have hat : isAt ltS ks x = false := by simpa using hc0
    refine W_seq ?_
    refine W_region ?_
    refine wl_val (rn_assign (by conv => lhs; whnf)) ?_
    refine wl_nil ?_
    refine W_seq ?_
    refine W_region ?_
    refine wl_val (rn_move (by conv => lhs; whnf)) ?_
    refine wl_val (rn_assign (by conv => lhs; whnf)) ?_
    refine wl_val (rn_assign (by conv => lhs; whnf)) ?_
    refine wl_nil ?_
    refine W_ret ?_
    exact ⟨_, resR2 (res1_tmp rfl) (res1_tmp rfl), hX, ⟨_, by rw [hat]; rfl, fun h => by rw [hat] at h; (cases h), fun _ => rfl⟩⟩
  · have hat : isAt ltS ks x = true := by simpa using hc0
    obtain ⟨r, hr⟩ : ∃ r, vs[lb ltS ks x]? = some r := ⟨_, List.getElem?_eq_getElem (by rw [hlen]; exact isAt_lt hat)⟩
    obtain ⟨z, rfl⟩ := hvi r (List.mem_of_getElem? hr)
    obtain ⟨b2v, o2v, ea⟩ := hm.vals.base (by intro e; have := congrArg List.length e; rw [hlen] at this; have h2 := isAt_lt hat; simp only [List.length_nil] at this; omega); subst ea
    refine W_skip ?_
    refine W_seq ?_
    refine W_region ?_
    refine wl_val (rn_fieldAddr f_55_1 (by decide) rfl) ?_
    refine wl_val (rn_load1 p_36 rfl hB2 rfl) ?_
    refine wl_val (rn_move (by conv => lhs; whnf)) ?_
    refine wl_val (rn_indexAddr sl_36 rfl rfl (by rw [hlen]; have := isAt_lt hat; omega)) ?_
    refine wl_val (rn_load p_3 rfl ((hm.vals.ext hX (fun _ h => h)).at0 hr rfl)) ?_
    refine wl_val (rn_assign (by conv => lhs; whnf)) ?_
    refine wl_val (rn_assign (by conv => lhs; whnf)) ?_
    refine wl_nil ?_
    refine W_ret ?_
    exact ⟨_, resR2 (res1_tmp rfl) (res1_tmp rfl), hX, ⟨z, by rw [hat]; rfl, fun _ => hr, fun h => by rw [hat] at h; (cases h)⟩⟩
-- (bellman/set.Map[string, *bellman/node.Node]).Put
set_option maxHeartbeats 800000 in
theorem mput_sn (w : World) (ks : List Str) (vs : List (List Value)) {v1 v2 : Value} (x : Str) (hm : MapR Non w eS1 1 v1 v2 ks vs) (hord : Sorted ltS ks) (hn : ks.length ≤ 1000000) (hv1 : ∀ r ∈ vs, ∀ u ∈ r, u.oneCell' = true) (y : Value) (hy1 : y.oneCell' = true) (hyc : y.cells = #[y]) : Fn Try.prog 90 #[.agg #[v1, v2], Sv x, y] w fun u w' => ∃ u1 u2, u = .agg #[u1, u2] ∧ MapR (Old w) w' eS1 1 u1 u2 (putK ltS ks x) (putV ltS ks x vs [y]) := by
  obtain ⟨q1, n1, c1, rfl⟩ := hm.keys.shape; obtain ⟨q2, n2, c2, rfl⟩ := hm.vals.shape
  have hlb := lb_le (lt := ltS) ks x
  have hlen := hm.len
  have hX := Ext.refl Non w
  refine fn_of_W (args := [_, _, _]) Try.func90 rfl (by kernel_rfl) rfl ?_
  refine W_seq ?_
  refine W_region ?_
  refine wl_boxS rfl ?_; intro b3 w1 hb3 hE1 hB3
  have hq3 : w.heap.size ≤ b3 := Nat.le_trans hX.size hb3
  have hl3 : Mine Non w b3 := .inr hq3
  replace hX := hX.tr hE1
  refine wl_alloc z_128 ?_; intro b6 w2 hb6 hE2 hB6
  have hn3_6 : b3 < b6 := Nat.lt_of_lt_of_le hB3.lt hb6
  have hq6 : w.heap.size ≤ b6 := Nat.le_trans hX.size hb6
  have hl6 : Mine Non w b6 := .inr hq6
  replace hX := hX.tr hE2
  replace hB3 := hB3.ext hE2 id
  refine wl_nil ?_
  refine W_seq ?_
  refine W_region ?_
  refine wl_val (rn_fieldAddr f_128_0 (by decide) rfl) ?_
  refine wl_val (rn_load1 p_52 rfl hB3 rfl) ?_
  refine wl_val (rn_move (by conv => lhs; whnf)) ?_
  refine wl_call e_74 rfl (bs_s w2 ks x (hm.keys.ext hX (fun _ h => h)) hord hn) ?_; intro v13 w3 hE3 hR3
  replace hX := hX.tr hE3
  replace hB3 := hB3.ext hE3 id; replace hB6 := hB6.ext hE3 id
  subst hR3
  refine wl_val (rn_move (by conv => lhs; whnf)) ?_
  refine wl_val (rn_extract rfl rfl) ?_
  refine wl_val (rn_extract rfl rfl) ?_
  refine wl_val (rn_assign (by conv => lhs; whnf)) ?_
  refine wl_val (rn_assign (by conv => lhs; whnf)) ?_
  refine wl_nil ?_
  refine W_seq ?_
  refine W_drawF (fun i => i = b6) mixed ?_; intro w4 hE4
  replace hX := hX.tr hE4
  replace hB3 := hB3.ext hE4 id; replace hB6 := hB6.ext hE4 id
  have hS := Ext.refl (fun i => i = b6) w4
  have hB6c := hB6
  refine wd_take 0 _ _ rfl (by kernel_rfl) hS (yd_do fun A hA => rn_fieldAddr f_128_0 (by decide) rfl) ?_
  refine wd_take 1 _ _ rfl (by kernel_rfl) hS (yd_do fun A hA => rn_load1 p_52 rfl (hB3.ext hA (fun e => by omega)) rfl) ?_
  refine wd_take 2 _ _ rfl (by kernel_rfl) hS (yd_do fun A hA => rn_move (by conv => lhs; whnf)) ?_
  refine wd_take 3 _ _ rfl (by kernel_rfl) hS (yd_do fun A hA => rn_move (by conv => lhs; whnf)) ?_
  refine wd_take 4 _ _ rfl (by kernel_rfl) hS (yd_do fun A hA => rn_move (by conv => lhs; whnf)) ?_
  refine wd_take 6 _ _ rfl (by kernel_rfl) hS (yd_do fun A hA => rn_fieldAddr f_128_1 (by decide) rfl) ?_
  refine wd_take 7 _ _ rfl (by kernel_rfl) hS (yd_do fun A hA => rn_load1 p_79 rfl (hB3.ext hA (fun e => by omega)) rfl) ?_
  refine wd_take 8 _ _ rfl (by kernel_rfl) hS (yd_do fun A hA => rn_move (by conv => lhs; whnf)) ?_
  refine wd_take 9 _ _ rfl (by kernel_rfl) hS (yd_do fun A hA => rn_move (by conv => lhs; whnf)) ?_
  refine wd_take 10 _ _ rfl (by kernel_rfl) hS (yd_do fun A hA => rn_move (by conv => lhs; whnf)) ?_
  refine wd_only 5 _ rfl (by kernel_rfl) ?_
  refine s1_do ?_
  refine wl_call e_75 rfl (put_s w4 (lb ltS ks x) (isAt ltS ks x) (ks.map eS1) (hm.keys.ext (hX.mine hS (.inr hq6)) (fun _ h => h)) (by rw [List.length_map]; exact hlb) (fun h => by rw [List.length_map]; exact isAt_lt h) rfl rfl (eS_one ks) (by rw [List.length_map]; exact hn)) ?_; intro v21 w5 hE5 hR5
  replace hS := hS.tr hE5
  replace hB6c := hB6c.ext hE5 id
  obtain ⟨p21, s21, hp21, hO21⟩ := hR5
  obtain ⟨a21, l21, c21, rfl⟩ := id hO21.shape
  have hz6 := hB6.lt; have hzs := hS.size; have hzx := hX.size
  refine wl_nil ⟨hS, ?_⟩
  refine wd_only 11 _ rfl (by kernel_rfl) ?_
  refine s1_do ?_
  refine wl_call e_112 rfl (put_n w5 (lb ltS ks x) (isAt ltS ks x) vs (hm.vals.ext (hX.mine hS (.inr hq6)) (fun _ h => h)) (by rw [hlen]; exact hlb) (fun h => by rw [hlen]; exact isAt_lt h) hy1 hyc hv1 (by rw [hlen]; exact hn)) ?_; intro v27 w6 hE6 hR6
  replace hS := hS.tr hE6
  replace hB6c := hB6c.ext hE6 id
  replace hO21 := hO21.ext hE6 id
  obtain ⟨p27, s27, hp27, hO27⟩ := hR6
  obtain ⟨a27, l27, c27, rfl⟩ := id hO27.shape
  have hzs2 := hS.size
  refine wl_nil ⟨hS, ?_⟩
  refine wd_take 12 _ _ rfl (by kernel_rfl) hS (yd_do fun A hA => rn_build' b_128 rfl rfl (cs := [.slice a21 l21 c21, .slice a27 l27 c27]) rfl) ?_
  refine wd_only 13 _ rfl (by kernel_rfl) ?_
  refine s1_do ?_
  replace hB6 := hB6c
  refine wl_storeB s_128 rfl rfl rfl (two1 rfl rfl) hB6 rfl ?_; intro w7 hE7 hB6 hz7
  replace hS := hS.mine hE7 (.inl rfl)
  replace hO21 := hO21.ext hE7 (fun e => by omega)
  replace hO27 := hO27.ext hE7 (fun e => by omega)
  refine wl_nil ⟨hS, ?_⟩
  refine wd_done (by kernel_rfl) ?_ _
  replace hX := hX.mine hS (.inr hq6)
  refine W_ret ?_
  exact ⟨_, resR1 (res1_box s_128 rfl hB6 rfl), hX, ⟨_, _, rfl, ⟨by rw [← putK_map]; exact hO21.sl (fun h => by unfold Old at h; omega), hO27.sl (fun h => by unfold Old at h; omega), putV_len hm.len⟩⟩⟩
-- (bellman/set.Map[string, *bellman/node.Node]).Len
theorem mlen_sn (w : World) (ks : List Str) (vs : List (List Value)) {v1 v2 : Value} (hm : MapR Non w eS1 1 v1 v2 ks vs) (hn : ks.length ≤ 1000000) : Fn Try.prog 91 #[.agg #[v1, v2]] w fun u w' => u = .int .i64 (ks.length : Nat) := by
  obtain ⟨q1, c1, rfl, _⟩ := hm.keys.len; obtain ⟨q2, n2, c2, rfl⟩ := hm.vals.shape
  have hkl : (ks.map eS1).length = ks.length := List.length_map _
  have hX := Ext.refl Non w
  refine fn_of_W (args := [_]) Try.func91 rfl (by kernel_rfl) rfl ?_
  refine W_seq ?_
  refine W_region ?_
  refine wl_boxS rfl ?_; intro b1 w1 hb1 hE1 hB1
  have hq1 : w.heap.size ≤ b1 := Nat.le_trans hX.size hb1
  have hl1 : Mine Non w b1 := .inr hq1
  replace hX := hX.tr hE1
  refine wl_val (rn_assign (by conv => lhs; whnf)) ?_
  refine wl_nil ?_
  refine W_seq ?_
  refine W_region ?_
  refine wl_val (rn_fieldAddr f_128_0 (by decide) rfl) ?_
  refine wl_val (rn_load1 p_52 rfl hB1 rfl) ?_
  refine wl_val (rn_len sl_52 rfl) ?_
  refine wl_val (rn_assign (by conv => lhs; whnf)) ?_
  refine wl_nil ?_
  refine W_ret ?_
  exact ⟨_, resR1 (res1_tmp rfl), hX, by show Value.int .i64 ((ks.map eS1).length : Nat) = _; rw [hkl]⟩
-- (bellman/set.Map[string, *bellman/node.Node]).Get
theorem mget_sn (w : World) (ks : List Str) (vs : List (List Value)) {v1 v2 : Value} (x : Str) (hm : MapR Non w eS1 1 v1 v2 ks vs) (hord : Sorted ltS ks) (hn : ks.length ≤ 1000000) : Fn Try.prog 87 #[.agg #[v1, v2], Sv x] w fun u w' => ∃ z : Value, u = .tuple #[z, .bool (isAt ltS ks x)] ∧ (isAt ltS ks x = true → vs[lb ltS ks x]? = some [z]) ∧ (isAt ltS ks x = false → z = .pointer none) := by
  obtain ⟨q1, n1, c1, rfl⟩ := hm.keys.shape; obtain ⟨q2, c2, rfl, _⟩ := hm.vals.len
  have hlb := lb_le (lt := ltS) ks x
  have hlen := hm.len
  have hX := Ext.refl Non w
  refine fn_of_W (args := [_, _]) Try.func87 rfl (by kernel_rfl) rfl ?_
  refine W_seq ?_
  refine W_region ?_
  refine wl_boxS rfl ?_; intro b2 w1 hb2 hE1 hB2
  have hq2 : w.heap.size ≤ b2 := Nat.le_trans hX.size hb2
  have hl2 : Mine Non w b2 := .inr hq2
  replace hX := hX.tr hE1
  refine wl_val (rn_assign (by conv => lhs; whnf)) ?_
  refine wl_val (rn_assign (by conv => lhs; whnf)) ?_
  refine wl_nil ?_
  refine W_seq ?_
  refine W_region ?_
  refine wl_val (rn_fieldAddr f_128_0 (by decide) rfl) ?_
  refine wl_val (rn_load1 p_52 rfl hB2 rfl) ?_
  refine wl_val (rn_move (by conv => lhs; whnf)) ?_
  refine wl_call e_74 rfl (bs_s w1 ks x (hm.keys.ext hX (fun _ h => h)) hord hn) ?_; intro v13 w2 hE2 hR2
  replace hX := hX.tr hE2
  replace hB2 := hB2.ext hE2 id
  subst hR2
  refine wl_val (rn_move (by conv => lhs; whnf)) ?_
  refine wl_val (rn_extract rfl rfl) ?_
  refine wl_val (rn_extract rfl rfl) ?_
  refine wl_val (rn_assign (by conv => lhs; whnf)) ?_
  refine wl_val (rn_assign (by conv => lhs; whnf)) ?_
  refine wl_nil ?_
  refine W_seq ?_
  refine W_seq ?_
  refine W_region ?_
  refine wl_val (rn_move (by conv => lhs; whnf)) ?_
  refine wl_val (rn_not rfl) ?_
  refine wl_nil ?_
  refine W_cond rfl (fun hc0 => ?_) (fun hc0 => ?_)
  · have hat : isAt ltS ks x = false := by simpa using hc0
    refine W_seq ?_
    refine W_region ?_
    refine wl_val (rn_assign (by conv => lhs; whnf)) ?_
    refine wl_nil ?_
    refine W_seq ?_
    refine W_region ?_
    refine wl_val (rn_move (by conv => lhs; whnf)) ?_
    refine wl_val (rn_assign (by conv => lhs; whnf)) ?_
    refine wl_val (rn_assign (by conv => lhs; whnf)) ?_
    refine wl_nil ?_
    refine W_ret ?_
    exact ⟨_, resR2 (res1_tmp rfl) (res1_tmp rfl), hX, ⟨_, by rw [hat]; rfl, fun h => by rw [hat] at h; (cases h), fun _ => rfl⟩⟩
  · have hat : isAt ltS ks x = true := by simpa using hc0
    obtain ⟨r, hr⟩ : ∃ r, vs[lb ltS ks x]? = some r := ⟨_, List.getElem?_eq_getElem (by rw [hlen]; exact isAt_lt hat)⟩
    obtain ⟨z, rfl⟩ : ∃ z, r = [z] := by have := hm.vals.each r (List.mem_of_getElem? hr); match r, this with | [z], _ => exact ⟨z, rfl⟩
    obtain ⟨b2v, o2v, ea⟩ := hm.vals.base (by intro e; have := congrArg List.length e; rw [hlen] at this; have h2 := isAt_lt hat; simp only [List.length_nil] at this; omega); subst ea
    refine W_skip ?_
    refine W_seq ?_
    refine W_region ?_
    refine wl_val (rn_fieldAddr f_128_1 (by decide) rfl) ?_
    refine wl_val (rn_load1 p_79 rfl hB2 rfl) ?_
    refine wl_val (rn_move (by conv => lhs; whnf)) ?_
    refine wl_val (rn_indexAddr sl_79 rfl rfl (by rw [hlen]; have := isAt_lt hat; omega)) ?_
    refine wl_val (rn_load p_69 rfl ((hm.vals.ext hX (fun _ h => h)).at0 hr rfl)) ?_
    refine wl_val (rn_assign (by conv => lhs; whnf)) ?_
    refine wl_val (rn_assign (by conv => lhs; whnf)) ?_
    refine wl_nil ?_
    refine W_ret ?_
    exact ⟨_, resR2 (res1_tmp rfl) (res1_tmp rfl), hX, ⟨z, by rw [hat]; rfl, fun _ => hr, fun h => by rw [hat] at h; (cases h)⟩⟩
end Go.Proofs.YtfdfphaiefbflaaC
