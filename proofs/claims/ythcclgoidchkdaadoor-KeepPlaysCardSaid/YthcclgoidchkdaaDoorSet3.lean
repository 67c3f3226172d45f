/- The functions of a map with rising keys. -/
import Derived.Test.YthcclgoidchkdaaDoorSet2
set_option linter.unusedVariables false
set_option linter.unusedSimpArgs false
set_option maxRecDepth 100000
namespace Go.Proofs.YthcclgoidchkdaaDoorC
open Go.RowKit
def eE1 (x : Str × Int) : List Value := [Sv x.1, .int .i64 x.2]
theorem eE_at {ks : List (Str × Int)} {i : Nat} {x : Str × Int} (h : ks[i]? = some x) : (ks.map eE1)[i]? = some [Sv x.1, .int .i64 x.2] := by simp [h, eE1]
theorem eE_one (ks : List (Str × Int)) : ∀ r ∈ ks.map eE1, ∀ u ∈ r, u.oneCell' = true := by
  intro r hr u hu; obtain ⟨x, _, rfl⟩ := List.mem_map.1 hr; simp only [eE1, List.mem_cons, List.not_mem_nil, or_false] at hu; rcases hu with rfl | rfl <;> rfl
-- (bellman/set.Map[string, bellman/keep.entry]).Put
set_option maxHeartbeats 800000 in
theorem mput_se (w : World) (ks : List Str) (vs : List (List Value)) {v1 v2 : Value} (x : Str) (hm : MapR Non w eS1 2 v1 v2 ks vs) (hord : Sorted ltS ks) (hn : ks.length ≤ 1000000) (hv1 : ∀ r ∈ vs, ∀ u ∈ r, u.oneCell' = true) (p q : Value) (hp1 : p.oneCell' = true) (hq1 : q.oneCell' = true) : Fn Tryd.prog 80 #[.agg #[v1, v2], Sv x, .agg #[p, q]] w fun u w' => ∃ u1 u2, u = .agg #[u1, u2] ∧ MapR (Old w) w' eS1 2 u1 u2 (putK ltS ks x) (putV ltS ks x vs [p, q]) := by
  obtain ⟨q1, n1, c1, rfl⟩ := hm.keys.shape; obtain ⟨q2, n2, c2, rfl⟩ := hm.vals.shape
  have hlb := lb_le (lt := ltS) ks x
  have hlen := hm.len
  have hX := Ext.refl Non w
  refine fn_of_W (args := [_, _, _]) Tryd.func80 rfl (by kernel_rfl) rfl ?_
  refine W_seq ?_
  refine W_region ?_
  refine wl_boxS rfl ?_; intro b3 w1 hb3 hE1 hB3
  have hq3 : w.heap.size ≤ b3 := Nat.le_trans hX.size hb3
  have hl3 : Mine Non w b3 := .inr hq3
  replace hX := hX.tr hE1
  refine wl_boxS rfl ?_; intro b5 w2 hb5 hE2 hB5
  have hn3_5 : b3 < b5 := Nat.lt_of_lt_of_le hB3.lt hb5
  have hq5 : w.heap.size ≤ b5 := Nat.le_trans hX.size hb5
  have hl5 : Mine Non w b5 := .inr hq5
  replace hX := hX.tr hE2
  replace hB3 := hB3.ext hE2 id
  refine wl_alloc z_72 ?_; intro b6 w3 hb6 hE3 hB6
  have hn3_6 : b3 < b6 := Nat.lt_of_lt_of_le hB3.lt hb6
  have hn5_6 : b5 < b6 := Nat.lt_of_lt_of_le hB5.lt hb6
  have hq6 : w.heap.size ≤ b6 := Nat.le_trans hX.size hb6
  have hl6 : Mine Non w b6 := .inr hq6
  replace hX := hX.tr hE3
  replace hB3 := hB3.ext hE3 id; replace hB5 := hB5.ext hE3 id
  refine wl_nil ?_
  refine W_seq ?_
  refine W_region ?_
  refine wl_val (rn_fieldAddr f_72_0 (by decide) rfl) ?_
  refine wl_val (rn_load1 p_68 rfl hB3 rfl) ?_
  refine wl_val (rn_move (by conv => lhs; whnf)) ?_
  refine wl_call e_126 rfl (bs_s w3 ks x (hm.keys.ext hX (fun _ h => h)) hord hn) ?_; intro v13 w4 hE4 hR4
  replace hX := hX.tr hE4
  replace hB3 := hB3.ext hE4 id; replace hB5 := hB5.ext hE4 id; replace hB6 := hB6.ext hE4 id
  subst hR4
  refine wl_val (rn_move (by conv => lhs; whnf)) ?_
  refine wl_val (rn_extract rfl rfl) ?_
  refine wl_val (rn_extract rfl rfl) ?_
  refine wl_val (rn_assign (by conv => lhs; whnf)) ?_
  refine wl_val (rn_assign (by conv => lhs; whnf)) ?_
  refine wl_nil ?_
  refine W_seq ?_
  refine W_drawF (fun i => i = b6) mixed ?_; intro w5 hE5
  replace hX := hX.tr hE5
  replace hB3 := hB3.ext hE5 id; replace hB5 := hB5.ext hE5 id; replace hB6 := hB6.ext hE5 id
  have hS := Ext.refl (fun i => i = b6) w5
  have hB6c := hB6
  refine wd_take 0 _ _ rfl (by kernel_rfl) hS (yd_do fun A hA => rn_fieldAddr f_72_0 (by decide) rfl) ?_
  refine wd_take 1 _ _ rfl (by kernel_rfl) hS (yd_do fun A hA => rn_load1 p_68 rfl (hB3.ext hA (fun e => by omega)) rfl) ?_
  refine wd_take 2 _ _ rfl (by kernel_rfl) hS (yd_do fun A hA => rn_move (by conv => lhs; whnf)) ?_
  refine wd_take 3 _ _ rfl (by kernel_rfl) hS (yd_do fun A hA => rn_move (by conv => lhs; whnf)) ?_
  refine wd_take 4 _ _ rfl (by kernel_rfl) hS (yd_do fun A hA => rn_move (by conv => lhs; whnf)) ?_
  refine wd_take 6 _ _ rfl (by kernel_rfl) hS (yd_do fun A hA => rn_fieldAddr f_72_1 (by decide) rfl) ?_
  refine wd_take 7 _ _ rfl (by kernel_rfl) hS (yd_do fun A hA => rn_load1 p_70 rfl (hB3.ext hA (fun e => by omega)) rfl) ?_
  refine wd_take 8 _ _ rfl (by kernel_rfl) hS (yd_do fun A hA => rn_move (by conv => lhs; whnf)) ?_
  refine wd_take 9 _ _ rfl (by kernel_rfl) hS (yd_do fun A hA => rn_move (by conv => lhs; whnf)) ?_
  refine wd_take 10 _ _ rfl (by kernel_rfl) hS (yd_do fun A hA => rn_loadB s_134 rfl rfl (hB5.ext hA (fun e => by omega))) ?_
  refine wd_only 5 _ rfl (by kernel_rfl) ?_
  refine s1_do ?_
  refine wl_call e_131 rfl (put_s w5 (lb ltS ks x) (isAt ltS ks x) (ks.map eS1) (hm.keys.ext (hX.mine hS (.inr hq6)) (fun _ h => h)) (by rw [List.length_map]; exact hlb) (fun h => by rw [List.length_map]; exact isAt_lt h) rfl rfl (eS_one ks) (by rw [List.length_map]; exact hn)) ?_; intro v21 w6 hE6 hR6
  replace hS := hS.tr hE6
  replace hB6c := hB6c.ext hE6 id
  obtain ⟨p21, s21, hp21, hO21⟩ := hR6
  obtain ⟨a21, l21, c21, rfl⟩ := id hO21.shape
  have hz6 := hB6.lt; have hzs := hS.size; have hzx := hX.size
  refine wl_nil ⟨hS, ?_⟩
  refine wd_only 11 _ rfl (by kernel_rfl) ?_
  refine s1_do ?_
  refine wl_call e_132 rfl (put_e w6 (lb ltS ks x) (isAt ltS ks x) vs (hm.vals.ext (hX.mine hS (.inr hq6)) (fun _ h => h)) (by rw [hlen]; exact hlb) (fun h => by rw [hlen]; exact isAt_lt h) hp1 hq1 hv1 (by rw [hlen]; exact hn)) ?_; intro v27 w7 hE7 hR7
  replace hS := hS.tr hE7
  replace hB6c := hB6c.ext hE7 id
  replace hO21 := hO21.ext hE7 id
  obtain ⟨p27, s27, hp27, hO27⟩ := hR7
  obtain ⟨a27, l27, c27, rfl⟩ := id hO27.shape
  have hzs2 := hS.size
  refine wl_nil ⟨hS, ?_⟩
  refine wd_take 12 _ _ rfl (by kernel_rfl) hS (yd_do fun A hA => rn_build' b_72 rfl rfl (cs := [.slice a21 l21 c21, .slice a27 l27 c27]) rfl) ?_
  refine wd_only 13 _ rfl (by kernel_rfl) ?_
  refine s1_do ?_
  replace hB6 := hB6c
  refine wl_storeB s_72 rfl rfl rfl (two1 rfl rfl) hB6 rfl ?_; intro w8 hE8 hB6 hz8
  replace hS := hS.mine hE8 (.inl rfl)
  replace hO21 := hO21.ext hE8 (fun e => by omega)
  replace hO27 := hO27.ext hE8 (fun e => by omega)
  refine wl_nil ⟨hS, ?_⟩
  refine wd_done (by kernel_rfl) ?_ _
  replace hX := hX.mine hS (.inr hq6)
  refine W_ret ?_
  exact ⟨_, resR1 (res1_box s_72 rfl hB6 rfl), hX, ⟨_, _, rfl, ⟨by rw [← putK_map]; exact hO21.sl (fun h => by unfold Old at h; omega), hO27.sl (fun h => by unfold Old at h; omega), putV_len hm.len⟩⟩⟩
-- (bellman/set.Map[string, bellman/keep.entry]).Len
theorem mlen_se (w : World) (ks : List Str) (vs : List (List Value)) {v1 v2 : Value} (hm : MapR Non w eS1 2 v1 v2 ks vs) (hn : ks.length ≤ 1000000) : Fn Tryd.prog 85 #[.agg #[v1, v2]] w fun u w' => u = .int .i64 (ks.length : Nat) := by
  obtain ⟨q1, c1, rfl, _⟩ := hm.keys.len; obtain ⟨q2, n2, c2, rfl⟩ := hm.vals.shape
  have hkl : (ks.map eS1).length = ks.length := List.length_map _
  have hX := Ext.refl Non w
  refine fn_of_W (args := [_]) Tryd.func85 rfl (by kernel_rfl) rfl ?_
  refine W_seq ?_
  refine W_region ?_
  refine wl_boxS rfl ?_; intro b1 w1 hb1 hE1 hB1
  have hq1 : w.heap.size ≤ b1 := Nat.le_trans hX.size hb1
  have hl1 : Mine Non w b1 := .inr hq1
  replace hX := hX.tr hE1
  refine wl_val (rn_assign (by conv => lhs; whnf)) ?_
  refine wl_nil ?_
  refine W_seq ?_
  refine W_region ?_
  refine wl_val (rn_fieldAddr f_72_0 (by decide) rfl) ?_
  refine wl_val (rn_load1 p_68 rfl hB1 rfl) ?_
  refine wl_val (rn_len sl_68 rfl) ?_
  refine wl_val (rn_assign (by conv => lhs; whnf)) ?_
  refine wl_nil ?_
  refine W_ret ?_
  exact ⟨_, resR1 (res1_tmp rfl), hX, by show Value.int .i64 ((ks.map eS1).length : Nat) = _; rw [hkl]⟩
-- (bellman/set.Map[string, bellman/keep.entry]).Get
theorem mget_se (w : World) (ks : List Str) (vs : List (List Value)) {v1 v2 : Value} (x : Str) (hm : MapR Non w eS1 2 v1 v2 ks vs) (hord : Sorted ltS ks) (hn : ks.length ≤ 1000000) (hv1 : ∀ r ∈ vs, ∀ u ∈ r, u.oneCell' = true) : Fn Tryd.prog 84 #[.agg #[v1, v2], Sv x] w fun u w' => ∃ p q : Value, u = .tuple #[.agg #[p, q], .bool (isAt ltS ks x)] ∧ (isAt ltS ks x = true → vs[lb ltS ks x]? = some [p, q]) ∧ (isAt ltS ks x = false → p = Sv [] ∧ q = .int .i64 0) := by
  obtain ⟨q1, n1, c1, rfl⟩ := hm.keys.shape; obtain ⟨q2, c2, rfl, _⟩ := hm.vals.len
  have hlb := lb_le (lt := ltS) ks x
  have hlen := hm.len
  have hX := Ext.refl Non w
  refine fn_of_W (args := [_, _]) Tryd.func84 rfl (by kernel_rfl) rfl ?_
  refine W_seq ?_
  refine W_region ?_
  refine wl_boxS rfl ?_; intro b2 w1 hb2 hE1 hB2
  have hq2 : w.heap.size ≤ b2 := Nat.le_trans hX.size hb2
  have hl2 : Mine Non w b2 := .inr hq2
  replace hX := hX.tr hE1
  refine wl_alloc z_134 ?_; intro b4 w2 hb4 hE2 hB4
  have hn2_4 : b2 < b4 := Nat.lt_of_lt_of_le hB2.lt hb4
  have hq4 : w.heap.size ≤ b4 := Nat.le_trans hX.size hb4
  have hl4 : Mine Non w b4 := .inr hq4
  replace hX := hX.tr hE2
  replace hB2 := hB2.ext hE2 id
  refine wl_val (rn_assign (by conv => lhs; whnf)) ?_
  refine wl_nil ?_
  refine W_seq ?_
  refine W_region ?_
  refine wl_val (rn_fieldAddr f_72_0 (by decide) rfl) ?_
  refine wl_val (rn_load1 p_68 rfl hB2 rfl) ?_
  refine wl_val (rn_move (by conv => lhs; whnf)) ?_
  refine wl_call e_126 rfl (bs_s w2 ks x (hm.keys.ext hX (fun _ h => h)) hord hn) ?_; intro v13 w3 hE3 hR3
  replace hX := hX.tr hE3
  replace hB2 := hB2.ext hE3 id; replace hB4 := hB4.ext hE3 id
  subst hR3
  refine wl_val (rn_move (by conv => lhs; whnf)) ?_
  refine wl_val (rn_extract rfl rfl) ?_
  refine wl_val (rn_extract rfl rfl) ?_
  refine wl_val (rn_assign (by conv => lhs; whnf)) ?_
  refine wl_val (rn_assign (by conv => lhs; whnf)) ?_
  refine wl_nil ?_
  refine W_seq ?_
  refine W_seq ?_
  refine W_region ?_
  refine wl_val (rn_move (by conv => lhs; whnf)) ?_
  refine wl_val (rn_not rfl) ?_
  refine wl_nil ?_
  refine W_cond rfl (fun hc0 => ?_) (fun hc0 => ?_)
  · have hat : isAt ltS ks x = false := by simpa using hc0
    refine W_seq ?_
    refine W_region ?_
    refine wl_alloc z_134 ?_; intro b8 w4 hb8 hE4 hB8
    have hn2_8 : b2 < b8 := Nat.lt_of_lt_of_le hB2.lt hb8
    have hn4_8 : b4 < b8 := Nat.lt_of_lt_of_le hB4.lt hb8
    have hq8 : w.heap.size ≤ b8 := Nat.le_trans hX.size hb8
    have hl8 : Mine Non w b8 := .inr hq8
    replace hX := hX.tr hE4
    replace hB2 := hB2.ext hE4 id; replace hB4 := hB4.ext hE4 id
    refine wl_nil ?_
    refine W_seq ?_
    refine W_region ?_
    refine wl_val (rn_loadB s_134 rfl rfl hB8) ?_
    refine wl_storeB s_134 rfl rfl rfl (by first | exact two1 hz1 hz2 | exact two1 rfl rfl) hB4 rfl ?_; intro w5 hE5 hB4 hz5
    replace hX := hX.mine hE5 hl4
    replace hB2 := hB2.ext hE5 (fun h => by omega); replace hB8 := hB8.ext hE5 (fun h => by omega)
    refine wl_val (rn_assign (by conv => lhs; whnf)) ?_
    refine wl_nil ?_
    refine W_ret ?_
    exact ⟨_, resR2 (res1_box s_134 rfl hB4 rfl) (res1_tmp rfl), hX, ⟨_, _, by rw [hat]; rfl, fun h => by rw [hat] at h; (cases h), fun _ => ⟨rfl, rfl⟩⟩⟩
  · have hat : isAt ltS ks x = true := by simpa using hc0
    obtain ⟨r, hr⟩ : ∃ r, vs[lb ltS ks x]? = some r := ⟨_, List.getElem?_eq_getElem (by rw [hlen]; exact isAt_lt hat)⟩
    obtain ⟨p, q, rfl⟩ : ∃ p q, r = [p, q] := by have := hm.vals.each r (List.mem_of_getElem? hr); match r, this with | [p, q], _ => exact ⟨p, q, rfl⟩
    have hz1 := hv1 _ (List.mem_of_getElem? hr) p (by simp); have hz2 := hv1 _ (List.mem_of_getElem? hr) q (by simp)
    obtain ⟨b2v, o2v, ea⟩ := hm.vals.base (by intro e; have := congrArg List.length e; rw [hlen] at this; have h2 := isAt_lt hat; simp only [List.length_nil] at this; omega); subst ea
    refine W_skip ?_
    refine W_seq ?_
    refine W_region ?_
    refine wl_val (rn_fieldAddr f_72_1 (by decide) rfl) ?_
    refine wl_val (rn_load1 p_70 rfl hB2 rfl) ?_
    refine wl_val (rn_move (by conv => lhs; whnf)) ?_
    refine wl_val (rn_indexAddr sl_70 rfl rfl (by rw [hlen]; have := isAt_lt hat; omega)) ?_
    refine wl_val (rn_loadS s_134 rfl rfl ((hm.vals.ext hX (fun _ h => h)).all0 hr)) ?_
    refine wl_storeB s_134 rfl rfl rfl (by first | exact two1 hz1 hz2 | exact two1 rfl rfl) hB4 rfl ?_; intro w6 hE6 hB4 hz6
    replace hX := hX.mine hE6 hl4
    replace hB2 := hB2.ext hE6 (fun h => by omega)
    refine wl_val (rn_assign (by conv => lhs; whnf)) ?_
    refine wl_nil ?_
    refine W_ret ?_
    exact ⟨_, resR2 (res1_box s_134 rfl hB4 rfl) (res1_tmp rfl), hX, ⟨p, q, by rw [hat]; rfl, fun _ => hr, fun h => by rw [hat] at h; (cases h)⟩⟩
end Go.Proofs.YthcclgoidchkdaaDoorC
