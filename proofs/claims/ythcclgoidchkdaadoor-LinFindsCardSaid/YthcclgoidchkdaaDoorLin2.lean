/- Layer 8: the small machine. -/
import Derived.Test.YthcclgoidchkdaaDoorLin1
set_option linter.unusedVariables false
set_option linter.unusedSimpArgs false
set_option maxRecDepth 100000
namespace Go.Proofs.YthcclgoidchkdaaDoorC
open Go.RowKit
theorem StD.one (s : StD) : ∀ v ∈ s.enc, v.oneCell' = true := by intro v hv; simp only [StD.enc, List.mem_cons, List.not_mem_nil, or_false] at hv; rcases hv with rfl | rfl <;> rfl
theorem six1 {a b c d e f : Value} (h1 : a.oneCell' = true) (h2 : b.oneCell' = true) (h3 : c.oneCell' = true) (h4 : d.oneCell' = true) (h5 : e.oneCell' = true) (h6 : f.oneCell' = true) : ∀ y ∈ [a, b, c, d, e, f], y.oneCell' = true := by
  intro y hy; simp only [List.mem_cons, List.not_mem_nil, or_false] at hy; rcases hy with rfl | rfl | rfl | rfl | rfl | rfl <;> assumption
/-- The machine that the laws hand in. -/
def mcells : List Value := [.int .i64 0, Sv [], .func (.func 66) #[] #[], .func (.func 67) #[] #[]]
-- bellman/bellmanref08.Do
set_option maxHeartbeats 1000000 in
theorem do8_ok (w : World) (s : StD) (x : OpD) (h : -1000000 ≤ s.n ∧ s.n ≤ 1000000) : Fn Tryd.prog 15 #[.agg s.enc.toArray, .agg x.enc.toArray] w fun u w' => u = .tuple #[.agg (doS s x).1.enc.toArray, .agg (doS s x).2.enc.toArray] := by
  have htm := tmod_bound x.sub
  have hX := Ext.refl Non w
  refine fn_of_W (args := [_, _]) Tryd.func15 rfl (by kernel_rfl) rfl ?_
  refine W_seq ?_
  refine W_region ?_
  refine wl_boxS rfl ?_; intro b2 w1 hb2 hE1 hB2
  have hq2 : w.heap.size ≤ b2 := Nat.le_trans hX.size hb2
  have hl2 : Mine Non w b2 := .inr hq2
  replace hX := hX.tr hE1
  refine wl_boxS rfl ?_; intro b3 w2 hb3 hE2 hB3
  have hn2_3 : b2 < b3 := Nat.lt_of_lt_of_le hB2.lt hb3
  have hq3 : w.heap.size ≤ b3 := Nat.le_trans hX.size hb3
  have hl3 : Mine Non w b3 := .inr hq3
  replace hX := hX.tr hE2
  replace hB2 := hB2.ext hE2 id
  refine wl_alloc z_27 ?_; intro b4 w3 hb4 hE3 hB4
  have hn2_4 : b2 < b4 := Nat.lt_of_lt_of_le hB2.lt hb4
  have hn3_4 : b3 < b4 := Nat.lt_of_lt_of_le hB3.lt hb4
  have hq4 : w.heap.size ≤ b4 := Nat.le_trans hX.size hb4
  have hl4 : Mine Non w b4 := .inr hq4
  replace hX := hX.tr hE3
  replace hB2 := hB2.ext hE3 id; replace hB3 := hB3.ext hE3 id
  refine wl_alloc z_34 ?_; intro b5 w4 hb5 hE4 hB5
  have hn2_5 : b2 < b5 := Nat.lt_of_lt_of_le hB2.lt hb5
  have hn3_5 : b3 < b5 := Nat.lt_of_lt_of_le hB3.lt hb5
  have hn4_5 : b4 < b5 := Nat.lt_of_lt_of_le hB4.lt hb5
  have hq5 : w.heap.size ≤ b5 := Nat.le_trans hX.size hb5
  have hl5 : Mine Non w b5 := .inr hq5
  replace hX := hX.tr hE4
  replace hB2 := hB2.ext hE4 id; replace hB3 := hB3.ext hE4 id; replace hB4 := hB4.ext hE4 id
  refine wl_nil ?_
  refine W_seq ?_
  refine W_seq ?_
  refine W_region ?_
  refine wl_val (rn_fieldAddr f_29_0 (by decide) rfl) ?_
  refine wl_val (rn_load1 p_3 rfl hB3 rfl) ?_
  refine wl_nil ?_
  refine W_block ?_   -- block 0
  refine W_seq ?_
  refine W_region ?_
  refine wl_val (rn_eql rfl rfl) ?_
  refine wl_val (rn_assign (by conv => lhs; whnf)) ?_
  refine wl_nil ?_
  refine W_cond rfl (fun hc0 => ?_) (fun hc0 => ?_)
  · have hk1 := of_decide_eq_true hc0
    refine W_seq ?_
    refine W_region ?_
    refine wl_val (rn_fieldAddr f_27_0 (by decide) rfl) ?_
    refine wl_val (rn_load1 p_3 rfl hB2 rfl) ?_
    refine wl_val (rn_fieldAddr f_29_1 (by decide) rfl) ?_
    refine wl_val (rn_load1 p_3 rfl hB3 rfl) ?_
    refine wl_val (rn_tmod rfl rfl (by decide)) ?_
    refine wl_val (rn_add rfl rfl (by omega)) ?_
    refine wl_val (rn_fieldAddr f_27_0 (by decide) rfl) ?_
    refine wl_store1 (b := b2) p_3 rfl (by conv => lhs; whnf) rfl rfl hB2 (Nat.le_of_ble_eq_true rfl) ?_; intro w5 hE5 hB2 hz5
    replace hX := hX.mine hE5 hl2
    replace hB3 := hB3.ext hE5 (fun h => by omega); replace hB4 := hB4.ext hE5 (fun h => by omega); replace hB5 := hB5.ext hE5 (fun h => by omega)
    refine wl_nil ?_
    refine W_seq ?_
    refine W_drawF (fun i => i = b4 ∨ i = b5) mixed ?_; intro w6 hE6
    replace hX := hX.tr hE6
    replace hB2 := hB2.ext hE6 id; replace hB3 := hB3.ext hE6 id; replace hB4 := hB4.ext hE6 id; replace hB5 := hB5.ext hE6 id
    have hS := Ext.refl (fun i => i = b4 ∨ i = b5) w6
    have hzd4 := hB4.lt; have hzd5 := hB5.lt
    refine wd_take 0 _ _ rfl (by kernel_rfl) hS (yd_do fun A hA => rn_loadB s_27 rfl rfl (hB2.ext hA (fun e => by omega))) ?_
    refine wd_take 1 _ _ rfl (by kernel_rfl) hS (yd_do fun A hA => rn_fieldAddr f_27_0 (by decide) rfl) ?_
    refine wd_take 2 _ _ rfl (by kernel_rfl) hS (yd_do fun A hA => rn_load1 p_3 rfl (hB2.ext hA (fun e => by omega)) rfl) ?_
    refine wd_take 3 _ _ rfl (by kernel_rfl) hS (yd_do fun A hA => rn_build' b_34 rfl rfl (cs := [.int .i64 0, .int .i64 (s.n + x.sub.tmod 100), .int .i64 0, Sv [], Sv [], .bool false]) rfl) ?_
    refine wd_only 4 _ rfl (by kernel_rfl) ?_
    refine s1_do ?_
    refine wl_storeB s_27 rfl rfl rfl (by first | exact StD.one s | exact two1' rfl rfl) hB4 rfl ?_; intro w7 hE7 hB4 hz7
    replace hB5 := hB5.ext hE7 (fun h => by omega)
    replace hS := hS.mine hE7 (by first | exact .inl rfl | exact .inl (.inl rfl) | exact .inl (.inr rfl) | exact .inl (.inr (.inr rfl)))
    refine wl_nil ⟨hS, ?_⟩
    refine wd_only 5 _ rfl (by kernel_rfl) ?_
    refine s1_do ?_
    refine wl_storeB s_34 rfl rfl rfl (six1 rfl rfl rfl rfl rfl rfl) hB5 rfl ?_; intro w8 hE8 hB5 hz8
    replace hB4 := hB4.ext hE8 (fun h => by omega)
    replace hS := hS.mine hE8 (by first | exact .inl rfl | exact .inl (.inl rfl) | exact .inl (.inr rfl) | exact .inl (.inr (.inr rfl)))
    refine wl_nil ⟨hS, ?_⟩
    refine wd_done (by kernel_rfl) ?_ _
    replace hX := hX.own2 hS (fun i h => by rcases h with h | h <;> rw [h]; exact .inr hq4; exact .inr hq5)
    refine W_ret ?_
    exact ⟨_, resR2 (res1_box s_27 rfl hB4 rfl) (res1_box s_34 rfl hB5 rfl), hX, by unfold doS; rw [if_pos hk1]; rfl⟩
  · have hk1 := of_decide_eq_false hc0
    refine W_seq ?_
    refine W_region ?_
    refine wl_val (rn_eql rfl rfl) ?_
    refine wl_val (rn_assign (by conv => lhs; whnf)) ?_
    refine wl_nil ?_
    refine W_cond rfl (fun hc1 => ?_) (fun hc1 => ?_)
    · have hk2 := of_decide_eq_true hc1
      refine W_seq ?_
      refine W_region ?_
      refine wl_val (rn_fieldAddr f_27_1 (by decide) rfl) ?_
      refine wl_val (rn_load1 p_9 rfl hB2 rfl) ?_
      refine wl_val (rn_assign (by conv => lhs; whnf)) ?_
      refine wl_nil ?_
      refine W_seq ?_
      refine W_region ?_
      refine wl_val (rn_fieldAddr f_29_3 (by decide) rfl) ?_
      refine wl_val (rn_load1 p_9 rfl hB3 rfl) ?_
      refine wl_val (rn_fieldAddr f_27_1 (by decide) rfl) ?_
      refine wl_store1 (b := b2) p_9 rfl (by conv => lhs; whnf) rfl rfl hB2 (Nat.le_of_ble_eq_true rfl) ?_; intro w9 hE9 hB2 hz9
      replace hX := hX.mine hE9 hl2
      replace hB3 := hB3.ext hE9 (fun h => by omega); replace hB4 := hB4.ext hE9 (fun h => by omega); replace hB5 := hB5.ext hE9 (fun h => by omega)
      refine wl_nil ?_
      refine W_seq ?_
      refine W_region ?_
      refine wl_val (rn_loadB s_27 rfl rfl hB2) ?_
      refine wl_val (rn_move (by conv => lhs; whnf)) ?_
      refine wl_val (rn_build' b_32 rfl rfl (cs := [Sv [], Sv s.slot, .bool false]) rfl) ?_
      refine wl_val (rn_build' b_34 rfl rfl (cs := [.int .i64 0, .int .i64 0, .int .i64 0, Sv [], Sv s.slot, .bool false]) rfl) ?_
      refine wl_storeB s_27 rfl rfl rfl (by first | exact StD.one s | exact two1' rfl rfl) hB4 rfl ?_; intro w10 hE10 hB4 hz10
      replace hX := hX.mine hE10 hl4
      replace hB2 := hB2.ext hE10 (fun h => by omega); replace hB3 := hB3.ext hE10 (fun h => by omega); replace hB5 := hB5.ext hE10 (fun h => by omega)
      refine wl_storeB s_34 rfl rfl rfl (six1 rfl rfl rfl rfl rfl rfl) hB5 rfl ?_; intro w11 hE11 hB5 hz11
      replace hX := hX.mine hE11 hl5
      replace hB2 := hB2.ext hE11 (fun h => by omega); replace hB3 := hB3.ext hE11 (fun h => by omega); replace hB4 := hB4.ext hE11 (fun h => by omega)
      refine wl_nil ?_
      refine W_ret ?_
      exact ⟨_, resR2 (res1_box s_27 rfl hB4 rfl) (res1_box s_34 rfl hB5 rfl), hX, by unfold doS; rw [if_neg hk1, if_pos hk2]; rfl⟩
    · have hk2 := of_decide_eq_false hc1
      refine W_seq ?_
      refine W_region ?_
      refine wl_val (rn_eql rfl rfl) ?_
      refine wl_val (rn_assign (by conv => lhs; whnf)) ?_
      refine wl_nil ?_
      refine W_cond rfl (fun hc2 => ?_) (fun hc2 => ?_)
      · have hk3 := of_decide_eq_true hc2
        refine W_seq ?_
        refine W_seq ?_
        refine W_region ?_
        refine wl_val (rn_fieldAddr f_27_1 (by decide) rfl) ?_
        refine wl_val (rn_load1 p_9 rfl hB2 rfl) ?_
        refine wl_val (rn_seql rfl rfl) ?_
        refine wl_nil ?_
        refine W_cond rfl (fun hc3 => ?_) (fun hc3 => ?_)
        · have hk4 := of_decide_eq_true hc3
          refine W_seq ?_
          refine W_region ?_
          refine wl_val (rn_loadB s_27 rfl rfl hB2) ?_
          refine wl_val (rn_build' b_34 rfl rfl (cs := [.int .i64 7, .int .i64 0, .int .i64 0, Sv [], Sv [], .bool false]) rfl) ?_
          refine wl_storeB s_27 rfl rfl rfl (by first | exact StD.one s | exact two1' rfl rfl) hB4 rfl ?_; intro w12 hE12 hB4 hz12
          replace hX := hX.mine hE12 hl4
          replace hB2 := hB2.ext hE12 (fun h => by omega); replace hB3 := hB3.ext hE12 (fun h => by omega); replace hB5 := hB5.ext hE12 (fun h => by omega)
          refine wl_storeB s_34 rfl rfl rfl (six1 rfl rfl rfl rfl rfl rfl) hB5 rfl ?_; intro w13 hE13 hB5 hz13
          replace hX := hX.mine hE13 hl5
          replace hB2 := hB2.ext hE13 (fun h => by omega); replace hB3 := hB3.ext hE13 (fun h => by omega); replace hB4 := hB4.ext hE13 (fun h => by omega)
          refine wl_nil ?_
          refine W_ret ?_
          exact ⟨_, resR2 (res1_box s_27 rfl hB4 rfl) (res1_box s_34 rfl hB5 rfl), hX, by unfold doS; rw [if_neg hk1, if_neg hk2, if_pos hk3, if_pos hk4]; rfl⟩
        · have hk4 := of_decide_eq_false hc3
          refine W_skip ?_
          refine W_seq ?_
          refine W_region ?_
          refine wl_val (rn_fieldAddr f_27_1 (by decide) rfl) ?_
          refine wl_val (rn_load1 p_9 rfl hB2 rfl) ?_
          refine wl_val (rn_assign (by conv => lhs; whnf)) ?_
          refine wl_nil ?_
          refine W_seq ?_
          refine W_region ?_
          refine wl_val (rn_fieldAddr f_27_1 (by decide) rfl) ?_
          refine wl_store1 (b := b2) p_9 rfl (by conv => lhs; whnf) rfl rfl hB2 (Nat.le_of_ble_eq_true rfl) ?_; intro w14 hE14 hB2 hz14
          replace hX := hX.mine hE14 hl2
          replace hB3 := hB3.ext hE14 (fun h => by omega); replace hB4 := hB4.ext hE14 (fun h => by omega); replace hB5 := hB5.ext hE14 (fun h => by omega)
          refine wl_nil ?_
          refine W_seq ?_
          refine W_region ?_
          refine wl_val (rn_loadB s_27 rfl rfl hB2) ?_
          refine wl_val (rn_move (by conv => lhs; whnf)) ?_
          refine wl_val (rn_build' b_32 rfl rfl (cs := [Sv [], Sv s.slot, .bool false]) rfl) ?_
          refine wl_val (rn_build' b_34 rfl rfl (cs := [.int .i64 0, .int .i64 0, .int .i64 0, Sv [], Sv s.slot, .bool false]) rfl) ?_
          refine wl_storeB s_27 rfl rfl rfl (by first | exact StD.one s | exact two1' rfl rfl) hB4 rfl ?_; intro w15 hE15 hB4 hz15
          replace hX := hX.mine hE15 hl4
          replace hB2 := hB2.ext hE15 (fun h => by omega); replace hB3 := hB3.ext hE15 (fun h => by omega); replace hB5 := hB5.ext hE15 (fun h => by omega)
          refine wl_storeB s_34 rfl rfl rfl (six1 rfl rfl rfl rfl rfl rfl) hB5 rfl ?_; intro w16 hE16 hB5 hz16
          replace hX := hX.mine hE16 hl5
          replace hB2 := hB2.ext hE16 (fun h => by omega); replace hB3 := hB3.ext hE16 (fun h => by omega); replace hB4 := hB4.ext hE16 (fun h => by omega)
          refine wl_nil ?_
          refine W_ret ?_
          exact ⟨_, resR2 (res1_box s_27 rfl hB4 rfl) (res1_box s_34 rfl hB5 rfl), hX, by unfold doS; rw [if_neg hk1, if_neg hk2, if_pos hk3, if_neg hk4]; rfl⟩
      · have hk3 := of_decide_eq_false hc2
        refine W_skip ?_
        refine W_seq ?_
        refine W_drawF (fun i => i = b4 ∨ i = b5) mixed ?_; intro w17 hE17
        replace hX := hX.tr hE17
        replace hB2 := hB2.ext hE17 id; replace hB3 := hB3.ext hE17 id; replace hB4 := hB4.ext hE17 id; replace hB5 := hB5.ext hE17 id
        have hS := Ext.refl (fun i => i = b4 ∨ i = b5) w17
        have hzd4 := hB4.lt; have hzd5 := hB5.lt
        refine wd_take 0 _ _ rfl (by kernel_rfl) hS (yd_do fun A hA => rn_loadB s_27 rfl rfl (hB2.ext hA (fun e => by omega))) ?_
        refine wd_take 1 _ _ rfl (by kernel_rfl) hS (yd_do fun A hA => rn_fieldAddr f_27_0 (by decide) rfl) ?_
        refine wd_take 2 _ _ rfl (by kernel_rfl) hS (yd_do fun A hA => rn_load1 p_3 rfl (hB2.ext hA (fun e => by omega)) rfl) ?_
        refine wd_take 3 _ _ rfl (by kernel_rfl) hS (yd_do fun A hA => rn_build' b_34 rfl rfl (cs := [.int .i64 0, .int .i64 0, .int .i64 s.n, Sv [], Sv [], .bool false]) rfl) ?_
        refine wd_only 4 _ rfl (by kernel_rfl) ?_
        refine s1_do ?_
        refine wl_storeB s_27 rfl rfl rfl (by first | exact StD.one s | exact two1' rfl rfl) hB4 rfl ?_; intro w18 hE18 hB4 hz18
        replace hB5 := hB5.ext hE18 (fun h => by omega)
        replace hS := hS.mine hE18 (by first | exact .inl rfl | exact .inl (.inl rfl) | exact .inl (.inr rfl) | exact .inl (.inr (.inr rfl)))
        refine wl_nil ⟨hS, ?_⟩
        refine wd_only 5 _ rfl (by kernel_rfl) ?_
        refine s1_do ?_
        refine wl_storeB s_34 rfl rfl rfl (six1 rfl rfl rfl rfl rfl rfl) hB5 rfl ?_; intro w19 hE19 hB5 hz19
        replace hB4 := hB4.ext hE19 (fun h => by omega)
        replace hS := hS.mine hE19 (by first | exact .inl rfl | exact .inl (.inl rfl) | exact .inl (.inr rfl) | exact .inl (.inr (.inr rfl)))
        refine wl_nil ⟨hS, ?_⟩
        refine wd_done (by kernel_rfl) ?_ _
        replace hX := hX.own2 hS (fun i h => by rcases h with h | h <;> rw [h]; exact .inr hq4; exact .inr hq5)
        refine W_ret ?_
        exact ⟨_, resR2 (res1_box s_27 rfl hB4 rfl) (res1_box s_34 rfl hB5 rfl), hX, by unfold doS; rw [if_neg hk1, if_neg hk2, if_neg hk3]; rfl⟩
-- bellman/bellmanlaw08.machine
theorem machine_ok (w : World)  : Fn Tryd.prog 17 #[] w fun u w' => u = .agg mcells.toArray := by
  have hX := Ext.refl Non w
  refine fn_of_W (args := []) Tryd.func17 rfl (by kernel_rfl) rfl ?_
  refine W_seq ?_
  refine W_region ?_
  refine wl_alloc z_44 ?_; intro b0 w1 hb0 hE1 hB0
  have hq0 : w.heap.size ≤ b0 := Nat.le_trans hX.size hb0
  have hl0 : Mine Non w b0 := .inr hq0
  replace hX := hX.tr hE1
  refine wl_nil ?_
  refine W_seq ?_
  refine W_region ?_
  refine wl_val (rn_build' b_44 rfl rfl (cs := mcells) rfl) ?_
  refine wl_storeB s_44 rfl rfl rfl (by intro v hv; simp only [mcells, List.mem_cons, List.not_mem_nil, or_false] at hv; rcases hv with rfl | rfl | rfl | rfl <;> rfl) hB0 rfl ?_; intro w2 hE2 hB0 hz2
  replace hX := hX.mine hE2 hl0
  refine wl_nil ?_
  refine W_ret ?_
  exact ⟨_, resR1 (res1_box s_44 rfl hB0 rfl), hX, rfl⟩
-- bellman/bellmanlaw08.machine$1
theorem machine1_ok (w : World) (s : StD) (x : OpD) (h : -1000000 ≤ s.n ∧ s.n ≤ 1000000) : Fn Tryd.prog 66 #[.agg s.enc.toArray, .agg x.enc.toArray] w fun u w' => u = .tuple #[.agg (doS s x).1.enc.toArray, .agg (doS s x).2.enc.toArray] := by
  have hX := Ext.refl Non w
  refine fn_of_W (args := [_, _]) Tryd.func66 rfl (by kernel_rfl) rfl ?_
  refine W_seq ?_
  refine W_region ?_
  refine wl_boxS rfl ?_; intro b2 w1 hb2 hE1 hB2
  have hq2 : w.heap.size ≤ b2 := Nat.le_trans hX.size hb2
  have hl2 : Mine Non w b2 := .inr hq2
  replace hX := hX.tr hE1
  refine wl_boxS rfl ?_; intro b3 w2 hb3 hE2 hB3
  have hn2_3 : b2 < b3 := Nat.lt_of_lt_of_le hB2.lt hb3
  have hq3 : w.heap.size ≤ b3 := Nat.le_trans hX.size hb3
  have hl3 : Mine Non w b3 := .inr hq3
  replace hX := hX.tr hE2
  replace hB2 := hB2.ext hE2 id
  refine wl_alloc z_27 ?_; intro b4 w3 hb4 hE3 hB4
  have hn2_4 : b2 < b4 := Nat.lt_of_lt_of_le hB2.lt hb4
  have hn3_4 : b3 < b4 := Nat.lt_of_lt_of_le hB3.lt hb4
  have hq4 : w.heap.size ≤ b4 := Nat.le_trans hX.size hb4
  have hl4 : Mine Non w b4 := .inr hq4
  replace hX := hX.tr hE3
  replace hB2 := hB2.ext hE3 id; replace hB3 := hB3.ext hE3 id
  refine wl_alloc z_34 ?_; intro b5 w4 hb5 hE4 hB5
  have hn2_5 : b2 < b5 := Nat.lt_of_lt_of_le hB2.lt hb5
  have hn3_5 : b3 < b5 := Nat.lt_of_lt_of_le hB3.lt hb5
  have hn4_5 : b4 < b5 := Nat.lt_of_lt_of_le hB4.lt hb5
  have hq5 : w.heap.size ≤ b5 := Nat.le_trans hX.size hb5
  have hl5 : Mine Non w b5 := .inr hq5
  replace hX := hX.tr hE4
  replace hB2 := hB2.ext hE4 id; replace hB3 := hB3.ext hE4 id; replace hB4 := hB4.ext hE4 id
  refine wl_nil ?_
  refine W_seq ?_
  refine W_region ?_
  refine wl_val (rn_loadB s_27 rfl rfl hB2) ?_
  refine wl_val (rn_loadB s_29 rfl rfl hB3) ?_
  refine wl_call e_15 rfl (do8_ok w4 s x h) ?_; intro v8 w5 hE5 hR5
  replace hX := hX.tr hE5
  replace hB2 := hB2.ext hE5 id; replace hB3 := hB3.ext hE5 id; replace hB4 := hB4.ext hE5 id; replace hB5 := hB5.ext hE5 id
  subst hR5
  refine wl_val (rn_extract rfl rfl) ?_
  refine wl_val (rn_extract rfl rfl) ?_
  refine wl_storeB s_27 rfl rfl rfl (StD.one _) hB4 rfl ?_; intro w6 hE6 hB4 hz6
  replace hX := hX.mine hE6 hl4
  replace hB2 := hB2.ext hE6 (fun h => by omega); replace hB3 := hB3.ext hE6 (fun h => by omega); replace hB5 := hB5.ext hE6 (fun h => by omega)
  refine wl_storeB s_34 rfl rfl rfl (AnsD.one _) hB5 rfl ?_; intro w7 hE7 hB5 hz7
  replace hX := hX.mine hE7 hl5
  replace hB2 := hB2.ext hE7 (fun h => by omega); replace hB3 := hB3.ext hE7 (fun h => by omega); replace hB4 := hB4.ext hE7 (fun h => by omega)
  refine wl_nil ?_
  refine W_ret ?_
  exact ⟨_, resR2 (res1_box s_27 rfl hB4 rfl) (res1_box s_34 rfl hB5 rfl), hX, rfl⟩
-- bellman/bellmanlaw08.machine$2
theorem machine2_ok (w : World) (s : StD) (h : -1000000 ≤ s.n ∧ s.n ≤ 1000000) (hl : s.slot.length ≤ 1000000) : Fn Tryd.prog 67 #[.agg s.enc.toArray] w fun u w' => u = Sv (keyS s) := by
  have hX := Ext.refl Non w
  refine fn_of_W (args := [_]) Tryd.func67 rfl (by kernel_rfl) rfl ?_
  refine W_seq ?_
  refine W_region ?_
  refine wl_boxS rfl ?_; intro b1 w1 hb1 hE1 hB1
  have hq1 : w.heap.size ≤ b1 := Nat.le_trans hX.size hb1
  have hl1 : Mine Non w b1 := .inr hq1
  replace hX := hX.tr hE1
  refine wl_val (rn_assign (by conv => lhs; whnf)) ?_
  refine wl_nil ?_
  refine W_seq ?_
  refine W_region ?_
  refine wl_val (rn_loadB s_27 rfl rfl hB1) ?_
  refine wl_call e_68 rfl (key8_ok w1 s h hl) ?_; intro v4 w2 hE2 hR2
  replace hX := hX.tr hE2
  replace hB1 := hB1.ext hE2 id
  subst hR2
  refine wl_val (rn_assign (by conv => lhs; whnf)) ?_
  refine wl_nil ?_
  refine W_ret ?_
  exact ⟨_, resR1 (res1_tmp rfl), hX, rfl⟩
end Go.Proofs.YthcclgoidchkdaaDoorC
