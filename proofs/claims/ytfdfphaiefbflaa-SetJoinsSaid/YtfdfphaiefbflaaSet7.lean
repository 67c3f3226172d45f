/- The law SetJoins. -/
import Derived.Test.YtfdfphaiefbflaaSet6
import Derived.Test.YtfdfphaiefbflaaCoreP
set_option linter.unusedVariables false
set_option linter.unusedSimpArgs false
set_option maxRecDepth 100000
namespace Go.Proofs.YtfdfphaiefbflaaC
open Go.RowKit
-- bellman/bellmanlaw03.SetJoins
set_option maxHeartbeats 2000000 in
theorem setJoins_ok (w : World) (la lb' : List Int) (x : Int) {v vb : Value} (hs : Sl Non w v 1 (la.map eI1)) (ht : Sl Non w vb 1 (lb'.map eI1)) : Fn Try.prog 6 #[v, vb, .int .i64 x] w fun u w' => u = .bool true := by
  obtain ⟨a, c, rfl, hbig0⟩ := hs.len
  obtain ⟨a2, c2, rfl, hbig1⟩ := ht.len
  simp only [List.length_map] at hs ht hbig0 hbig1 ⊢
  have hbig2 : big = 9223372036854775807 := rfl
  have hla := ofL_len la
  have hlb := ofL_len lb'
  have hsa := ofL_sorted la
  have hsb := ofL_sorted lb'
  obtain ⟨U, hU⟩ : ∃ U, (ofL lb').foldl (putK ltI) (ofL la) = U := ⟨_, rfl⟩
  have hU1 : (ofL la).foldl (putK ltI) (ofL lb') = U := by rw [← hU, fold_ofL _ _ hsa, fold_ofL _ _ hsb, join_sym]
  have hsU : Sorted ltI U := by rw [← hU]; exact foldK_sorted _ _ hsa
  have hmU : ∀ y, y ∈ U ↔ y ∈ ofL la ∨ y ∈ ofL lb' := fun y => by rw [← hU]; exact foldK_mem _ _ hsa y
  have hU2 : (ofL lb').foldl (putK ltI) U = U := fold_sub _ _ hsU (fun y hy => (hmU y).2 (.inr hy))
  have hlU : U.length ≤ (ofL la).length + (ofL lb').length := by rw [← hU]; exact foldK_len _ _
  have hlA : (ofL la).length ≤ U.length := len_sub _ _ (sorted_nodup hsa) (fun y hy => (hmU y).2 (.inl hy))
  have hlB : (ofL lb').length ≤ U.length := len_sub _ _ (sorted_nodup hsb) (fun y hy => (hmU y).2 (.inr hy))
  have hg0 : decide (U = U) = true := decide_eq_true rfl
  have hX := Ext.refl Non w
  refine fn_of_W (args := [_, _, _]) Try.func6 rfl (by kernel_rfl) rfl ?_
  refine W_seq ?_
  refine W_region ?_
  refine wl_val (rn_assign (by conv => lhs; whnf)) ?_
  refine wl_nil ?_
  refine W_seq ?_
  refine W_seq ?_
  refine W_region ?_
  refine wl_call e_24 rfl (awake03_ok w) ?_; intro v10 w1 hE1 hR1
  replace hX := hX.tr hE1
  subst hR1
  refine wl_val (rn_not rfl) ?_
  refine wl_nil ?_
  refine W_cond rfl (fun hc0 => ?_) (fun hc0 => ?_)
  · exact absurd hc0 (by decide)
  · refine W_skip ?_
    refine W_seq ?_
    refine W_seq ?_
    refine W_region ?_
    refine wl_val (rn_move (by conv => lhs; whnf)) ?_
    refine wl_val (rn_len sl_36 rfl) ?_
    refine wl_val (rn_gtr rfl rfl) ?_
    refine wl_val (rn_move (by conv => lhs; whnf)) ?_
    refine wl_split (d := 15) rfl (fun hg15 => ?_) (fun hg15 => ?_)
    · refine wl_no rfl (congrArg Value.bool hg15) ?_
      refine wl_no rfl (congrArg Value.bool hg15) ?_
      refine wl_no rfl (congrArg Value.bool hg15) ?_
      refine wl_val (rn_pickT (congrArg Value.bool hg15) (by conv => lhs; whnf)) ?_
      refine wl_nil ?_
      refine W_condT rfl ?_
      refine W_seq ?_
      refine W_region ?_
      refine wl_val (rn_assign (by conv => lhs; whnf)) ?_
      refine wl_nil ?_
      refine W_ret ?_
      first | exact ⟨_, resR1 (res1_tmp rfl), hX, rfl⟩ | exact ⟨_, resR1 (res1_tmp rfl), hX, by show Value.bool (decide (_ ≥ _)) = _; rw [decide_eq_true (by split <;> omega)]⟩
    · have hna : la.length ≤ 200 := by have := of_decide_eq_false hg15; omega
      refine wl_yes rfl (congrArg Value.bool hg15) ?_
      refine wl_val (rn_move (by conv => lhs; whnf)) ?_
      refine wl_yes rfl (congrArg Value.bool hg15) ?_
      refine wl_val (rn_len sl_36 rfl) ?_
      refine wl_yes rfl (congrArg Value.bool hg15) ?_
      refine wl_val (rn_gtr rfl rfl) ?_
      refine wl_val (rn_pickF (congrArg Value.bool hg15) (by conv => lhs; whnf)) ?_
      refine wl_nil ?_
      refine W_cond rfl (fun hc1 => ?_) (fun hc1 => ?_)
      · refine W_seq ?_
        refine W_region ?_
        refine wl_val (rn_assign (by conv => lhs; whnf)) ?_
        refine wl_nil ?_
        refine W_ret ?_
        first | exact ⟨_, resR1 (res1_tmp rfl), hX, rfl⟩ | exact ⟨_, resR1 (res1_tmp rfl), hX, by show Value.bool (decide (_ ≥ _)) = _; rw [decide_eq_true (by split <;> omega)]⟩
      · have hnb : lb'.length ≤ 200 := by have := of_decide_eq_false hc1; omega
        refine W_skip ?_
        refine W_seq ?_
        refine W_region ?_
        refine wl_val (rn_move (by conv => lhs; whnf)) ?_
        refine wl_call e_25 rfl (of_ok w1 la (hs.ext hX (fun _ h => h)) (by omega)) ?_; intro v21 w2 hE2 hR2
        replace hX := hX.tr hE2
        obtain ⟨u1, u2, vsA, rfl, hMA⟩ := hR2
        obtain ⟨a1A, l1A, c1A, rfl⟩ := id hMA.keys.shape; obtain ⟨a2A, l2A, c2A, rfl⟩ := id hMA.vals.shape
        have hSA : SetR Non w2 _ (ofL la) := ⟨_, _, vsA, rfl, hMA.sub (M' := Non) (fun _ h _ => h.elim)⟩
        have hVA := Ext.refl Non w2
        refine wl_val (rn_move (by conv => lhs; whnf)) ?_
        refine wl_call e_25 rfl (of_ok w2 lb' (ht.ext hX (fun _ h => h)) (by omega)) ?_; intro v23 w3 hE3 hR3
        replace hX := hX.tr hE3
        replace hVA := hVA.tr hE3
        obtain ⟨u1, u2, vsB, rfl, hMB⟩ := hR3
        obtain ⟨a1B, l1B, c1B, rfl⟩ := id hMB.keys.shape; obtain ⟨a2B, l2B, c2B, rfl⟩ := id hMB.vals.shape
        have hSB : SetR Non w3 _ (ofL lb') := ⟨_, _, vsB, rfl, hMB.sub (M' := Non) (fun _ h _ => h.elim)⟩
        have hVB := Ext.refl Non w3
        refine wl_alloc z_43 ?_; intro b7 w4 hb7 hE4 hB7
        have hq7 : w.heap.size ≤ b7 := Nat.le_trans hX.size hb7
        have hl7 : Mine Non w b7 := .inr hq7
        have hvA7 := Nat.le_trans hVA.size hb7; have hvB7 := Nat.le_trans hVB.size hb7
        replace hX := hX.tr hE4
        replace hVA := hVA.tr hE4
        replace hVB := hVB.tr hE4
        refine wl_alloc z_43 ?_; intro b8 w5 hb8 hE5 hB8
        have hn7_8 : b7 < b8 := Nat.lt_of_lt_of_le hB7.lt hb8
        have hq8 : w.heap.size ≤ b8 := Nat.le_trans hX.size hb8
        have hl8 : Mine Non w b8 := .inr hq8
        have hvA8 := Nat.le_trans hVA.size hb8; have hvB8 := Nat.le_trans hVB.size hb8
        replace hX := hX.tr hE5
        replace hB7 := hB7.ext hE5 id
        replace hVA := hVA.tr hE5
        replace hVB := hVB.tr hE5
        have hBo := hB7
        refine wl_storeB s_43 rfl rfl rfl (two1 rfl rfl) hB7 rfl ?_; intro w6 hE6 hB7 hz6
        replace hX := hX.mine hE6 hl7
        replace hB8 := hB8.ext hE6 (fun h => by omega)
        replace hVA := hVA.mine hE6 (.inr hvA7)
        replace hVB := hVB.mine hE6 (.inr hvB7)
        have hBo := hB8
        refine wl_storeB s_43 rfl rfl rfl (two1 rfl rfl) hB8 rfl ?_; intro w7 hE7 hB8 hz7
        replace hX := hX.mine hE7 hl8
        replace hB7 := hB7.ext hE7 (fun h => by omega)
        replace hVA := hVA.mine hE7 (.inr hvA8)
        replace hVB := hVB.mine hE7 (.inr hvB8)
        refine wl_nil ?_
        refine W_seq ?_
        refine W_region ?_
        refine wl_val (rn_loadB s_43 rfl rfl hB7) ?_
        refine wl_val (rn_loadB s_43 rfl rfl hB8) ?_
        refine wl_call e_29 rfl (join_ok w7 (ofL la) (ofL lb') (hSA.ext hVA (fun _ h => h)) (hSB.ext hVB (fun _ h => h)) hsa (by omega) (by omega)) ?_; intro v26 w8 hE8 hR8
        replace hX := hX.tr hE8
        replace hB7 := hB7.ext hE8 id; replace hB8 := hB8.ext hE8 id
        replace hVA := hVA.tr hE8
        replace hVB := hVB.tr hE8
        rw [hU] at hR8
        obtain ⟨u1, u2, vsU, rfl, hMU⟩ := hR8
        obtain ⟨a1U, l1U, c1U, rfl⟩ := id hMU.keys.shape; obtain ⟨a2U, l2U, c2U, rfl⟩ := id hMU.vals.shape
        have hSU : SetR Non w8 _ U := ⟨_, _, vsU, rfl, hMU.sub (M' := Non) (fun _ h _ => h.elim)⟩
        have hVU := Ext.refl Non w8
        refine wl_alloc z_43 ?_; intro b9 w9 hb9 hE9 hB9
        have hn7_9 : b7 < b9 := Nat.lt_of_lt_of_le hB7.lt hb9
        have hn8_9 : b8 < b9 := Nat.lt_of_lt_of_le hB8.lt hb9
        have hq9 : w.heap.size ≤ b9 := Nat.le_trans hX.size hb9
        have hl9 : Mine Non w b9 := .inr hq9
        have hvA9 := Nat.le_trans hVA.size hb9; have hvB9 := Nat.le_trans hVB.size hb9; have hvU9 := Nat.le_trans hVU.size hb9
        replace hX := hX.tr hE9
        replace hB7 := hB7.ext hE9 id; replace hB8 := hB8.ext hE9 id
        replace hVA := hVA.tr hE9
        replace hVB := hVB.tr hE9
        replace hVU := hVU.tr hE9
        have hBo := hB9
        refine wl_storeB s_43 rfl rfl rfl (two1 rfl rfl) hB9 rfl ?_; intro w10 hE10 hB9 hz10
        replace hX := hX.mine hE10 hl9
        replace hB7 := hB7.ext hE10 (fun h => by omega); replace hB8 := hB8.ext hE10 (fun h => by omega)
        replace hVA := hVA.mine hE10 (.inr hvA9)
        replace hVB := hVB.mine hE10 (.inr hvB9)
        replace hVU := hVU.mine hE10 (.inr hvU9)
        refine wl_nil ?_
        refine W_seq ?_
        refine W_drawE mixed ?_; intro w11 hE11
        replace hX := hX.tr hE11
        replace hB7 := hB7.ext hE11 id; replace hB8 := hB8.ext hE11 id; replace hB9 := hB9.ext hE11 id
        replace hVA := hVA.tr hE11
        replace hVB := hVB.tr hE11
        replace hVU := hVU.tr hE11
        have hS := Ext.refl Non w11
        refine wd_take 0 _ _ rfl (by kernel_rfl) hS (yd_do fun A hA => rn_loadB s_43 rfl rfl (hB9.ext hA id)) ?_
        refine wd_take 2 _ _ rfl (by kernel_rfl) hS (yd_do fun A hA => rn_loadB s_43 rfl rfl (hB8.ext hA id)) ?_
        refine wd_take 3 _ _ rfl (by kernel_rfl) hS (yd_do fun A hA => rn_loadB s_43 rfl rfl (hB7.ext hA id)) ?_
        refine wd_only 1 _ rfl (by kernel_rfl) ?_
        refine s1_do ?_
        refine wl_call e_26 rfl (list_ok w11 U (hSU.ext (hVU.trans hS) (fun _ h => h)) (by omega)) ?_; intro v28 w12 hE12 hR12
        replace hS := hS.tr hE12
        have hL28 := hR12
        refine wl_nil ⟨hS, ?_⟩
        refine wd_only 4 _ rfl (by kernel_rfl) ?_
        refine s1_do ?_
        refine wl_call e_29 rfl (join_ok w12 (ofL lb') (ofL la) (hSB.ext (hVB.trans hS) (fun _ h => h)) (hSA.ext (hVA.trans hS) (fun _ h => h)) hsb (by omega) (by omega)) ?_; intro v31 w13 hE13 hR13
        replace hS := hS.tr hE13
        replace hL28 := hL28.ext hE13 (fun _ h => h)
        rw [hU1] at hR13; have hS31 := hR13
        refine wl_nil ⟨hS, ?_⟩
        refine wd_only 5 _ rfl (by kernel_rfl) ?_
        refine s1_do ?_
        refine wl_call e_26 rfl (list_ok w13 U hS31 (by omega)) ?_; intro v32 w14 hE14 hR14
        replace hS := hS.tr hE14
        replace hL28 := hL28.ext hE14 (fun _ h => h)
        have hL32 := hR14
        refine wl_nil ⟨hS, ?_⟩
        refine wd_only 6 _ rfl (by kernel_rfl) ?_
        refine s1_do ?_
        refine wl_call e_30 rfl (ints_ok w14 U U hL28 hL32 (by omega)) ?_; intro v33 w15 hE15 hR15
        replace hS := hS.tr hE15
        replace hL28 := hL28.ext hE15 (fun _ h => h)
        subst hR15
        refine wl_nil ⟨hS, ?_⟩
        refine wd_take 7 _ _ rfl (by kernel_rfl) hS (yd_do fun A hA => rn_move (by conv => lhs; whnf)) ?_
        refine wd_take 8 _ _ rfl (by kernel_rfl) hS (yd_yes rfl (congrArg Value.bool hg0) fun A hA => rn_loadB s_43 rfl rfl (hB9.ext hA id)) ?_
        refine wd_take 9 _ _ rfl (by kernel_rfl) hS (yd_yes rfl (congrArg Value.bool hg0) fun A hA => rn_loadB s_43 rfl rfl (hB8.ext hA id)) ?_
        refine wd_take 12 _ _ rfl (by kernel_rfl) hS (yd_yes rfl (congrArg Value.bool hg0) fun A hA => rn_loadB s_43 rfl rfl (hB9.ext hA id)) ?_
        refine wd_only 10 _ rfl (by kernel_rfl) ?_
        refine s1_yes rfl (congrArg Value.bool hg0) ?_
        refine wl_call e_29 rfl (join_ok w15 U (ofL lb') (hSU.ext (hVU.trans hS) (fun _ h => h)) (hSB.ext (hVB.trans hS) (fun _ h => h)) hsU (by omega) (by omega)) ?_; intro v37 w16 hE16 hR16
        replace hS := hS.tr hE16
        replace hL28 := hL28.ext hE16 (fun _ h => h)
        rw [hU2] at hR16; have hS37 := hR16
        refine wl_nil ⟨hS, ?_⟩
        refine wd_only 11 _ rfl (by kernel_rfl) ?_
        refine s1_yes rfl (congrArg Value.bool hg0) ?_
        refine wl_call e_26 rfl (list_ok w16 U hS37 (by omega)) ?_; intro v38 w17 hE17 hR17
        replace hS := hS.tr hE17
        replace hL28 := hL28.ext hE17 (fun _ h => h)
        have hL38 := hR17
        refine wl_nil ⟨hS, ?_⟩
        refine wd_only 13 _ rfl (by kernel_rfl) ?_
        refine s1_yes rfl (congrArg Value.bool hg0) ?_
        refine wl_call e_26 rfl (list_ok w17 U (hSU.ext (hVU.trans hS) (fun _ h => h)) (by omega)) ?_; intro v40 w18 hE18 hR18
        replace hS := hS.tr hE18
        replace hL28 := hL28.ext hE18 (fun _ h => h)
        replace hL38 := hL38.ext hE18 (fun _ h => h)
        have hL40 := hR18
        refine wl_nil ⟨hS, ?_⟩
        refine wd_only 14 _ rfl (by kernel_rfl) ?_
        refine s1_yes rfl (congrArg Value.bool hg0) ?_
        refine wl_call e_30 rfl (ints_ok w18 U U hL38 hL40 (by omega)) ?_; intro v41 w19 hE19 hR19
        replace hS := hS.tr hE19
        replace hL28 := hL28.ext hE19 (fun _ h => h)
        replace hL38 := hL38.ext hE19 (fun _ h => h)
        subst hR19
        refine wl_nil ⟨hS, ?_⟩
        refine wd_take 15 _ _ rfl (by kernel_rfl) hS (yd_do fun A hA => rn_pickT (congrArg Value.bool hg0) (by conv => lhs; whnf)) ?_
        refine wd_take 16 _ _ rfl (by kernel_rfl) hS (yd_do fun A hA => rn_move (by conv => lhs; whnf)) ?_
        refine wd_take 17 _ _ rfl (by kernel_rfl) hS (yd_yes rfl (congrArg Value.bool hg0) fun A hA => rn_loadB s_43 rfl rfl (hB9.ext hA id)) ?_
        refine wd_take 18 _ _ rfl (by kernel_rfl) hS (yd_yes rfl (congrArg Value.bool hg0) fun A hA => rn_move (by conv => lhs; whnf)) ?_
        refine wd_take 20 _ _ rfl (by kernel_rfl) hS (yd_yes rfl (congrArg Value.bool hg0) fun A hA => rn_loadB s_43 rfl rfl (hB7.ext hA id)) ?_
        refine wd_take 21 _ _ rfl (by kernel_rfl) hS (yd_yes rfl (congrArg Value.bool hg0) fun A hA => rn_move (by conv => lhs; whnf)) ?_
        refine wd_only 19 _ rfl (by kernel_rfl) ?_
        refine s1_yes rfl (congrArg Value.bool hg0) ?_
        refine wl_call e_27 rfl (has_ok w19 U (hSU.ext (hVU.trans hS) (fun _ h => h)) x hsU (by omega)) ?_; intro v46 w20 hE20 hR20
        replace hS := hS.tr hE20
        replace hL28 := hL28.ext hE20 (fun _ h => h)
        replace hL38 := hL38.ext hE20 (fun _ h => h)
        subst hR20
        refine wl_nil ⟨hS, ?_⟩
        refine wd_only 22 _ rfl (by kernel_rfl) ?_
        refine s1_yes rfl (congrArg Value.bool hg0) ?_
        refine wl_call e_27 rfl (has_ok w20 (ofL la) (hSA.ext (hVA.trans hS) (fun _ h => h)) x hsa (by omega)) ?_; intro v49 w21 hE21 hR21
        replace hS := hS.tr hE21
        replace hL28 := hL28.ext hE21 (fun _ h => h)
        replace hL38 := hL38.ext hE21 (fun _ h => h)
        subst hR21
        refine wl_nil ⟨hS, ?_⟩
        refine wd_take 23 _ _ rfl (by kernel_rfl) hS (yd_yes rfl (congrArg Value.bool hg0) fun A hA => rn_move (by conv => lhs; whnf)) ?_
        refine wd_split (d := 50) rfl (fun hg50 => ?_) (fun hg50 => ?_)
        · have hg57 : decide (isAt ltI U x = true) = true := decide_eq_true ((isAt_iff lo_int hsU x).2 ((hmU x).2 (.inl ((isAt_iff lo_int hsa x).1 hg50))))
          refine wd_take 24 _ _ rfl (by kernel_rfl) hS (yd_no rfl (congrArg Value.bool hg50)) ?_
          refine wd_take 25 _ _ rfl (by kernel_rfl) hS (yd_no rfl (congrArg Value.bool hg50)) ?_
          refine wd_only 26 _ rfl (by kernel_rfl) ?_
          refine s1_no rfl (congrArg Value.bool hg50) ⟨hS, ?_⟩
          refine wd_take 27 _ _ rfl (by kernel_rfl) hS (yd_yes rfl (congrArg Value.bool hg0) fun A hA => rn_pickT (congrArg Value.bool hg50) (by conv => lhs; whnf)) ?_
          refine wd_take 28 _ _ rfl (by kernel_rfl) hS (yd_yes rfl (congrArg Value.bool hg0) fun A hA => rn_beql ub_4 rfl rfl) ?_
          refine wd_take 29 _ _ rfl (by kernel_rfl) hS (yd_do fun A hA => rn_pickT (congrArg Value.bool hg0) (by conv => lhs; whnf)) ?_
          refine wd_take 30 _ _ rfl (by kernel_rfl) hS (yd_do fun A hA => rn_move (by conv => lhs; whnf)) ?_
          refine wd_take 31 _ _ rfl (by kernel_rfl) hS (yd_yes rfl (congrArg Value.bool hg57) fun A hA => rn_loadB s_43 rfl rfl (hB9.ext hA id)) ?_
          refine wd_take 33 _ _ rfl (by kernel_rfl) hS (yd_yes rfl (congrArg Value.bool hg57) fun A hA => rn_loadB s_43 rfl rfl (hB7.ext hA id)) ?_
          refine wd_take 35 _ _ rfl (by kernel_rfl) hS (yd_yes rfl (congrArg Value.bool hg57) fun A hA => rn_loadB s_43 rfl rfl (hB8.ext hA id)) ?_
          refine wd_only 32 _ rfl (by kernel_rfl) ?_
          refine s1_yes rfl (congrArg Value.bool hg57) ?_
          refine wl_call e_28 rfl (len_ok w21 U (hSU.ext (hVU.trans hS) (fun _ h => h)) (by omega)) ?_; intro v59 w22 hE22 hR22
          replace hS := hS.tr hE22
          replace hL28 := hL28.ext hE22 (fun _ h => h)
          replace hL38 := hL38.ext hE22 (fun _ h => h)
          subst hR22
          refine wl_nil ⟨hS, ?_⟩
          refine wd_only 34 _ rfl (by kernel_rfl) ?_
          refine s1_yes rfl (congrArg Value.bool hg57) ?_
          refine wl_call e_28 rfl (len_ok w22 (ofL la) (hSA.ext (hVA.trans hS) (fun _ h => h)) (by omega)) ?_; intro v61 w23 hE23 hR23
          replace hS := hS.tr hE23
          replace hL28 := hL28.ext hE23 (fun _ h => h)
          replace hL38 := hL38.ext hE23 (fun _ h => h)
          subst hR23
          refine wl_nil ⟨hS, ?_⟩
          refine wd_only 36 _ rfl (by kernel_rfl) ?_
          refine s1_yes rfl (congrArg Value.bool hg57) ?_
          refine wl_call e_28 rfl (len_ok w23 (ofL lb') (hSB.ext (hVB.trans hS) (fun _ h => h)) (by omega)) ?_; intro v63 w24 hE24 hR24
          replace hS := hS.tr hE24
          replace hL28 := hL28.ext hE24 (fun _ h => h)
          replace hL38 := hL38.ext hE24 (fun _ h => h)
          subst hR24
          refine wl_nil ⟨hS, ?_⟩
          refine wd_take 37 _ _ rfl (by kernel_rfl) hS (yd_yes rfl (congrArg Value.bool hg57) fun A hA => rn_add rfl rfl (by omega)) ?_
          refine wd_take 38 _ _ rfl (by kernel_rfl) hS (yd_yes rfl (congrArg Value.bool hg57) fun A hA => rn_leq rfl rfl) ?_
          refine wd_take 39 _ _ rfl (by kernel_rfl) hS (yd_do fun A hA => rn_pickT (congrArg Value.bool hg57) (by conv => lhs; whnf)) ?_
          have hg67 : decide ((U.length : Int) ≤ ((ofL la).length : Int) + ((ofL lb').length : Int)) = true := decide_eq_true (by omega)
          refine wd_take 40 _ _ rfl (by kernel_rfl) hS (yd_do fun A hA => rn_move (by conv => lhs; whnf)) ?_
          refine wd_take 41 _ _ rfl (by kernel_rfl) hS (yd_yes rfl (congrArg Value.bool hg67) fun A hA => rn_loadB s_43 rfl rfl (hB9.ext hA id)) ?_
          refine wd_take 43 _ _ rfl (by kernel_rfl) hS (yd_yes rfl (congrArg Value.bool hg67) fun A hA => rn_loadB s_43 rfl rfl (hB7.ext hA id)) ?_
          refine wd_take 45 _ _ rfl (by kernel_rfl) hS (yd_yes rfl (congrArg Value.bool hg67) fun A hA => rn_loadB s_43 rfl rfl (hB8.ext hA id)) ?_
          refine wd_only 42 _ rfl (by kernel_rfl) ?_
          refine s1_yes rfl (congrArg Value.bool hg67) ?_
          refine wl_call e_28 rfl (len_ok w24 U (hSU.ext (hVU.trans hS) (fun _ h => h)) (by omega)) ?_; intro v69 w25 hE25 hR25
          replace hS := hS.tr hE25
          replace hL28 := hL28.ext hE25 (fun _ h => h)
          replace hL38 := hL38.ext hE25 (fun _ h => h)
          subst hR25
          refine wl_nil ⟨hS, ?_⟩
          refine wd_only 44 _ rfl (by kernel_rfl) ?_
          refine s1_yes rfl (congrArg Value.bool hg67) ?_
          refine wl_call e_28 rfl (len_ok w25 (ofL la) (hSA.ext (hVA.trans hS) (fun _ h => h)) (by omega)) ?_; intro v71 w26 hE26 hR26
          replace hS := hS.tr hE26
          replace hL28 := hL28.ext hE26 (fun _ h => h)
          replace hL38 := hL38.ext hE26 (fun _ h => h)
          subst hR26
          refine wl_nil ⟨hS, ?_⟩
          refine wd_only 46 _ rfl (by kernel_rfl) ?_
          refine s1_yes rfl (congrArg Value.bool hg67) ?_
          refine wl_call e_28 rfl (len_ok w26 (ofL lb') (hSB.ext (hVB.trans hS) (fun _ h => h)) (by omega)) ?_; intro v73 w27 hE27 hR27
          replace hS := hS.tr hE27
          replace hL28 := hL28.ext hE27 (fun _ h => h)
          replace hL38 := hL38.ext hE27 (fun _ h => h)
          subst hR27
          refine wl_nil ⟨hS, ?_⟩
          refine wd_take 47 _ _ rfl (by kernel_rfl) hS (yd_yes rfl (congrArg Value.bool hg67) fun A hA => rn_max2 rfl rfl) ?_
          refine wd_take 48 _ _ rfl (by kernel_rfl) hS (yd_yes rfl (congrArg Value.bool hg67) fun A hA => rn_geq rfl rfl) ?_
          refine wd_take 49 _ _ rfl (by kernel_rfl) hS (yd_do fun A hA => rn_pickT (congrArg Value.bool hg67) (by conv => lhs; whnf)) ?_
          refine wd_take 50 _ _ rfl (by kernel_rfl) hS (yd_do fun A hA => rn_assign (by conv => lhs; whnf)) ?_
          refine wd_done (by kernel_rfl) ?_ _
          replace hX := hX.tr hS
          replace hB7 := hB7.ext hS id; replace hB8 := hB8.ext hS id; replace hB9 := hB9.ext hS id
          replace hVA := hVA.tr hS
          replace hVB := hVB.tr hS
          replace hVU := hVU.tr hS
          refine W_ret ?_
          first | exact ⟨_, resR1 (res1_tmp rfl), hX, rfl⟩ | exact ⟨_, resR1 (res1_tmp rfl), hX, by show Value.bool (decide (_ ≥ _)) = _; rw [decide_eq_true (by split <;> omega)]⟩
        · have hg57 : decide (isAt ltI U x = isAt ltI (ofL lb') x) = true := decide_eq_true (by rw [Bool.eq_iff_iff, isAt_iff lo_int hsU, isAt_iff lo_int hsb, hmU]; exact ⟨fun h => h.elim (fun h => by rw [(isAt_iff lo_int hsa x).2 h] at hg50; cases hg50) id, .inr⟩)
          refine wd_take 24 _ _ rfl (by kernel_rfl) hS (yd_yes rfl (congrArg Value.bool hg50) fun A hA => rn_loadB s_43 rfl rfl (hB8.ext hA id)) ?_
          refine wd_take 25 _ _ rfl (by kernel_rfl) hS (yd_yes rfl (congrArg Value.bool hg50) fun A hA => rn_move (by conv => lhs; whnf)) ?_
          refine wd_only 26 _ rfl (by kernel_rfl) ?_
          refine s1_yes rfl (congrArg Value.bool hg50) ?_
          refine wl_call e_27 rfl (has_ok w21 (ofL lb') (hSB.ext (hVB.trans hS) (fun _ h => h)) x hsb (by omega)) ?_; intro v53 w28 hE28 hR28
          replace hS := hS.tr hE28
          replace hL28 := hL28.ext hE28 (fun _ h => h)
          replace hL38 := hL38.ext hE28 (fun _ h => h)
          subst hR28
          refine wl_nil ⟨hS, ?_⟩
          refine wd_take 27 _ _ rfl (by kernel_rfl) hS (yd_yes rfl (congrArg Value.bool hg0) fun A hA => rn_pickF (congrArg Value.bool hg50) (by conv => lhs; whnf)) ?_
          refine wd_take 28 _ _ rfl (by kernel_rfl) hS (yd_yes rfl (congrArg Value.bool hg0) fun A hA => rn_beql ub_4 rfl rfl) ?_
          refine wd_take 29 _ _ rfl (by kernel_rfl) hS (yd_do fun A hA => rn_pickT (congrArg Value.bool hg0) (by conv => lhs; whnf)) ?_
          refine wd_take 30 _ _ rfl (by kernel_rfl) hS (yd_do fun A hA => rn_move (by conv => lhs; whnf)) ?_
          refine wd_take 31 _ _ rfl (by kernel_rfl) hS (yd_yes rfl (congrArg Value.bool hg57) fun A hA => rn_loadB s_43 rfl rfl (hB9.ext hA id)) ?_
          refine wd_take 33 _ _ rfl (by kernel_rfl) hS (yd_yes rfl (congrArg Value.bool hg57) fun A hA => rn_loadB s_43 rfl rfl (hB7.ext hA id)) ?_
          refine wd_take 35 _ _ rfl (by kernel_rfl) hS (yd_yes rfl (congrArg Value.bool hg57) fun A hA => rn_loadB s_43 rfl rfl (hB8.ext hA id)) ?_
          refine wd_only 32 _ rfl (by kernel_rfl) ?_
          refine s1_yes rfl (congrArg Value.bool hg57) ?_
          refine wl_call e_28 rfl (len_ok w28 U (hSU.ext (hVU.trans hS) (fun _ h => h)) (by omega)) ?_; intro v59 w29 hE29 hR29
          replace hS := hS.tr hE29
          replace hL28 := hL28.ext hE29 (fun _ h => h)
          replace hL38 := hL38.ext hE29 (fun _ h => h)
          subst hR29
          refine wl_nil ⟨hS, ?_⟩
          refine wd_only 34 _ rfl (by kernel_rfl) ?_
          refine s1_yes rfl (congrArg Value.bool hg57) ?_
          refine wl_call e_28 rfl (len_ok w29 (ofL la) (hSA.ext (hVA.trans hS) (fun _ h => h)) (by omega)) ?_; intro v61 w30 hE30 hR30
          replace hS := hS.tr hE30
          replace hL28 := hL28.ext hE30 (fun _ h => h)
          replace hL38 := hL38.ext hE30 (fun _ h => h)
          subst hR30
          refine wl_nil ⟨hS, ?_⟩
          refine wd_only 36 _ rfl (by kernel_rfl) ?_
          refine s1_yes rfl (congrArg Value.bool hg57) ?_
          refine wl_call e_28 rfl (len_ok w30 (ofL lb') (hSB.ext (hVB.trans hS) (fun _ h => h)) (by omega)) ?_; intro v63 w31 hE31 hR31
          replace hS := hS.tr hE31
          replace hL28 := hL28.ext hE31 (fun _ h => h)
          replace hL38 := hL38.ext hE31 (fun _ h => h)
          subst hR31
          refine wl_nil ⟨hS, ?_⟩
          refine wd_take 37 _ _ rfl (by kernel_rfl) hS (yd_yes rfl (congrArg Value.bool hg57) fun A hA => rn_add rfl rfl (by omega)) ?_
          refine wd_take 38 _ _ rfl (by kernel_rfl) hS (yd_yes rfl (congrArg Value.bool hg57) fun A hA => rn_leq rfl rfl) ?_
          refine wd_take 39 _ _ rfl (by kernel_rfl) hS (yd_do fun A hA => rn_pickT (congrArg Value.bool hg57) (by conv => lhs; whnf)) ?_
          have hg67 : decide ((U.length : Int) ≤ ((ofL la).length : Int) + ((ofL lb').length : Int)) = true := decide_eq_true (by omega)
          refine wd_take 40 _ _ rfl (by kernel_rfl) hS (yd_do fun A hA => rn_move (by conv => lhs; whnf)) ?_
          refine wd_take 41 _ _ rfl (by kernel_rfl) hS (yd_yes rfl (congrArg Value.bool hg67) fun A hA => rn_loadB s_43 rfl rfl (hB9.ext hA id)) ?_
          refine wd_take 43 _ _ rfl (by kernel_rfl) hS (yd_yes rfl (congrArg Value.bool hg67) fun A hA => rn_loadB s_43 rfl rfl (hB7.ext hA id)) ?_
          refine wd_take 45 _ _ rfl (by kernel_rfl) hS (yd_yes rfl (congrArg Value.bool hg67) fun A hA => rn_loadB s_43 rfl rfl (hB8.ext hA id)) ?_
          refine wd_only 42 _ rfl (by kernel_rfl) ?_
          refine s1_yes rfl (congrArg Value.bool hg67) ?_
          refine wl_call e_28 rfl (len_ok w31 U (hSU.ext (hVU.trans hS) (fun _ h => h)) (by omega)) ?_; intro v69 w32 hE32 hR32
          replace hS := hS.tr hE32
          replace hL28 := hL28.ext hE32 (fun _ h => h)
          replace hL38 := hL38.ext hE32 (fun _ h => h)
          subst hR32
          refine wl_nil ⟨hS, ?_⟩
          refine wd_only 44 _ rfl (by kernel_rfl) ?_
          refine s1_yes rfl (congrArg Value.bool hg67) ?_
          refine wl_call e_28 rfl (len_ok w32 (ofL la) (hSA.ext (hVA.trans hS) (fun _ h => h)) (by omega)) ?_; intro v71 w33 hE33 hR33
          replace hS := hS.tr hE33
          replace hL28 := hL28.ext hE33 (fun _ h => h)
          replace hL38 := hL38.ext hE33 (fun _ h => h)
          subst hR33
          refine wl_nil ⟨hS, ?_⟩
          refine wd_only 46 _ rfl (by kernel_rfl) ?_
          refine s1_yes rfl (congrArg Value.bool hg67) ?_
          refine wl_call e_28 rfl (len_ok w33 (ofL lb') (hSB.ext (hVB.trans hS) (fun _ h => h)) (by omega)) ?_; intro v73 w34 hE34 hR34
          replace hS := hS.tr hE34
          replace hL28 := hL28.ext hE34 (fun _ h => h)
          replace hL38 := hL38.ext hE34 (fun _ h => h)
          subst hR34
          refine wl_nil ⟨hS, ?_⟩
          refine wd_take 47 _ _ rfl (by kernel_rfl) hS (yd_yes rfl (congrArg Value.bool hg67) fun A hA => rn_max2 rfl rfl) ?_
          refine wd_take 48 _ _ rfl (by kernel_rfl) hS (yd_yes rfl (congrArg Value.bool hg67) fun A hA => rn_geq rfl rfl) ?_
          refine wd_take 49 _ _ rfl (by kernel_rfl) hS (yd_do fun A hA => rn_pickT (congrArg Value.bool hg67) (by conv => lhs; whnf)) ?_
          refine wd_take 50 _ _ rfl (by kernel_rfl) hS (yd_do fun A hA => rn_assign (by conv => lhs; whnf)) ?_
          refine wd_done (by kernel_rfl) ?_ _
          replace hX := hX.tr hS
          replace hB7 := hB7.ext hS id; replace hB8 := hB8.ext hS id; replace hB9 := hB9.ext hS id
          replace hVA := hVA.tr hS
          replace hVB := hVB.tr hS
          replace hVU := hVU.tr hS
          refine W_ret ?_
          first | exact ⟨_, resR1 (res1_tmp rfl), hX, rfl⟩ | exact ⟨_, resR1 (res1_tmp rfl), hX, by show Value.bool (decide (_ ≥ _)) = _; rw [decide_eq_true (by split <;> omega)]⟩
end Go.Proofs.YtfdfphaiefbflaaC
