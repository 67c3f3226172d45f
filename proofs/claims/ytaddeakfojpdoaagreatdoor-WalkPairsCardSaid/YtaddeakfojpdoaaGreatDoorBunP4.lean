/- The library's functions on slices that the sets use: clone, delete, insert, and a list with something at a place. -/
import Derived.Test.YtaddeakfojpdoaaGreatDoorBunP3
set_option linter.unusedVariables false
set_option linter.unusedSimpArgs false
set_option maxRecDepth 100000
namespace Go.Proofs.YtaddeakfojpdoaaGreatDoorC
open Go.RowKit
-- slices.Insert[[]int,int]
set_option maxHeartbeats 1600000 in
theorem insert_i (w : World) (i : Nat) (rows : List (List Value)) (r : List Value) {v vx : Value} (hs : Sl Non w v 1 rows) (hv : ∃ a, v = .slice a rows.length rows.length) (hi : i ≤ rows.length) (hx : Sl Non w vx 1 [r]) (h2 : ∀ u ∈ r, u.oneCell' = true) (h1 : ∀ r ∈ rows, ∀ u ∈ r, u.oneCell' = true) (hn : rows.length ≤ 1000000) : Fn Tryz.prog 126 #[v, .int .i64 (i : Nat), vx] w fun u w' => ∃ b spare, w.heap.size ≤ b ∧ Ow w' u b 1 (rows.take i ++ r :: rows.drop i) spare := by
  obtain ⟨a, rfl⟩ := hv
  obtain ⟨a2, c2, rfl, _⟩ := hx.len
  have hbig : rows.length ≤ big := by simp only [big]; omega
  have hti : (rows.take i).length = i := by rw [List.length_take]; omega
  have htj : (rows.drop i).length = rows.length - i := List.length_drop
  have hX := Ext.refl Non w
  refine fn_of_W (args := [_, _, _]) Tryz.func126 rfl (by kernel_rfl) rfl ?_
  refine W_seq ?_
  refine W_region ?_
  refine wl_val (rn_assign (by conv => lhs; whnf)) ?_
  refine wl_nil ?_
  refine W_seq ?_
  refine W_region ?_
  refine wl_val (rn_move (by conv => lhs; whnf)) ?_
  refine wl_val (rn_move (by conv => lhs; whnf)) ?_
  refine wl_val (rn_slice sl_23 (l := i) (h := rows.length) (m := rows.length) rfl ⟨_, rfl⟩ rfl rfl (by simp) (by omega) (by omega) (by omega)) ?_
  refine wl_nil ?_
  refine W_seq ?_
  refine W_region ?_
  refine wl_val (rn_move (by conv => lhs; whnf)) ?_
  refine wl_val (rn_len sl_23 rfl) ?_
  refine wl_val (rn_assign (by conv => lhs; whnf)) ?_
  refine wl_nil ?_
  refine W_seq ?_
  refine W_seq ?_
  refine W_region ?_
  refine wl_val (rn_move (by conv => lhs; whnf)) ?_
  refine wl_val (rn_eql rfl rfl) ?_
  refine wl_nil ?_
  refine W_cond rfl (fun hc0 => ?_) (fun hc0 => ?_)
  · exact absurd (of_decide_eq_true hc0) (by simp)
  · refine W_skip ?_
    refine W_seq ?_
    refine W_region ?_
    refine wl_val (rn_move (by conv => lhs; whnf)) ?_
    refine wl_val (rn_len sl_23 rfl) ?_
    refine wl_val (rn_assign (by conv => lhs; whnf)) ?_
    refine wl_nil ?_
    refine W_seq ?_
    refine W_seq ?_
    refine W_region ?_
    refine wl_val (rn_move (by conv => lhs; whnf)) ?_
    refine wl_val (rn_move (by conv => lhs; whnf)) ?_
    refine wl_val (rn_eql rfl rfl) ?_
    refine wl_nil ?_
    refine W_cond rfl (fun hc1 => ?_) (fun hc1 => ?_)
    · have hie : i = rows.length := by have := of_decide_eq_true hc1; omega
      subst hie
      refine W_seq ?_
      refine W_region ?_
      refine wl_val (rn_move (by conv => lhs; whnf)) ?_
      refine wl_val (rn_move (by conv => lhs; whnf)) ?_
      have hXo := hX
      refine wl_grow sl_23 rfl rfl rfl (hs.ext hX (fun _ h => h)) (hx.ext hX (fun _ h => h)) (by simp only [List.length_cons, List.length_nil, List.length_append, List.length_replicate, List.length_take, List.length_drop]; omega) (by simp only [List.length_cons, List.length_nil, List.length_append, List.length_replicate, List.length_take, List.length_drop]; omega) (by simp only [List.length_cons, List.length_nil, List.length_append, List.length_replicate, big]; omega) ?_; intro v25 w1 b25 spare25 hb25 hE1 hO25
      replace hX := hX.tr hE1
      refine wl_val (rn_assign (by conv => lhs; whnf)) ?_
      refine wl_nil ?_
      refine W_ret ?_
      exact ⟨_, resR1 (res1_tmp rfl), hX, ⟨b25, spare25, Nat.le_trans hXo.size hb25, by rw [List.take_of_length_le (Nat.le_refl _), List.drop_of_length_le (Nat.le_refl _)]; exact hO25⟩⟩
    · have hie : ¬ i = rows.length := by have := of_decide_eq_false hc1; omega
      refine W_skip ?_
      refine W_seq ?_
      refine W_seq ?_
      refine W_region ?_
      refine wl_val (rn_move (by conv => lhs; whnf)) ?_
      refine wl_val (rn_move (by conv => lhs; whnf)) ?_
      refine wl_val (rn_add rfl rfl (by simp only [List.length_singleton]; omega)) ?_
      refine wl_val (rn_move (by conv => lhs; whnf)) ?_
      refine wl_val (rn_cap sl_23 rfl) ?_
      refine wl_val (rn_gtr rfl rfl) ?_
      refine wl_nil ?_
      refine W_cond rfl (fun hc2 => ?_) (fun hc2 => ?_)
      · refine W_seq ?_
        refine W_region ?_
        refine wl_val (rn_move (by conv => lhs; whnf)) ?_
        refine wl_val (rn_move (by conv => lhs; whnf)) ?_
        refine wl_val (rn_slice0 sl_23 (h := i) (m := rows.length) rfl rfl ⟨_, rfl⟩ rfl (by simp) (by omega) (by omega)) ?_
        refine wl_val (rn_move (by conv => lhs; whnf)) ?_
        refine wl_val (rn_move (by conv => lhs; whnf)) ?_
        refine wl_val (rn_add rfl rfl (by simp only [List.length_singleton]; omega)) ?_
        refine wl_val (rn_move (by conv => lhs; whnf)) ?_
        refine wl_val (rn_sub rfl rfl (by simp only [List.length_singleton]; omega)) ?_
        refine wl_zeros (q := rows.length + 1 - i) sl_23 rfl ui_3 rfl (congrArg (Value.int .i64) (by simp only [List.length_singleton]; omega)) ((hs.ext hX (fun _ h => h)).cut0 hi (by omega) (Nat.le_refl _)) (by rw [hti]; omega) (by rw [hti]; omega) (by rw [hti]; simp only [big]; omega) ?_; intro v40 w2 b40 spare40 hb40 hE2 hO40
        have hq40 : w.heap.size ≤ b40 := Nat.le_trans hX.size hb40
        replace hX := hX.tr hE2
        refine wl_val (rn_assign (by conv => lhs; whnf)) ?_
        refine wl_nil ?_
        refine W_seq ?_
        refine W_region ?_
        obtain ⟨c40, hv40, hk1, hk2, hk3⟩ := hO40.val; rw [List.length_append, hti, List.length_replicate, show i + (rows.length + 1 - i) = rows.length + 1 from by omega] at hv40 hk1
        refine wl_val (rn_move (by conv => lhs; whnf)) ?_
        refine wl_val (rn_move (by conv => lhs; whnf)) ?_
        refine wl_val (rn_sliceO sl_23 (l := i) (h := rows.length + 1) (m := c40) hv40 ⟨_, rfl⟩ rfl rfl (by simp) (by omega) (by omega) (by omega) (by omega)) ?_
        refine wl_val (rn_move (by conv => lhs; whnf)) ?_
        refine wl_copy (l := i) sl_23 rfl rfl hO40 (hx.ext hX (fun _ h => h)) (oneR h2) (by simp only [List.length_singleton, List.length_append, hti, List.length_replicate]; omega) ?_; intro w3 hE3 hO45 _
        have ht45 : [r].take (rows.length + 1 - i) = [r] := List.take_of_length_le (by simp only [List.length_singleton]; omega)
        rw [ht45] at hO45
        replace hX := hX.mine hE3 (.inr hq40)
        refine wl_nil ?_
        refine W_seq ?_
        refine W_drawF (fun x => x = b40) mixed ?_; intro w4 hE4
        replace hX := hX.tr hE4
        replace hO45 := hO45.ext hE4 id
        have hS := Ext.refl (fun x => x = b40) w4
        refine wd_take 0 _ _ rfl (by kernel_rfl) hS (yd_do fun A hA => rn_move (by conv => lhs; whnf)) ?_
        refine wd_take 1 _ _ rfl (by kernel_rfl) hS (yd_do fun A hA => rn_move (by conv => lhs; whnf)) ?_
        refine wd_take 2 _ _ rfl (by kernel_rfl) hS (yd_do fun A hA => rn_move (by conv => lhs; whnf)) ?_
        refine wd_take 3 _ _ rfl (by kernel_rfl) hS (yd_do fun A hA => rn_add rfl rfl (by simp only [List.length_singleton]; omega)) ?_
        refine wd_take 4 _ _ rfl (by kernel_rfl) hS (yd_do fun A hA => rn_sliceO sl_23 (l := i + 1) (h := rows.length + 1) (m := c40) hv40 ⟨_, rfl⟩ rfl rfl (by simp) (by omega) (by omega) (by omega) (by omega)) ?_
        refine wd_take 5 _ _ rfl (by kernel_rfl) hS (yd_do fun A hA => rn_move (by conv => lhs; whnf)) ?_
        refine wd_take 6 _ _ rfl (by kernel_rfl) hS (yd_do fun A hA => rn_move (by conv => lhs; whnf)) ?_
        refine wd_take 7 _ _ rfl (by kernel_rfl) hS (yd_do fun A hA => rn_slice sl_23 (l := i) (h := rows.length) (m := rows.length) rfl ⟨_, rfl⟩ rfl rfl (by simp) (by omega) (by omega) (by omega)) ?_
        refine wd_only 8 _ rfl (by kernel_rfl) ?_
        refine s1_do ?_
        have hsl := (hs.ext hX (fun _ h => h)).cut hi (Nat.le_refl _) (Nat.le_refl _) (Nat.le_refl _)
        have htd : (rows.drop i).take (rows.length - i) = rows.drop i := List.take_of_length_le (by rw [htj]; exact Nat.le_refl _)
        have hte : (rows.drop i).take (rows.length + 1 - (i + 1)) = rows.drop i := List.take_of_length_le (by rw [htj]; omega)
        rw [htd] at hsl
        refine wl_copy (l := i + 1) sl_23 rfl rfl hO45 hsl (fun r hr => h1 r (List.mem_of_mem_drop hr)) (by rw [htj, patchR_length (by simp only [List.length_singleton, List.length_append, hti, List.length_replicate]; omega), List.length_append, hti, List.length_replicate]; omega) ?_; intro w5 hE5 hO54 _
        rw [hte, ins_rows hi (by rw [List.length_replicate])] at hO54
        replace hS := hS.trans hE5
        refine wl_nil ⟨hS, ?_⟩
        refine wd_done (by kernel_rfl) ?_ _
        replace hX := hX.mine hS (.inr hq40)
        refine W_seq ?_
        refine W_region ?_
        refine wl_val (rn_move (by conv => lhs; whnf)) ?_
        refine wl_val (rn_assign (by conv => lhs; whnf)) ?_
        refine wl_nil ?_
        refine W_ret ?_
        exact ⟨_, resR1 (res1_tmp rfl), hX, ⟨b40, spare40, hq40, hO54⟩⟩
      · exact absurd (of_decide_eq_false hc2) (fun h => h (by simp only [List.length_singleton]; omega))
-- bellman/set.put[int]
set_option maxHeartbeats 800000 in
theorem put_i (w : World) (i : Nat) (there : Bool) (rows : List (List Value)) {v x : Value} (hs : Sl Non w v 1 rows) (hi : i ≤ rows.length) (hi2 : there = true → i < rows.length) (hx1 : x.oneCell' = true) (hxc : x.cells = #[x]) (h1 : ∀ r ∈ rows, ∀ u ∈ r, u.oneCell' = true) (hn : rows.length ≤ 1000000) : Fn Tryz.prog 88 #[v, .int .i64 (i : Nat), .bool there, x] w fun u w' => ∃ b spare, w.heap.size ≤ b ∧ Ow w' u b 1 (if there = true then rows.set i [x] else rows.take i ++ [x] :: rows.drop i) spare := by
  obtain ⟨a, c, rfl, _⟩ := hs.len
  have hbig : rows.length ≤ big := by simp only [big]; omega
  have hX := Ext.refl Non w
  refine fn_of_W (args := [_, _, _, _]) Tryz.func88 rfl (by kernel_rfl) rfl ?_
  refine W_seq ?_
  refine W_region ?_
  refine wl_val (rn_assign (by conv => lhs; whnf)) ?_
  refine wl_nil ?_
  refine W_seq ?_
  refine W_region ?_
  refine wl_val (rn_move (by conv => lhs; whnf)) ?_
  refine wl_val (rn_len sl_23 rfl) ?_
  refine wl_make sl_23 rfl rfl rfl (by omega) hbig ?_; intro w1 b12 hb12 hE1 hO12
  have hq12 : w.heap.size ≤ b12 := Nat.le_trans hX.size hb12
  replace hX := hX.tr hE1
  refine wl_val (rn_assign (by conv => lhs; whnf)) ?_
  refine wl_nil ?_
  refine W_seq ?_
  refine W_region ?_
  refine wl_val (rn_move (by conv => lhs; whnf)) ?_
  refine wl_val (rn_move (by conv => lhs; whnf)) ?_
  refine wl_copy (l := 0) sl_23 (by rw [Nat.zero_mul]; rfl) rfl hO12 (hs.ext hX (fun _ h => h)) h1 (by rw [List.length_replicate]; omega) ?_; intro w2 hE2 hO15 _
  have hp15 : patchR (List.replicate rows.length [.int .i64 0]) 0 (rows.take rows.length) = rows := by unfold patchR; simp
  rw [hp15] at hO15
  replace hX := hX.mine hE2 (.inr hq12)
  refine wl_nil ?_
  refine W_seq ?_
  refine W_seq ?_
  refine W_region ?_
  refine wl_val (rn_move (by conv => lhs; whnf)) ?_
  refine wl_nil ?_
  refine W_cond rfl (fun hc0 => ?_) (fun hc0 => ?_)
  · have hlt := hi2 hc0
    refine W_seq ?_
    refine W_region ?_
    refine wl_val (rn_move (by conv => lhs; whnf)) ?_
    refine wl_val (rn_move (by conv => lhs; whnf)) ?_
    refine wl_val (rn_move (by conv => lhs; whnf)) ?_
    refine wl_val (rn_indexAddr sl_23 rfl rfl (by omega)) ?_
    refine wl_storeE p_3 rfl rfl hx1 hxc hO15 (by omega) ?_; intro w3 hE3 hO20
    replace hX := hX.mine hE3 (.inr hq12)
    refine wl_nil ?_
    refine W_seq ?_
    refine W_region ?_
    refine wl_val (rn_move (by conv => lhs; whnf)) ?_
    refine wl_val (rn_assign (by conv => lhs; whnf)) ?_
    refine wl_nil ?_
    refine W_ret ?_
    exact ⟨_, resR1 (res1_tmp rfl), hX, ⟨b12, [], hq12, by rw [if_pos hc0]; exact hO20⟩⟩
  · refine W_skip ?_
    refine W_seq ?_
    refine W_region ?_
    refine wl_val (rn_move (by conv => lhs; whnf)) ?_
    refine wl_val (rn_move (by conv => lhs; whnf)) ?_
    refine wl_val (rn_move (by conv => lhs; whnf)) ?_
    refine wl_lit1 (r := [x]) sl_23 rfl rfl (by rw [show ev _ (Operand.tmp 24) = x from rfl, hxc]) rfl (by decide) ?_; intro v25 w4 b25 hb25 hE4 hO25
    replace hX := hX.tr hE4
    replace hO15 := hO15.ext hE4 id
    have hXo := hX
    refine wl_call e_126 rfl (insert_i w4 i rows [x] (hO15.sl (M := Non) id) ⟨_, rfl⟩ hi (hO25.sl (M := Non) id) (one1 hx1) h1 hn) ?_; intro v26 w5 hE5 hR5
    replace hX := hX.tr hE5
    replace hO15 := hO15.ext hE5 id
    obtain ⟨b26, spare26, hb26, hO26⟩ := hR5
    refine wl_val (rn_assign (by conv => lhs; whnf)) ?_
    refine wl_nil ?_
    refine W_ret ?_
    exact ⟨_, resR1 (res1_tmp rfl), hX, ⟨b26, spare26, Nat.le_trans hXo.size hb26, by rw [if_neg (by rw [hc0]; simp)]; exact hO26⟩⟩
-- slices.Insert[[]string,string]
set_option maxHeartbeats 1600000 in
theorem insert_s (w : World) (i : Nat) (rows : List (List Value)) (r : List Value) {v vx : Value} (hs : Sl Non w v 1 rows) (hv : ∃ a, v = .slice a rows.length rows.length) (hi : i ≤ rows.length) (hx : Sl Non w vx 1 [r]) (h2 : ∀ u ∈ r, u.oneCell' = true) (h1 : ∀ r ∈ rows, ∀ u ∈ r, u.oneCell' = true) (hn : rows.length ≤ 1000000) : Fn Tryz.prog 147 #[v, .int .i64 (i : Nat), vx] w fun u w' => ∃ b spare, w.heap.size ≤ b ∧ Ow w' u b 1 (rows.take i ++ r :: rows.drop i) spare := by
  obtain ⟨a, rfl⟩ := hv
  obtain ⟨a2, c2, rfl, _⟩ := hx.len
  have hbig : rows.length ≤ big := by simp only [big]; omega
  have hti : (rows.take i).length = i := by rw [List.length_take]; omega
  have htj : (rows.drop i).length = rows.length - i := List.length_drop
  have hX := Ext.refl Non w
  refine fn_of_W (args := [_, _, _]) Tryz.func147 rfl (by kernel_rfl) rfl ?_
  refine W_seq ?_
  refine W_region ?_
  refine wl_val (rn_assign (by conv => lhs; whnf)) ?_
  refine wl_nil ?_
  refine W_seq ?_
  refine W_region ?_
  refine wl_val (rn_move (by conv => lhs; whnf)) ?_
  refine wl_val (rn_move (by conv => lhs; whnf)) ?_
  refine wl_val (rn_slice sl_22 (l := i) (h := rows.length) (m := rows.length) rfl ⟨_, rfl⟩ rfl rfl (by simp) (by omega) (by omega) (by omega)) ?_
  refine wl_nil ?_
  refine W_seq ?_
  refine W_region ?_
  refine wl_val (rn_move (by conv => lhs; whnf)) ?_
  refine wl_val (rn_len sl_22 rfl) ?_
  refine wl_val (rn_assign (by conv => lhs; whnf)) ?_
  refine wl_nil ?_
  refine W_seq ?_
  refine W_seq ?_
  refine W_region ?_
  refine wl_val (rn_move (by conv => lhs; whnf)) ?_
  refine wl_val (rn_eql rfl rfl) ?_
  refine wl_nil ?_
  refine W_cond rfl (fun hc0 => ?_) (fun hc0 => ?_)
  · exact absurd (of_decide_eq_true hc0) (by simp)
  · refine W_skip ?_
    refine W_seq ?_
    refine W_region ?_
    refine wl_val (rn_move (by conv => lhs; whnf)) ?_
    refine wl_val (rn_len sl_22 rfl) ?_
    refine wl_val (rn_assign (by conv => lhs; whnf)) ?_
    refine wl_nil ?_
    refine W_seq ?_
    refine W_seq ?_
    refine W_region ?_
    refine wl_val (rn_move (by conv => lhs; whnf)) ?_
    refine wl_val (rn_move (by conv => lhs; whnf)) ?_
    refine wl_val (rn_eql rfl rfl) ?_
    refine wl_nil ?_
    refine W_cond rfl (fun hc1 => ?_) (fun hc1 => ?_)
    · have hie : i = rows.length := by have := of_decide_eq_true hc1; omega
      subst hie
      refine W_seq ?_
      refine W_region ?_
      refine wl_val (rn_move (by conv => lhs; whnf)) ?_
      refine wl_val (rn_move (by conv => lhs; whnf)) ?_
      have hXo := hX
      refine wl_grow sl_22 rfl rfl rfl (hs.ext hX (fun _ h => h)) (hx.ext hX (fun _ h => h)) (by simp only [List.length_cons, List.length_nil, List.length_append, List.length_replicate, List.length_take, List.length_drop]; omega) (by simp only [List.length_cons, List.length_nil, List.length_append, List.length_replicate, List.length_take, List.length_drop]; omega) (by simp only [List.length_cons, List.length_nil, List.length_append, List.length_replicate, big]; omega) ?_; intro v25 w1 b25 spare25 hb25 hE1 hO25
      replace hX := hX.tr hE1
      refine wl_val (rn_assign (by conv => lhs; whnf)) ?_
      refine wl_nil ?_
      refine W_ret ?_
      exact ⟨_, resR1 (res1_tmp rfl), hX, ⟨b25, spare25, Nat.le_trans hXo.size hb25, by rw [List.take_of_length_le (Nat.le_refl _), List.drop_of_length_le (Nat.le_refl _)]; exact hO25⟩⟩
    · have hie : ¬ i = rows.length := by have := of_decide_eq_false hc1; omega
      refine W_skip ?_
      refine W_seq ?_
      refine W_seq ?_
      refine W_region ?_
      refine wl_val (rn_move (by conv => lhs; whnf)) ?_
      refine wl_val (rn_move (by conv => lhs; whnf)) ?_
      refine wl_val (rn_add rfl rfl (by simp only [List.length_singleton]; omega)) ?_
      refine wl_val (rn_move (by conv => lhs; whnf)) ?_
      refine wl_val (rn_cap sl_22 rfl) ?_
      refine wl_val (rn_gtr rfl rfl) ?_
      refine wl_nil ?_
      refine W_cond rfl (fun hc2 => ?_) (fun hc2 => ?_)
      · refine W_seq ?_
        refine W_region ?_
        refine wl_val (rn_move (by conv => lhs; whnf)) ?_
        refine wl_val (rn_move (by conv => lhs; whnf)) ?_
        refine wl_val (rn_slice0 sl_22 (h := i) (m := rows.length) rfl rfl ⟨_, rfl⟩ rfl (by simp) (by omega) (by omega)) ?_
        refine wl_val (rn_move (by conv => lhs; whnf)) ?_
        refine wl_val (rn_move (by conv => lhs; whnf)) ?_
        refine wl_val (rn_add rfl rfl (by simp only [List.length_singleton]; omega)) ?_
        refine wl_val (rn_move (by conv => lhs; whnf)) ?_
        refine wl_val (rn_sub rfl rfl (by simp only [List.length_singleton]; omega)) ?_
        refine wl_zeros (q := rows.length + 1 - i) sl_22 rfl ui_3 rfl (congrArg (Value.int .i64) (by simp only [List.length_singleton]; omega)) ((hs.ext hX (fun _ h => h)).cut0 hi (by omega) (Nat.le_refl _)) (by rw [hti]; omega) (by rw [hti]; omega) (by rw [hti]; simp only [big]; omega) ?_; intro v40 w2 b40 spare40 hb40 hE2 hO40
        have hq40 : w.heap.size ≤ b40 := Nat.le_trans hX.size hb40
        replace hX := hX.tr hE2
        refine wl_val (rn_assign (by conv => lhs; whnf)) ?_
        refine wl_nil ?_
        refine W_seq ?_
        refine W_region ?_
        obtain ⟨c40, hv40, hk1, hk2, hk3⟩ := hO40.val; rw [List.length_append, hti, List.length_replicate, show i + (rows.length + 1 - i) = rows.length + 1 from by omega] at hv40 hk1
        refine wl_val (rn_move (by conv => lhs; whnf)) ?_
        refine wl_val (rn_move (by conv => lhs; whnf)) ?_
        refine wl_val (rn_sliceO sl_22 (l := i) (h := rows.length + 1) (m := c40) hv40 ⟨_, rfl⟩ rfl rfl (by simp) (by omega) (by omega) (by omega) (by omega)) ?_
        refine wl_val (rn_move (by conv => lhs; whnf)) ?_
        refine wl_copy (l := i) sl_22 rfl rfl hO40 (hx.ext hX (fun _ h => h)) (oneR h2) (by simp only [List.length_singleton, List.length_append, hti, List.length_replicate]; omega) ?_; intro w3 hE3 hO45 _
        have ht45 : [r].take (rows.length + 1 - i) = [r] := List.take_of_length_le (by simp only [List.length_singleton]; omega)
        rw [ht45] at hO45
        replace hX := hX.mine hE3 (.inr hq40)
        refine wl_nil ?_
        refine W_seq ?_
        refine W_drawF (fun x => x = b40) mixed ?_; intro w4 hE4
        replace hX := hX.tr hE4
        replace hO45 := hO45.ext hE4 id
        have hS := Ext.refl (fun x => x = b40) w4
        refine wd_take 0 _ _ rfl (by kernel_rfl) hS (yd_do fun A hA => rn_move (by conv => lhs; whnf)) ?_
        refine wd_take 1 _ _ rfl (by kernel_rfl) hS (yd_do fun A hA => rn_move (by conv => lhs; whnf)) ?_
        refine wd_take 2 _ _ rfl (by kernel_rfl) hS (yd_do fun A hA => rn_move (by conv => lhs; whnf)) ?_
        refine wd_take 3 _ _ rfl (by kernel_rfl) hS (yd_do fun A hA => rn_add rfl rfl (by simp only [List.length_singleton]; omega)) ?_
        refine wd_take 4 _ _ rfl (by kernel_rfl) hS (yd_do fun A hA => rn_sliceO sl_22 (l := i + 1) (h := rows.length + 1) (m := c40) hv40 ⟨_, rfl⟩ rfl rfl (by simp) (by omega) (by omega) (by omega) (by omega)) ?_
        refine wd_take 5 _ _ rfl (by kernel_rfl) hS (yd_do fun A hA => rn_move (by conv => lhs; whnf)) ?_
        refine wd_take 6 _ _ rfl (by kernel_rfl) hS (yd_do fun A hA => rn_move (by conv => lhs; whnf)) ?_
        refine wd_take 7 _ _ rfl (by kernel_rfl) hS (yd_do fun A hA => rn_slice sl_22 (l := i) (h := rows.length) (m := rows.length) rfl ⟨_, rfl⟩ rfl rfl (by simp) (by omega) (by omega) (by omega)) ?_
        refine wd_only 8 _ rfl (by kernel_rfl) ?_
        refine s1_do ?_
        have hsl := (hs.ext hX (fun _ h => h)).cut hi (Nat.le_refl _) (Nat.le_refl _) (Nat.le_refl _)
        have htd : (rows.drop i).take (rows.length - i) = rows.drop i := List.take_of_length_le (by rw [htj]; exact Nat.le_refl _)
        have hte : (rows.drop i).take (rows.length + 1 - (i + 1)) = rows.drop i := List.take_of_length_le (by rw [htj]; omega)
        rw [htd] at hsl
        refine wl_copy (l := i + 1) sl_22 rfl rfl hO45 hsl (fun r hr => h1 r (List.mem_of_mem_drop hr)) (by rw [htj, patchR_length (by simp only [List.length_singleton, List.length_append, hti, List.length_replicate]; omega), List.length_append, hti, List.length_replicate]; omega) ?_; intro w5 hE5 hO54 _
        rw [hte, ins_rows hi (by rw [List.length_replicate])] at hO54
        replace hS := hS.trans hE5
        refine wl_nil ⟨hS, ?_⟩
        refine wd_done (by kernel_rfl) ?_ _
        replace hX := hX.mine hS (.inr hq40)
        refine W_seq ?_
        refine W_region ?_
        refine wl_val (rn_move (by conv => lhs; whnf)) ?_
        refine wl_val (rn_assign (by conv => lhs; whnf)) ?_
        refine wl_nil ?_
        refine W_ret ?_
        exact ⟨_, resR1 (res1_tmp rfl), hX, ⟨b40, spare40, hq40, hO54⟩⟩
      · exact absurd (of_decide_eq_false hc2) (fun h => h (by simp only [List.length_singleton]; omega))
-- bellman/set.put[string]
set_option maxHeartbeats 800000 in
theorem put_s (w : World) (i : Nat) (there : Bool) (rows : List (List Value)) {v x : Value} (hs : Sl Non w v 1 rows) (hi : i ≤ rows.length) (hi2 : there = true → i < rows.length) (hx1 : x.oneCell' = true) (hxc : x.cells = #[x]) (h1 : ∀ r ∈ rows, ∀ u ∈ r, u.oneCell' = true) (hn : rows.length ≤ 1000000) : Fn Tryz.prog 113 #[v, .int .i64 (i : Nat), .bool there, x] w fun u w' => ∃ b spare, w.heap.size ≤ b ∧ Ow w' u b 1 (if there = true then rows.set i [x] else rows.take i ++ [x] :: rows.drop i) spare := by
  obtain ⟨a, c, rfl, _⟩ := hs.len
  have hbig : rows.length ≤ big := by simp only [big]; omega
  have hX := Ext.refl Non w
  refine fn_of_W (args := [_, _, _, _]) Tryz.func113 rfl (by kernel_rfl) rfl ?_
  refine W_seq ?_
  refine W_region ?_
  refine wl_val (rn_assign (by conv => lhs; whnf)) ?_
  refine wl_nil ?_
  refine W_seq ?_
  refine W_region ?_
  refine wl_val (rn_move (by conv => lhs; whnf)) ?_
  refine wl_val (rn_len sl_22 rfl) ?_
  refine wl_make sl_22 rfl rfl rfl (by omega) hbig ?_; intro w1 b12 hb12 hE1 hO12
  have hq12 : w.heap.size ≤ b12 := Nat.le_trans hX.size hb12
  replace hX := hX.tr hE1
  refine wl_val (rn_assign (by conv => lhs; whnf)) ?_
  refine wl_nil ?_
  refine W_seq ?_
  refine W_region ?_
  refine wl_val (rn_move (by conv => lhs; whnf)) ?_
  refine wl_val (rn_move (by conv => lhs; whnf)) ?_
  refine wl_copy (l := 0) sl_22 (by rw [Nat.zero_mul]; rfl) rfl hO12 (hs.ext hX (fun _ h => h)) h1 (by rw [List.length_replicate]; omega) ?_; intro w2 hE2 hO15 _
  have hp15 : patchR (List.replicate rows.length [.string ⟨#[]⟩]) 0 (rows.take rows.length) = rows := by unfold patchR; simp
  rw [hp15] at hO15
  replace hX := hX.mine hE2 (.inr hq12)
  refine wl_nil ?_
  refine W_seq ?_
  refine W_seq ?_
  refine W_region ?_
  refine wl_val (rn_move (by conv => lhs; whnf)) ?_
  refine wl_nil ?_
  refine W_cond rfl (fun hc0 => ?_) (fun hc0 => ?_)
  · have hlt := hi2 hc0
    refine W_seq ?_
    refine W_region ?_
    refine wl_val (rn_move (by conv => lhs; whnf)) ?_
    refine wl_val (rn_move (by conv => lhs; whnf)) ?_
    refine wl_val (rn_move (by conv => lhs; whnf)) ?_
    refine wl_val (rn_indexAddr sl_22 rfl rfl (by omega)) ?_
    refine wl_storeE p_9 rfl rfl hx1 hxc hO15 (by omega) ?_; intro w3 hE3 hO20
    replace hX := hX.mine hE3 (.inr hq12)
    refine wl_nil ?_
    refine W_seq ?_
    refine W_region ?_
    refine wl_val (rn_move (by conv => lhs; whnf)) ?_
    refine wl_val (rn_assign (by conv => lhs; whnf)) ?_
    refine wl_nil ?_
    refine W_ret ?_
    exact ⟨_, resR1 (res1_tmp rfl), hX, ⟨b12, [], hq12, by rw [if_pos hc0]; exact hO20⟩⟩
  · refine W_skip ?_
    refine W_seq ?_
    refine W_region ?_
    refine wl_val (rn_move (by conv => lhs; whnf)) ?_
    refine wl_val (rn_move (by conv => lhs; whnf)) ?_
    refine wl_val (rn_move (by conv => lhs; whnf)) ?_
    refine wl_lit1 (r := [x]) sl_22 rfl rfl (by rw [show ev _ (Operand.tmp 24) = x from rfl, hxc]) rfl (by decide) ?_; intro v25 w4 b25 hb25 hE4 hO25
    replace hX := hX.tr hE4
    replace hO15 := hO15.ext hE4 id
    have hXo := hX
    refine wl_call e_147 rfl (insert_s w4 i rows [x] (hO15.sl (M := Non) id) ⟨_, rfl⟩ hi (hO25.sl (M := Non) id) (one1 hx1) h1 hn) ?_; intro v26 w5 hE5 hR5
    replace hX := hX.tr hE5
    replace hO15 := hO15.ext hE5 id
    obtain ⟨b26, spare26, hb26, hO26⟩ := hR5
    refine wl_val (rn_assign (by conv => lhs; whnf)) ?_
    refine wl_nil ?_
    refine W_ret ?_
    exact ⟨_, resR1 (res1_tmp rfl), hX, ⟨b26, spare26, Nat.le_trans hXo.size hb26, by rw [if_neg (by rw [hc0]; simp)]; exact hO26⟩⟩
-- slices.Insert[[]struct{},struct{}]
set_option maxHeartbeats 1600000 in
theorem insert_u (w : World) (i : Nat) (rows : List (List Value)) (r : List Value) {v vx : Value} (hs : Sl Non w v 0 rows) (hv : ∃ a, v = .slice a rows.length rows.length) (hi : i ≤ rows.length) (hx : Sl Non w vx 0 [r]) (h2 : ∀ u ∈ r, u.oneCell' = true) (h1 : ∀ r ∈ rows, ∀ u ∈ r, u.oneCell' = true) (hn : rows.length ≤ 1000000) : Fn Tryz.prog 168 #[v, .int .i64 (i : Nat), vx] w fun u w' => ∃ b spare, w.heap.size ≤ b ∧ Ow w' u b 0 (rows.take i ++ r :: rows.drop i) spare := by
  obtain ⟨a, rfl⟩ := hv
  obtain ⟨a2, c2, rfl, _⟩ := hx.len
  have hbig : rows.length ≤ big := by simp only [big]; omega
  have hti : (rows.take i).length = i := by rw [List.length_take]; omega
  have htj : (rows.drop i).length = rows.length - i := List.length_drop
  have hX := Ext.refl Non w
  refine fn_of_W (args := [_, _, _]) Tryz.func168 rfl (by kernel_rfl) rfl ?_
  refine W_seq ?_
  refine W_region ?_
  refine wl_val (rn_assign (by conv => lhs; whnf)) ?_
  refine wl_nil ?_
  refine W_seq ?_
  refine W_region ?_
  refine wl_val (rn_move (by conv => lhs; whnf)) ?_
  refine wl_val (rn_move (by conv => lhs; whnf)) ?_
  refine wl_val (rn_slice sl_94 (l := i) (h := rows.length) (m := rows.length) rfl ⟨_, rfl⟩ rfl rfl (by simp) (by omega) (by omega) (by omega)) ?_
  refine wl_nil ?_
  refine W_seq ?_
  refine W_region ?_
  refine wl_val (rn_move (by conv => lhs; whnf)) ?_
  refine wl_val (rn_len sl_94 rfl) ?_
  refine wl_val (rn_assign (by conv => lhs; whnf)) ?_
  refine wl_nil ?_
  refine W_seq ?_
  refine W_seq ?_
  refine W_region ?_
  refine wl_val (rn_move (by conv => lhs; whnf)) ?_
  refine wl_val (rn_eql rfl rfl) ?_
  refine wl_nil ?_
  refine W_cond rfl (fun hc0 => ?_) (fun hc0 => ?_)
  · exact absurd (of_decide_eq_true hc0) (by simp)
  · refine W_skip ?_
    refine W_seq ?_
    refine W_region ?_
    refine wl_val (rn_move (by conv => lhs; whnf)) ?_
    refine wl_val (rn_len sl_94 rfl) ?_
    refine wl_val (rn_assign (by conv => lhs; whnf)) ?_
    refine wl_nil ?_
    refine W_seq ?_
    refine W_seq ?_
    refine W_region ?_
    refine wl_val (rn_move (by conv => lhs; whnf)) ?_
    refine wl_val (rn_move (by conv => lhs; whnf)) ?_
    refine wl_val (rn_eql rfl rfl) ?_
    refine wl_nil ?_
    refine W_cond rfl (fun hc1 => ?_) (fun hc1 => ?_)
    · have hie : i = rows.length := by have := of_decide_eq_true hc1; omega
      subst hie
      refine W_seq ?_
      refine W_region ?_
      refine wl_val (rn_move (by conv => lhs; whnf)) ?_
      refine wl_val (rn_move (by conv => lhs; whnf)) ?_
      have hXo := hX
      refine wl_grow sl_94 rfl rfl rfl (hs.ext hX (fun _ h => h)) (hx.ext hX (fun _ h => h)) (by simp only [List.length_cons, List.length_nil, List.length_append, List.length_replicate, List.length_take, List.length_drop]; omega) (by simp only [List.length_cons, List.length_nil, List.length_append, List.length_replicate, List.length_take, List.length_drop]; omega) (by simp only [List.length_cons, List.length_nil, List.length_append, List.length_replicate, big]; omega) ?_; intro v25 w1 b25 spare25 hb25 hE1 hO25
      replace hX := hX.tr hE1
      refine wl_val (rn_assign (by conv => lhs; whnf)) ?_
      refine wl_nil ?_
      refine W_ret ?_
      exact ⟨_, resR1 (res1_tmp rfl), hX, ⟨b25, spare25, Nat.le_trans hXo.size hb25, by rw [List.take_of_length_le (Nat.le_refl _), List.drop_of_length_le (Nat.le_refl _)]; exact hO25⟩⟩
    · have hie : ¬ i = rows.length := by have := of_decide_eq_false hc1; omega
      refine W_skip ?_
      refine W_seq ?_
      refine W_seq ?_
      refine W_region ?_
      refine wl_val (rn_move (by conv => lhs; whnf)) ?_
      refine wl_val (rn_move (by conv => lhs; whnf)) ?_
      refine wl_val (rn_add rfl rfl (by simp only [List.length_singleton]; omega)) ?_
      refine wl_val (rn_move (by conv => lhs; whnf)) ?_
      refine wl_val (rn_cap sl_94 rfl) ?_
      refine wl_val (rn_gtr rfl rfl) ?_
      refine wl_nil ?_
      refine W_cond rfl (fun hc2 => ?_) (fun hc2 => ?_)
      · refine W_seq ?_
        refine W_region ?_
        refine wl_val (rn_move (by conv => lhs; whnf)) ?_
        refine wl_val (rn_move (by conv => lhs; whnf)) ?_
        refine wl_val (rn_slice0 sl_94 (h := i) (m := rows.length) rfl rfl ⟨_, rfl⟩ rfl (by simp) (by omega) (by omega)) ?_
        refine wl_val (rn_move (by conv => lhs; whnf)) ?_
        refine wl_val (rn_move (by conv => lhs; whnf)) ?_
        refine wl_val (rn_add rfl rfl (by simp only [List.length_singleton]; omega)) ?_
        refine wl_val (rn_move (by conv => lhs; whnf)) ?_
        refine wl_val (rn_sub rfl rfl (by simp only [List.length_singleton]; omega)) ?_
        refine wl_zeros (q := rows.length + 1 - i) sl_94 rfl ui_3 rfl (congrArg (Value.int .i64) (by simp only [List.length_singleton]; omega)) ((hs.ext hX (fun _ h => h)).cut0 hi (by omega) (Nat.le_refl _)) (by rw [hti]; omega) (by rw [hti]; omega) (by rw [hti]; simp only [big]; omega) ?_; intro v40 w2 b40 spare40 hb40 hE2 hO40
        have hq40 : w.heap.size ≤ b40 := Nat.le_trans hX.size hb40
        replace hX := hX.tr hE2
        refine wl_val (rn_assign (by conv => lhs; whnf)) ?_
        refine wl_nil ?_
        refine W_seq ?_
        refine W_region ?_
        obtain ⟨c40, hv40, hk1, hk2, hk3⟩ := hO40.val; rw [List.length_append, hti, List.length_replicate, show i + (rows.length + 1 - i) = rows.length + 1 from by omega] at hv40 hk1
        refine wl_val (rn_move (by conv => lhs; whnf)) ?_
        refine wl_val (rn_move (by conv => lhs; whnf)) ?_
        refine wl_val (rn_sliceO sl_94 (l := i) (h := rows.length + 1) (m := c40) hv40 ⟨_, rfl⟩ rfl rfl (by simp) (by omega) (by omega) (by omega) (by omega)) ?_
        refine wl_val (rn_move (by conv => lhs; whnf)) ?_
        refine wl_copy (l := i) sl_94 rfl rfl hO40 (hx.ext hX (fun _ h => h)) (oneR h2) (by simp only [List.length_singleton, List.length_append, hti, List.length_replicate]; omega) ?_; intro w3 hE3 hO45 _
        have ht45 : [r].take (rows.length + 1 - i) = [r] := List.take_of_length_le (by simp only [List.length_singleton]; omega)
        rw [ht45] at hO45
        replace hX := hX.mine hE3 (.inr hq40)
        refine wl_nil ?_
        refine W_seq ?_
        refine W_drawF (fun x => x = b40) mixed ?_; intro w4 hE4
        replace hX := hX.tr hE4
        replace hO45 := hO45.ext hE4 id
        have hS := Ext.refl (fun x => x = b40) w4
        refine wd_take 0 _ _ rfl (by kernel_rfl) hS (yd_do fun A hA => rn_move (by conv => lhs; whnf)) ?_
        refine wd_take 1 _ _ rfl (by kernel_rfl) hS (yd_do fun A hA => rn_move (by conv => lhs; whnf)) ?_
        refine wd_take 2 _ _ rfl (by kernel_rfl) hS (yd_do fun A hA => rn_move (by conv => lhs; whnf)) ?_
        refine wd_take 3 _ _ rfl (by kernel_rfl) hS (yd_do fun A hA => rn_add rfl rfl (by simp only [List.length_singleton]; omega)) ?_
        refine wd_take 4 _ _ rfl (by kernel_rfl) hS (yd_do fun A hA => rn_sliceO sl_94 (l := i + 1) (h := rows.length + 1) (m := c40) hv40 ⟨_, rfl⟩ rfl rfl (by simp) (by omega) (by omega) (by omega) (by omega)) ?_
        refine wd_take 5 _ _ rfl (by kernel_rfl) hS (yd_do fun A hA => rn_move (by conv => lhs; whnf)) ?_
        refine wd_take 6 _ _ rfl (by kernel_rfl) hS (yd_do fun A hA => rn_move (by conv => lhs; whnf)) ?_
        refine wd_take 7 _ _ rfl (by kernel_rfl) hS (yd_do fun A hA => rn_slice sl_94 (l := i) (h := rows.length) (m := rows.length) rfl ⟨_, rfl⟩ rfl rfl (by simp) (by omega) (by omega) (by omega)) ?_
        refine wd_only 8 _ rfl (by kernel_rfl) ?_
        refine s1_do ?_
        have hsl := (hs.ext hX (fun _ h => h)).cut hi (Nat.le_refl _) (Nat.le_refl _) (Nat.le_refl _)
        have htd : (rows.drop i).take (rows.length - i) = rows.drop i := List.take_of_length_le (by rw [htj]; exact Nat.le_refl _)
        have hte : (rows.drop i).take (rows.length + 1 - (i + 1)) = rows.drop i := List.take_of_length_le (by rw [htj]; omega)
        rw [htd] at hsl
        refine wl_copy (l := i + 1) sl_94 rfl rfl hO45 hsl (fun r hr => h1 r (List.mem_of_mem_drop hr)) (by rw [htj, patchR_length (by simp only [List.length_singleton, List.length_append, hti, List.length_replicate]; omega), List.length_append, hti, List.length_replicate]; omega) ?_; intro w5 hE5 hO54 _
        rw [hte, ins_rows hi (by rw [List.length_replicate])] at hO54
        replace hS := hS.trans hE5
        refine wl_nil ⟨hS, ?_⟩
        refine wd_done (by kernel_rfl) ?_ _
        replace hX := hX.mine hS (.inr hq40)
        refine W_seq ?_
        refine W_region ?_
        refine wl_val (rn_move (by conv => lhs; whnf)) ?_
        refine wl_val (rn_assign (by conv => lhs; whnf)) ?_
        refine wl_nil ?_
        refine W_ret ?_
        exact ⟨_, resR1 (res1_tmp rfl), hX, ⟨b40, spare40, hq40, hO54⟩⟩
      · exact absurd (of_decide_eq_false hc2) (fun h => h (by simp only [List.length_singleton]; omega))
-- bellman/set.put[struct{}]
set_option maxHeartbeats 800000 in
theorem put_u (w : World) (i : Nat) (there : Bool) (rows : List (List Value)) {v x : Value} (hs : Sl Non w v 0 rows) (hi : i ≤ rows.length) (hi2 : there = true → i < rows.length) (hxe : x = .agg #[]) (h1 : ∀ r ∈ rows, ∀ u ∈ r, u.oneCell' = true) (hn : rows.length ≤ 1000000) : Fn Tryz.prog 143 #[v, .int .i64 (i : Nat), .bool there, x] w fun u w' => ∃ b spare, w.heap.size ≤ b ∧ Ow w' u b 0 (if there = true then rows.set i [] else rows.take i ++ [] :: rows.drop i) spare := by
  obtain ⟨a, c, rfl, _⟩ := hs.len
  have hbig : rows.length ≤ big := by simp only [big]; omega
  subst hxe
  have hX := Ext.refl Non w
  refine fn_of_W (args := [_, _, _, _]) Tryz.func143 rfl (by kernel_rfl) rfl ?_
  refine W_seq ?_
  refine W_region ?_
  refine wl_boxS rfl ?_; intro b7 w1 hb7 hE1 hB7
  have hq7 : w.heap.size ≤ b7 := Nat.le_trans hX.size hb7
  have hl7 : Mine Non w b7 := .inr hq7
  replace hX := hX.tr hE1
  refine wl_val (rn_assign (by conv => lhs; whnf)) ?_
  refine wl_nil ?_
  refine W_seq ?_
  refine W_region ?_
  refine wl_val (rn_move (by conv => lhs; whnf)) ?_
  refine wl_val (rn_len sl_94 rfl) ?_
  refine wl_make sl_94 rfl rfl rfl (by omega) hbig ?_; intro w2 b12 hb12 hE2 hO12
  have hq12 : w.heap.size ≤ b12 := Nat.le_trans hX.size hb12
  have hn7 : b7 < b12 := Nat.lt_of_lt_of_le hB7.lt hb12
  replace hX := hX.tr hE2
  replace hB7 := hB7.ext hE2 id
  refine wl_val (rn_assign (by conv => lhs; whnf)) ?_
  refine wl_nil ?_
  refine W_seq ?_
  refine W_region ?_
  refine wl_val (rn_move (by conv => lhs; whnf)) ?_
  refine wl_val (rn_move (by conv => lhs; whnf)) ?_
  refine wl_copy (l := 0) sl_94 (by rw [Nat.zero_mul]; rfl) rfl hO12 (hs.ext hX (fun _ h => h)) h1 (by rw [List.length_replicate]; omega) ?_; intro w3 hE3 hO15 _
  have hp15 : patchR (List.replicate rows.length []) 0 (rows.take rows.length) = rows := by unfold patchR; simp
  rw [hp15] at hO15
  replace hX := hX.mine hE3 (.inr hq12)
  replace hB7 := hB7.ext hE3 (fun e => by omega)
  refine wl_nil ?_
  refine W_seq ?_
  refine W_seq ?_
  refine W_region ?_
  refine wl_val (rn_move (by conv => lhs; whnf)) ?_
  refine wl_nil ?_
  refine W_cond rfl (fun hc0 => ?_) (fun hc0 => ?_)
  · have hlt := hi2 hc0
    refine W_seq ?_
    refine W_region ?_
    refine wl_val (rn_move (by conv => lhs; whnf)) ?_
    refine wl_val (rn_move (by conv => lhs; whnf)) ?_
    refine wl_val (rn_loadB s_158 rfl rfl hB7) ?_
    refine wl_val (rn_indexAddr sl_94 rfl rfl (by omega)) ?_
    refine wl_store0 s_158 rfl rfl ?_
    obtain ⟨w4, hw4⟩ : ∃ A, A = w3 := ⟨_, rfl⟩; subst hw4
    have hO20 := hO15.set0 i
    refine wl_nil ?_
    refine W_seq ?_
    refine W_region ?_
    refine wl_val (rn_move (by conv => lhs; whnf)) ?_
    refine wl_val (rn_assign (by conv => lhs; whnf)) ?_
    refine wl_nil ?_
    refine W_ret ?_
    exact ⟨_, resR1 (res1_tmp rfl), hX, ⟨b12, [], hq12, by rw [if_pos hc0]; exact hO20⟩⟩
  · refine W_skip ?_
    refine W_seq ?_
    refine W_region ?_
    refine wl_val (rn_move (by conv => lhs; whnf)) ?_
    refine wl_val (rn_move (by conv => lhs; whnf)) ?_
    refine wl_val (rn_loadB s_158 rfl rfl hB7) ?_
    refine wl_lit1 (r := []) sl_94 rfl rfl rfl rfl (by decide) ?_; intro v25 w5 b25 hb25 hE5 hO25
    replace hX := hX.tr hE5
    replace hB7 := hB7.ext hE5 id
    replace hO15 := hO15.ext hE5 id
    have hXo := hX
    refine wl_call e_168 rfl (insert_u w5 i rows [] (hO15.sl (M := Non) id) ⟨_, rfl⟩ hi (hO25.sl (M := Non) id) (by simp) h1 hn) ?_; intro v26 w6 hE6 hR6
    replace hX := hX.tr hE6
    replace hB7 := hB7.ext hE6 id
    replace hO15 := hO15.ext hE6 id
    obtain ⟨b26, spare26, hb26, hO26⟩ := hR6
    refine wl_val (rn_assign (by conv => lhs; whnf)) ?_
    refine wl_nil ?_
    refine W_ret ?_
    exact ⟨_, resR1 (res1_tmp rfl), hX, ⟨b26, spare26, Nat.le_trans hXo.size hb26, by rw [if_neg (by rw [hc0]; simp)]; exact hO26⟩⟩
-- slices.Insert[[]*bellman/node.Node,*bellman/node.Node]
set_option maxHeartbeats 1600000 in
theorem insert_n (w : World) (i : Nat) (rows : List (List Value)) (r : List Value) {v vx : Value} (hs : Sl Non w v 1 rows) (hv : ∃ a, v = .slice a rows.length rows.length) (hi : i ≤ rows.length) (hx : Sl Non w vx 1 [r]) (h2 : ∀ u ∈ r, u.oneCell' = true) (h1 : ∀ r ∈ rows, ∀ u ∈ r, u.oneCell' = true) (hn : rows.length ≤ 1000000) : Fn Tryz.prog 148 #[v, .int .i64 (i : Nat), vx] w fun u w' => ∃ b spare, w.heap.size ≤ b ∧ Ow w' u b 1 (rows.take i ++ r :: rows.drop i) spare := by
  obtain ⟨a, rfl⟩ := hv
  obtain ⟨a2, c2, rfl, _⟩ := hx.len
  have hbig : rows.length ≤ big := by simp only [big]; omega
  have hti : (rows.take i).length = i := by rw [List.length_take]; omega
  have htj : (rows.drop i).length = rows.length - i := List.length_drop
  have hX := Ext.refl Non w
  refine fn_of_W (args := [_, _, _]) Tryz.func148 rfl (by kernel_rfl) rfl ?_
  refine W_seq ?_
  refine W_region ?_
  refine wl_val (rn_assign (by conv => lhs; whnf)) ?_
  refine wl_nil ?_
  refine W_seq ?_
  refine W_region ?_
  refine wl_val (rn_move (by conv => lhs; whnf)) ?_
  refine wl_val (rn_move (by conv => lhs; whnf)) ?_
  refine wl_val (rn_slice sl_132 (l := i) (h := rows.length) (m := rows.length) rfl ⟨_, rfl⟩ rfl rfl (by simp) (by omega) (by omega) (by omega)) ?_
  refine wl_nil ?_
  refine W_seq ?_
  refine W_region ?_
  refine wl_val (rn_move (by conv => lhs; whnf)) ?_
  refine wl_val (rn_len sl_132 rfl) ?_
  refine wl_val (rn_assign (by conv => lhs; whnf)) ?_
  refine wl_nil ?_
  refine W_seq ?_
  refine W_seq ?_
  refine W_region ?_
  refine wl_val (rn_move (by conv => lhs; whnf)) ?_
  refine wl_val (rn_eql rfl rfl) ?_
  refine wl_nil ?_
  refine W_cond rfl (fun hc0 => ?_) (fun hc0 => ?_)
  · exact absurd (of_decide_eq_true hc0) (by simp)
  · refine W_skip ?_
    refine W_seq ?_
    refine W_region ?_
    refine wl_val (rn_move (by conv => lhs; whnf)) ?_
    refine wl_val (rn_len sl_132 rfl) ?_
    refine wl_val (rn_assign (by conv => lhs; whnf)) ?_
    refine wl_nil ?_
    refine W_seq ?_
    refine W_seq ?_
    refine W_region ?_
    refine wl_val (rn_move (by conv => lhs; whnf)) ?_
    refine wl_val (rn_move (by conv => lhs; whnf)) ?_
    refine wl_val (rn_eql rfl rfl) ?_
    refine wl_nil ?_
    refine W_cond rfl (fun hc1 => ?_) (fun hc1 => ?_)
    · have hie : i = rows.length := by have := of_decide_eq_true hc1; omega
      subst hie
      refine W_seq ?_
      refine W_region ?_
      refine wl_val (rn_move (by conv => lhs; whnf)) ?_
      refine wl_val (rn_move (by conv => lhs; whnf)) ?_
      have hXo := hX
      refine wl_grow sl_132 rfl rfl rfl (hs.ext hX (fun _ h => h)) (hx.ext hX (fun _ h => h)) (by simp only [List.length_cons, List.length_nil, List.length_append, List.length_replicate, List.length_take, List.length_drop]; omega) (by simp only [List.length_cons, List.length_nil, List.length_append, List.length_replicate, List.length_take, List.length_drop]; omega) (by simp only [List.length_cons, List.length_nil, List.length_append, List.length_replicate, big]; omega) ?_; intro v25 w1 b25 spare25 hb25 hE1 hO25
      replace hX := hX.tr hE1
      refine wl_val (rn_assign (by conv => lhs; whnf)) ?_
      refine wl_nil ?_
      refine W_ret ?_
      exact ⟨_, resR1 (res1_tmp rfl), hX, ⟨b25, spare25, Nat.le_trans hXo.size hb25, by rw [List.take_of_length_le (Nat.le_refl _), List.drop_of_length_le (Nat.le_refl _)]; exact hO25⟩⟩
    · have hie : ¬ i = rows.length := by have := of_decide_eq_false hc1; omega
      refine W_skip ?_
      refine W_seq ?_
      refine W_seq ?_
      refine W_region ?_
      refine wl_val (rn_move (by conv => lhs; whnf)) ?_
      refine wl_val (rn_move (by conv => lhs; whnf)) ?_
      refine wl_val (rn_add rfl rfl (by simp only [List.length_singleton]; omega)) ?_
      refine wl_val (rn_move (by conv => lhs; whnf)) ?_
      refine wl_val (rn_cap sl_132 rfl) ?_
      refine wl_val (rn_gtr rfl rfl) ?_
      refine wl_nil ?_
      refine W_cond rfl (fun hc2 => ?_) (fun hc2 => ?_)
      · refine W_seq ?_
        refine W_region ?_
        refine wl_val (rn_move (by conv => lhs; whnf)) ?_
        refine wl_val (rn_move (by conv => lhs; whnf)) ?_
        refine wl_val (rn_slice0 sl_132 (h := i) (m := rows.length) rfl rfl ⟨_, rfl⟩ rfl (by simp) (by omega) (by omega)) ?_
        refine wl_val (rn_move (by conv => lhs; whnf)) ?_
        refine wl_val (rn_move (by conv => lhs; whnf)) ?_
        refine wl_val (rn_add rfl rfl (by simp only [List.length_singleton]; omega)) ?_
        refine wl_val (rn_move (by conv => lhs; whnf)) ?_
        refine wl_val (rn_sub rfl rfl (by simp only [List.length_singleton]; omega)) ?_
        refine wl_zeros (q := rows.length + 1 - i) sl_132 rfl ui_3 rfl (congrArg (Value.int .i64) (by simp only [List.length_singleton]; omega)) ((hs.ext hX (fun _ h => h)).cut0 hi (by omega) (Nat.le_refl _)) (by rw [hti]; omega) (by rw [hti]; omega) (by rw [hti]; simp only [big]; omega) ?_; intro v40 w2 b40 spare40 hb40 hE2 hO40
        have hq40 : w.heap.size ≤ b40 := Nat.le_trans hX.size hb40
        replace hX := hX.tr hE2
        refine wl_val (rn_assign (by conv => lhs; whnf)) ?_
        refine wl_nil ?_
        refine W_seq ?_
        refine W_region ?_
        obtain ⟨c40, hv40, hk1, hk2, hk3⟩ := hO40.val; rw [List.length_append, hti, List.length_replicate, show i + (rows.length + 1 - i) = rows.length + 1 from by omega] at hv40 hk1
        refine wl_val (rn_move (by conv => lhs; whnf)) ?_
        refine wl_val (rn_move (by conv => lhs; whnf)) ?_
        refine wl_val (rn_sliceO sl_132 (l := i) (h := rows.length + 1) (m := c40) hv40 ⟨_, rfl⟩ rfl rfl (by simp) (by omega) (by omega) (by omega) (by omega)) ?_
        refine wl_val (rn_move (by conv => lhs; whnf)) ?_
        refine wl_copy (l := i) sl_132 rfl rfl hO40 (hx.ext hX (fun _ h => h)) (oneR h2) (by simp only [List.length_singleton, List.length_append, hti, List.length_replicate]; omega) ?_; intro w3 hE3 hO45 _
        have ht45 : [r].take (rows.length + 1 - i) = [r] := List.take_of_length_le (by simp only [List.length_singleton]; omega)
        rw [ht45] at hO45
        replace hX := hX.mine hE3 (.inr hq40)
        refine wl_nil ?_
        refine W_seq ?_
        refine W_drawF (fun x => x = b40) mixed ?_; intro w4 hE4
        replace hX := hX.tr hE4
        replace hO45 := hO45.ext hE4 id
        have hS := Ext.refl (fun x => x = b40) w4
        refine wd_take 0 _ _ rfl (by kernel_rfl) hS (yd_do fun A hA => rn_move (by conv => lhs; whnf)) ?_
        refine wd_take 1 _ _ rfl (by kernel_rfl) hS (yd_do fun A hA => rn_move (by conv => lhs; whnf)) ?_
        refine wd_take 2 _ _ rfl (by kernel_rfl) hS (yd_do fun A hA => rn_move (by conv => lhs; whnf)) ?_
        refine wd_take 3 _ _ rfl (by kernel_rfl) hS (yd_do fun A hA => rn_add rfl rfl (by simp only [List.length_singleton]; omega)) ?_
        refine wd_take 4 _ _ rfl (by kernel_rfl) hS (yd_do fun A hA => rn_sliceO sl_132 (l := i + 1) (h := rows.length + 1) (m := c40) hv40 ⟨_, rfl⟩ rfl rfl (by simp) (by omega) (by omega) (by omega) (by omega)) ?_
        refine wd_take 5 _ _ rfl (by kernel_rfl) hS (yd_do fun A hA => rn_move (by conv => lhs; whnf)) ?_
        refine wd_take 6 _ _ rfl (by kernel_rfl) hS (yd_do fun A hA => rn_move (by conv => lhs; whnf)) ?_
        refine wd_take 7 _ _ rfl (by kernel_rfl) hS (yd_do fun A hA => rn_slice sl_132 (l := i) (h := rows.length) (m := rows.length) rfl ⟨_, rfl⟩ rfl rfl (by simp) (by omega) (by omega) (by omega)) ?_
        refine wd_only 8 _ rfl (by kernel_rfl) ?_
        refine s1_do ?_
        have hsl := (hs.ext hX (fun _ h => h)).cut hi (Nat.le_refl _) (Nat.le_refl _) (Nat.le_refl _)
        have htd : (rows.drop i).take (rows.length - i) = rows.drop i := List.take_of_length_le (by rw [htj]; exact Nat.le_refl _)
        have hte : (rows.drop i).take (rows.length + 1 - (i + 1)) = rows.drop i := List.take_of_length_le (by rw [htj]; omega)
        rw [htd] at hsl
        refine wl_copy (l := i + 1) sl_132 rfl rfl hO45 hsl (fun r hr => h1 r (List.mem_of_mem_drop hr)) (by rw [htj, patchR_length (by simp only [List.length_singleton, List.length_append, hti, List.length_replicate]; omega), List.length_append, hti, List.length_replicate]; omega) ?_; intro w5 hE5 hO54 _
        rw [hte, ins_rows hi (by rw [List.length_replicate])] at hO54
        replace hS := hS.trans hE5
        refine wl_nil ⟨hS, ?_⟩
        refine wd_done (by kernel_rfl) ?_ _
        replace hX := hX.mine hS (.inr hq40)
        refine W_seq ?_
        refine W_region ?_
        refine wl_val (rn_move (by conv => lhs; whnf)) ?_
        refine wl_val (rn_assign (by conv => lhs; whnf)) ?_
        refine wl_nil ?_
        refine W_ret ?_
        exact ⟨_, resR1 (res1_tmp rfl), hX, ⟨b40, spare40, hq40, hO54⟩⟩
      · exact absurd (of_decide_eq_false hc2) (fun h => h (by simp only [List.length_singleton]; omega))
-- bellman/set.put[*bellman/node.Node]
set_option maxHeartbeats 800000 in
theorem put_n (w : World) (i : Nat) (there : Bool) (rows : List (List Value)) {v x : Value} (hs : Sl Non w v 1 rows) (hi : i ≤ rows.length) (hi2 : there = true → i < rows.length) (hx1 : x.oneCell' = true) (hxc : x.cells = #[x]) (h1 : ∀ r ∈ rows, ∀ u ∈ r, u.oneCell' = true) (hn : rows.length ≤ 1000000) : Fn Tryz.prog 114 #[v, .int .i64 (i : Nat), .bool there, x] w fun u w' => ∃ b spare, w.heap.size ≤ b ∧ Ow w' u b 1 (if there = true then rows.set i [x] else rows.take i ++ [x] :: rows.drop i) spare := by
  obtain ⟨a, c, rfl, _⟩ := hs.len
  have hbig : rows.length ≤ big := by simp only [big]; omega
  have hX := Ext.refl Non w
  refine fn_of_W (args := [_, _, _, _]) Tryz.func114 rfl (by kernel_rfl) rfl ?_
  refine W_seq ?_
  refine W_region ?_
  refine wl_val (rn_assign (by conv => lhs; whnf)) ?_
  refine wl_nil ?_
  refine W_seq ?_
  refine W_region ?_
  refine wl_val (rn_move (by conv => lhs; whnf)) ?_
  refine wl_val (rn_len sl_132 rfl) ?_
  refine wl_make sl_132 rfl rfl rfl (by omega) hbig ?_; intro w1 b12 hb12 hE1 hO12
  have hq12 : w.heap.size ≤ b12 := Nat.le_trans hX.size hb12
  replace hX := hX.tr hE1
  refine wl_val (rn_assign (by conv => lhs; whnf)) ?_
  refine wl_nil ?_
  refine W_seq ?_
  refine W_region ?_
  refine wl_val (rn_move (by conv => lhs; whnf)) ?_
  refine wl_val (rn_move (by conv => lhs; whnf)) ?_
  refine wl_copy (l := 0) sl_132 (by rw [Nat.zero_mul]; rfl) rfl hO12 (hs.ext hX (fun _ h => h)) h1 (by rw [List.length_replicate]; omega) ?_; intro w2 hE2 hO15 _
  have hp15 : patchR (List.replicate rows.length [.pointer none]) 0 (rows.take rows.length) = rows := by unfold patchR; simp
  rw [hp15] at hO15
  replace hX := hX.mine hE2 (.inr hq12)
  refine wl_nil ?_
  refine W_seq ?_
  refine W_seq ?_
  refine W_region ?_
  refine wl_val (rn_move (by conv => lhs; whnf)) ?_
  refine wl_nil ?_
  refine W_cond rfl (fun hc0 => ?_) (fun hc0 => ?_)
  · have hlt := hi2 hc0
    refine W_seq ?_
    refine W_region ?_
    refine wl_val (rn_move (by conv => lhs; whnf)) ?_
    refine wl_val (rn_move (by conv => lhs; whnf)) ?_
    refine wl_val (rn_move (by conv => lhs; whnf)) ?_
    refine wl_val (rn_indexAddr sl_132 rfl rfl (by omega)) ?_
    refine wl_storeE p_26 rfl rfl hx1 hxc hO15 (by omega) ?_; intro w3 hE3 hO20
    replace hX := hX.mine hE3 (.inr hq12)
    refine wl_nil ?_
    refine W_seq ?_
    refine W_region ?_
    refine wl_val (rn_move (by conv => lhs; whnf)) ?_
    refine wl_val (rn_assign (by conv => lhs; whnf)) ?_
    refine wl_nil ?_
    refine W_ret ?_
    exact ⟨_, resR1 (res1_tmp rfl), hX, ⟨b12, [], hq12, by rw [if_pos hc0]; exact hO20⟩⟩
  · refine W_skip ?_
    refine W_seq ?_
    refine W_region ?_
    refine wl_val (rn_move (by conv => lhs; whnf)) ?_
    refine wl_val (rn_move (by conv => lhs; whnf)) ?_
    refine wl_val (rn_move (by conv => lhs; whnf)) ?_
    refine wl_lit1 (r := [x]) sl_132 rfl rfl (by rw [show ev _ (Operand.tmp 24) = x from rfl, hxc]) rfl (by decide) ?_; intro v25 w4 b25 hb25 hE4 hO25
    replace hX := hX.tr hE4
    replace hO15 := hO15.ext hE4 id
    have hXo := hX
    refine wl_call e_148 rfl (insert_n w4 i rows [x] (hO15.sl (M := Non) id) ⟨_, rfl⟩ hi (hO25.sl (M := Non) id) (one1 hx1) h1 hn) ?_; intro v26 w5 hE5 hR5
    replace hX := hX.tr hE5
    replace hO15 := hO15.ext hE5 id
    obtain ⟨b26, spare26, hb26, hO26⟩ := hR5
    refine wl_val (rn_assign (by conv => lhs; whnf)) ?_
    refine wl_nil ?_
    refine W_ret ?_
    exact ⟨_, resR1 (res1_tmp rfl), hX, ⟨b26, spare26, Nat.le_trans hXo.size hb26, by rw [if_neg (by rw [hc0]; simp)]; exact hO26⟩⟩
end Go.Proofs.YtaddeakfojpdoaaGreatDoorC

/- Searching a rising list; a map's functions. -/
set_option linter.unusedVariables false
set_option linter.unusedSimpArgs false
set_option maxRecDepth 100000
namespace Go.Proofs.YtaddeakfojpdoaaGreatDoorC
open Go.RowKit
def eI1 (x : Int) : List Value := [.int .i64 x]
def eS1 (x : Str) : List Value := [Sv x]
theorem eI_at {ks : List Int} {i : Nat} {x : Int} (h : ks[i]? = some x) : (ks.map eI1)[i]? = some [.int .i64 x] := by simp [h, eI1]
theorem eS_at {ks : List Str} {i : Nat} {x : Str} (h : ks[i]? = some x) : (ks.map eS1)[i]? = some [Sv x] := by simp [h, eS1]
theorem eI_one (ks : List Int) : ∀ r ∈ ks.map eI1, ∀ u ∈ r, u.oneCell' = true := by
  intro r hr u hu; obtain ⟨x, _, rfl⟩ := List.mem_map.1 hr; simp only [eI1, List.mem_singleton] at hu; subst hu; rfl
theorem eS_one (ks : List Str) : ∀ r ∈ ks.map eS1, ∀ u ∈ r, u.oneCell' = true := by
  intro r hr u hu; obtain ⟨x, _, rfl⟩ := List.mem_map.1 hr; simp only [eS1, List.mem_singleton] at hu; subst hu; rfl
-- slices.isNaN[int]
theorem sNaN_i (w : World) (x : Int) : Fn Tryz.prog 125 #[.int .i64 x] w fun u w' => u = .bool false := by
  have hX := Ext.refl Non w
  refine fn_of_W (args := [_]) Tryz.func125 rfl (by kernel_rfl) rfl ?_
  refine W_seq ?_
  refine W_region ?_
  refine wl_val (rn_assign (by conv => lhs; whnf)) ?_
  refine wl_nil ?_
  refine W_seq ?_
  refine W_region ?_
  refine wl_val (rn_move (by conv => lhs; whnf)) ?_
  refine wl_val (rn_move (by conv => lhs; whnf)) ?_
  refine wl_val (rn_neq rfl rfl) ?_
  refine wl_val (rn_assign (by conv => lhs; whnf)) ?_
  refine wl_nil ?_
  refine W_ret ?_
  exact ⟨_, resR1 (res1_tmp rfl), hX, by show Value.bool (decide (x ≠ x)) = _; simp⟩
-- cmp.isNaN[int]
theorem cNaN_i (w : World) (x : Int) : Fn Tryz.prog 154 #[.int .i64 x] w fun u w' => u = .bool false := by
  have hX := Ext.refl Non w
  refine fn_of_W (args := [_]) Tryz.func154 rfl (by kernel_rfl) rfl ?_
  refine W_seq ?_
  refine W_region ?_
  refine wl_val (rn_assign (by conv => lhs; whnf)) ?_
  refine wl_nil ?_
  refine W_seq ?_
  refine W_region ?_
  refine wl_val (rn_move (by conv => lhs; whnf)) ?_
  refine wl_val (rn_move (by conv => lhs; whnf)) ?_
  refine wl_val (rn_neq rfl rfl) ?_
  refine wl_val (rn_assign (by conv => lhs; whnf)) ?_
  refine wl_nil ?_
  refine W_ret ?_
  exact ⟨_, resR1 (res1_tmp rfl), hX, by show Value.bool (decide (x ≠ x)) = _; simp⟩
-- cmp.Less[int]
theorem less_i (w : World) (x y : Int) : Fn Tryz.prog 124 #[.int .i64 x, .int .i64 y] w fun u w' => u = .bool (ltI x y) := by
  have hX := Ext.refl Non w
  refine fn_of_W (args := [_, _]) Tryz.func124 rfl (by kernel_rfl) rfl ?_
  refine W_seq ?_
  refine W_region ?_
  refine wl_val (rn_assign (by conv => lhs; whnf)) ?_
  refine wl_nil ?_
  refine W_seq ?_
  refine W_region ?_
  refine wl_val (rn_move (by conv => lhs; whnf)) ?_
  refine wl_call e_154 rfl (cNaN_i w _) ?_; intro v6 w1 hE1 hR1
  replace hX := hX.tr hE1
  subst hR1
  refine wl_val (rn_move (by conv => lhs; whnf)) ?_
  refine wl_no rfl rfl ?_
  refine wl_no rfl rfl ?_
  refine wl_no rfl rfl ?_
  refine wl_val (rn_pickF rfl (by conv => lhs; whnf)) ?_
  refine wl_val (rn_move (by conv => lhs; whnf)) ?_
  refine wl_yes rfl rfl ?_
  refine wl_val (rn_move (by conv => lhs; whnf)) ?_
  refine wl_yes rfl rfl ?_
  refine wl_val (rn_move (by conv => lhs; whnf)) ?_
  refine wl_yes rfl rfl ?_
  refine wl_val (rn_lss rfl rfl) ?_
  refine wl_val (rn_pickF rfl (by conv => lhs; whnf)) ?_
  refine wl_val (rn_assign (by conv => lhs; whnf)) ?_
  refine wl_nil ?_
  refine W_ret ?_
  exact ⟨_, resR1 (res1_tmp rfl), hX, rfl⟩
-- slices.BinarySearch[[]int,int]
set_option maxHeartbeats 800000 in
theorem bs_i (w : World) (ks : List Int) (x : Int) {v : Value} (hs : Sl Non w v 1 (ks.map eI1)) (hord : Sorted ltI ks) (hn : ks.length ≤ 1000000) : Fn Tryz.prog 87 #[v, .int .i64 x] w fun u w' => u = .tuple #[.int .i64 (lb ltI ks x : Nat), .bool (isAt ltI ks x)] := by
  obtain ⟨a, c, rfl, _⟩ := hs.len
  simp only [List.length_map] at hs ⊢
  have hX := Ext.refl Non w
  refine fn_of_W (args := [_, _]) Tryz.func87 rfl (by kernel_rfl) rfl ?_
  refine W_seq ?_
  refine W_region ?_
  refine wl_val (rn_assign (by conv => lhs; whnf)) ?_
  refine wl_val (rn_assign (by conv => lhs; whnf)) ?_
  refine wl_nil ?_
  refine W_seq ?_
  refine W_region ?_
  refine wl_val (rn_move (by conv => lhs; whnf)) ?_
  refine wl_val (rn_len sl_23 rfl) ?_
  refine wl_val (rn_assign (by conv => lhs; whnf)) ?_
  refine wl_nil ?_
  refine W_seq ?_
  refine W_region ?_
  refine wl_val (rn_move (by conv => lhs; whnf)) ?_
  refine wl_val (rn_assign (by conv => lhs; whnf)) ?_
  refine wl_val (rn_assign (by conv => lhs; whnf)) ?_
  refine wl_nil ?_
  refine W_seq ?_
  refine W_block ?_   -- block 0
  refine W_loopS (S := Nat × Nat) [0, 1, 6, 7, 8] (fun ⟨i, j⟩ => [.slice a ks.length c, .int .i64 x, .int .i64 (ks.length : Nat), .int .i64 (i : Nat), .int .i64 (j : Nat)]) (fun ⟨i, j⟩ A => (Ext Non w A) ∧ (i ≤ j ∧ j ≤ ks.length ∧ (∀ p y, p < i → ks[p]? = some y → ltI y x = true) ∧ (∀ p y, j ≤ p → ks[p]? = some y → ltI y x = false))) (fun ⟨i, j⟩ => j - i) (0, ks.length) ⟨rfl, rfl, rfl, rfl, rfl, trivial⟩ ⟨hX, ⟨Nat.zero_le _, Nat.le_refl _, fun p y h => absurd h (Nat.not_lt_zero _), fun p y h hy => by have := (List.getElem?_eq_some_iff.1 hy).1; omega⟩⟩ ?_
  rintro τ0 ⟨i, j⟩ A0 ⟨hX, hI0⟩
  obtain ⟨hij, hjn, hlo, hhi⟩ := hI0
  refine W_seq ?_
  refine W_seq ?_
  refine W_region ?_
  refine wl_val (rn_move (by conv => lhs; whnf)) ?_
  refine wl_val (rn_move (by conv => lhs; whnf)) ?_
  refine wl_val (rn_lss rfl rfl) ?_
  refine wl_nil ?_
  refine W_cond rfl (fun hc0 => ?_) (fun hc0 => ?_)
  · have hlt := of_decide_eq_true hc0; simp only [Int.ofNat_lt] at hlt
    have hh : (i + j) / 2 < ks.length := by omega
    obtain ⟨y, hy⟩ : ∃ y, ks[(i + j) / 2]? = some y := ⟨_, List.getElem?_eq_getElem hh⟩
    obtain ⟨b, o, ea⟩ := hs.base (by intro e; simp at e; subst e; simp at hh); subst ea
    refine W_skip ?_
    refine W_block ?_   -- block 1
    refine W_seq ?_
    refine W_region ?_
    refine wl_val (rn_move (by conv => lhs; whnf)) ?_
    refine wl_val (rn_move (by conv => lhs; whnf)) ?_
    refine wl_val (rn_add rfl rfl (by omega)) ?_
    refine wl_val (rn_convert ui_3 ui_183 rfl (wrap_u64 (by omega))) ?_
    refine wl_val (Rn.cast (rn_shr1 rfl rfl) (congrArg (Value.int .u64) (fdiv2 i j))) ?_
    refine wl_val (rn_convert ui_183 ui_3 rfl (wrap_id (by omega))) ?_
    refine wl_val (rn_assign (by conv => lhs; whnf)) ?_
    refine wl_nil ?_
    refine W_seq ?_
    refine W_region ?_
    refine wl_val (rn_move (by conv => lhs; whnf)) ?_
    refine wl_val (rn_move (by conv => lhs; whnf)) ?_
    refine wl_val (rn_indexAddr sl_23 rfl rfl (by omega)) ?_
    refine wl_val (rn_load p_3 rfl ((hs.ext hX (fun _ h => h)).at0 (eI_at hy) rfl)) ?_
    refine wl_val (rn_move (by conv => lhs; whnf)) ?_
    refine wl_call e_124 rfl (less_i A0 _ _) ?_; intro v27 w1 hE1 hR1
    replace hX := hX.tr hE1
    subst hR1
    refine wl_nil ?_
    refine W_cond rfl (fun hc1 => ?_) (fun hc1 => ?_)
    · refine W_region ?_
      refine wl_val (rn_move (by conv => lhs; whnf)) ?_
      refine wl_val (rn_add rfl rfl (by omega)) ?_
      refine wl_val (rn_assign (by conv => lhs; whnf)) ?_
      refine wl_nil ?_
      exact ⟨rfl, ((i + j) / 2 + 1, j), ⟨rfl, rfl, rfl, rfl, rfl, trivial⟩, ⟨hX, ⟨by omega, hjn, fun p z hp hz => by by_cases e : p = (i + j) / 2; (subst e; rw [hz] at hy; cases hy; exact hc1); exact (lo_int).tr _ _ _ (hord.get hz hy (by omega)) hc1, hhi⟩⟩, by show j - ((i + j) / 2 + 1) < j - i; omega⟩
    · refine W_region ?_
      refine wl_val (rn_move (by conv => lhs; whnf)) ?_
      refine wl_val (rn_assign (by conv => lhs; whnf)) ?_
      refine wl_nil ?_
      exact ⟨rfl, (i, (i + j) / 2), ⟨rfl, rfl, rfl, rfl, rfl, trivial⟩, ⟨hX, ⟨by omega, by omega, hlo, fun p z hp hz => by by_cases e : p = (i + j) / 2; (subst e; rw [hz] at hy; cases hy; exact hc1); (cases hzx : ltI z x with | false => rfl | true => have := (lo_int).tr _ _ _ (hord.get hy hz (by omega)) hzx; rw [this] at hc1; cases hc1)⟩⟩, by show (i + j) / 2 - i < j - i; omega⟩
  · have hge := of_decide_eq_false hc0; simp only [Int.ofNat_lt, Nat.not_lt] at hge
    have hej : i = j := by omega
    subst hej
    have hlb : lb ltI ks x = i := lb_of hjn hlo (fun y hy => hhi i y (Nat.le_refl _) hy)
    refine W_exit ?_   -- exit 0
    refine W_seq ?_
    refine W_region ?_
    refine wl_val (rn_move (by conv => lhs; whnf)) ?_
    refine wl_val (rn_move (by conv => lhs; whnf)) ?_
    refine wl_val (rn_move (by conv => lhs; whnf)) ?_
    refine wl_val (rn_lss rfl rfl) ?_
    refine wl_val (rn_move (by conv => lhs; whnf)) ?_
    refine wl_split (d := 35) rfl (fun hg35 => ?_) (fun hg35 => ?_)
    · have hlt := of_decide_eq_true hg35; simp only [Int.ofNat_lt] at hlt
      obtain ⟨y, hy⟩ : ∃ y, ks[i]? = some y := ⟨_, List.getElem?_eq_getElem hlt⟩
      obtain ⟨b, o, ea⟩ := hs.base (by intro e; simp at e; subst e; simp at hlt); subst ea
      refine wl_yes rfl (congrArg Value.bool hg35) ?_
      refine wl_val (rn_move (by conv => lhs; whnf)) ?_
      refine wl_yes rfl (congrArg Value.bool hg35) ?_
      refine wl_val (rn_move (by conv => lhs; whnf)) ?_
      refine wl_yes rfl (congrArg Value.bool hg35) ?_
      refine wl_val (rn_indexAddr sl_23 rfl rfl (by omega)) ?_
      refine wl_yes rfl (congrArg Value.bool hg35) ?_
      refine wl_val (rn_load p_3 rfl ((hs.ext hX (fun _ h => h)).at0 (eI_at hy) rfl)) ?_
      refine wl_yes rfl (congrArg Value.bool hg35) ?_
      refine wl_val (rn_move (by conv => lhs; whnf)) ?_
      refine wl_yes rfl (congrArg Value.bool hg35) ?_
      refine wl_val (rn_eql rfl rfl) ?_
      refine wl_yes rfl (congrArg Value.bool hg35) ?_
      refine wl_val (rn_move (by conv => lhs; whnf)) ?_
      refine wl_split (d := 42) rfl (fun hg42 => ?_) (fun hg42 => ?_)
      · refine wl_no rfl (congrArg Value.bool hg42) ?_
        refine wl_no rfl (congrArg Value.bool hg42) ?_
        refine wl_no rfl (congrArg Value.bool hg42) ?_
        refine wl_no rfl (congrArg Value.bool hg42) ?_
        refine wl_no rfl (congrArg Value.bool hg42) ?_
        refine wl_no rfl (congrArg Value.bool hg42) ?_
        refine wl_nou rfl rfl ?_
        refine wl_nou rfl rfl ?_
        refine wl_no rfl (congrArg Value.bool hg42) ?_
        refine wl_yes rfl (congrArg Value.bool hg35) ?_
        refine wl_val (rn_pickT (congrArg Value.bool hg42) (by conv => lhs; whnf)) ?_
        refine wl_val (rn_pickT (congrArg Value.bool hg35) (by conv => lhs; whnf)) ?_
        refine wl_val (rn_assign (by conv => lhs; whnf)) ?_
        refine wl_val (rn_assign (by conv => lhs; whnf)) ?_
        refine wl_nil ?_
        refine W_ret ?_
        have hxy := of_decide_eq_true hg42
        exact ⟨_, resR2 (res1_tmp rfl) (res1_tmp rfl), hX, by show Value.tuple #[.int .i64 (i : Nat), .bool true] = _; rw [hlb]; unfold isAt; rw [hlb, hy, hxy, decide_eq_true rfl]⟩
      · refine wl_yes rfl (congrArg Value.bool hg42) ?_
        refine wl_val (rn_move (by conv => lhs; whnf)) ?_
        refine wl_yes rfl (congrArg Value.bool hg42) ?_
        refine wl_val (rn_move (by conv => lhs; whnf)) ?_
        refine wl_yes rfl (congrArg Value.bool hg42) ?_
        refine wl_val (rn_indexAddr sl_23 rfl rfl (by omega)) ?_
        refine wl_yes rfl (congrArg Value.bool hg42) ?_
        refine wl_val (rn_load p_3 rfl ((hs.ext hX (fun _ h => h)).at0 (eI_at hy) rfl)) ?_
        refine wl_yes rfl (congrArg Value.bool hg42) ?_
        refine wl_call e_125 rfl (sNaN_i A0 _) ?_; intro v47 w2 hE2 hR2
        replace hX := hX.tr hE2
        subst hR2
        refine wl_yes rfl (congrArg Value.bool hg42) ?_
        refine wl_val (rn_move (by conv => lhs; whnf)) ?_
        refine wl_no rfl rfl ?_
        refine wl_no rfl rfl ?_
        refine wl_yes rfl (congrArg Value.bool hg42) ?_
        refine wl_val (rn_pickF rfl (by conv => lhs; whnf)) ?_
        refine wl_yes rfl (congrArg Value.bool hg35) ?_
        refine wl_val (rn_pickF (congrArg Value.bool hg42) (by conv => lhs; whnf)) ?_
        refine wl_val (rn_pickT (congrArg Value.bool hg35) (by conv => lhs; whnf)) ?_
        refine wl_val (rn_assign (by conv => lhs; whnf)) ?_
        refine wl_val (rn_assign (by conv => lhs; whnf)) ?_
        refine wl_nil ?_
        refine W_ret ?_
        have hxy := of_decide_eq_false hg42
        exact ⟨_, resR2 (res1_tmp rfl) (res1_tmp rfl), hX, by show Value.tuple #[.int .i64 (i : Nat), .bool false] = _; rw [hlb]; unfold isAt; rw [hlb, hy, decide_eq_false (fun e => hxy (Option.some.inj e))]⟩
    · refine wl_no rfl (congrArg Value.bool hg35) ?_
      refine wl_no rfl (congrArg Value.bool hg35) ?_
      refine wl_no rfl (congrArg Value.bool hg35) ?_
      refine wl_no rfl (congrArg Value.bool hg35) ?_
      refine wl_no rfl (congrArg Value.bool hg35) ?_
      refine wl_no rfl (congrArg Value.bool hg35) ?_
      refine wl_no rfl (congrArg Value.bool hg35) ?_
      refine wl_nou rfl rfl ?_
      refine wl_nou rfl rfl ?_
      refine wl_nou rfl rfl ?_
      refine wl_nou rfl rfl ?_
      refine wl_nou rfl rfl ?_
      refine wl_nou rfl rfl ?_
      refine wl_nou rfl rfl ?_
      refine wl_nou rfl rfl ?_
      refine wl_nou rfl rfl ?_
      refine wl_no rfl (congrArg Value.bool hg35) ?_
      refine wl_val (rn_pickF (congrArg Value.bool hg35) (by conv => lhs; whnf)) ?_
      refine wl_val (rn_assign (by conv => lhs; whnf)) ?_
      refine wl_val (rn_assign (by conv => lhs; whnf)) ?_
      refine wl_nil ?_
      refine W_ret ?_
      have hge2 := of_decide_eq_false hg35; simp only [Int.ofNat_lt, Nat.not_lt] at hge2
      exact ⟨_, resR2 (res1_tmp rfl) (res1_tmp rfl), hX, by show Value.tuple #[.int .i64 (i : Nat), .bool false] = _; rw [hlb]; unfold isAt; rw [hlb, List.getElem?_eq_none hge2, decide_eq_false (by simp)]⟩
-- slices.isNaN[string]
theorem sNaN_s (w : World) (x : Str) : Fn Tryz.prog 146 #[Sv x] w fun u w' => u = .bool false := by
  have hX := Ext.refl Non w
  refine fn_of_W (args := [_]) Tryz.func146 rfl (by kernel_rfl) rfl ?_
  refine W_seq ?_
  refine W_region ?_
  refine wl_val (rn_assign (by conv => lhs; whnf)) ?_
  refine wl_nil ?_
  refine W_seq ?_
  refine W_region ?_
  refine wl_val (rn_move (by conv => lhs; whnf)) ?_
  refine wl_val (rn_move (by conv => lhs; whnf)) ?_
  refine wl_val (rn_sneq rfl rfl) ?_
  refine wl_val (rn_assign (by conv => lhs; whnf)) ?_
  refine wl_nil ?_
  refine W_ret ?_
  exact ⟨_, resR1 (res1_tmp rfl), hX, by show Value.bool (decide (x ≠ x)) = _; simp⟩
-- cmp.isNaN[string]
theorem cNaN_s (w : World) (x : Str) : Fn Tryz.prog 169 #[Sv x] w fun u w' => u = .bool false := by
  have hX := Ext.refl Non w
  refine fn_of_W (args := [_]) Tryz.func169 rfl (by kernel_rfl) rfl ?_
  refine W_seq ?_
  refine W_region ?_
  refine wl_val (rn_assign (by conv => lhs; whnf)) ?_
  refine wl_nil ?_
  refine W_seq ?_
  refine W_region ?_
  refine wl_val (rn_move (by conv => lhs; whnf)) ?_
  refine wl_val (rn_move (by conv => lhs; whnf)) ?_
  refine wl_val (rn_sneq rfl rfl) ?_
  refine wl_val (rn_assign (by conv => lhs; whnf)) ?_
  refine wl_nil ?_
  refine W_ret ?_
  exact ⟨_, resR1 (res1_tmp rfl), hX, by show Value.bool (decide (x ≠ x)) = _; simp⟩
-- cmp.Less[string]
theorem less_s (w : World) (x y : Str) : Fn Tryz.prog 145 #[Sv x, Sv y] w fun u w' => u = .bool (ltS x y) := by
  have hX := Ext.refl Non w
  refine fn_of_W (args := [_, _]) Tryz.func145 rfl (by kernel_rfl) rfl ?_
  refine W_seq ?_
  refine W_region ?_
  refine wl_val (rn_assign (by conv => lhs; whnf)) ?_
  refine wl_nil ?_
  refine W_seq ?_
  refine W_region ?_
  refine wl_val (rn_move (by conv => lhs; whnf)) ?_
  refine wl_call e_169 rfl (cNaN_s w _) ?_; intro v6 w1 hE1 hR1
  replace hX := hX.tr hE1
  subst hR1
  refine wl_val (rn_move (by conv => lhs; whnf)) ?_
  refine wl_no rfl rfl ?_
  refine wl_no rfl rfl ?_
  refine wl_no rfl rfl ?_
  refine wl_val (rn_pickF rfl (by conv => lhs; whnf)) ?_
  refine wl_val (rn_move (by conv => lhs; whnf)) ?_
  refine wl_yes rfl rfl ?_
  refine wl_val (rn_move (by conv => lhs; whnf)) ?_
  refine wl_yes rfl rfl ?_
  refine wl_val (rn_move (by conv => lhs; whnf)) ?_
  refine wl_yes rfl rfl ?_
  refine wl_val (rn_slss rfl rfl) ?_
  refine wl_val (rn_pickF rfl (by conv => lhs; whnf)) ?_
  refine wl_val (rn_assign (by conv => lhs; whnf)) ?_
  refine wl_nil ?_
  refine W_ret ?_
  exact ⟨_, resR1 (res1_tmp rfl), hX, rfl⟩
-- slices.BinarySearch[[]string,string]
set_option maxHeartbeats 800000 in
theorem bs_s (w : World) (ks : List Str) (x : Str) {v : Value} (hs : Sl Non w v 1 (ks.map eS1)) (hord : Sorted ltS ks) (hn : ks.length ≤ 1000000) : Fn Tryz.prog 108 #[v, Sv x] w fun u w' => u = .tuple #[.int .i64 (lb ltS ks x : Nat), .bool (isAt ltS ks x)] := by
  obtain ⟨a, c, rfl, _⟩ := hs.len
  simp only [List.length_map] at hs ⊢
  have hX := Ext.refl Non w
  refine fn_of_W (args := [_, _]) Tryz.func108 rfl (by kernel_rfl) rfl ?_
  refine W_seq ?_
  refine W_region ?_
  refine wl_val (rn_assign (by conv => lhs; whnf)) ?_
  refine wl_val (rn_assign (by conv => lhs; whnf)) ?_
  refine wl_nil ?_
  refine W_seq ?_
  refine W_region ?_
  refine wl_val (rn_move (by conv => lhs; whnf)) ?_
  refine wl_val (rn_len sl_22 rfl) ?_
  refine wl_val (rn_assign (by conv => lhs; whnf)) ?_
  refine wl_nil ?_
  refine W_seq ?_
  refine W_region ?_
  refine wl_val (rn_move (by conv => lhs; whnf)) ?_
  refine wl_val (rn_assign (by conv => lhs; whnf)) ?_
  refine wl_val (rn_assign (by conv => lhs; whnf)) ?_
  refine wl_nil ?_
  refine W_seq ?_
  refine W_block ?_   -- block 0
  refine W_loopS (S := Nat × Nat) [0, 1, 6, 7, 8] (fun ⟨i, j⟩ => [.slice a ks.length c, Sv x, .int .i64 (ks.length : Nat), .int .i64 (i : Nat), .int .i64 (j : Nat)]) (fun ⟨i, j⟩ A => (Ext Non w A) ∧ (i ≤ j ∧ j ≤ ks.length ∧ (∀ p y, p < i → ks[p]? = some y → ltS y x = true) ∧ (∀ p y, j ≤ p → ks[p]? = some y → ltS y x = false))) (fun ⟨i, j⟩ => j - i) (0, ks.length) ⟨rfl, rfl, rfl, rfl, rfl, trivial⟩ ⟨hX, ⟨Nat.zero_le _, Nat.le_refl _, fun p y h => absurd h (Nat.not_lt_zero _), fun p y h hy => by have := (List.getElem?_eq_some_iff.1 hy).1; omega⟩⟩ ?_
  rintro τ0 ⟨i, j⟩ A0 ⟨hX, hI0⟩
  obtain ⟨hij, hjn, hlo, hhi⟩ := hI0
  refine W_seq ?_
  refine W_seq ?_
  refine W_region ?_
  refine wl_val (rn_move (by conv => lhs; whnf)) ?_
  refine wl_val (rn_move (by conv => lhs; whnf)) ?_
  refine wl_val (rn_lss rfl rfl) ?_
  refine wl_nil ?_
  refine W_cond rfl (fun hc0 => ?_) (fun hc0 => ?_)
  · have hlt := of_decide_eq_true hc0; simp only [Int.ofNat_lt] at hlt
    have hh : (i + j) / 2 < ks.length := by omega
    obtain ⟨y, hy⟩ : ∃ y, ks[(i + j) / 2]? = some y := ⟨_, List.getElem?_eq_getElem hh⟩
    obtain ⟨b, o, ea⟩ := hs.base (by intro e; simp at e; subst e; simp at hh); subst ea
    refine W_skip ?_
    refine W_block ?_   -- block 1
    refine W_seq ?_
    refine W_region ?_
    refine wl_val (rn_move (by conv => lhs; whnf)) ?_
    refine wl_val (rn_move (by conv => lhs; whnf)) ?_
    refine wl_val (rn_add rfl rfl (by omega)) ?_
    refine wl_val (rn_convert ui_3 ui_183 rfl (wrap_u64 (by omega))) ?_
    refine wl_val (Rn.cast (rn_shr1 rfl rfl) (congrArg (Value.int .u64) (fdiv2 i j))) ?_
    refine wl_val (rn_convert ui_183 ui_3 rfl (wrap_id (by omega))) ?_
    refine wl_val (rn_assign (by conv => lhs; whnf)) ?_
    refine wl_nil ?_
    refine W_seq ?_
    refine W_region ?_
    refine wl_val (rn_move (by conv => lhs; whnf)) ?_
    refine wl_val (rn_move (by conv => lhs; whnf)) ?_
    refine wl_val (rn_indexAddr sl_22 rfl rfl (by omega)) ?_
    refine wl_val (rn_load p_9 rfl ((hs.ext hX (fun _ h => h)).at0 (eS_at hy) rfl)) ?_
    refine wl_val (rn_move (by conv => lhs; whnf)) ?_
    refine wl_call e_145 rfl (less_s A0 _ _) ?_; intro v27 w1 hE1 hR1
    replace hX := hX.tr hE1
    subst hR1
    refine wl_nil ?_
    refine W_cond rfl (fun hc1 => ?_) (fun hc1 => ?_)
    · refine W_region ?_
      refine wl_val (rn_move (by conv => lhs; whnf)) ?_
      refine wl_val (rn_add rfl rfl (by omega)) ?_
      refine wl_val (rn_assign (by conv => lhs; whnf)) ?_
      refine wl_nil ?_
      exact ⟨rfl, ((i + j) / 2 + 1, j), ⟨rfl, rfl, rfl, rfl, rfl, trivial⟩, ⟨hX, ⟨by omega, hjn, fun p z hp hz => by by_cases e : p = (i + j) / 2; (subst e; rw [hz] at hy; cases hy; exact hc1); exact (lo_str).tr _ _ _ (hord.get hz hy (by omega)) hc1, hhi⟩⟩, by show j - ((i + j) / 2 + 1) < j - i; omega⟩
    · refine W_region ?_
      refine wl_val (rn_move (by conv => lhs; whnf)) ?_
      refine wl_val (rn_assign (by conv => lhs; whnf)) ?_
      refine wl_nil ?_
      exact ⟨rfl, (i, (i + j) / 2), ⟨rfl, rfl, rfl, rfl, rfl, trivial⟩, ⟨hX, ⟨by omega, by omega, hlo, fun p z hp hz => by by_cases e : p = (i + j) / 2; (subst e; rw [hz] at hy; cases hy; exact hc1); (cases hzx : ltS z x with | false => rfl | true => have := (lo_str).tr _ _ _ (hord.get hy hz (by omega)) hzx; rw [this] at hc1; cases hc1)⟩⟩, by show (i + j) / 2 - i < j - i; omega⟩
  · have hge := of_decide_eq_false hc0; simp only [Int.ofNat_lt, Nat.not_lt] at hge
    have hej : i = j := by omega
    subst hej
    have hlb : lb ltS ks x = i := lb_of hjn hlo (fun y hy => hhi i y (Nat.le_refl _) hy)
    refine W_exit ?_   -- exit 0
    refine W_seq ?_
    refine W_region ?_
    refine wl_val (rn_move (by conv => lhs; whnf)) ?_
    refine wl_val (rn_move (by conv => lhs; whnf)) ?_
    refine wl_val (rn_move (by conv => lhs; whnf)) ?_
    refine wl_val (rn_lss rfl rfl) ?_
    refine wl_val (rn_move (by conv => lhs; whnf)) ?_
    refine wl_split (d := 35) rfl (fun hg35 => ?_) (fun hg35 => ?_)
    · have hlt := of_decide_eq_true hg35; simp only [Int.ofNat_lt] at hlt
      obtain ⟨y, hy⟩ : ∃ y, ks[i]? = some y := ⟨_, List.getElem?_eq_getElem hlt⟩
      obtain ⟨b, o, ea⟩ := hs.base (by intro e; simp at e; subst e; simp at hlt); subst ea
      refine wl_yes rfl (congrArg Value.bool hg35) ?_
      refine wl_val (rn_move (by conv => lhs; whnf)) ?_
      refine wl_yes rfl (congrArg Value.bool hg35) ?_
      refine wl_val (rn_move (by conv => lhs; whnf)) ?_
      refine wl_yes rfl (congrArg Value.bool hg35) ?_
      refine wl_val (rn_indexAddr sl_22 rfl rfl (by omega)) ?_
      refine wl_yes rfl (congrArg Value.bool hg35) ?_
      refine wl_val (rn_load p_9 rfl ((hs.ext hX (fun _ h => h)).at0 (eS_at hy) rfl)) ?_
      refine wl_yes rfl (congrArg Value.bool hg35) ?_
      refine wl_val (rn_move (by conv => lhs; whnf)) ?_
      refine wl_yes rfl (congrArg Value.bool hg35) ?_
      refine wl_val (rn_seql rfl rfl) ?_
      refine wl_yes rfl (congrArg Value.bool hg35) ?_
      refine wl_val (rn_move (by conv => lhs; whnf)) ?_
      refine wl_split (d := 42) rfl (fun hg42 => ?_) (fun hg42 => ?_)
      · refine wl_no rfl (congrArg Value.bool hg42) ?_
        refine wl_no rfl (congrArg Value.bool hg42) ?_
        refine wl_no rfl (congrArg Value.bool hg42) ?_
        refine wl_no rfl (congrArg Value.bool hg42) ?_
        refine wl_no rfl (congrArg Value.bool hg42) ?_
        refine wl_no rfl (congrArg Value.bool hg42) ?_
        refine wl_nou rfl rfl ?_
        refine wl_nou rfl rfl ?_
        refine wl_no rfl (congrArg Value.bool hg42) ?_
        refine wl_yes rfl (congrArg Value.bool hg35) ?_
        refine wl_val (rn_pickT (congrArg Value.bool hg42) (by conv => lhs; whnf)) ?_
        refine wl_val (rn_pickT (congrArg Value.bool hg35) (by conv => lhs; whnf)) ?_
        refine wl_val (rn_assign (by conv => lhs; whnf)) ?_
        refine wl_val (rn_assign (by conv => lhs; whnf)) ?_
        refine wl_nil ?_
        refine W_ret ?_
        have hxy := of_decide_eq_true hg42
        exact ⟨_, resR2 (res1_tmp rfl) (res1_tmp rfl), hX, by show Value.tuple #[.int .i64 (i : Nat), .bool true] = _; rw [hlb]; unfold isAt; rw [hlb, hy, hxy, decide_eq_true rfl]⟩
      · refine wl_yes rfl (congrArg Value.bool hg42) ?_
        refine wl_val (rn_move (by conv => lhs; whnf)) ?_
        refine wl_yes rfl (congrArg Value.bool hg42) ?_
        refine wl_val (rn_move (by conv => lhs; whnf)) ?_
        refine wl_yes rfl (congrArg Value.bool hg42) ?_
        refine wl_val (rn_indexAddr sl_22 rfl rfl (by omega)) ?_
        refine wl_yes rfl (congrArg Value.bool hg42) ?_
        refine wl_val (rn_load p_9 rfl ((hs.ext hX (fun _ h => h)).at0 (eS_at hy) rfl)) ?_
        refine wl_yes rfl (congrArg Value.bool hg42) ?_
        refine wl_call e_146 rfl (sNaN_s A0 _) ?_; intro v47 w2 hE2 hR2
        replace hX := hX.tr hE2
        subst hR2
        refine wl_yes rfl (congrArg Value.bool hg42) ?_
        refine wl_val (rn_move (by conv => lhs; whnf)) ?_
        refine wl_no rfl rfl ?_
        refine wl_no rfl rfl ?_
        refine wl_yes rfl (congrArg Value.bool hg42) ?_
        refine wl_val (rn_pickF rfl (by conv => lhs; whnf)) ?_
        refine wl_yes rfl (congrArg Value.bool hg35) ?_
        refine wl_val (rn_pickF (congrArg Value.bool hg42) (by conv => lhs; whnf)) ?_
        refine wl_val (rn_pickT (congrArg Value.bool hg35) (by conv => lhs; whnf)) ?_
        refine wl_val (rn_assign (by conv => lhs; whnf)) ?_
        refine wl_val (rn_assign (by conv => lhs; whnf)) ?_
        refine wl_nil ?_
        refine W_ret ?_
        have hxy := of_decide_eq_false hg42
        exact ⟨_, resR2 (res1_tmp rfl) (res1_tmp rfl), hX, by show Value.tuple #[.int .i64 (i : Nat), .bool false] = _; rw [hlb]; unfold isAt; rw [hlb, hy, decide_eq_false (fun e => hxy (Option.some.inj e))]⟩
    · refine wl_no rfl (congrArg Value.bool hg35) ?_
      refine wl_no rfl (congrArg Value.bool hg35) ?_
      refine wl_no rfl (congrArg Value.bool hg35) ?_
      refine wl_no rfl (congrArg Value.bool hg35) ?_
      refine wl_no rfl (congrArg Value.bool hg35) ?_
      refine wl_no rfl (congrArg Value.bool hg35) ?_
      refine wl_no rfl (congrArg Value.bool hg35) ?_
      refine wl_nou rfl rfl ?_
      refine wl_nou rfl rfl ?_
      refine wl_nou rfl rfl ?_
      refine wl_nou rfl rfl ?_
      refine wl_nou rfl rfl ?_
      refine wl_nou rfl rfl ?_
      refine wl_nou rfl rfl ?_
      refine wl_nou rfl rfl ?_
      refine wl_nou rfl rfl ?_
      refine wl_no rfl (congrArg Value.bool hg35) ?_
      refine wl_val (rn_pickF (congrArg Value.bool hg35) (by conv => lhs; whnf)) ?_
      refine wl_val (rn_assign (by conv => lhs; whnf)) ?_
      refine wl_val (rn_assign (by conv => lhs; whnf)) ?_
      refine wl_nil ?_
      refine W_ret ?_
      have hge2 := of_decide_eq_false hg35; simp only [Int.ofNat_lt, Nat.not_lt] at hge2
      exact ⟨_, resR2 (res1_tmp rfl) (res1_tmp rfl), hX, by show Value.tuple #[.int .i64 (i : Nat), .bool false] = _; rw [hlb]; unfold isAt; rw [hlb, List.getElem?_eq_none hge2, decide_eq_false (by simp)]⟩
end Go.Proofs.YtaddeakfojpdoaaGreatDoorC
