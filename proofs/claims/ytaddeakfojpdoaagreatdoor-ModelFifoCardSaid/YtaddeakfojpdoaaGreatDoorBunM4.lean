/- The library's functions on slices that the sets use: clone, delete, insert, and a list with something at a place. -/
import Derived.Test.YtaddeakfojpdoaaGreatDoorBunM3
set_option linter.unusedVariables false
set_option linter.unusedSimpArgs false
set_option maxRecDepth 100000
namespace Go.Proofs.YtaddeakfojpdoaaGreatDoorC
open Go.RowKit
-- slices.Insert[[]int,int]
set_option maxHeartbeats 1600000 in
theorem insert_i (w : World) (i : Nat) (rows : List (List Value)) (r : List Value) {v vx : Value} (hs : Sl Non w v 1 rows) (hv : ∃ a, v = .slice a rows.length rows.length) (hi : i ≤ rows.length) (hx : Sl Non w vx 1 [r]) (h2 : ∀ u ∈ r, u.oneCell' = true) (h1 : ∀ r ∈ rows, ∀ u ∈ r, u.oneCell' = true) (hn : rows.length ≤ 1000000) : Fn Tryz.prog 126 #[v, .int .i64 (i : Nat), vx] w fun u w' => ∃ b spare, w.heap.size ≤ b ∧ Ow w' u b 1 (rows.take i ++ r :: rows.drop i) spare := by
  obtain ⟨a, rfl⟩ := hv
  obtain ⟨a2, c2, rfl, _⟩ := hx.len
  have hbig : rows.length ≤ big := by simp only [big]; omega
  have hti : (rows.take i).length = i := by rw [List.length_take]; omega
  have htj : (rows.drop i).length = rows.length - i := List.length_drop
  have hX := Ext.refl Non w
  refine fn_of_W (args := [_, _, _]) Tryz.func126 rfl (by kernel_rfl) rfl ?_
  refine W_seq ?_
  refine W_region ?_
  refine wl_val (rn_assign (by conv => lhs; whnf)) ?_
  refine wl_nil ?_
  refine W_seq ?_
  refine W_region ?_
  refine wl_val (rn_move (by conv => lhs; whnf)) ?_
  refine wl_val (rn_move (by conv => lhs; whnf)) ?_
  refine wl_val (rn_slice sl_23 (l := i) (h := rows.length) (m := rows.length) rfl ⟨_, rfl⟩ rfl rfl (by simp) (by omega) (by omega) (by omega)) ?_
  refine wl_nil ?_
  refine W_seq ?_
  refine W_region ?_
  refine wl_val (rn_move (by conv => lhs; whnf)) ?_
  refine wl_val (rn_len sl_23 rfl) ?_
  refine wl_val (rn_assign (by conv => lhs; whnf)) ?_
  refine wl_nil ?_
  refine W_seq ?_
  refine W_seq ?_
  refine W_region ?_
  refine wl_val (rn_move (by conv => lhs; whnf)) ?_
  refine wl_val (rn_eql rfl rfl) ?_
  refine wl_nil ?_
  refine W_cond rfl (fun hc0 => ?_) (fun hc0 => ?_)
  · exact absurd (of_decide_eq_true hc0) (by simp)
  · refine W_skip ?_
    refine W_seq ?_
    refine W_region ?_
    refine wl_val (rn_move (by conv => lhs; whnf)) ?_
    refine wl_val (rn_len sl_23 rfl) ?_
    refine wl_val (rn_assign (by conv => lhs; whnf)) ?_
    refine wl_nil ?_
    refine W_seq ?_
    refine W_seq ?_
    refine W_region ?_
    refine wl_val (rn_move (by conv => lhs; whnf)) ?_
    refine wl_val (rn_move (by conv => lhs; whnf)) ?_
    refine wl_val (rn_eql rfl rfl) ?_
    refine wl_nil ?_
    refine W_cond rfl (fun hc1 => ?_) (fun hc1 => ?_)
    · have hie : i = rows.length := by have := of_decide_eq_true hc1; omega
      subst hie
      refine W_seq ?_
      refine W_region ?_
      refine wl_val (rn_move (by conv => lhs; whnf)) ?_
      refine wl_val (rn_move (by conv => lhs; whnf)) ?_
      have hXo := hX
      refine wl_grow sl_23 rfl rfl rfl (hs.ext hX (fun _ h => h)) (hx.ext hX (fun _ h => h)) (by simp only [List.length_cons, List.length_nil, List.length_append, List.length_replicate, List.length_take, List.length_drop]; omega) (by simp only [List.length_cons, List.length_nil, List.length_append, List.length_replicate, List.length_take, List.length_drop]; omega) (by simp only [List.length_cons, List.length_nil, List.length_append, List.length_replicate, big]; omega) ?_; intro v25 w1 b25 spare25 hb25 hE1 hO25
      replace hX := hX.tr hE1
      refine wl_val (rn_assign (by conv => lhs; whnf)) ?_
      refine wl_nil ?_
      refine W_ret ?_
      exact ⟨_, resR1 (res1_tmp rfl), hX, ⟨b25, spare25, Nat.le_trans hXo.size hb25, by rw [List.take_of_length_le (Nat.le_refl _), List.drop_of_length_le (Nat.le_refl _)]; exact hO25⟩⟩
    · have hie : ¬ i = rows.length := by have := of_decide_eq_false hc1; omega
      refine W_skip ?_
      refine W_seq ?_
      refine W_seq ?_
      refine W_region ?_
      refine wl_val (rn_move (by conv => lhs; whnf)) ?_
      refine wl_val (rn_move (by conv => lhs; whnf)) ?_
      refine wl_val (rn_add rfl rfl (by simp only [List.length_singleton]; omega)) ?_
      refine wl_val (rn_move (by conv => lhs; whnf)) ?_
      refine wl_val (rn_cap sl_23 rfl) ?_
      refine wl_val (rn_gtr rfl rfl) ?_
      refine wl_nil ?_
      refine W_cond rfl (fun hc2 => ?_) (fun hc2 => ?_)
      · refine W_seq ?_
        refine W_region ?_
        refine wl_val (rn_move (by conv => lhs; whnf)) ?_
        refine wl_val (rn_move (by conv => lhs; whnf)) ?_
        refine wl_val (rn_slice0 sl_23 (h := i) (m := rows.length) rfl rfl ⟨_, rfl⟩ rfl (by simp) (by omega) (by omega)) ?_
        refine wl_val (rn_move (by conv => lhs; whnf)) ?_
        refine wl_val (rn_move (by conv => lhs; whnf)) ?_
        refine wl_val (rn_add rfl rfl (by simp only [List.length_singleton]; omega)) ?_
        refine wl_val (rn_move (by conv => lhs; whnf)) ?_
        refine wl_val (rn_sub rfl rfl (by simp only [List.length_singleton]; omega)) ?_
        refine wl_zeros (q := rows.length + 1 - i) sl_23 rfl ui_3 rfl (congrArg (Value.int .i64) (by simp only [List.length_singleton]; omega)) ((hs.ext hX (fun _ h => h)).cut0 hi (by omega) (Nat.le_refl _)) (by rw [hti]; omega) (by rw [hti]; omega) (by rw [hti]; simp only [big]; omega) ?_; intro v40 w2 b40 spare40 hb40 hE2 hO40
        have hq40 : w.heap.size ≤ b40 := Nat.le_trans hX.size hb40
        replace hX := hX.tr hE2
        refine wl_val (rn_assign (by conv => lhs; whnf)) ?_
        refine wl_nil ?_
        refine W_seq ?_
        refine W_region ?_
        obtain ⟨c40, hv40, hk1, hk2, hk3⟩ := hO40.val; rw [List.length_append, hti, List.length_replicate, show i + (rows.length + 1 - i) = rows.length + 1 from by omega] at hv40 hk1
        refine wl_val (rn_move (by conv => lhs; whnf)) ?_
        refine wl_val (rn_move (by conv => lhs; whnf)) ?_
        refine wl_val (rn_sliceO sl_23 (l := i) (h := rows.length + 1) (m := c40) hv40 ⟨_, rfl⟩ rfl rfl (by simp) (by omega) (by omega) (by omega) (by omega)) ?_
        refine wl_val (rn_move (by conv => lhs; whnf)) ?_
        refine wl_copy (l := i) sl_23 rfl rfl hO40 (hx.ext hX (fun _ h => h)) (oneR h2) (by simp only [List.length_singleton, List.length_append, hti, List.length_replicate]; omega) ?_; intro w3 hE3 hO45 _
        have ht45 : [r].take (rows.length + 1 - i) = [r] := List.take_of_length_le (by simp only [List.length_singleton]; omega)
        rw [ht45] at hO45
        replace hX := hX.mine hE3 (.inr hq40)
        refine wl_nil ?_
        refine W_seq ?_
        refine W_drawF (fun x => x = b40) mixed ?_; intro w4 hE4
        replace hX := hX.tr hE4
        replace hO45 := hO45.ext hE4 id
        have hS := Ext.refl (fun x => x = b40) w4
        refine wd_take 0 _ _ rfl (by kernel_rfl) hS (yd_do fun A hA => rn_move (by conv => lhs; whnf)) ?_
        refine wd_take 1 _ _ rfl (by kernel_rfl) hS (yd_do fun A hA => rn_move (by conv => lhs; whnf)) ?_
        refine wd_take 2 _ _ rfl (by kernel_rfl) hS (yd_do fun A hA => rn_move (by conv => lhs; whnf)) ?_
        refine wd_take 3 _ _ rfl (by kernel_rfl) hS (yd_do fun A hA => rn_add rfl rfl (by simp only [List.length_singleton]; omega)) ?_
        refine wd_take 4 _ _ rfl (by kernel_rfl) hS (yd_do fun A hA => rn_sliceO sl_23 (l := i + 1) (h := rows.length + 1) (m := c40) hv40 ⟨_, rfl⟩ rfl rfl (by simp) (by omega) (by omega) (by omega) (by omega)) ?_
        refine wd_take 5 _ _ rfl (by kernel_rfl) hS (yd_do fun A hA => rn_move (by conv => lhs; whnf)) ?_
        refine wd_take 6 _ _ rfl (by kernel_rfl) hS (yd_do fun A hA => rn_move (by conv => lhs; whnf)) ?_
        refine wd_take 7 _ _ rfl (by kernel_rfl) hS (yd_do fun A hA => rn_slice sl_23 (l := i) (h := rows.length) (m := rows.length) rfl ⟨_, rfl⟩ rfl rfl (by simp) (by omega) (by omega) (by omega)) ?_
        refine wd_only 8 _ rfl (by kernel_rfl) ?_
        refine s1_do ?_
        have hsl := (hs.ext hX (fun _ h => h)).cut hi (Nat.le_refl _) (Nat.le_refl _) (Nat.le_refl _)
        have htd : (rows.drop i).take (rows.length - i) = rows.drop i := List.take_of_length_le (by rw [htj]; exact Nat.le_refl _)
        have hte : (rows.drop i).take (rows.length + 1 - (i + 1)) = rows.drop i := List.take_of_length_le (by rw [htj]; omega)
        rw [htd] at hsl
        refine wl_copy (l := i + 1) sl_23 rfl rfl hO45 hsl (fun r hr => h1 r (List.mem_of_mem_drop hr)) (by rw [htj, patchR_length (by simp only [List.length_singleton, List.length_append, hti, List.length_replicate]; omega), List.length_append, hti, List.length_replicate]; omega) ?_; intro w5 hE5 hO54 _
        rw [hte, ins_rows hi (by rw [List.length_replicate])] at hO54
        replace hS := hS.trans hE5
        refine wl_nil ⟨hS, ?_⟩
        refine wd_done (by kernel_rfl) ?_ _
        replace hX := hX.mine hS (.inr hq40)
        refine W_seq ?_
        refine W_region ?_
        refine wl_val (rn_move (by conv => lhs; whnf)) ?_
        refine wl_val (rn_assign (by conv => lhs; whnf)) ?_
        refine wl_nil ?_
        refine W_ret ?_
        exact ⟨_, resR1 (res1_tmp rfl), hX, ⟨b40, spare40, hq40, hO54⟩⟩
      · exact absurd (of_decide_eq_false hc2) (fun h => h (by simp only [List.length_singleton]; omega))
-- bellman/set.put[int]
set_option maxHeartbeats 800000 in
theorem put_i (w : World) (i : Nat) (there : Bool) (rows : List (List Value)) {v x : Value} (hs : Sl Non w v 1 rows) (hi : i ≤ rows.length) (hi2 : there = true → i < rows.length) (hx1 : x.oneCell' = true) (hxc : x.cells = #[x]) (h1 : ∀ r ∈ rows, ∀ u ∈ r, u.oneCell' = true) (hn : rows.length ≤ 1000000) : Fn Tryz.prog 88 #[v, .int .i64 (i : Nat), .bool there, x] w fun u w' => ∃ b spare, w.heap.size ≤ b ∧ Ow w' u b 1 (if there = true then rows.set i [x] else rows.take i ++ [x] :: rows.drop i) spare := by
  obtain ⟨a, c, rfl, _⟩ := hs.len
  have hbig : rows.length ≤ big := by simp only [big]; omega
  have hX := Ext.refl Non w
  refine fn_of_W (args := [_, _, _, _]) Tryz.func88 rfl (by kernel_rfl) rfl ?_
  refine W_seq ?_
  refine W_region ?_
  refine wl_val (rn_assign (by conv => lhs; whnf)) ?_
  refine wl_nil ?_
  refine W_seq ?_
  refine W_region ?_
  refine wl_val (rn_move (by conv => lhs; whnf)) ?_
  refine wl_val (rn_len sl_23 rfl) ?_
  refine wl_make sl_23 rfl rfl rfl (by omega) hbig ?_; intro w1 b12 hb12 hE1 hO12
  have hq12 : w.heap.size ≤ b12 := Nat.le_trans hX.size hb12
  replace hX := hX.tr hE1
  refine wl_val (rn_assign (by conv => lhs; whnf)) ?_
  refine wl_nil ?_
  refine W_seq ?_
  refine W_region ?_
  refine wl_val (rn_move (by conv => lhs; whnf)) ?_
  refine wl_val (rn_move (by conv => lhs; whnf)) ?_
  refine wl_copy (l := 0) sl_23 (by rw [Nat.zero_mul]; rfl) rfl hO12 (hs.ext hX (fun _ h => h)) h1 (by rw [List.length_replicate]; omega) ?_; intro w2 hE2 hO15 _
  have hp15 : patchR (List.replicate rows.length [.int .i64 0]) 0 (rows.take rows.length) = rows := by unfold patchR; simp
  rw [hp15] at hO15
  replace hX := hX.mine hE2 (.inr hq12)
  refine wl_nil ?_
  refine W_seq ?_
  refine W_seq ?_
  refine W_region ?_
  refine wl_val (rn_move (by conv => lhs; whnf)) ?_
  refine wl_nil ?_
  refine W_cond rfl (fun hc0 => ?_) (fun hc0 => ?_)
  · have hlt := hi2 hc0
    refine W_seq ?_
    refine W_region ?_
    refine wl_val (rn_move (by conv => lhs; whnf)) ?_
    refine wl_val (rn_move (by conv => lhs; whnf)) ?_
    refine wl_val (rn_move (by conv => lhs; whnf)) ?_
    refine wl_val (rn_indexAddr sl_23 rfl rfl (by omega)) ?_
    refine wl_storeE p_3 rfl rfl hx1 hxc hO15 (by omega) ?_; intro w3 hE3 hO20
    replace hX := hX.mine hE3 (.inr hq12)
    refine wl_nil ?_
    refine W_seq ?_
    refine W_region ?_
    refine wl_val (rn_move (by conv => lhs; whnf)) ?_
    refine wl_val (rn_assign (by conv => lhs; whnf)) ?_
    refine wl_nil ?_
    refine W_ret ?_
    exact ⟨_, resR1 (res1_tmp rfl), hX, ⟨b12, [], hq12, by rw [if_pos hc0]; exact hO20⟩⟩
  · refine W_skip ?_
    refine W_seq ?_
    refine W_region ?_
    refine wl_val (rn_move (by conv => lhs; whnf)) ?_
    refine wl_val (rn_move (by conv => lhs; whnf)) ?_
    refine wl_val (rn_move (by conv => lhs; whnf)) ?_
    refine wl_lit1 (r := [x]) sl_23 rfl rfl (by rw [show ev _ (Operand.tmp 24) = x from rfl, hxc]) rfl (by decide) ?_; intro v25 w4 b25 hb25 hE4 hO25
    replace hX := hX.tr hE4
    replace hO15 := hO15.ext hE4 id
    have hXo := hX
    refine wl_call e_126 rfl (insert_i w4 i rows [x] (hO15.sl (M := Non) id) ⟨_, rfl⟩ hi (hO25.sl (M := Non) id) (one1 hx1) h1 hn) ?_; intro v26 w5 hE5 hR5
    replace hX := hX.tr hE5
    replace hO15 := hO15.ext hE5 id
    obtain ⟨b26, spare26, hb26, hO26⟩ := hR5
    refine wl_val (rn_assign (by conv => lhs; whnf)) ?_
    refine wl_nil ?_
    refine W_ret ?_
    exact ⟨_, resR1 (res1_tmp rfl), hX, ⟨b26, spare26, Nat.le_trans hXo.size hb26, by rw [if_neg (by rw [hc0]; simp)]; exact hO26⟩⟩
-- slices.Clone[[]string,string]
theorem clone_s (w : World) (rows : List (List Value)) {v : Value} (hs : Sl Non w v 1 rows) (h1 : ∀ r ∈ rows, ∀ u ∈ r, u.oneCell' = true) (hn : rows.length ≤ 1000000) : Fn Tryz.prog 110 #[v] w fun u w' => ∃ oo, OwO w' u oo 1 rows ∧ ∀ i, oo = some i → w.heap.size ≤ i := by
  obtain ⟨a, c, rfl, _⟩ := hs.len
  have hX := Ext.refl Non w
  refine fn_of_W (args := [_]) Tryz.func110 rfl (by kernel_rfl) rfl ?_
  refine W_seq ?_
  refine W_region ?_
  refine wl_val (rn_assign (by conv => lhs; whnf)) ?_
  refine wl_nil ?_
  refine W_seq ?_
  refine W_seq ?_
  refine W_region ?_
  refine wl_val (rn_move (by conv => lhs; whnf)) ?_
  refine wl_val (rn_slice_eqnil sl_22 rfl rfl) ?_
  refine wl_nil ?_
  refine W_cond rfl (fun hc0 => ?_) (fun hc0 => ?_)
  · have hr : rows = [] := by obtain ⟨⟨a2, c2, e1, _, _, e4⟩, _⟩ := hs; simp only [Value.slice.injEq] at e1; rcases e4 with e4 | ⟨b, o, e4, _⟩; exact e4; rw [e1.1, e4] at hc0; cases hc0
    refine W_seq ?_
    refine W_region ?_
    refine wl_val (rn_assign (by conv => lhs; whnf)) ?_
    refine wl_nil ?_
    refine W_ret ?_
    exact ⟨_, resR1 (res1_tmp rfl), hX, ⟨none, by rw [hr]; exact OwO.nil, by simp⟩⟩
  · refine W_skip ?_
    refine W_seq ?_
    refine W_region ?_
    refine wl_lit (rows := []) (parts := []) sl_22 rfl (by decide) (by decide) rfl rfl (by simp) (by simp) rfl ?_; intro v5 w1 b5 hb5 hE1 hO5
    have hq5 : w.heap.size ≤ b5 := Nat.le_trans hX.size hb5
    replace hX := hX.tr hE1
    refine wl_val (rn_move (by conv => lhs; whnf)) ?_
    have hXo := hX
    refine wl_app sl_22 rfl rfl rfl (o := some b5) (rows := []) (.inr ⟨b5, [], rfl, hO5⟩) (hs.ext hX (fun _ h => h)) h1 (by simp only [List.length_cons, List.length_nil, List.length_append, List.length_replicate, List.length_take, List.length_drop]; omega) (by simp only [List.length_cons, List.length_nil, List.length_append, List.length_replicate, big]; omega) ?_; intro v7 w2 o7 hE2 hO7 hf7
    replace hX := hX.mineO hE2 (fun i hi => by cases hi; exact .inr hq5)
    refine wl_val (rn_assign (by conv => lhs; whnf)) ?_
    refine wl_nil ?_
    refine W_ret ?_
    exact ⟨_, resR1 (res1_tmp rfl), hX, ⟨o7, by rw [List.nil_append] at hO7; exact hO7, fun i hi => by rcases hf7 i hi with h | h; cases h; exact hq5; exact Nat.le_trans hXo.size h⟩⟩
-- slices.Delete[[]string,string]
theorem delete_s (w : World) (i j b : Nat) (rows : List (List Value)) (spare : List Value) {v : Value} (hs : Ow w v b 1 rows spare) (hij : i ≤ j) (hj : j ≤ rows.length) (h1 : ∀ r ∈ rows, ∀ u ∈ r, u.oneCell' = true) (hn : rows.length ≤ 1000000) : FnM Tryz.prog (fun x => x = b) 109 #[v, .int .i64 (i : Nat), .int .i64 (j : Nat)] w fun u w' => ∃ spare', Ow w' u b 1 (rows.take i ++ rows.drop j) spare' := by
  obtain ⟨c, rfl, hc1, hc2, hc3⟩ := id hs.val
  have hti : (rows.take i).length = i := by rw [List.length_take]; omega
  have htj : (rows.drop j).length = rows.length - j := List.length_drop
  have hX := Ext.refl (fun x => x = b) w
  refine fnM_of_W (args := [_, _, _]) Tryz.func109 rfl (by kernel_rfl) rfl ?_
  refine W_seq ?_
  refine W_region ?_
  refine wl_val (rn_assign (by conv => lhs; whnf)) ?_
  refine wl_nil ?_
  refine W_seq ?_
  refine W_region ?_
  refine wl_val (rn_move (by conv => lhs; whnf)) ?_
  refine wl_val (rn_move (by conv => lhs; whnf)) ?_
  refine wl_val (rn_move (by conv => lhs; whnf)) ?_
  refine wl_val (rn_move (by conv => lhs; whnf)) ?_
  refine wl_val (rn_len sl_22 rfl) ?_
  refine wl_val (rn_slice sl_22 (l := i) (h := j) (m := rows.length) rfl ⟨_, rfl⟩ ⟨_, rfl⟩ ⟨_, rfl⟩ (by simp) (by omega) (by omega) (by omega)) ?_
  refine wl_nil ?_
  refine W_seq ?_
  refine W_seq ?_
  refine W_region ?_
  refine wl_val (rn_move (by conv => lhs; whnf)) ?_
  refine wl_val (rn_move (by conv => lhs; whnf)) ?_
  refine wl_val (rn_eql rfl rfl) ?_
  refine wl_nil ?_
  refine W_cond rfl (fun hc0 => ?_) (fun hc0 => ?_)
  · have hie : i = j := by have := of_decide_eq_true hc0; omega
    subst hie
    refine W_seq ?_
    refine W_region ?_
    refine wl_val (rn_move (by conv => lhs; whnf)) ?_
    refine wl_val (rn_assign (by conv => lhs; whnf)) ?_
    refine wl_nil ?_
    refine W_ret ?_
    exact ⟨_, resR1 (res1_tmp rfl), hX, ⟨spare, by rw [List.take_append_drop]; exact hs⟩⟩
  · have hie : ¬ i = j := by have := of_decide_eq_false hc0; omega
    refine W_skip ?_
    refine W_seq ?_
    refine W_region ?_
    refine wl_val (rn_move (by conv => lhs; whnf)) ?_
    refine wl_val (rn_len sl_22 rfl) ?_
    refine wl_val (rn_assign (by conv => lhs; whnf)) ?_
    refine wl_nil ?_
    refine W_seq ?_
    refine W_drawF (fun x => x = b) mixed ?_; intro w1 hE1
    replace hX := hX.tr hE1
    replace hs := hs.ext hE1 id
    have hS := Ext.refl (fun x => x = b) w1
    refine wd_take 0 _ _ rfl (by kernel_rfl) hS (yd_do fun A hA => rn_move (by conv => lhs; whnf)) ?_
    refine wd_take 1 _ _ rfl (by kernel_rfl) hS (yd_do fun A hA => rn_move (by conv => lhs; whnf)) ?_
    refine wd_take 2 _ _ rfl (by kernel_rfl) hS (yd_do fun A hA => rn_slice0 sl_22 (h := i) (m := c) rfl rfl ⟨_, rfl⟩ rfl (by simp) (by omega) (by omega)) ?_
    refine wd_take 3 _ _ rfl (by kernel_rfl) hS (yd_do fun A hA => rn_move (by conv => lhs; whnf)) ?_
    refine wd_take 4 _ _ rfl (by kernel_rfl) hS (yd_do fun A hA => rn_move (by conv => lhs; whnf)) ?_
    refine wd_take 5 _ _ rfl (by kernel_rfl) hS (yd_do fun A hA => rn_slice sl_22 (l := j) (h := rows.length) (m := c) rfl ⟨_, rfl⟩ rfl rfl (by simp) (by omega) (by omega) (by omega)) ?_
    refine wd_only 6 _ rfl (by kernel_rfl) ?_
    refine s1_do ?_
    have hsl := (hs.sl (M := Non) id).cut hj (Nat.le_refl _) hc1 (Nat.le_refl _)
    refine wl_appR (rows := rows.take i) (rows2 := rows.drop j) sl_22 rfl rfl (hs.cut rfl (by omega)) (by rw [List.take_of_length_le (by omega)] at hsl; exact hsl) (fun r hr => h1 r (List.mem_of_mem_drop hr)) (by rw [hti, htj]; omega) ?_; intro w2 spare26 hE2 hO26
    rw [hti, htj] at hO26 ⊢
    replace hS := hS.trans hE2
    refine wl_nil ⟨hS, ?_⟩
    refine wd_take 7 _ _ rfl (by kernel_rfl) hS (yd_do fun A hA => rn_assign (by conv => lhs; whnf)) ?_
    refine wd_done (by kernel_rfl) ?_ _
    replace hX := hX.trans hS
    refine W_seq ?_
    refine W_region ?_
    refine wl_val (rn_move (by conv => lhs; whnf)) ?_
    refine wl_val (rn_move (by conv => lhs; whnf)) ?_
    refine wl_val (rn_len sl_22 rfl) ?_
    refine wl_val (rn_move (by conv => lhs; whnf)) ?_
    refine wl_val (rn_slice sl_22 (l := (i + (rows.length - j))) (h := rows.length) (m := c) rfl ⟨_, rfl⟩ ⟨_, rfl⟩ rfl (by simp) (by omega) (by omega) (by omega)) ?_
    refine wl_clear sl_22 rfl (one1 rfl) rfl hO26 (.inr ⟨by rw [if_neg (by omega)]; simp only [Option.map_some, add_at, Nat.zero_add, List.length_append, hti, htj], by obtain ⟨c9, e9, _, _, e8⟩ := hO26.val; simp only [Value.slice.injEq] at e9; rw [e8, List.length_append, hti, htj, ← e9.2.2]; exact Nat.mul_le_mul_right _ (by omega)⟩) ?_; intro w3 spare27 hE3 hO27
    replace hX := hX.trans hE3
    refine wl_nil ?_
    refine W_seq ?_
    refine W_region ?_
    refine wl_val (rn_move (by conv => lhs; whnf)) ?_
    refine wl_val (rn_assign (by conv => lhs; whnf)) ?_
    refine wl_nil ?_
    refine W_ret ?_
    exact ⟨_, resR1 (res1_tmp rfl), hX, ⟨spare27, hO27⟩⟩
-- slices.Insert[[]string,string]
set_option maxHeartbeats 1600000 in
theorem insert_s (w : World) (i : Nat) (rows : List (List Value)) (r : List Value) {v vx : Value} (hs : Sl Non w v 1 rows) (hv : ∃ a, v = .slice a rows.length rows.length) (hi : i ≤ rows.length) (hx : Sl Non w vx 1 [r]) (h2 : ∀ u ∈ r, u.oneCell' = true) (h1 : ∀ r ∈ rows, ∀ u ∈ r, u.oneCell' = true) (hn : rows.length ≤ 1000000) : Fn Tryz.prog 147 #[v, .int .i64 (i : Nat), vx] w fun u w' => ∃ b spare, w.heap.size ≤ b ∧ Ow w' u b 1 (rows.take i ++ r :: rows.drop i) spare := by
  obtain ⟨a, rfl⟩ := hv
  obtain ⟨a2, c2, rfl, _⟩ := hx.len
  have hbig : rows.length ≤ big := by simp only [big]; omega
  have hti : (rows.take i).length = i := by rw [List.length_take]; omega
  have htj : (rows.drop i).length = rows.length - i := List.length_drop
  have hX := Ext.refl Non w
  refine fn_of_W (args := [_, _, _]) Tryz.func147 rfl (by kernel_rfl) rfl ?_
  refine W_seq ?_
  refine W_region ?_
  refine wl_val (rn_assign (by conv => lhs; whnf)) ?_
  refine wl_nil ?_
  refine W_seq ?_
  refine W_region ?_
  refine wl_val (rn_move (by conv => lhs; whnf)) ?_
  refine wl_val (rn_move (by conv => lhs; whnf)) ?_
  refine wl_val (rn_slice sl_22 (l := i) (h := rows.length) (m := rows.length) rfl ⟨_, rfl⟩ rfl rfl (by simp) (by omega) (by omega) (by omega)) ?_
  refine wl_nil ?_
  refine W_seq ?_
  refine W_region ?_
  refine wl_val (rn_move (by conv => lhs; whnf)) ?_
  refine wl_val (rn_len sl_22 rfl) ?_
  refine wl_val (rn_assign (by conv => lhs; whnf)) ?_
  refine wl_nil ?_
  refine W_seq ?_
  refine W_seq ?_
  refine W_region ?_
  refine wl_val (rn_move (by conv => lhs; whnf)) ?_
  refine wl_val (rn_eql rfl rfl) ?_
  refine wl_nil ?_
  refine W_cond rfl (fun hc0 => ?_) (fun hc0 => ?_)
  · exact absurd (of_decide_eq_true hc0) (by simp)
  · refine W_skip ?_
    refine W_seq ?_
    refine W_region ?_
    refine wl_val (rn_move (by conv => lhs; whnf)) ?_
    refine wl_val (rn_len sl_22 rfl) ?_
    refine wl_val (rn_assign (by conv => lhs; whnf)) ?_
    refine wl_nil ?_
    refine W_seq ?_
    refine W_seq ?_
    refine W_region ?_
    refine wl_val (rn_move (by conv => lhs; whnf)) ?_
    refine wl_val (rn_move (by conv => lhs; whnf)) ?_
    refine wl_val (rn_eql rfl rfl) ?_
    refine wl_nil ?_
    refine W_cond rfl (fun hc1 => ?_) (fun hc1 => ?_)
    · have hie : i = rows.length := by have := of_decide_eq_true hc1; omega
      subst hie
      refine W_seq ?_
      refine W_region ?_
      refine wl_val (rn_move (by conv => lhs; whnf)) ?_
      refine wl_val (rn_move (by conv => lhs; whnf)) ?_
      have hXo := hX
      refine wl_grow sl_22 rfl rfl rfl (hs.ext hX (fun _ h => h)) (hx.ext hX (fun _ h => h)) (by simp only [List.length_cons, List.length_nil, List.length_append, List.length_replicate, List.length_take, List.length_drop]; omega) (by simp only [List.length_cons, List.length_nil, List.length_append, List.length_replicate, List.length_take, List.length_drop]; omega) (by simp only [List.length_cons, List.length_nil, List.length_append, List.length_replicate, big]; omega) ?_; intro v25 w1 b25 spare25 hb25 hE1 hO25
      replace hX := hX.tr hE1
      refine wl_val (rn_assign (by conv => lhs; whnf)) ?_
      refine wl_nil ?_
      refine W_ret ?_
      exact ⟨_, resR1 (res1_tmp rfl), hX, ⟨b25, spare25, Nat.le_trans hXo.size hb25, by rw [List.take_of_length_le (Nat.le_refl _), List.drop_of_length_le (Nat.le_refl _)]; exact hO25⟩⟩
    · have hie : ¬ i = rows.length := by have := of_decide_eq_false hc1; omega
      refine W_skip ?_
      refine W_seq ?_
      refine W_seq ?_
      refine W_region ?_
      refine wl_val (rn_move (by conv => lhs; whnf)) ?_
      refine wl_val (rn_move (by conv => lhs; whnf)) ?_
      refine wl_val (rn_add rfl rfl (by simp only [List.length_singleton]; omega)) ?_
      refine wl_val (rn_move (by conv => lhs; whnf)) ?_
      refine wl_val (rn_cap sl_22 rfl) ?_
      refine wl_val (rn_gtr rfl rfl) ?_
      refine wl_nil ?_
      refine W_cond rfl (fun hc2 => ?_) (fun hc2 => ?_)
      · refine W_seq ?_
        refine W_region ?_
        refine wl_val (rn_move (by conv => lhs; whnf)) ?_
        refine wl_val (rn_move (by conv => lhs; whnf)) ?_
        refine wl_val (rn_slice0 sl_22 (h := i) (m := rows.length) rfl rfl ⟨_, rfl⟩ rfl (by simp) (by omega) (by omega)) ?_
        refine wl_val (rn_move (by conv => lhs; whnf)) ?_
        refine wl_val (rn_move (by conv => lhs; whnf)) ?_
        refine wl_val (rn_add rfl rfl (by simp only [List.length_singleton]; omega)) ?_
        refine wl_val (rn_move (by conv => lhs; whnf)) ?_
        refine wl_val (rn_sub rfl rfl (by simp only [List.length_singleton]; omega)) ?_
        refine wl_zeros (q := rows.length + 1 - i) sl_22 rfl ui_3 rfl (congrArg (Value.int .i64) (by simp only [List.length_singleton]; omega)) ((hs.ext hX (fun _ h => h)).cut0 hi (by omega) (Nat.le_refl _)) (by rw [hti]; omega) (by rw [hti]; omega) (by rw [hti]; simp only [big]; omega) ?_; intro v40 w2 b40 spare40 hb40 hE2 hO40
        have hq40 : w.heap.size ≤ b40 := Nat.le_trans hX.size hb40
        replace hX := hX.tr hE2
        refine wl_val (rn_assign (by conv => lhs; whnf)) ?_
        refine wl_nil ?_
        refine W_seq ?_
        refine W_region ?_
        obtain ⟨c40, hv40, hk1, hk2, hk3⟩ := hO40.val; rw [List.length_append, hti, List.length_replicate, show i + (rows.length + 1 - i) = rows.length + 1 from by omega] at hv40 hk1
        refine wl_val (rn_move (by conv => lhs; whnf)) ?_
        refine wl_val (rn_move (by conv => lhs; whnf)) ?_
        refine wl_val (rn_sliceO sl_22 (l := i) (h := rows.length + 1) (m := c40) hv40 ⟨_, rfl⟩ rfl rfl (by simp) (by omega) (by omega) (by omega) (by omega)) ?_
        refine wl_val (rn_move (by conv => lhs; whnf)) ?_
        refine wl_copy (l := i) sl_22 rfl rfl hO40 (hx.ext hX (fun _ h => h)) (oneR h2) (by simp only [List.length_singleton, List.length_append, hti, List.length_replicate]; omega) ?_; intro w3 hE3 hO45 _
        have ht45 : [r].take (rows.length + 1 - i) = [r] := List.take_of_length_le (by simp only [List.length_singleton]; omega)
        rw [ht45] at hO45
        replace hX := hX.mine hE3 (.inr hq40)
        refine wl_nil ?_
        refine W_seq ?_
        refine W_drawF (fun x => x = b40) mixed ?_; intro w4 hE4
        replace hX := hX.tr hE4
        replace hO45 := hO45.ext hE4 id
        have hS := Ext.refl (fun x => x = b40) w4
        refine wd_take 0 _ _ rfl (by kernel_rfl) hS (yd_do fun A hA => rn_move (by conv => lhs; whnf)) ?_
        refine wd_take 1 _ _ rfl (by kernel_rfl) hS (yd_do fun A hA => rn_move (by conv => lhs; whnf)) ?_
        refine wd_take 2 _ _ rfl (by kernel_rfl) hS (yd_do fun A hA => rn_move (by conv => lhs; whnf)) ?_
        refine wd_take 3 _ _ rfl (by kernel_rfl) hS (yd_do fun A hA => rn_add rfl rfl (by simp only [List.length_singleton]; omega)) ?_
        refine wd_take 4 _ _ rfl (by kernel_rfl) hS (yd_do fun A hA => rn_sliceO sl_22 (l := i + 1) (h := rows.length + 1) (m := c40) hv40 ⟨_, rfl⟩ rfl rfl (by simp) (by omega) (by omega) (by omega) (by omega)) ?_
        refine wd_take 5 _ _ rfl (by kernel_rfl) hS (yd_do fun A hA => rn_move (by conv => lhs; whnf)) ?_
        refine wd_take 6 _ _ rfl (by kernel_rfl) hS (yd_do fun A hA => rn_move (by conv => lhs; whnf)) ?_
        refine wd_take 7 _ _ rfl (by kernel_rfl) hS (yd_do fun A hA => rn_slice sl_22 (l := i) (h := rows.length) (m := rows.length) rfl ⟨_, rfl⟩ rfl rfl (by simp) (by omega) (by omega) (by omega)) ?_
        refine wd_only 8 _ rfl (by kernel_rfl) ?_
        refine s1_do ?_
        have hsl := (hs.ext hX (fun _ h => h)).cut hi (Nat.le_refl _) (Nat.le_refl _) (Nat.le_refl _)
        have htd : (rows.drop i).take (rows.length - i) = rows.drop i := List.take_of_length_le (by rw [htj]; exact Nat.le_refl _)
        have hte : (rows.drop i).take (rows.length + 1 - (i + 1)) = rows.drop i := List.take_of_length_le (by rw [htj]; omega)
        rw [htd] at hsl
        refine wl_copy (l := i + 1) sl_22 rfl rfl hO45 hsl (fun r hr => h1 r (List.mem_of_mem_drop hr)) (by rw [htj, patchR_length (by simp only [List.length_singleton, List.length_append, hti, List.length_replicate]; omega), List.length_append, hti, List.length_replicate]; omega) ?_; intro w5 hE5 hO54 _
        rw [hte, ins_rows hi (by rw [List.length_replicate])] at hO54
        replace hS := hS.trans hE5
        refine wl_nil ⟨hS, ?_⟩
        refine wd_done (by kernel_rfl) ?_ _
        replace hX := hX.mine hS (.inr hq40)
        refine W_seq ?_
        refine W_region ?_
        refine wl_val (rn_move (by conv => lhs; whnf)) ?_
        refine wl_val (rn_assign (by conv => lhs; whnf)) ?_
        refine wl_nil ?_
        refine W_ret ?_
        exact ⟨_, resR1 (res1_tmp rfl), hX, ⟨b40, spare40, hq40, hO54⟩⟩
      · exact absurd (of_decide_eq_false hc2) (fun h => h (by simp only [List.length_singleton]; omega))
-- bellman/set.put[string]
set_option maxHeartbeats 800000 in
theorem put_s (w : World) (i : Nat) (there : Bool) (rows : List (List Value)) {v x : Value} (hs : Sl Non w v 1 rows) (hi : i ≤ rows.length) (hi2 : there = true → i < rows.length) (hx1 : x.oneCell' = true) (hxc : x.cells = #[x]) (h1 : ∀ r ∈ rows, ∀ u ∈ r, u.oneCell' = true) (hn : rows.length ≤ 1000000) : Fn Tryz.prog 113 #[v, .int .i64 (i : Nat), .bool there, x] w fun u w' => ∃ b spare, w.heap.size ≤ b ∧ Ow w' u b 1 (if there = true then rows.set i [x] else rows.take i ++ [x] :: rows.drop i) spare := by
  obtain ⟨a, c, rfl, _⟩ := hs.len
  have hbig : rows.length ≤ big := by simp only [big]; omega
  have hX := Ext.refl Non w
  refine fn_of_W (args := [_, _, _, _]) Tryz.func113 rfl (by kernel_rfl) rfl ?_
  refine W_seq ?_
  refine W_region ?_
  refine wl_val (rn_assign (by conv => lhs; whnf)) ?_
  refine wl_nil ?_
  refine W_seq ?_
  refine W_region ?_
  refine wl_val (rn_move (by conv => lhs; whnf)) ?_
  refine wl_val (rn_len sl_22 rfl) ?_
  refine wl_make sl_22 rfl rfl rfl (by omega) hbig ?_; intro w1 b12 hb12 hE1 hO12
  have hq12 : w.heap.size ≤ b12 := Nat.le_trans hX.size hb12
  replace hX := hX.tr hE1
  refine wl_val (rn_assign (by conv => lhs; whnf)) ?_
  refine wl_nil ?_
  refine W_seq ?_
  refine W_region ?_
  refine wl_val (rn_move (by conv => lhs; whnf)) ?_
  refine wl_val (rn_move (by conv => lhs; whnf)) ?_
  refine wl_copy (l := 0) sl_22 (by rw [Nat.zero_mul]; rfl) rfl hO12 (hs.ext hX (fun _ h => h)) h1 (by rw [List.length_replicate]; omega) ?_; intro w2 hE2 hO15 _
  have hp15 : patchR (List.replicate rows.length [.string ⟨#[]⟩]) 0 (rows.take rows.length) = rows := by unfold patchR; simp
  rw [hp15] at hO15
  replace hX := hX.mine hE2 (.inr hq12)
  refine wl_nil ?_
  refine W_seq ?_
  refine W_seq ?_
  refine W_region ?_
  refine wl_val (rn_move (by conv => lhs; whnf)) ?_
  refine wl_nil ?_
  refine W_cond rfl (fun hc0 => ?_) (fun hc0 => ?_)
  · have hlt := hi2 hc0
    refine W_seq ?_
    refine W_region ?_
    refine wl_val (rn_move (by conv => lhs; whnf)) ?_
    refine wl_val (rn_move (by conv => lhs; whnf)) ?_
    refine wl_val (rn_move (by conv => lhs; whnf)) ?_
    refine wl_val (rn_indexAddr sl_22 rfl rfl (by omega)) ?_
    refine wl_storeE p_9 rfl rfl hx1 hxc hO15 (by omega) ?_; intro w3 hE3 hO20
    replace hX := hX.mine hE3 (.inr hq12)
    refine wl_nil ?_
    refine W_seq ?_
    refine W_region ?_
    refine wl_val (rn_move (by conv => lhs; whnf)) ?_
    refine wl_val (rn_assign (by conv => lhs; whnf)) ?_
    refine wl_nil ?_
    refine W_ret ?_
    exact ⟨_, resR1 (res1_tmp rfl), hX, ⟨b12, [], hq12, by rw [if_pos hc0]; exact hO20⟩⟩
  · refine W_skip ?_
    refine W_seq ?_
    refine W_region ?_
    refine wl_val (rn_move (by conv => lhs; whnf)) ?_
    refine wl_val (rn_move (by conv => lhs; whnf)) ?_
    refine wl_val (rn_move (by conv => lhs; whnf)) ?_
    refine wl_lit1 (r := [x]) sl_22 rfl rfl (by rw [show ev _ (Operand.tmp 24) = x from rfl, hxc]) rfl (by decide) ?_; intro v25 w4 b25 hb25 hE4 hO25
    replace hX := hX.tr hE4
    replace hO15 := hO15.ext hE4 id
    have hXo := hX
    refine wl_call e_147 rfl (insert_s w4 i rows [x] (hO15.sl (M := Non) id) ⟨_, rfl⟩ hi (hO25.sl (M := Non) id) (one1 hx1) h1 hn) ?_; intro v26 w5 hE5 hR5
    replace hX := hX.tr hE5
    replace hO15 := hO15.ext hE5 id
    obtain ⟨b26, spare26, hb26, hO26⟩ := hR5
    refine wl_val (rn_assign (by conv => lhs; whnf)) ?_
    refine wl_nil ?_
    refine W_ret ?_
    exact ⟨_, resR1 (res1_tmp rfl), hX, ⟨b26, spare26, Nat.le_trans hXo.size hb26, by rw [if_neg (by rw [hc0]; simp)]; exact hO26⟩⟩
-- slices.Insert[[]struct{},struct{}]
set_option maxHeartbeats 1600000 in
theorem insert_u (w : World) (i : Nat) (rows : List (List Value)) (r : List Value) {v vx : Value} (hs : Sl Non w v 0 rows) (hv : ∃ a, v = .slice a rows.length rows.length) (hi : i ≤ rows.length) (hx : Sl Non w vx 0 [r]) (h2 : ∀ u ∈ r, u.oneCell' = true) (h1 : ∀ r ∈ rows, ∀ u ∈ r, u.oneCell' = true) (hn : rows.length ≤ 1000000) : Fn Tryz.prog 168 #[v, .int .i64 (i : Nat), vx] w fun u w' => ∃ b spare, w.heap.size ≤ b ∧ Ow w' u b 0 (rows.take i ++ r :: rows.drop i) spare := by
  obtain ⟨a, rfl⟩ := hv
  obtain ⟨a2, c2, rfl, _⟩ := hx.len
  have hbig : rows.length ≤ big := by simp only [big]; omega
  have hti : (rows.take i).length = i := by rw [List.length_take]; omega
  have htj : (rows.drop i).length = rows.length - i := List.length_drop
  have hX := Ext.refl Non w
  refine fn_of_W (args := [_, _, _]) Tryz.func168 rfl (by kernel_rfl) rfl ?_
  refine W_seq ?_
  refine W_region ?_
  refine wl_val (rn_assign (by conv => lhs; whnf)) ?_
  refine wl_nil ?_
  refine W_seq ?_
  refine W_region ?_
  refine wl_val (rn_move (by conv => lhs; whnf)) ?_
  refine wl_val (rn_move (by conv => lhs; whnf)) ?_
  refine wl_val (rn_slice sl_94 (l := i) (h := rows.length) (m := rows.length) rfl ⟨_, rfl⟩ rfl rfl (by simp) (by omega) (by omega) (by omega)) ?_
  refine wl_nil ?_
  refine W_seq ?_
  refine W_region ?_
  refine wl_val (rn_move (by conv => lhs; whnf)) ?_
  refine wl_val (rn_len sl_94 rfl) ?_
  refine wl_val (rn_assign (by conv => lhs; whnf)) ?_
  refine wl_nil ?_
  refine W_seq ?_
  refine W_seq ?_
  refine W_region ?_
  refine wl_val (rn_move (by conv => lhs; whnf)) ?_
  refine wl_val (rn_eql rfl rfl) ?_
  refine wl_nil ?_
  refine W_cond rfl (fun hc0 => ?_) (fun hc0 => ?_)
  · exact absurd (of_decide_eq_true hc0) (by simp)
  · refine W_skip ?_
    refine W_seq ?_
    refine W_region ?_
    refine wl_val (rn_move (by conv => lhs; whnf)) ?_
    refine wl_val (rn_len sl_94 rfl) ?_
    refine wl_val (rn_assign (by conv => lhs; whnf)) ?_
    refine wl_nil ?_
    refine W_seq ?_
    refine W_seq ?_
    refine W_region ?_
    refine wl_val (rn_move (by conv => lhs; whnf)) ?_
    refine wl_val (rn_move (by conv => lhs; whnf)) ?_
    refine wl_val (rn_eql rfl rfl) ?_
    refine wl_nil ?_
    refine W_cond rfl (fun hc1 => ?_) (fun hc1 => ?_)
    · have hie : i = rows.length := by have := of_decide_eq_true hc1; omega
      subst hie
      refine W_seq ?_
      refine W_region ?_
      refine wl_val (rn_move (by conv => lhs; whnf)) ?_
      refine wl_val (rn_move (by conv => lhs; whnf)) ?_
      have hXo := hX
      refine wl_grow sl_94 rfl rfl rfl (hs.ext hX (fun _ h => h)) (hx.ext hX (fun _ h => h)) (by simp only [List.length_cons, List.length_nil, List.length_append, List.length_replicate, List.length_take, List.length_drop]; omega) (by simp only [List.length_cons, List.length_nil, List.length_append, List.length_replicate, List.length_take, List.length_drop]; omega) (by simp only [List.length_cons, List.length_nil, List.length_append, List.length_replicate, big]; omega) ?_; intro v25 w1 b25 spare25 hb25 hE1 hO25
      replace hX := hX.tr hE1
      refine wl_val (rn_assign (by conv => lhs; whnf)) ?_
      refine wl_nil ?_
      refine W_ret ?_
      exact ⟨_, resR1 (res1_tmp rfl), hX, ⟨b25, spare25, Nat.le_trans hXo.size hb25, by rw [List.take_of_length_le (Nat.le_refl _), List.drop_of_length_le (Nat.le_refl _)]; exact hO25⟩⟩
    · have hie : ¬ i = rows.length := by have := of_decide_eq_false hc1; omega
      refine W_skip ?_
      refine W_seq ?_
      refine W_seq ?_
      refine W_region ?_
      refine wl_val (rn_move (by conv => lhs; whnf)) ?_
      refine wl_val (rn_move (by conv => lhs; whnf)) ?_
      refine wl_val (rn_add rfl rfl (by simp only [List.length_singleton]; omega)) ?_
      refine wl_val (rn_move (by conv => lhs; whnf)) ?_
      refine wl_val (rn_cap sl_94 rfl) ?_
      refine wl_val (rn_gtr rfl rfl) ?_
      refine wl_nil ?_
      refine W_cond rfl (fun hc2 => ?_) (fun hc2 => ?_)
      · refine W_seq ?_
        refine W_region ?_
        refine wl_val (rn_move (by conv => lhs; whnf)) ?_
        refine wl_val (rn_move (by conv => lhs; whnf)) ?_
        refine wl_val (rn_slice0 sl_94 (h := i) (m := rows.length) rfl rfl ⟨_, rfl⟩ rfl (by simp) (by omega) (by omega)) ?_
        refine wl_val (rn_move (by conv => lhs; whnf)) ?_
        refine wl_val (rn_move (by conv => lhs; whnf)) ?_
        refine wl_val (rn_add rfl rfl (by simp only [List.length_singleton]; omega)) ?_
        refine wl_val (rn_move (by conv => lhs; whnf)) ?_
        refine wl_val (rn_sub rfl rfl (by simp only [List.length_singleton]; omega)) ?_
        refine wl_zeros (q := rows.length + 1 - i) sl_94 rfl ui_3 rfl (congrArg (Value.int .i64) (by simp only [List.length_singleton]; omega)) ((hs.ext hX (fun _ h => h)).cut0 hi (by omega) (Nat.le_refl _)) (by rw [hti]; omega) (by rw [hti]; omega) (by rw [hti]; simp only [big]; omega) ?_; intro v40 w2 b40 spare40 hb40 hE2 hO40
        have hq40 : w.heap.size ≤ b40 := Nat.le_trans hX.size hb40
        replace hX := hX.tr hE2
        refine wl_val (rn_assign (by conv => lhs; whnf)) ?_
        refine wl_nil ?_
        refine W_seq ?_
        refine W_region ?_
        obtain ⟨c40, hv40, hk1, hk2, hk3⟩ := hO40.val; rw [List.length_append, hti, List.length_replicate, show i + (rows.length + 1 - i) = rows.length + 1 from by omega] at hv40 hk1
        refine wl_val (rn_move (by conv => lhs; whnf)) ?_
        refine wl_val (rn_move (by conv => lhs; whnf)) ?_
        refine wl_val (rn_sliceO sl_94 (l := i) (h := rows.length + 1) (m := c40) hv40 ⟨_, rfl⟩ rfl rfl (by simp) (by omega) (by omega) (by omega) (by omega)) ?_
        refine wl_val (rn_move (by conv => lhs; whnf)) ?_
        refine wl_copy (l := i) sl_94 rfl rfl hO40 (hx.ext hX (fun _ h => h)) (oneR h2) (by simp only [List.length_singleton, List.length_append, hti, List.length_replicate]; omega) ?_; intro w3 hE3 hO45 _
        have ht45 : [r].take (rows.length + 1 - i) = [r] := List.take_of_length_le (by simp only [List.length_singleton]; omega)
        rw [ht45] at hO45
        replace hX := hX.mine hE3 (.inr hq40)
        refine wl_nil ?_
        refine W_seq ?_
        refine W_drawF (fun x => x = b40) mixed ?_; intro w4 hE4
        replace hX := hX.tr hE4
        replace hO45 := hO45.ext hE4 id
        have hS := Ext.refl (fun x => x = b40) w4
        refine wd_take 0 _ _ rfl (by kernel_rfl) hS (yd_do fun A hA => rn_move (by conv => lhs; whnf)) ?_
        refine wd_take 1 _ _ rfl (by kernel_rfl) hS (yd_do fun A hA => rn_move (by conv => lhs; whnf)) ?_
        refine wd_take 2 _ _ rfl (by kernel_rfl) hS (yd_do fun A hA => rn_move (by conv => lhs; whnf)) ?_
        refine wd_take 3 _ _ rfl (by kernel_rfl) hS (yd_do fun A hA => rn_add rfl rfl (by simp only [List.length_singleton]; omega)) ?_
        refine wd_take 4 _ _ rfl (by kernel_rfl) hS (yd_do fun A hA => rn_sliceO sl_94 (l := i + 1) (h := rows.length + 1) (m := c40) hv40 ⟨_, rfl⟩ rfl rfl (by simp) (by omega) (by omega) (by omega) (by omega)) ?_
        refine wd_take 5 _ _ rfl (by kernel_rfl) hS (yd_do fun A hA => rn_move (by conv => lhs; whnf)) ?_
        refine wd_take 6 _ _ rfl (by kernel_rfl) hS (yd_do fun A hA => rn_move (by conv => lhs; whnf)) ?_
        refine wd_take 7 _ _ rfl (by kernel_rfl) hS (yd_do fun A hA => rn_slice sl_94 (l := i) (h := rows.length) (m := rows.length) rfl ⟨_, rfl⟩ rfl rfl (by simp) (by omega) (by omega) (by omega)) ?_
        refine wd_only 8 _ rfl (by kernel_rfl) ?_
        refine s1_do ?_
        have hsl := (hs.ext hX (fun _ h => h)).cut hi (Nat.le_refl _) (Nat.le_refl _) (Nat.le_refl _)
        have htd : (rows.drop i).take (rows.length - i) = rows.drop i := List.take_of_length_le (by rw [htj]; exact Nat.le_refl _)
        have hte : (rows.drop i).take (rows.length + 1 - (i + 1)) = rows.drop i := List.take_of_length_le (by rw [htj]; omega)
        rw [htd] at hsl
        refine wl_copy (l := i + 1) sl_94 rfl rfl hO45 hsl (fun r hr => h1 r (List.mem_of_mem_drop hr)) (by rw [htj, patchR_length (by simp only [List.length_singleton, List.length_append, hti, List.length_replicate]; omega), List.length_append, hti, List.length_replicate]; omega) ?_; intro w5 hE5 hO54 _
        rw [hte, ins_rows hi (by rw [List.length_replicate])] at hO54
        replace hS := hS.trans hE5
        refine wl_nil ⟨hS, ?_⟩
        refine wd_done (by kernel_rfl) ?_ _
        replace hX := hX.mine hS (.inr hq40)
        refine W_seq ?_
        refine W_region ?_
        refine wl_val (rn_move (by conv => lhs; whnf)) ?_
        refine wl_val (rn_assign (by conv => lhs; whnf)) ?_
        refine wl_nil ?_
        refine W_ret ?_
        exact ⟨_, resR1 (res1_tmp rfl), hX, ⟨b40, spare40, hq40, hO54⟩⟩
      · exact absurd (of_decide_eq_false hc2) (fun h => h (by simp only [List.length_singleton]; omega))
-- bellman/set.put[struct{}]
set_option maxHeartbeats 800000 in
theorem put_u (w : World) (i : Nat) (there : Bool) (rows : List (List Value)) {v x : Value} (hs : Sl Non w v 0 rows) (hi : i ≤ rows.length) (hi2 : there = true → i < rows.length) (hxe : x = .agg #[]) (h1 : ∀ r ∈ rows, ∀ u ∈ r, u.oneCell' = true) (hn : rows.length ≤ 1000000) : Fn Tryz.prog 143 #[v, .int .i64 (i : Nat), .bool there, x] w fun u w' => ∃ b spare, w.heap.size ≤ b ∧ Ow w' u b 0 (if there = true then rows.set i [] else rows.take i ++ [] :: rows.drop i) spare := by
  obtain ⟨a, c, rfl, _⟩ := hs.len
  have hbig : rows.length ≤ big := by simp only [big]; omega
  subst hxe
  have hX := Ext.refl Non w
  refine fn_of_W (args := [_, _, _, _]) Tryz.func143 rfl (by kernel_rfl) rfl ?_
  refine W_seq ?_
  refine W_region ?_
  refine wl_boxS rfl ?_; intro b7 w1 hb7 hE1 hB7
  have hq7 : w.heap.size ≤ b7 := Nat.le_trans hX.size hb7
  have hl7 : Mine Non w b7 := .inr hq7
  replace hX := hX.tr hE1
  refine wl_val (rn_assign (by conv => lhs; whnf)) ?_
  refine wl_nil ?_
  refine W_seq ?_
  refine W_region ?_
  refine wl_val (rn_move (by conv => lhs; whnf)) ?_
  refine wl_val (rn_len sl_94 rfl) ?_
  refine wl_make sl_94 rfl rfl rfl (by omega) hbig ?_; intro w2 b12 hb12 hE2 hO12
  have hq12 : w.heap.size ≤ b12 := Nat.le_trans hX.size hb12
  have hn7 : b7 < b12 := Nat.lt_of_lt_of_le hB7.lt hb12
  replace hX := hX.tr hE2
  replace hB7 := hB7.ext hE2 id
  refine wl_val (rn_assign (by conv => lhs; whnf)) ?_
  refine wl_nil ?_
  refine W_seq ?_
  refine W_region ?_
  refine wl_val (rn_move (by conv => lhs; whnf)) ?_
  refine wl_val (rn_move (by conv => lhs; whnf)) ?_
  refine wl_copy (l := 0) sl_94 (by rw [Nat.zero_mul]; rfl) rfl hO12 (hs.ext hX (fun _ h => h)) h1 (by rw [List.length_replicate]; omega) ?_; intro w3 hE3 hO15 _
  have hp15 : patchR (List.replicate rows.length []) 0 (rows.take rows.length) = rows := by unfold patchR; simp
  rw [hp15] at hO15
  replace hX := hX.mine hE3 (.inr hq12)
  replace hB7 := hB7.ext hE3 (fun e => by omega)
  refine wl_nil ?_
  refine W_seq ?_
  refine W_seq ?_
  refine W_region ?_
  refine wl_val (rn_move (by conv => lhs; whnf)) ?_
  refine wl_nil ?_
  refine W_cond rfl (fun hc0 => ?_) (fun hc0 => ?_)
  · have hlt := hi2 hc0
    refine W_seq ?_
    refine W_region ?_
    refine wl_val (rn_move (by conv => lhs; whnf)) ?_
    refine wl_val (rn_move (by conv => lhs; whnf)) ?_
    refine wl_val (rn_loadB s_158 rfl rfl hB7) ?_
    refine wl_val (rn_indexAddr sl_94 rfl rfl (by omega)) ?_
    refine wl_store0 s_158 rfl rfl ?_
    obtain ⟨w4, hw4⟩ : ∃ A, A = w3 := ⟨_, rfl⟩; subst hw4
    have hO20 := hO15.set0 i
    refine wl_nil ?_
    refine W_seq ?_
    refine W_region ?_
    refine wl_val (rn_move (by conv => lhs; whnf)) ?_
    refine wl_val (rn_assign (by conv => lhs; whnf)) ?_
    refine wl_nil ?_
    refine W_ret ?_
    exact ⟨_, resR1 (res1_tmp rfl), hX, ⟨b12, [], hq12, by rw [if_pos hc0]; exact hO20⟩⟩
  · refine W_skip ?_
    refine W_seq ?_
    refine W_region ?_
    refine wl_val (rn_move (by conv => lhs; whnf)) ?_
    refine wl_val (rn_move (by conv => lhs; whnf)) ?_
    refine wl_val (rn_loadB s_158 rfl rfl hB7) ?_
    refine wl_lit1 (r := []) sl_94 rfl rfl rfl rfl (by decide) ?_; intro v25 w5 b25 hb25 hE5 hO25
    replace hX := hX.tr hE5
    replace hB7 := hB7.ext hE5 id
    replace hO15 := hO15.ext hE5 id
    have hXo := hX
    refine wl_call e_168 rfl (insert_u w5 i rows [] (hO15.sl (M := Non) id) ⟨_, rfl⟩ hi (hO25.sl (M := Non) id) (by simp) h1 hn) ?_; intro v26 w6 hE6 hR6
    replace hX := hX.tr hE6
    replace hB7 := hB7.ext hE6 id
    replace hO15 := hO15.ext hE6 id
    obtain ⟨b26, spare26, hb26, hO26⟩ := hR6
    refine wl_val (rn_assign (by conv => lhs; whnf)) ?_
    refine wl_nil ?_
    refine W_ret ?_
    exact ⟨_, resR1 (res1_tmp rfl), hX, ⟨b26, spare26, Nat.le_trans hXo.size hb26, by rw [if_neg (by rw [hc0]; simp)]; exact hO26⟩⟩
-- slices.Insert[[]*bellman/node.Node,*bellman/node.Node]
set_option maxHeartbeats 1600000 in
theorem insert_n (w : World) (i : Nat) (rows : List (List Value)) (r : List Value) {v vx : Value} (hs : Sl Non w v 1 rows) (hv : ∃ a, v = .slice a rows.length rows.length) (hi : i ≤ rows.length) (hx : Sl Non w vx 1 [r]) (h2 : ∀ u ∈ r, u.oneCell' = true) (h1 : ∀ r ∈ rows, ∀ u ∈ r, u.oneCell' = true) (hn : rows.length ≤ 1000000) : Fn Tryz.prog 148 #[v, .int .i64 (i : Nat), vx] w fun u w' => ∃ b spare, w.heap.size ≤ b ∧ Ow w' u b 1 (rows.take i ++ r :: rows.drop i) spare := by
  obtain ⟨a, rfl⟩ := hv
  obtain ⟨a2, c2, rfl, _⟩ := hx.len
  have hbig : rows.length ≤ big := by simp only [big]; omega
  have hti : (rows.take i).length = i := by rw [List.length_take]; omega
  have htj : (rows.drop i).length = rows.length - i := List.length_drop
  have hX := Ext.refl Non w
  refine fn_of_W (args := [_, _, _]) Tryz.func148 rfl (by kernel_rfl) rfl ?_
  refine W_seq ?_
  refine W_region ?_
  refine wl_val (rn_assign (by conv => lhs; whnf)) ?_
  refine wl_nil ?_
  refine W_seq ?_
  refine W_region ?_
  refine wl_val (rn_move (by conv => lhs; whnf)) ?_
  refine wl_val (rn_move (by conv => lhs; whnf)) ?_
  refine wl_val (rn_slice sl_132 (l := i) (h := rows.length) (m := rows.length) rfl ⟨_, rfl⟩ rfl rfl (by simp) (by omega) (by omega) (by omega)) ?_
  refine wl_nil ?_
  refine W_seq ?_
  refine W_region ?_
  refine wl_val (rn_move (by conv => lhs; whnf)) ?_
  refine wl_val (rn_len sl_132 rfl) ?_
  refine wl_val (rn_assign (by conv => lhs; whnf)) ?_
  refine wl_nil ?_
  refine W_seq ?_
  refine W_seq ?_
  refine W_region ?_
  refine wl_val (rn_move (by conv => lhs; whnf)) ?_
  refine wl_val (rn_eql rfl rfl) ?_
  refine wl_nil ?_
  refine W_cond rfl (fun hc0 => ?_) (fun hc0 => ?_)
  · exact absurd (of_decide_eq_true hc0) (by simp)
  · refine W_skip ?_
    refine W_seq ?_
    refine W_region ?_
    refine wl_val (rn_move (by conv => lhs; whnf)) ?_
    refine wl_val (rn_len sl_132 rfl) ?_
    refine wl_val (rn_assign (by conv => lhs; whnf)) ?_
    refine wl_nil ?_
    refine W_seq ?_
    refine W_seq ?_
    refine W_region ?_
    refine wl_val (rn_move (by conv => lhs; whnf)) ?_
    refine wl_val (rn_move (by conv => lhs; whnf)) ?_
    refine wl_val (rn_eql rfl rfl) ?_
    refine wl_nil ?_
    refine W_cond rfl (fun hc1 => ?_) (fun hc1 => ?_)
    · have hie : i = rows.length := by have := of_decide_eq_true hc1; omega
      subst hie
      refine W_seq ?_
      refine W_region ?_
      refine wl_val (rn_move (by conv => lhs; whnf)) ?_
      refine wl_val (rn_move (by conv => lhs; whnf)) ?_
      have hXo := hX
      refine wl_grow sl_132 rfl rfl rfl (hs.ext hX (fun _ h => h)) (hx.ext hX (fun _ h => h)) (by simp only [List.length_cons, List.length_nil, List.length_append, List.length_replicate, List.length_take, List.length_drop]; omega) (by simp only [List.length_cons, List.length_nil, List.length_append, List.length_replicate, List.length_take, List.length_drop]; omega) (by simp only [List.length_cons, List.length_nil, List.length_append, List.length_replicate, big]; omega) ?_; intro v25 w1 b25 spare25 hb25 hE1 hO25
      replace hX := hX.tr hE1
      refine wl_val (rn_assign (by conv => lhs; whnf)) ?_
      refine wl_nil ?_
      refine W_ret ?_
      exact ⟨_, resR1 (res1_tmp rfl), hX, ⟨b25, spare25, Nat.le_trans hXo.size hb25, by rw [List.take_of_length_le (Nat.le_refl _), List.drop_of_length_le (Nat.le_refl _)]; exact hO25⟩⟩
    · have hie : ¬ i = rows.length := by have := of_decide_eq_false hc1; omega
      refine W_skip ?_
      refine W_seq ?_
      refine W_seq ?_
      refine W_region ?_
      refine wl_val (rn_move (by conv => lhs; whnf)) ?_
      refine wl_val (rn_move (by conv => lhs; whnf)) ?_
      refine wl_val (rn_add rfl rfl (by simp only [List.length_singleton]; omega)) ?_
      refine wl_val (rn_move (by conv => lhs; whnf)) ?_
      refine wl_val (rn_cap sl_132 rfl) ?_
      refine wl_val (rn_gtr rfl rfl) ?_
      refine wl_nil ?_
      refine W_cond rfl (fun hc2 => ?_) (fun hc2 => ?_)
      · refine W_seq ?_
        refine W_region ?_
        refine wl_val (rn_move (by conv => lhs; whnf)) ?_
        refine wl_val (rn_move (by conv => lhs; whnf)) ?_
        refine wl_val (rn_slice0 sl_132 (h := i) (m := rows.length) rfl rfl ⟨_, rfl⟩ rfl (by simp) (by omega) (by omega)) ?_
        refine wl_val (rn_move (by conv => lhs; whnf)) ?_
        refine wl_val (rn_move (by conv => lhs; whnf)) ?_
        refine wl_val (rn_add rfl rfl (by simp only [List.length_singleton]; omega)) ?_
        refine wl_val (rn_move (by conv => lhs; whnf)) ?_
        refine wl_val (rn_sub rfl rfl (by simp only [List.length_singleton]; omega)) ?_
        refine wl_zeros (q := rows.length + 1 - i) sl_132 rfl ui_3 rfl (congrArg (Value.int .i64) (by simp only [List.length_singleton]; omega)) ((hs.ext hX (fun _ h => h)).cut0 hi (by omega) (Nat.le_refl _)) (by rw [hti]; omega) (by rw [hti]; omega) (by rw [hti]; simp only [big]; omega) ?_; intro v40 w2 b40 spare40 hb40 hE2 hO40
        have hq40 : w.heap.size ≤ b40 := Nat.le_trans hX.size hb40
        replace hX := hX.tr hE2
        refine wl_val (rn_assign (by conv => lhs; whnf)) ?_
        refine wl_nil ?_
        refine W_seq ?_
        refine W_region ?_
        obtain ⟨c40, hv40, hk1, hk2, hk3⟩ := hO40.val; rw [List.length_append, hti, List.length_replicate, show i + (rows.length + 1 - i) = rows.length + 1 from by omega] at hv40 hk1
        refine wl_val (rn_move (by conv => lhs; whnf)) ?_
        refine wl_val (rn_move (by conv => lhs; whnf)) ?_
        refine wl_val (rn_sliceO sl_132 (l := i) (h := rows.length + 1) (m := c40) hv40 ⟨_, rfl⟩ rfl rfl (by simp) (by omega) (by omega) (by omega) (by omega)) ?_
        refine wl_val (rn_move (by conv => lhs; whnf)) ?_
        refine wl_copy (l := i) sl_132 rfl rfl hO40 (hx.ext hX (fun _ h => h)) (oneR h2) (by simp only [List.length_singleton, List.length_append, hti, List.length_replicate]; omega) ?_; intro w3 hE3 hO45 _
        have ht45 : [r].take (rows.length + 1 - i) = [r] := List.take_of_length_le (by simp only [List.length_singleton]; omega)
        rw [ht45] at hO45
        replace hX := hX.mine hE3 (.inr hq40)
        refine wl_nil ?_
        refine W_seq ?_
        refine W_drawF (fun x => x = b40) mixed ?_; intro w4 hE4
        replace hX := hX.tr hE4
        replace hO45 := hO45.ext hE4 id
        have hS := Ext.refl (fun x => x = b40) w4
        refine wd_take 0 _ _ rfl (by kernel_rfl) hS (yd_do fun A hA => rn_move (by conv => lhs; whnf)) ?_
        refine wd_take 1 _ _ rfl (by kernel_rfl) hS (yd_do fun A hA => rn_move (by conv => lhs; whnf)) ?_
        refine wd_take 2 _ _ rfl (by kernel_rfl) hS (yd_do fun A hA => rn_move (by conv => lhs; whnf)) ?_
        refine wd_take 3 _ _ rfl (by kernel_rfl) hS (yd_do fun A hA => rn_add rfl rfl (by simp only [List.length_singleton]; omega)) ?_
        refine wd_take 4 _ _ rfl (by kernel_rfl) hS (yd_do fun A hA => rn_sliceO sl_132 (l := i + 1) (h := rows.length + 1) (m := c40) hv40 ⟨_, rfl⟩ rfl rfl (by simp) (by omega) (by omega) (by omega) (by omega)) ?_
        refine wd_take 5 _ _ rfl (by kernel_rfl) hS (yd_do fun A hA => rn_move (by conv => lhs; whnf)) ?_
        refine wd_take 6 _ _ rfl (by kernel_rfl) hS (yd_do fun A hA => rn_move (by conv => lhs; whnf)) ?_
        refine wd_take 7 _ _ rfl (by kernel_rfl) hS (yd_do fun A hA => rn_slice sl_132 (l := i) (h := rows.length) (m := rows.length) rfl ⟨_, rfl⟩ rfl rfl (by simp) (by omega) (by omega) (by omega)) ?_
        refine wd_only 8 _ rfl (by kernel_rfl) ?_
        refine s1_do ?_
        have hsl := (hs.ext hX (fun _ h => h)).cut hi (Nat.le_refl _) (Nat.le_refl _) (Nat.le_refl _)
        have htd : (rows.drop i).take (rows.length - i) = rows.drop i := List.take_of_length_le (by rw [htj]; exact Nat.le_refl _)
        have hte : (rows.drop i).take (rows.length + 1 - (i + 1)) = rows.drop i := List.take_of_length_le (by rw [htj]; omega)
        rw [htd] at hsl
        refine wl_copy (l := i + 1) sl_132 rfl rfl hO45 hsl (fun r hr => h1 r (List.mem_of_mem_drop hr)) (by rw [htj, patchR_length (by simp only [List.length_singleton, List.length_append, hti, List.length_replicate]; omega), List.length_append, hti, List.length_replicate]; omega) ?_; intro w5 hE5 hO54 _
        rw [hte, ins_rows hi (by rw [List.length_replicate])] at hO54
        replace hS := hS.trans hE5
        refine wl_nil ⟨hS, ?_⟩
        refine wd_done (by kernel_rfl) ?_ _
        replace hX := hX.mine hS (.inr hq40)
        refine W_seq ?_
        refine W_region ?_
        refine wl_val (rn_move (by conv => lhs; whnf)) ?_
        refine wl_val (rn_assign (by conv => lhs; whnf)) ?_
        refine wl_nil ?_
        refine W_ret ?_
        exact ⟨_, resR1 (res1_tmp rfl), hX, ⟨b40, spare40, hq40, hO54⟩⟩
      · exact absurd (of_decide_eq_false hc2) (fun h => h (by simp only [List.length_singleton]; omega))
-- bellman/set.put[*bellman/node.Node]
set_option maxHeartbeats 800000 in
theorem put_n (w : World) (i : Nat) (there : Bool) (rows : List (List Value)) {v x : Value} (hs : Sl Non w v 1 rows) (hi : i ≤ rows.length) (hi2 : there = true → i < rows.length) (hx1 : x.oneCell' = true) (hxc : x.cells = #[x]) (h1 : ∀ r ∈ rows, ∀ u ∈ r, u.oneCell' = true) (hn : rows.length ≤ 1000000) : Fn Tryz.prog 114 #[v, .int .i64 (i : Nat), .bool there, x] w fun u w' => ∃ b spare, w.heap.size ≤ b ∧ Ow w' u b 1 (if there = true then rows.set i [x] else rows.take i ++ [x] :: rows.drop i) spare := by
  obtain ⟨a, c, rfl, _⟩ := hs.len
  have hbig : rows.length ≤ big := by simp only [big]; omega
  have hX := Ext.refl Non w
  refine fn_of_W (args := [_, _, _, _]) Tryz.func114 rfl (by kernel_rfl) rfl ?_
  refine W_seq ?_
  refine W_region ?_
  refine wl_val (rn_assign (by conv => lhs; whnf)) ?_
  refine wl_nil ?_
  refine W_seq ?_
  refine W_region ?_
  refine wl_val (rn_move (by conv => lhs; whnf)) ?_
  refine wl_val (rn_len sl_132 rfl) ?_
  refine wl_make sl_132 rfl rfl rfl (by omega) hbig ?_; intro w1 b12 hb12 hE1 hO12
  have hq12 : w.heap.size ≤ b12 := Nat.le_trans hX.size hb12
  replace hX := hX.tr hE1
  refine wl_val (rn_assign (by conv => lhs; whnf)) ?_
  refine wl_nil ?_
  refine W_seq ?_
  refine W_region ?_
  refine wl_val (rn_move (by conv => lhs; whnf)) ?_
  refine wl_val (rn_move (by conv => lhs; whnf)) ?_
  refine wl_copy (l := 0) sl_132 (by rw [Nat.zero_mul]; rfl) rfl hO12 (hs.ext hX (fun _ h => h)) h1 (by rw [List.length_replicate]; omega) ?_; intro w2 hE2 hO15 _
  have hp15 : patchR (List.replicate rows.length [.pointer none]) 0 (rows.take rows.length) = rows := by unfold patchR; simp
  rw [hp15] at hO15
  replace hX := hX.mine hE2 (.inr hq12)
  refine wl_nil ?_
  refine W_seq ?_
  refine W_seq ?_
  refine W_region ?_
  refine wl_val (rn_move (by conv => lhs; whnf)) ?_
  refine wl_nil ?_
  refine W_cond rfl (fun hc0 => ?_) (fun hc0 => ?_)
  · have hlt := hi2 hc0
    refine W_seq ?_
    refine W_region ?_
    refine wl_val (rn_move (by conv => lhs; whnf)) ?_
    refine wl_val (rn_move (by conv => lhs; whnf)) ?_
    refine wl_val (rn_move (by conv => lhs; whnf)) ?_
    refine wl_val (rn_indexAddr sl_132 rfl rfl (by omega)) ?_
    refine wl_storeE p_26 rfl rfl hx1 hxc hO15 (by omega) ?_; intro w3 hE3 hO20
    replace hX := hX.mine hE3 (.inr hq12)
    refine wl_nil ?_
    refine W_seq ?_
    refine W_region ?_
    refine wl_val (rn_move (by conv => lhs; whnf)) ?_
    refine wl_val (rn_assign (by conv => lhs; whnf)) ?_
    refine wl_nil ?_
    refine W_ret ?_
    exact ⟨_, resR1 (res1_tmp rfl), hX, ⟨b12, [], hq12, by rw [if_pos hc0]; exact hO20⟩⟩
  · refine W_skip ?_
    refine W_seq ?_
    refine W_region ?_
    refine wl_val (rn_move (by conv => lhs; whnf)) ?_
    refine wl_val (rn_move (by conv => lhs; whnf)) ?_
    refine wl_val (rn_move (by conv => lhs; whnf)) ?_
    refine wl_lit1 (r := [x]) sl_132 rfl rfl (by rw [show ev _ (Operand.tmp 24) = x from rfl, hxc]) rfl (by decide) ?_; intro v25 w4 b25 hb25 hE4 hO25
    replace hX := hX.tr hE4
    replace hO15 := hO15.ext hE4 id
    have hXo := hX
    refine wl_call e_148 rfl (insert_n w4 i rows [x] (hO15.sl (M := Non) id) ⟨_, rfl⟩ hi (hO25.sl (M := Non) id) (one1 hx1) h1 hn) ?_; intro v26 w5 hE5 hR5
    replace hX := hX.tr hE5
    replace hO15 := hO15.ext hE5 id
    obtain ⟨b26, spare26, hb26, hO26⟩ := hR5
    refine wl_val (rn_assign (by conv => lhs; whnf)) ?_
    refine wl_nil ?_
    refine W_ret ?_
    exact ⟨_, resR1 (res1_tmp rfl), hX, ⟨b26, spare26, Nat.le_trans hXo.size hb26, by rw [if_neg (by rw [hc0]; simp)]; exact hO26⟩⟩
-- slices.Clone[[]bellman/keep.entry,bellman/keep.entry]
theorem clone_e (w : World) (rows : List (List Value)) {v : Value} (hs : Sl Non w v 2 rows) (h1 : ∀ r ∈ rows, ∀ u ∈ r, u.oneCell' = true) (hn : rows.length ≤ 1000000) : Fn Tryz.prog 132 #[v] w fun u w' => ∃ oo, OwO w' u oo 2 rows ∧ ∀ i, oo = some i → w.heap.size ≤ i := by
  obtain ⟨a, c, rfl, _⟩ := hs.len
  have hX := Ext.refl Non w
  refine fn_of_W (args := [_]) Tryz.func132 rfl (by kernel_rfl) rfl ?_
  refine W_seq ?_
  refine W_region ?_
  refine wl_val (rn_assign (by conv => lhs; whnf)) ?_
  refine wl_nil ?_
  refine W_seq ?_
  refine W_seq ?_
  refine W_region ?_
  refine wl_val (rn_move (by conv => lhs; whnf)) ?_
  refine wl_val (rn_slice_eqnil sl_53 rfl rfl) ?_
  refine wl_nil ?_
  refine W_cond rfl (fun hc0 => ?_) (fun hc0 => ?_)
  · have hr : rows = [] := by obtain ⟨⟨a2, c2, e1, _, _, e4⟩, _⟩ := hs; simp only [Value.slice.injEq] at e1; rcases e4 with e4 | ⟨b, o, e4, _⟩; exact e4; rw [e1.1, e4] at hc0; cases hc0
    refine W_seq ?_
    refine W_region ?_
    refine wl_val (rn_assign (by conv => lhs; whnf)) ?_
    refine wl_nil ?_
    refine W_ret ?_
    exact ⟨_, resR1 (res1_tmp rfl), hX, ⟨none, by rw [hr]; exact OwO.nil, by simp⟩⟩
  · refine W_skip ?_
    refine W_seq ?_
    refine W_region ?_
    refine wl_lit (rows := []) (parts := []) sl_53 rfl (by decide) (by decide) rfl rfl (by simp) (by simp) rfl ?_; intro v5 w1 b5 hb5 hE1 hO5
    have hq5 : w.heap.size ≤ b5 := Nat.le_trans hX.size hb5
    replace hX := hX.tr hE1
    refine wl_val (rn_move (by conv => lhs; whnf)) ?_
    have hXo := hX
    refine wl_app sl_53 rfl rfl rfl (o := some b5) (rows := []) (.inr ⟨b5, [], rfl, hO5⟩) (hs.ext hX (fun _ h => h)) h1 (by simp only [List.length_cons, List.length_nil, List.length_append, List.length_replicate, List.length_take, List.length_drop]; omega) (by simp only [List.length_cons, List.length_nil, List.length_append, List.length_replicate, big]; omega) ?_; intro v7 w2 o7 hE2 hO7 hf7
    replace hX := hX.mineO hE2 (fun i hi => by cases hi; exact .inr hq5)
    refine wl_val (rn_assign (by conv => lhs; whnf)) ?_
    refine wl_nil ?_
    refine W_ret ?_
    exact ⟨_, resR1 (res1_tmp rfl), hX, ⟨o7, by rw [List.nil_append] at hO7; exact hO7, fun i hi => by rcases hf7 i hi with h | h; cases h; exact hq5; exact Nat.le_trans hXo.size h⟩⟩
-- slices.Delete[[]bellman/keep.entry,bellman/keep.entry]
theorem delete_e (w : World) (i j b : Nat) (rows : List (List Value)) (spare : List Value) {v : Value} (hs : Ow w v b 2 rows spare) (hij : i ≤ j) (hj : j ≤ rows.length) (h1 : ∀ r ∈ rows, ∀ u ∈ r, u.oneCell' = true) (hn : rows.length ≤ 1000000) : FnM Tryz.prog (fun x => x = b) 131 #[v, .int .i64 (i : Nat), .int .i64 (j : Nat)] w fun u w' => ∃ spare', Ow w' u b 2 (rows.take i ++ rows.drop j) spare' := by
  obtain ⟨c, rfl, hc1, hc2, hc3⟩ := id hs.val
  have hti : (rows.take i).length = i := by rw [List.length_take]; omega
  have htj : (rows.drop j).length = rows.length - j := List.length_drop
  have hX := Ext.refl (fun x => x = b) w
  refine fnM_of_W (args := [_, _, _]) Tryz.func131 rfl (by kernel_rfl) rfl ?_
  refine W_seq ?_
  refine W_region ?_
  refine wl_val (rn_assign (by conv => lhs; whnf)) ?_
  refine wl_nil ?_
  refine W_seq ?_
  refine W_region ?_
  refine wl_val (rn_move (by conv => lhs; whnf)) ?_
  refine wl_val (rn_move (by conv => lhs; whnf)) ?_
  refine wl_val (rn_move (by conv => lhs; whnf)) ?_
  refine wl_val (rn_move (by conv => lhs; whnf)) ?_
  refine wl_val (rn_len sl_53 rfl) ?_
  refine wl_val (rn_slice sl_53 (l := i) (h := j) (m := rows.length) rfl ⟨_, rfl⟩ ⟨_, rfl⟩ ⟨_, rfl⟩ (by simp) (by omega) (by omega) (by omega)) ?_
  refine wl_nil ?_
  refine W_seq ?_
  refine W_seq ?_
  refine W_region ?_
  refine wl_val (rn_move (by conv => lhs; whnf)) ?_
  refine wl_val (rn_move (by conv => lhs; whnf)) ?_
  refine wl_val (rn_eql rfl rfl) ?_
  refine wl_nil ?_
  refine W_cond rfl (fun hc0 => ?_) (fun hc0 => ?_)
  · have hie : i = j := by have := of_decide_eq_true hc0; omega
    subst hie
    refine W_seq ?_
    refine W_region ?_
    refine wl_val (rn_move (by conv => lhs; whnf)) ?_
    refine wl_val (rn_assign (by conv => lhs; whnf)) ?_
    refine wl_nil ?_
    refine W_ret ?_
    exact ⟨_, resR1 (res1_tmp rfl), hX, ⟨spare, by rw [List.take_append_drop]; exact hs⟩⟩
  · have hie : ¬ i = j := by have := of_decide_eq_false hc0; omega
    refine W_skip ?_
    refine W_seq ?_
    refine W_region ?_
    refine wl_val (rn_move (by conv => lhs; whnf)) ?_
    refine wl_val (rn_len sl_53 rfl) ?_
    refine wl_val (rn_assign (by conv => lhs; whnf)) ?_
    refine wl_nil ?_
    refine W_seq ?_
    refine W_drawF (fun x => x = b) mixed ?_; intro w1 hE1
    replace hX := hX.tr hE1
    replace hs := hs.ext hE1 id
    have hS := Ext.refl (fun x => x = b) w1
    refine wd_take 0 _ _ rfl (by kernel_rfl) hS (yd_do fun A hA => rn_move (by conv => lhs; whnf)) ?_
    refine wd_take 1 _ _ rfl (by kernel_rfl) hS (yd_do fun A hA => rn_move (by conv => lhs; whnf)) ?_
    refine wd_take 2 _ _ rfl (by kernel_rfl) hS (yd_do fun A hA => rn_slice0 sl_53 (h := i) (m := c) rfl rfl ⟨_, rfl⟩ rfl (by simp) (by omega) (by omega)) ?_
    refine wd_take 3 _ _ rfl (by kernel_rfl) hS (yd_do fun A hA => rn_move (by conv => lhs; whnf)) ?_
    refine wd_take 4 _ _ rfl (by kernel_rfl) hS (yd_do fun A hA => rn_move (by conv => lhs; whnf)) ?_
    refine wd_take 5 _ _ rfl (by kernel_rfl) hS (yd_do fun A hA => rn_slice sl_53 (l := j) (h := rows.length) (m := c) rfl ⟨_, rfl⟩ rfl rfl (by simp) (by omega) (by omega) (by omega)) ?_
    refine wd_only 6 _ rfl (by kernel_rfl) ?_
    refine s1_do ?_
    have hsl := (hs.sl (M := Non) id).cut hj (Nat.le_refl _) hc1 (Nat.le_refl _)
    refine wl_appR (rows := rows.take i) (rows2 := rows.drop j) sl_53 rfl rfl (hs.cut rfl (by omega)) (by rw [List.take_of_length_le (by omega)] at hsl; exact hsl) (fun r hr => h1 r (List.mem_of_mem_drop hr)) (by rw [hti, htj]; omega) ?_; intro w2 spare26 hE2 hO26
    rw [hti, htj] at hO26 ⊢
    replace hS := hS.trans hE2
    refine wl_nil ⟨hS, ?_⟩
    refine wd_take 7 _ _ rfl (by kernel_rfl) hS (yd_do fun A hA => rn_assign (by conv => lhs; whnf)) ?_
    refine wd_done (by kernel_rfl) ?_ _
    replace hX := hX.trans hS
    refine W_seq ?_
    refine W_region ?_
    refine wl_val (rn_move (by conv => lhs; whnf)) ?_
    refine wl_val (rn_move (by conv => lhs; whnf)) ?_
    refine wl_val (rn_len sl_53 rfl) ?_
    refine wl_val (rn_move (by conv => lhs; whnf)) ?_
    refine wl_val (rn_slice sl_53 (l := (i + (rows.length - j))) (h := rows.length) (m := c) rfl ⟨_, rfl⟩ ⟨_, rfl⟩ rfl (by simp) (by omega) (by omega) (by omega)) ?_
    refine wl_clear sl_53 rfl (two1' rfl rfl) rfl hO26 (.inr ⟨by rw [if_neg (by omega)]; simp only [Option.map_some, add_at, Nat.zero_add, List.length_append, hti, htj], by obtain ⟨c9, e9, _, _, e8⟩ := hO26.val; simp only [Value.slice.injEq] at e9; rw [e8, List.length_append, hti, htj, ← e9.2.2]; exact Nat.mul_le_mul_right _ (by omega)⟩) ?_; intro w3 spare27 hE3 hO27
    replace hX := hX.trans hE3
    refine wl_nil ?_
    refine W_seq ?_
    refine W_region ?_
    refine wl_val (rn_move (by conv => lhs; whnf)) ?_
    refine wl_val (rn_assign (by conv => lhs; whnf)) ?_
    refine wl_nil ?_
    refine W_ret ?_
    exact ⟨_, resR1 (res1_tmp rfl), hX, ⟨spare27, hO27⟩⟩
-- slices.Insert[[]bellman/keep.entry,bellman/keep.entry]
set_option maxHeartbeats 1600000 in
theorem insert_e (w : World) (i : Nat) (rows : List (List Value)) (r : List Value) {v vx : Value} (hs : Sl Non w v 2 rows) (hv : ∃ a, v = .slice a rows.length rows.length) (hi : i ≤ rows.length) (hx : Sl Non w vx 2 [r]) (h2 : ∀ u ∈ r, u.oneCell' = true) (h1 : ∀ r ∈ rows, ∀ u ∈ r, u.oneCell' = true) (hn : rows.length ≤ 1000000) : Fn Tryz.prog 160 #[v, .int .i64 (i : Nat), vx] w fun u w' => ∃ b spare, w.heap.size ≤ b ∧ Ow w' u b 2 (rows.take i ++ r :: rows.drop i) spare := by
  obtain ⟨a, rfl⟩ := hv
  obtain ⟨a2, c2, rfl, _⟩ := hx.len
  have hbig : rows.length ≤ big := by simp only [big]; omega
  have hti : (rows.take i).length = i := by rw [List.length_take]; omega
  have htj : (rows.drop i).length = rows.length - i := List.length_drop
  have hX := Ext.refl Non w
  refine fn_of_W (args := [_, _, _]) Tryz.func160 rfl (by kernel_rfl) rfl ?_
  refine W_seq ?_
  refine W_region ?_
  refine wl_val (rn_assign (by conv => lhs; whnf)) ?_
  refine wl_nil ?_
  refine W_seq ?_
  refine W_region ?_
  refine wl_val (rn_move (by conv => lhs; whnf)) ?_
  refine wl_val (rn_move (by conv => lhs; whnf)) ?_
  refine wl_val (rn_slice sl_53 (l := i) (h := rows.length) (m := rows.length) rfl ⟨_, rfl⟩ rfl rfl (by simp) (by omega) (by omega) (by omega)) ?_
  refine wl_nil ?_
  refine W_seq ?_
  refine W_region ?_
  refine wl_val (rn_move (by conv => lhs; whnf)) ?_
  refine wl_val (rn_len sl_53 rfl) ?_
  refine wl_val (rn_assign (by conv => lhs; whnf)) ?_
  refine wl_nil ?_
  refine W_seq ?_
  refine W_seq ?_
  refine W_region ?_
  refine wl_val (rn_move (by conv => lhs; whnf)) ?_
  refine wl_val (rn_eql rfl rfl) ?_
  refine wl_nil ?_
  refine W_cond rfl (fun hc0 => ?_) (fun hc0 => ?_)
  · exact absurd (of_decide_eq_true hc0) (by simp)
  · refine W_skip ?_
    refine W_seq ?_
    refine W_region ?_
    refine wl_val (rn_move (by conv => lhs; whnf)) ?_
    refine wl_val (rn_len sl_53 rfl) ?_
    refine wl_val (rn_assign (by conv => lhs; whnf)) ?_
    refine wl_nil ?_
    refine W_seq ?_
    refine W_seq ?_
    refine W_region ?_
    refine wl_val (rn_move (by conv => lhs; whnf)) ?_
    refine wl_val (rn_move (by conv => lhs; whnf)) ?_
    refine wl_val (rn_eql rfl rfl) ?_
    refine wl_nil ?_
    refine W_cond rfl (fun hc1 => ?_) (fun hc1 => ?_)
    · have hie : i = rows.length := by have := of_decide_eq_true hc1; omega
      subst hie
      refine W_seq ?_
      refine W_region ?_
      refine wl_val (rn_move (by conv => lhs; whnf)) ?_
      refine wl_val (rn_move (by conv => lhs; whnf)) ?_
      have hXo := hX
      refine wl_grow sl_53 rfl rfl rfl (hs.ext hX (fun _ h => h)) (hx.ext hX (fun _ h => h)) (by simp only [List.length_cons, List.length_nil, List.length_append, List.length_replicate, List.length_take, List.length_drop]; omega) (by simp only [List.length_cons, List.length_nil, List.length_append, List.length_replicate, List.length_take, List.length_drop]; omega) (by simp only [List.length_cons, List.length_nil, List.length_append, List.length_replicate, big]; omega) ?_; intro v25 w1 b25 spare25 hb25 hE1 hO25
      replace hX := hX.tr hE1
      refine wl_val (rn_assign (by conv => lhs; whnf)) ?_
      refine wl_nil ?_
      refine W_ret ?_
      exact ⟨_, resR1 (res1_tmp rfl), hX, ⟨b25, spare25, Nat.le_trans hXo.size hb25, by rw [List.take_of_length_le (Nat.le_refl _), List.drop_of_length_le (Nat.le_refl _)]; exact hO25⟩⟩
    · have hie : ¬ i = rows.length := by have := of_decide_eq_false hc1; omega
      refine W_skip ?_
      refine W_seq ?_
      refine W_seq ?_
      refine W_region ?_
      refine wl_val (rn_move (by conv => lhs; whnf)) ?_
      refine wl_val (rn_move (by conv => lhs; whnf)) ?_
      refine wl_val (rn_add rfl rfl (by simp only [List.length_singleton]; omega)) ?_
      refine wl_val (rn_move (by conv => lhs; whnf)) ?_
      refine wl_val (rn_cap sl_53 rfl) ?_
      refine wl_val (rn_gtr rfl rfl) ?_
      refine wl_nil ?_
      refine W_cond rfl (fun hc2 => ?_) (fun hc2 => ?_)
      · refine W_seq ?_
        refine W_region ?_
        refine wl_val (rn_move (by conv => lhs; whnf)) ?_
        refine wl_val (rn_move (by conv => lhs; whnf)) ?_
        refine wl_val (rn_slice0 sl_53 (h := i) (m := rows.length) rfl rfl ⟨_, rfl⟩ rfl (by simp) (by omega) (by omega)) ?_
        refine wl_val (rn_move (by conv => lhs; whnf)) ?_
        refine wl_val (rn_move (by conv => lhs; whnf)) ?_
        refine wl_val (rn_add rfl rfl (by simp only [List.length_singleton]; omega)) ?_
        refine wl_val (rn_move (by conv => lhs; whnf)) ?_
        refine wl_val (rn_sub rfl rfl (by simp only [List.length_singleton]; omega)) ?_
        refine wl_zeros (q := rows.length + 1 - i) sl_53 rfl ui_3 rfl (congrArg (Value.int .i64) (by simp only [List.length_singleton]; omega)) ((hs.ext hX (fun _ h => h)).cut0 hi (by omega) (Nat.le_refl _)) (by rw [hti]; omega) (by rw [hti]; omega) (by rw [hti]; simp only [big]; omega) ?_; intro v40 w2 b40 spare40 hb40 hE2 hO40
        have hq40 : w.heap.size ≤ b40 := Nat.le_trans hX.size hb40
        replace hX := hX.tr hE2
        refine wl_val (rn_assign (by conv => lhs; whnf)) ?_
        refine wl_nil ?_
        refine W_seq ?_
        refine W_region ?_
        obtain ⟨c40, hv40, hk1, hk2, hk3⟩ := hO40.val; rw [List.length_append, hti, List.length_replicate, show i + (rows.length + 1 - i) = rows.length + 1 from by omega] at hv40 hk1
        refine wl_val (rn_move (by conv => lhs; whnf)) ?_
        refine wl_val (rn_move (by conv => lhs; whnf)) ?_
        refine wl_val (rn_sliceO sl_53 (l := i) (h := rows.length + 1) (m := c40) hv40 ⟨_, rfl⟩ rfl rfl (by simp) (by omega) (by omega) (by omega) (by omega)) ?_
        refine wl_val (rn_move (by conv => lhs; whnf)) ?_
        refine wl_copy (l := i) sl_53 rfl rfl hO40 (hx.ext hX (fun _ h => h)) (oneR h2) (by simp only [List.length_singleton, List.length_append, hti, List.length_replicate]; omega) ?_; intro w3 hE3 hO45 _
        have ht45 : [r].take (rows.length + 1 - i) = [r] := List.take_of_length_le (by simp only [List.length_singleton]; omega)
        rw [ht45] at hO45
        replace hX := hX.mine hE3 (.inr hq40)
        refine wl_nil ?_
        refine W_seq ?_
        refine W_drawF (fun x => x = b40) mixed ?_; intro w4 hE4
        replace hX := hX.tr hE4
        replace hO45 := hO45.ext hE4 id
        have hS := Ext.refl (fun x => x = b40) w4
        refine wd_take 0 _ _ rfl (by kernel_rfl) hS (yd_do fun A hA => rn_move (by conv => lhs; whnf)) ?_
        refine wd_take 1 _ _ rfl (by kernel_rfl) hS (yd_do fun A hA => rn_move (by conv => lhs; whnf)) ?_
        refine wd_take 2 _ _ rfl (by kernel_rfl) hS (yd_do fun A hA => rn_move (by conv => lhs; whnf)) ?_
        refine wd_take 3 _ _ rfl (by kernel_rfl) hS (yd_do fun A hA => rn_add rfl rfl (by simp only [List.length_singleton]; omega)) ?_
        refine wd_take 4 _ _ rfl (by kernel_rfl) hS (yd_do fun A hA => rn_sliceO sl_53 (l := i + 1) (h := rows.length + 1) (m := c40) hv40 ⟨_, rfl⟩ rfl rfl (by simp) (by omega) (by omega) (by omega) (by omega)) ?_
        refine wd_take 5 _ _ rfl (by kernel_rfl) hS (yd_do fun A hA => rn_move (by conv => lhs; whnf)) ?_
        refine wd_take 6 _ _ rfl (by kernel_rfl) hS (yd_do fun A hA => rn_move (by conv => lhs; whnf)) ?_
        refine wd_take 7 _ _ rfl (by kernel_rfl) hS (yd_do fun A hA => rn_slice sl_53 (l := i) (h := rows.length) (m := rows.length) rfl ⟨_, rfl⟩ rfl rfl (by simp) (by omega) (by omega) (by omega)) ?_
        refine wd_only 8 _ rfl (by kernel_rfl) ?_
        refine s1_do ?_
        have hsl := (hs.ext hX (fun _ h => h)).cut hi (Nat.le_refl _) (Nat.le_refl _) (Nat.le_refl _)
        have htd : (rows.drop i).take (rows.length - i) = rows.drop i := List.take_of_length_le (by rw [htj]; exact Nat.le_refl _)
        have hte : (rows.drop i).take (rows.length + 1 - (i + 1)) = rows.drop i := List.take_of_length_le (by rw [htj]; omega)
        rw [htd] at hsl
        refine wl_copy (l := i + 1) sl_53 rfl rfl hO45 hsl (fun r hr => h1 r (List.mem_of_mem_drop hr)) (by rw [htj, patchR_length (by simp only [List.length_singleton, List.length_append, hti, List.length_replicate]; omega), List.length_append, hti, List.length_replicate]; omega) ?_; intro w5 hE5 hO54 _
        rw [hte, ins_rows hi (by rw [List.length_replicate])] at hO54
        replace hS := hS.trans hE5
        refine wl_nil ⟨hS, ?_⟩
        refine wd_done (by kernel_rfl) ?_ _
        replace hX := hX.mine hS (.inr hq40)
        refine W_seq ?_
        refine W_region ?_
        refine wl_val (rn_move (by conv => lhs; whnf)) ?_
        refine wl_val (rn_assign (by conv => lhs; whnf)) ?_
        refine wl_nil ?_
        refine W_ret ?_
        exact ⟨_, resR1 (res1_tmp rfl), hX, ⟨b40, spare40, hq40, hO54⟩⟩
      · exact absurd (of_decide_eq_false hc2) (fun h => h (by simp only [List.length_singleton]; omega))
-- bellman/set.put[bellman/keep.entry]
set_option maxHeartbeats 800000 in
theorem put_e (w : World) (i : Nat) (there : Bool) (rows : List (List Value)) {v p q : Value} (hs : Sl Non w v 2 rows) (hi : i ≤ rows.length) (hi2 : there = true → i < rows.length) (hp1 : p.oneCell' = true) (hq1 : q.oneCell' = true) (h1 : ∀ r ∈ rows, ∀ u ∈ r, u.oneCell' = true) (hn : rows.length ≤ 1000000) : Fn Tryz.prog 133 #[v, .int .i64 (i : Nat), .bool there, .agg #[p, q]] w fun u w' => ∃ b spare, w.heap.size ≤ b ∧ Ow w' u b 2 (if there = true then rows.set i [p, q] else rows.take i ++ [p, q] :: rows.drop i) spare := by
  obtain ⟨a, c, rfl, _⟩ := hs.len
  have hbig : rows.length ≤ big := by simp only [big]; omega
  have hX := Ext.refl Non w
  refine fn_of_W (args := [_, _, _, _]) Tryz.func133 rfl (by kernel_rfl) rfl ?_
  refine W_seq ?_
  refine W_region ?_
  refine wl_boxS rfl ?_; intro b7 w1 hb7 hE1 hB7
  have hq7 : w.heap.size ≤ b7 := Nat.le_trans hX.size hb7
  have hl7 : Mine Non w b7 := .inr hq7
  replace hX := hX.tr hE1
  refine wl_val (rn_assign (by conv => lhs; whnf)) ?_
  refine wl_nil ?_
  refine W_seq ?_
  refine W_region ?_
  refine wl_val (rn_move (by conv => lhs; whnf)) ?_
  refine wl_val (rn_len sl_53 rfl) ?_
  refine wl_make sl_53 rfl rfl rfl (by omega) hbig ?_; intro w2 b12 hb12 hE2 hO12
  have hq12 : w.heap.size ≤ b12 := Nat.le_trans hX.size hb12
  have hn7 : b7 < b12 := Nat.lt_of_lt_of_le hB7.lt hb12
  replace hX := hX.tr hE2
  replace hB7 := hB7.ext hE2 id
  refine wl_val (rn_assign (by conv => lhs; whnf)) ?_
  refine wl_nil ?_
  refine W_seq ?_
  refine W_region ?_
  refine wl_val (rn_move (by conv => lhs; whnf)) ?_
  refine wl_val (rn_move (by conv => lhs; whnf)) ?_
  refine wl_copy (l := 0) sl_53 (by rw [Nat.zero_mul]; rfl) rfl hO12 (hs.ext hX (fun _ h => h)) h1 (by rw [List.length_replicate]; omega) ?_; intro w3 hE3 hO15 _
  have hp15 : patchR (List.replicate rows.length [.string ⟨#[]⟩, .int .i64 0]) 0 (rows.take rows.length) = rows := by unfold patchR; simp
  rw [hp15] at hO15
  replace hX := hX.mine hE3 (.inr hq12)
  replace hB7 := hB7.ext hE3 (fun e => by omega)
  refine wl_nil ?_
  refine W_seq ?_
  refine W_seq ?_
  refine W_region ?_
  refine wl_val (rn_move (by conv => lhs; whnf)) ?_
  refine wl_nil ?_
  refine W_cond rfl (fun hc0 => ?_) (fun hc0 => ?_)
  · have hlt := hi2 hc0
    refine W_seq ?_
    refine W_region ?_
    refine wl_val (rn_move (by conv => lhs; whnf)) ?_
    refine wl_val (rn_move (by conv => lhs; whnf)) ?_
    refine wl_val (rn_loadB s_161 rfl rfl hB7) ?_
    refine wl_val (rn_indexAddr sl_53 rfl rfl (by omega)) ?_
    refine wl_storeES s_161 rfl rfl rfl (two1' hp1 hq1) hO15 (by omega) ?_; intro w4 hE4 hO20
    replace hX := hX.mine hE4 (.inr hq12)
    refine wl_nil ?_
    refine W_seq ?_
    refine W_region ?_
    refine wl_val (rn_move (by conv => lhs; whnf)) ?_
    refine wl_val (rn_assign (by conv => lhs; whnf)) ?_
    refine wl_nil ?_
    refine W_ret ?_
    exact ⟨_, resR1 (res1_tmp rfl), hX, ⟨b12, [], hq12, by rw [if_pos hc0]; exact hO20⟩⟩
  · refine W_skip ?_
    refine W_seq ?_
    refine W_region ?_
    refine wl_val (rn_move (by conv => lhs; whnf)) ?_
    refine wl_val (rn_move (by conv => lhs; whnf)) ?_
    refine wl_val (rn_loadB s_161 rfl rfl hB7) ?_
    refine wl_lit1 (r := [p, q]) sl_53 rfl rfl rfl rfl (by decide) ?_; intro v25 w5 b25 hb25 hE5 hO25
    replace hX := hX.tr hE5
    replace hB7 := hB7.ext hE5 id
    replace hO15 := hO15.ext hE5 id
    have hXo := hX
    refine wl_call e_160 rfl (insert_e w5 i rows [p, q] (hO15.sl (M := Non) id) ⟨_, rfl⟩ hi (hO25.sl (M := Non) id) (two1' hp1 hq1) h1 hn) ?_; intro v26 w6 hE6 hR6
    replace hX := hX.tr hE6
    replace hB7 := hB7.ext hE6 id
    replace hO15 := hO15.ext hE6 id
    obtain ⟨b26, spare26, hb26, hO26⟩ := hR6
    refine wl_val (rn_assign (by conv => lhs; whnf)) ?_
    refine wl_nil ?_
    refine W_ret ?_
    exact ⟨_, resR1 (res1_tmp rfl), hX, ⟨b26, spare26, Nat.le_trans hXo.size hb26, by rw [if_neg (by rw [hc0]; simp)]; exact hO26⟩⟩
end Go.Proofs.YtaddeakfojpdoaaGreatDoorC
