/- Slices of the model's elements: cloning, inserting, putting. -/
import Derived.Test.YtaddeakfojpdoaaGreatDoorBunM5
import Derived.Laws.Externs
import Derived.Lib.Bytealg
import Derived.Laws.IdiomStrings
set_option linter.unusedVariables false
set_option linter.unusedSimpArgs false
set_option maxRecDepth 100000
namespace Go.Proofs.YtaddeakfojpdoaaGreatDoorC
open Go.RowKit
-- slices.Insert[[]bellman/model.box,bellman/model.box]
set_option maxHeartbeats 1600000 in
theorem insert_b (w : World) (i : Nat) (rows : List (List Value)) (r : List Value) {v vx : Value} (hs : Sl Non w v 2 rows) (hv : ∃ a, v = .slice a rows.length rows.length) (hi : i ≤ rows.length) (hx : Sl Non w vx 2 [r]) (h2 : ∀ u ∈ r, u.oneCell' = true) (h1 : ∀ r ∈ rows, ∀ u ∈ r, u.oneCell' = true) (hn : rows.length ≤ 1000000) : Fn Tryz.prog 137 #[v, .int .i64 (i : Nat), vx] w fun u w' => ∃ b spare, w.heap.size ≤ b ∧ Ow w' u b 2 (rows.take i ++ r :: rows.drop i) spare := by
  obtain ⟨a, rfl⟩ := hv
  obtain ⟨a2, c2, rfl, _⟩ := hx.len
  have hbig : rows.length ≤ big := by simp only [big]; omega
  have hti : (rows.take i).length = i := by rw [List.length_take]; omega
  have htj : (rows.drop i).length = rows.length - i := List.length_drop
  have hX := Ext.refl Non w
  refine fn_of_W (args := [_, _, _]) Tryz.func137 rfl (by kernel_rfl) rfl ?_
  refine W_seq ?_
  refine W_region ?_
  refine wl_val (rn_assign (by conv => lhs; whnf)) ?_
  refine wl_nil ?_
  refine W_seq ?_
  refine W_region ?_
  refine wl_val (rn_move (by conv => lhs; whnf)) ?_
  refine wl_val (rn_move (by conv => lhs; whnf)) ?_
  refine wl_val (rn_slice sl_50 (l := i) (h := rows.length) (m := rows.length) rfl ⟨_, rfl⟩ rfl rfl (by simp) (by omega) (by omega) (by omega)) ?_
  refine wl_nil ?_
  refine W_seq ?_
  refine W_region ?_
  refine wl_val (rn_move (by conv => lhs; whnf)) ?_
  refine wl_val (rn_len sl_50 rfl) ?_
  refine wl_val (rn_assign (by conv => lhs; whnf)) ?_
  refine wl_nil ?_
  refine W_seq ?_
  refine W_seq ?_
  refine W_region ?_
  refine wl_val (rn_move (by conv => lhs; whnf)) ?_
  refine wl_val (rn_eql rfl rfl) ?_
  refine wl_nil ?_
  refine W_cond rfl (fun hc0 => ?_) (fun hc0 => ?_)
  · exact absurd (of_decide_eq_true hc0) (by simp)
  · refine W_skip ?_
    refine W_seq ?_
    refine W_region ?_
    refine wl_val (rn_move (by conv => lhs; whnf)) ?_
    refine wl_val (rn_len sl_50 rfl) ?_
    refine wl_val (rn_assign (by conv => lhs; whnf)) ?_
    refine wl_nil ?_
    refine W_seq ?_
    refine W_seq ?_
    refine W_region ?_
    refine wl_val (rn_move (by conv => lhs; whnf)) ?_
    refine wl_val (rn_move (by conv => lhs; whnf)) ?_
    refine wl_val (rn_eql rfl rfl) ?_
    refine wl_nil ?_
    refine W_cond rfl (fun hc1 => ?_) (fun hc1 => ?_)
    · have hie : i = rows.length := by have := of_decide_eq_true hc1; omega
      subst hie
      refine W_seq ?_
      refine W_region ?_
      refine wl_val (rn_move (by conv => lhs; whnf)) ?_
      refine wl_val (rn_move (by conv => lhs; whnf)) ?_
      have hXo := hX
      refine wl_grow sl_50 rfl rfl rfl (hs.ext hX (fun _ h => h)) (hx.ext hX (fun _ h => h)) (by simp only [List.length_cons, List.length_nil, List.length_append, List.length_replicate, List.length_take, List.length_drop]; omega) (by simp only [List.length_cons, List.length_nil, List.length_append, List.length_replicate, List.length_take, List.length_drop]; omega) (by simp only [List.length_cons, List.length_nil, List.length_append, List.length_replicate, big]; omega) ?_; intro v25 w1 b25 spare25 hb25 hE1 hO25
      replace hX := hX.tr hE1
      refine wl_val (rn_assign (by conv => lhs; whnf)) ?_
      refine wl_nil ?_
      refine W_ret ?_
      exact ⟨_, resR1 (res1_tmp rfl), hX, ⟨b25, spare25, Nat.le_trans hXo.size hb25, by rw [List.take_of_length_le (Nat.le_refl _), List.drop_of_length_le (Nat.le_refl _)]; exact hO25⟩⟩
    · have hie : ¬ i = rows.length := by have := of_decide_eq_false hc1; omega
      refine W_skip ?_
      refine W_seq ?_
      refine W_seq ?_
      refine W_region ?_
      refine wl_val (rn_move (by conv => lhs; whnf)) ?_
      refine wl_val (rn_move (by conv => lhs; whnf)) ?_
      refine wl_val (rn_add rfl rfl (by simp only [List.length_singleton]; omega)) ?_
      refine wl_val (rn_move (by conv => lhs; whnf)) ?_
      refine wl_val (rn_cap sl_50 rfl) ?_
      refine wl_val (rn_gtr rfl rfl) ?_
      refine wl_nil ?_
      refine W_cond rfl (fun hc2 => ?_) (fun hc2 => ?_)
      · refine W_seq ?_
        refine W_region ?_
        refine wl_val (rn_move (by conv => lhs; whnf)) ?_
        refine wl_val (rn_move (by conv => lhs; whnf)) ?_
        refine wl_val (rn_slice0 sl_50 (h := i) (m := rows.length) rfl rfl ⟨_, rfl⟩ rfl (by simp) (by omega) (by omega)) ?_
        refine wl_val (rn_move (by conv => lhs; whnf)) ?_
        refine wl_val (rn_move (by conv => lhs; whnf)) ?_
        refine wl_val (rn_add rfl rfl (by simp only [List.length_singleton]; omega)) ?_
        refine wl_val (rn_move (by conv => lhs; whnf)) ?_
        refine wl_val (rn_sub rfl rfl (by simp only [List.length_singleton]; omega)) ?_
        refine wl_zeros (q := rows.length + 1 - i) sl_50 rfl ui_3 rfl (congrArg (Value.int .i64) (by simp only [List.length_singleton]; omega)) ((hs.ext hX (fun _ h => h)).cut0 hi (by omega) (Nat.le_refl _)) (by rw [hti]; omega) (by rw [hti]; omega) (by rw [hti]; simp only [big]; omega) ?_; intro v40 w2 b40 spare40 hb40 hE2 hO40
        have hq40 : w.heap.size ≤ b40 := Nat.le_trans hX.size hb40
        replace hX := hX.tr hE2
        refine wl_val (rn_assign (by conv => lhs; whnf)) ?_
        refine wl_nil ?_
        refine W_seq ?_
        refine W_region ?_
        obtain ⟨c40, hv40, hk1, hk2, hk3⟩ := hO40.val; rw [List.length_append, hti, List.length_replicate, show i + (rows.length + 1 - i) = rows.length + 1 from by omega] at hv40 hk1
        refine wl_val (rn_move (by conv => lhs; whnf)) ?_
        refine wl_val (rn_move (by conv => lhs; whnf)) ?_
        refine wl_val (rn_sliceO sl_50 (l := i) (h := rows.length + 1) (m := c40) hv40 ⟨_, rfl⟩ rfl rfl (by simp) (by omega) (by omega) (by omega) (by omega)) ?_
        refine wl_val (rn_move (by conv => lhs; whnf)) ?_
        refine wl_copy (l := i) sl_50 rfl rfl hO40 (hx.ext hX (fun _ h => h)) (oneR h2) (by simp only [List.length_singleton, List.length_append, hti, List.length_replicate]; omega) ?_; intro w3 hE3 hO45 _
        have ht45 : [r].take (rows.length + 1 - i) = [r] := List.take_of_length_le (by simp only [List.length_singleton]; omega)
        rw [ht45] at hO45
        replace hX := hX.mine hE3 (.inr hq40)
        refine wl_nil ?_
        refine W_seq ?_
        refine W_drawF (fun x => x = b40) mixed ?_; intro w4 hE4
        replace hX := hX.tr hE4
        replace hO45 := hO45.ext hE4 id
        have hS := Ext.refl (fun x => x = b40) w4
        refine wd_take 0 _ _ rfl (by kernel_rfl) hS (yd_do fun A hA => rn_move (by conv => lhs; whnf)) ?_
        refine wd_take 1 _ _ rfl (by kernel_rfl) hS (yd_do fun A hA => rn_move (by conv => lhs; whnf)) ?_
        refine wd_take 2 _ _ rfl (by kernel_rfl) hS (yd_do fun A hA => rn_move (by conv => lhs; whnf)) ?_
        refine wd_take 3 _ _ rfl (by kernel_rfl) hS (yd_do fun A hA => rn_add rfl rfl (by simp only [List.length_singleton]; omega)) ?_
        refine wd_take 4 _ _ rfl (by kernel_rfl) hS (yd_do fun A hA => rn_sliceO sl_50 (l := i + 1) (h := rows.length + 1) (m := c40) hv40 ⟨_, rfl⟩ rfl rfl (by simp) (by omega) (by omega) (by omega) (by omega)) ?_
        refine wd_take 5 _ _ rfl (by kernel_rfl) hS (yd_do fun A hA => rn_move (by conv => lhs; whnf)) ?_
        refine wd_take 6 _ _ rfl (by kernel_rfl) hS (yd_do fun A hA => rn_move (by conv => lhs; whnf)) ?_
        refine wd_take 7 _ _ rfl (by kernel_rfl) hS (yd_do fun A hA => rn_slice sl_50 (l := i) (h := rows.length) (m := rows.length) rfl ⟨_, rfl⟩ rfl rfl (by simp) (by omega) (by omega) (by omega)) ?_
        refine wd_only 8 _ rfl (by kernel_rfl) ?_
        refine s1_do ?_
        have hsl := (hs.ext hX (fun _ h => h)).cut hi (Nat.le_refl _) (Nat.le_refl _) (Nat.le_refl _)
        have htd : (rows.drop i).take (rows.length - i) = rows.drop i := List.take_of_length_le (by rw [htj]; exact Nat.le_refl _)
        have hte : (rows.drop i).take (rows.length + 1 - (i + 1)) = rows.drop i := List.take_of_length_le (by rw [htj]; omega)
        rw [htd] at hsl
        refine wl_copy (l := i + 1) sl_50 rfl rfl hO45 hsl (fun r hr => h1 r (List.mem_of_mem_drop hr)) (by rw [htj, patchR_length (by simp only [List.length_singleton, List.length_append, hti, List.length_replicate]; omega), List.length_append, hti, List.length_replicate]; omega) ?_; intro w5 hE5 hO54 _
        rw [hte, ins_rows hi (by rw [List.length_replicate])] at hO54
        replace hS := hS.trans hE5
        refine wl_nil ⟨hS, ?_⟩
        refine wd_done (by kernel_rfl) ?_ _
        replace hX := hX.mine hS (.inr hq40)
        refine W_seq ?_
        refine W_region ?_
        refine wl_val (rn_move (by conv => lhs; whnf)) ?_
        refine wl_val (rn_assign (by conv => lhs; whnf)) ?_
        refine wl_nil ?_
        refine W_ret ?_
        exact ⟨_, resR1 (res1_tmp rfl), hX, ⟨b40, spare40, hq40, hO54⟩⟩
      · exact absurd (of_decide_eq_false hc2) (fun h => h (by simp only [List.length_singleton]; omega))
-- bellman/set.put[bellman/model.box]
set_option maxHeartbeats 800000 in
theorem put_b (w : World) (i : Nat) (there : Bool) (rows : List (List Value)) {v p q : Value} (hs : Sl Non w v 2 rows) (hi : i ≤ rows.length) (hi2 : there = true → i < rows.length) (hp1 : p.oneCell' = true) (hq1 : q.oneCell' = true) (h1 : ∀ r ∈ rows, ∀ u ∈ r, u.oneCell' = true) (hn : rows.length ≤ 1000000) : Fn Tryz.prog 97 #[v, .int .i64 (i : Nat), .bool there, .agg #[p, q]] w fun u w' => ∃ b spare, w.heap.size ≤ b ∧ Ow w' u b 2 (if there = true then rows.set i [p, q] else rows.take i ++ [p, q] :: rows.drop i) spare := by
  obtain ⟨a, c, rfl, _⟩ := hs.len
  have hbig : rows.length ≤ big := by simp only [big]; omega
  have hX := Ext.refl Non w
  refine fn_of_W (args := [_, _, _, _]) Tryz.func97 rfl (by kernel_rfl) rfl ?_
  refine W_seq ?_
  refine W_region ?_
  refine wl_boxS rfl ?_; intro b7 w1 hb7 hE1 hB7
  have hq7 : w.heap.size ≤ b7 := Nat.le_trans hX.size hb7
  have hl7 : Mine Non w b7 := .inr hq7
  replace hX := hX.tr hE1
  refine wl_val (rn_assign (by conv => lhs; whnf)) ?_
  refine wl_nil ?_
  refine W_seq ?_
  refine W_region ?_
  refine wl_val (rn_move (by conv => lhs; whnf)) ?_
  refine wl_val (rn_len sl_50 rfl) ?_
  refine wl_make sl_50 rfl rfl rfl (by omega) hbig ?_; intro w2 b12 hb12 hE2 hO12
  have hq12 : w.heap.size ≤ b12 := Nat.le_trans hX.size hb12
  have hn7 : b7 < b12 := Nat.lt_of_lt_of_le hB7.lt hb12
  replace hX := hX.tr hE2
  replace hB7 := hB7.ext hE2 id
  refine wl_val (rn_assign (by conv => lhs; whnf)) ?_
  refine wl_nil ?_
  refine W_seq ?_
  refine W_region ?_
  refine wl_val (rn_move (by conv => lhs; whnf)) ?_
  refine wl_val (rn_move (by conv => lhs; whnf)) ?_
  refine wl_copy (l := 0) sl_50 (by rw [Nat.zero_mul]; rfl) rfl hO12 (hs.ext hX (fun _ h => h)) h1 (by rw [List.length_replicate]; omega) ?_; intro w3 hE3 hO15 _
  have hp15 : patchR (List.replicate rows.length [.slice none 0 0, .int .i64 0]) 0 (rows.take rows.length) = rows := by unfold patchR; simp
  rw [hp15] at hO15
  replace hX := hX.mine hE3 (.inr hq12)
  replace hB7 := hB7.ext hE3 (fun e => by omega)
  refine wl_nil ?_
  refine W_seq ?_
  refine W_seq ?_
  refine W_region ?_
  refine wl_val (rn_move (by conv => lhs; whnf)) ?_
  refine wl_nil ?_
  refine W_cond rfl (fun hc0 => ?_) (fun hc0 => ?_)
  · have hlt := hi2 hc0
    refine W_seq ?_
    refine W_region ?_
    refine wl_val (rn_move (by conv => lhs; whnf)) ?_
    refine wl_val (rn_move (by conv => lhs; whnf)) ?_
    refine wl_val (rn_loadB s_87 rfl rfl hB7) ?_
    refine wl_val (rn_indexAddr sl_50 rfl rfl (by omega)) ?_
    refine wl_storeES s_87 rfl rfl rfl (two1' hp1 hq1) hO15 (by omega) ?_; intro w4 hE4 hO20
    replace hX := hX.mine hE4 (.inr hq12)
    refine wl_nil ?_
    refine W_seq ?_
    refine W_region ?_
    refine wl_val (rn_move (by conv => lhs; whnf)) ?_
    refine wl_val (rn_assign (by conv => lhs; whnf)) ?_
    refine wl_nil ?_
    refine W_ret ?_
    exact ⟨_, resR1 (res1_tmp rfl), hX, ⟨b12, [], hq12, by rw [if_pos hc0]; exact hO20⟩⟩
  · refine W_skip ?_
    refine W_seq ?_
    refine W_region ?_
    refine wl_val (rn_move (by conv => lhs; whnf)) ?_
    refine wl_val (rn_move (by conv => lhs; whnf)) ?_
    refine wl_val (rn_loadB s_87 rfl rfl hB7) ?_
    refine wl_lit1 (r := [p, q]) sl_50 rfl rfl rfl rfl (by decide) ?_; intro v25 w5 b25 hb25 hE5 hO25
    replace hX := hX.tr hE5
    replace hB7 := hB7.ext hE5 id
    replace hO15 := hO15.ext hE5 id
    have hXo := hX
    refine wl_call e_137 rfl (insert_b w5 i rows [p, q] (hO15.sl (M := Non) id) ⟨_, rfl⟩ hi (hO25.sl (M := Non) id) (two1' hp1 hq1) h1 hn) ?_; intro v26 w6 hE6 hR6
    replace hX := hX.tr hE6
    replace hB7 := hB7.ext hE6 id
    replace hO15 := hO15.ext hE6 id
    obtain ⟨b26, spare26, hb26, hO26⟩ := hR6
    refine wl_val (rn_assign (by conv => lhs; whnf)) ?_
    refine wl_nil ?_
    refine W_ret ?_
    exact ⟨_, resR1 (res1_tmp rfl), hX, ⟨b26, spare26, Nat.le_trans hXo.size hb26, by rw [if_neg (by rw [hc0]; simp)]; exact hO26⟩⟩
-- slices.Insert[[]bellman/set.Set[string],bellman/set.Set[string]]
set_option maxHeartbeats 1600000 in
theorem insert_t (w : World) (i : Nat) (rows : List (List Value)) (r : List Value) {v vx : Value} (hs : Sl Non w v 2 rows) (hv : ∃ a, v = .slice a rows.length rows.length) (hi : i ≤ rows.length) (hx : Sl Non w vx 2 [r]) (h2 : ∀ u ∈ r, u.oneCell' = true) (h1 : ∀ r ∈ rows, ∀ u ∈ r, u.oneCell' = true) (hn : rows.length ≤ 1000000) : Fn Tryz.prog 127 #[v, .int .i64 (i : Nat), vx] w fun u w' => ∃ b spare, w.heap.size ≤ b ∧ Ow w' u b 2 (rows.take i ++ r :: rows.drop i) spare := by
  obtain ⟨a, rfl⟩ := hv
  obtain ⟨a2, c2, rfl, _⟩ := hx.len
  have hbig : rows.length ≤ big := by simp only [big]; omega
  have hti : (rows.take i).length = i := by rw [List.length_take]; omega
  have htj : (rows.drop i).length = rows.length - i := List.length_drop
  have hX := Ext.refl Non w
  refine fn_of_W (args := [_, _, _]) Tryz.func127 rfl (by kernel_rfl) rfl ?_
  refine W_seq ?_
  refine W_region ?_
  refine wl_val (rn_assign (by conv => lhs; whnf)) ?_
  refine wl_nil ?_
  refine W_seq ?_
  refine W_region ?_
  refine wl_val (rn_move (by conv => lhs; whnf)) ?_
  refine wl_val (rn_move (by conv => lhs; whnf)) ?_
  refine wl_val (rn_slice sl_45 (l := i) (h := rows.length) (m := rows.length) rfl ⟨_, rfl⟩ rfl rfl (by simp) (by omega) (by omega) (by omega)) ?_
  refine wl_nil ?_
  refine W_seq ?_
  refine W_region ?_
  refine wl_val (rn_move (by conv => lhs; whnf)) ?_
  refine wl_val (rn_len sl_45 rfl) ?_
  refine wl_val (rn_assign (by conv => lhs; whnf)) ?_
  refine wl_nil ?_
  refine W_seq ?_
  refine W_seq ?_
  refine W_region ?_
  refine wl_val (rn_move (by conv => lhs; whnf)) ?_
  refine wl_val (rn_eql rfl rfl) ?_
  refine wl_nil ?_
  refine W_cond rfl (fun hc0 => ?_) (fun hc0 => ?_)
  · exact absurd (of_decide_eq_true hc0) (by simp)
  · refine W_skip ?_
    refine W_seq ?_
    refine W_region ?_
    refine wl_val (rn_move (by conv => lhs; whnf)) ?_
    refine wl_val (rn_len sl_45 rfl) ?_
    refine wl_val (rn_assign (by conv => lhs; whnf)) ?_
    refine wl_nil ?_
    refine W_seq ?_
    refine W_seq ?_
    refine W_region ?_
    refine wl_val (rn_move (by conv => lhs; whnf)) ?_
    refine wl_val (rn_move (by conv => lhs; whnf)) ?_
    refine wl_val (rn_eql rfl rfl) ?_
    refine wl_nil ?_
    refine W_cond rfl (fun hc1 => ?_) (fun hc1 => ?_)
    · have hie : i = rows.length := by have := of_decide_eq_true hc1; omega
      subst hie
      refine W_seq ?_
      refine W_region ?_
      refine wl_val (rn_move (by conv => lhs; whnf)) ?_
      refine wl_val (rn_move (by conv => lhs; whnf)) ?_
      have hXo := hX
      refine wl_grow sl_45 rfl rfl rfl (hs.ext hX (fun _ h => h)) (hx.ext hX (fun _ h => h)) (by simp only [List.length_cons, List.length_nil, List.length_append, List.length_replicate, List.length_take, List.length_drop]; omega) (by simp only [List.length_cons, List.length_nil, List.length_append, List.length_replicate, List.length_take, List.length_drop]; omega) (by simp only [List.length_cons, List.length_nil, List.length_append, List.length_replicate, big]; omega) ?_; intro v25 w1 b25 spare25 hb25 hE1 hO25
      replace hX := hX.tr hE1
      refine wl_val (rn_assign (by conv => lhs; whnf)) ?_
      refine wl_nil ?_
      refine W_ret ?_
      exact ⟨_, resR1 (res1_tmp rfl), hX, ⟨b25, spare25, Nat.le_trans hXo.size hb25, by rw [List.take_of_length_le (Nat.le_refl _), List.drop_of_length_le (Nat.le_refl _)]; exact hO25⟩⟩
    · have hie : ¬ i = rows.length := by have := of_decide_eq_false hc1; omega
      refine W_skip ?_
      refine W_seq ?_
      refine W_seq ?_
      refine W_region ?_
      refine wl_val (rn_move (by conv => lhs; whnf)) ?_
      refine wl_val (rn_move (by conv => lhs; whnf)) ?_
      refine wl_val (rn_add rfl rfl (by simp only [List.length_singleton]; omega)) ?_
      refine wl_val (rn_move (by conv => lhs; whnf)) ?_
      refine wl_val (rn_cap sl_45 rfl) ?_
      refine wl_val (rn_gtr rfl rfl) ?_
      refine wl_nil ?_
      refine W_cond rfl (fun hc2 => ?_) (fun hc2 => ?_)
      · refine W_seq ?_
        refine W_region ?_
        refine wl_val (rn_move (by conv => lhs; whnf)) ?_
        refine wl_val (rn_move (by conv => lhs; whnf)) ?_
        refine wl_val (rn_slice0 sl_45 (h := i) (m := rows.length) rfl rfl ⟨_, rfl⟩ rfl (by simp) (by omega) (by omega)) ?_
        refine wl_val (rn_move (by conv => lhs; whnf)) ?_
        refine wl_val (rn_move (by conv => lhs; whnf)) ?_
        refine wl_val (rn_add rfl rfl (by simp only [List.length_singleton]; omega)) ?_
        refine wl_val (rn_move (by conv => lhs; whnf)) ?_
        refine wl_val (rn_sub rfl rfl (by simp only [List.length_singleton]; omega)) ?_
        refine wl_zeros (q := rows.length + 1 - i) sl_45 rfl ui_3 rfl (congrArg (Value.int .i64) (by simp only [List.length_singleton]; omega)) ((hs.ext hX (fun _ h => h)).cut0 hi (by omega) (Nat.le_refl _)) (by rw [hti]; omega) (by rw [hti]; omega) (by rw [hti]; simp only [big]; omega) ?_; intro v40 w2 b40 spare40 hb40 hE2 hO40
        have hq40 : w.heap.size ≤ b40 := Nat.le_trans hX.size hb40
        replace hX := hX.tr hE2
        refine wl_val (rn_assign (by conv => lhs; whnf)) ?_
        refine wl_nil ?_
        refine W_seq ?_
        refine W_region ?_
        obtain ⟨c40, hv40, hk1, hk2, hk3⟩ := hO40.val; rw [List.length_append, hti, List.length_replicate, show i + (rows.length + 1 - i) = rows.length + 1 from by omega] at hv40 hk1
        refine wl_val (rn_move (by conv => lhs; whnf)) ?_
        refine wl_val (rn_move (by conv => lhs; whnf)) ?_
        refine wl_val (rn_sliceO sl_45 (l := i) (h := rows.length + 1) (m := c40) hv40 ⟨_, rfl⟩ rfl rfl (by simp) (by omega) (by omega) (by omega) (by omega)) ?_
        refine wl_val (rn_move (by conv => lhs; whnf)) ?_
        refine wl_copy (l := i) sl_45 rfl rfl hO40 (hx.ext hX (fun _ h => h)) (oneR h2) (by simp only [List.length_singleton, List.length_append, hti, List.length_replicate]; omega) ?_; intro w3 hE3 hO45 _
        have ht45 : [r].take (rows.length + 1 - i) = [r] := List.take_of_length_le (by simp only [List.length_singleton]; omega)
        rw [ht45] at hO45
        replace hX := hX.mine hE3 (.inr hq40)
        refine wl_nil ?_
        refine W_seq ?_
        refine W_drawF (fun x => x = b40) mixed ?_; intro w4 hE4
        replace hX := hX.tr hE4
        replace hO45 := hO45.ext hE4 id
        have hS := Ext.refl (fun x => x = b40) w4
        refine wd_take 0 _ _ rfl (by kernel_rfl) hS (yd_do fun A hA => rn_move (by conv => lhs; whnf)) ?_
        refine wd_take 1 _ _ rfl (by kernel_rfl) hS (yd_do fun A hA => rn_move (by conv => lhs; whnf)) ?_
        refine wd_take 2 _ _ rfl (by kernel_rfl) hS (yd_do fun A hA => rn_move (by conv => lhs; whnf)) ?_
        refine wd_take 3 _ _ rfl (by kernel_rfl) hS (yd_do fun A hA => rn_add rfl rfl (by simp only [List.length_singleton]; omega)) ?_
        refine wd_take 4 _ _ rfl (by kernel_rfl) hS (yd_do fun A hA => rn_sliceO sl_45 (l := i + 1) (h := rows.length + 1) (m := c40) hv40 ⟨_, rfl⟩ rfl rfl (by simp) (by omega) (by omega) (by omega) (by omega)) ?_
        refine wd_take 5 _ _ rfl (by kernel_rfl) hS (yd_do fun A hA => rn_move (by conv => lhs; whnf)) ?_
        refine wd_take 6 _ _ rfl (by kernel_rfl) hS (yd_do fun A hA => rn_move (by conv => lhs; whnf)) ?_
        refine wd_take 7 _ _ rfl (by kernel_rfl) hS (yd_do fun A hA => rn_slice sl_45 (l := i) (h := rows.length) (m := rows.length) rfl ⟨_, rfl⟩ rfl rfl (by simp) (by omega) (by omega) (by omega)) ?_
        refine wd_only 8 _ rfl (by kernel_rfl) ?_
        refine s1_do ?_
        have hsl := (hs.ext hX (fun _ h => h)).cut hi (Nat.le_refl _) (Nat.le_refl _) (Nat.le_refl _)
        have htd : (rows.drop i).take (rows.length - i) = rows.drop i := List.take_of_length_le (by rw [htj]; exact Nat.le_refl _)
        have hte : (rows.drop i).take (rows.length + 1 - (i + 1)) = rows.drop i := List.take_of_length_le (by rw [htj]; omega)
        rw [htd] at hsl
        refine wl_copy (l := i + 1) sl_45 rfl rfl hO45 hsl (fun r hr => h1 r (List.mem_of_mem_drop hr)) (by rw [htj, patchR_length (by simp only [List.length_singleton, List.length_append, hti, List.length_replicate]; omega), List.length_append, hti, List.length_replicate]; omega) ?_; intro w5 hE5 hO54 _
        rw [hte, ins_rows hi (by rw [List.length_replicate])] at hO54
        replace hS := hS.trans hE5
        refine wl_nil ⟨hS, ?_⟩
        refine wd_done (by kernel_rfl) ?_ _
        replace hX := hX.mine hS (.inr hq40)
        refine W_seq ?_
        refine W_region ?_
        refine wl_val (rn_move (by conv => lhs; whnf)) ?_
        refine wl_val (rn_assign (by conv => lhs; whnf)) ?_
        refine wl_nil ?_
        refine W_ret ?_
        exact ⟨_, resR1 (res1_tmp rfl), hX, ⟨b40, spare40, hq40, hO54⟩⟩
      · exact absurd (of_decide_eq_false hc2) (fun h => h (by simp only [List.length_singleton]; omega))
-- bellman/set.put[bellman/set.Set[string]]
set_option maxHeartbeats 800000 in
theorem put_t (w : World) (i : Nat) (there : Bool) (rows : List (List Value)) {v p q : Value} (hs : Sl Non w v 2 rows) (hi : i ≤ rows.length) (hi2 : there = true → i < rows.length) (hp1 : p.oneCell' = true) (hq1 : q.oneCell' = true) (h1 : ∀ r ∈ rows, ∀ u ∈ r, u.oneCell' = true) (hn : rows.length ≤ 1000000) : Fn Tryz.prog 89 #[v, .int .i64 (i : Nat), .bool there, .agg #[p, q]] w fun u w' => ∃ b spare, w.heap.size ≤ b ∧ Ow w' u b 2 (if there = true then rows.set i [p, q] else rows.take i ++ [p, q] :: rows.drop i) spare := by
  obtain ⟨a, c, rfl, _⟩ := hs.len
  have hbig : rows.length ≤ big := by simp only [big]; omega
  have hX := Ext.refl Non w
  refine fn_of_W (args := [_, _, _, _]) Tryz.func89 rfl (by kernel_rfl) rfl ?_
  refine W_seq ?_
  refine W_region ?_
  refine wl_boxS rfl ?_; intro b7 w1 hb7 hE1 hB7
  have hq7 : w.heap.size ≤ b7 := Nat.le_trans hX.size hb7
  have hl7 : Mine Non w b7 := .inr hq7
  replace hX := hX.tr hE1
  refine wl_val (rn_assign (by conv => lhs; whnf)) ?_
  refine wl_nil ?_
  refine W_seq ?_
  refine W_region ?_
  refine wl_val (rn_move (by conv => lhs; whnf)) ?_
  refine wl_val (rn_len sl_45 rfl) ?_
  refine wl_make sl_45 rfl rfl rfl (by omega) hbig ?_; intro w2 b12 hb12 hE2 hO12
  have hq12 : w.heap.size ≤ b12 := Nat.le_trans hX.size hb12
  have hn7 : b7 < b12 := Nat.lt_of_lt_of_le hB7.lt hb12
  replace hX := hX.tr hE2
  replace hB7 := hB7.ext hE2 id
  refine wl_val (rn_assign (by conv => lhs; whnf)) ?_
  refine wl_nil ?_
  refine W_seq ?_
  refine W_region ?_
  refine wl_val (rn_move (by conv => lhs; whnf)) ?_
  refine wl_val (rn_move (by conv => lhs; whnf)) ?_
  refine wl_copy (l := 0) sl_45 (by rw [Nat.zero_mul]; rfl) rfl hO12 (hs.ext hX (fun _ h => h)) h1 (by rw [List.length_replicate]; omega) ?_; intro w3 hE3 hO15 _
  have hp15 : patchR (List.replicate rows.length [.slice none 0 0, .slice none 0 0]) 0 (rows.take rows.length) = rows := by unfold patchR; simp
  rw [hp15] at hO15
  replace hX := hX.mine hE3 (.inr hq12)
  replace hB7 := hB7.ext hE3 (fun e => by omega)
  refine wl_nil ?_
  refine W_seq ?_
  refine W_seq ?_
  refine W_region ?_
  refine wl_val (rn_move (by conv => lhs; whnf)) ?_
  refine wl_nil ?_
  refine W_cond rfl (fun hc0 => ?_) (fun hc0 => ?_)
  · have hlt := hi2 hc0
    refine W_seq ?_
    refine W_region ?_
    refine wl_val (rn_move (by conv => lhs; whnf)) ?_
    refine wl_val (rn_move (by conv => lhs; whnf)) ?_
    refine wl_val (rn_loadB s_120 rfl rfl hB7) ?_
    refine wl_val (rn_indexAddr sl_45 rfl rfl (by omega)) ?_
    refine wl_storeES s_120 rfl rfl rfl (two1' hp1 hq1) hO15 (by omega) ?_; intro w4 hE4 hO20
    replace hX := hX.mine hE4 (.inr hq12)
    refine wl_nil ?_
    refine W_seq ?_
    refine W_region ?_
    refine wl_val (rn_move (by conv => lhs; whnf)) ?_
    refine wl_val (rn_assign (by conv => lhs; whnf)) ?_
    refine wl_nil ?_
    refine W_ret ?_
    exact ⟨_, resR1 (res1_tmp rfl), hX, ⟨b12, [], hq12, by rw [if_pos hc0]; exact hO20⟩⟩
  · refine W_skip ?_
    refine W_seq ?_
    refine W_region ?_
    refine wl_val (rn_move (by conv => lhs; whnf)) ?_
    refine wl_val (rn_move (by conv => lhs; whnf)) ?_
    refine wl_val (rn_loadB s_120 rfl rfl hB7) ?_
    refine wl_lit1 (r := [p, q]) sl_45 rfl rfl rfl rfl (by decide) ?_; intro v25 w5 b25 hb25 hE5 hO25
    replace hX := hX.tr hE5
    replace hB7 := hB7.ext hE5 id
    replace hO15 := hO15.ext hE5 id
    have hXo := hX
    refine wl_call e_127 rfl (insert_t w5 i rows [p, q] (hO15.sl (M := Non) id) ⟨_, rfl⟩ hi (hO25.sl (M := Non) id) (two1' hp1 hq1) h1 hn) ?_; intro v26 w6 hE6 hR6
    replace hX := hX.tr hE6
    replace hB7 := hB7.ext hE6 id
    replace hO15 := hO15.ext hE6 id
    obtain ⟨b26, spare26, hb26, hO26⟩ := hR6
    refine wl_val (rn_assign (by conv => lhs; whnf)) ?_
    refine wl_nil ?_
    refine W_ret ?_
    exact ⟨_, resR1 (res1_tmp rfl), hX, ⟨b26, spare26, Nat.le_trans hXo.size hb26, by rw [if_neg (by rw [hc0]; simp)]; exact hO26⟩⟩
-- slices.Clone[[]bellman/api.Msg,bellman/api.Msg]
theorem clone_m (w : World) (rows : List (List Value)) {v : Value} (hs : Sl Non w v 3 rows) (h1 : ∀ r ∈ rows, ∀ u ∈ r, u.oneCell' = true) (hn : rows.length ≤ 1000000) : Fn Tryz.prog 60 #[v] w fun u w' => ∃ oo, OwO w' u oo 3 rows ∧ ∀ i, oo = some i → w.heap.size ≤ i := by
  obtain ⟨a, c, rfl, _⟩ := hs.len
  have hX := Ext.refl Non w
  refine fn_of_W (args := [_]) Tryz.func60 rfl (by kernel_rfl) rfl ?_
  refine W_seq ?_
  refine W_region ?_
  refine wl_val (rn_assign (by conv => lhs; whnf)) ?_
  refine wl_nil ?_
  refine W_seq ?_
  refine W_seq ?_
  refine W_region ?_
  refine wl_val (rn_move (by conv => lhs; whnf)) ?_
  refine wl_val (rn_slice_eqnil sl_85 rfl rfl) ?_
  refine wl_nil ?_
  refine W_cond rfl (fun hc0 => ?_) (fun hc0 => ?_)
  · have hr : rows = [] := by obtain ⟨⟨a2, c2, e1, _, _, e4⟩, _⟩ := hs; simp only [Value.slice.injEq] at e1; rcases e4 with e4 | ⟨b, o, e4, _⟩; exact e4; rw [e1.1, e4] at hc0; cases hc0
    refine W_seq ?_
    refine W_region ?_
    refine wl_val (rn_assign (by conv => lhs; whnf)) ?_
    refine wl_nil ?_
    refine W_ret ?_
    exact ⟨_, resR1 (res1_tmp rfl), hX, ⟨none, by rw [hr]; exact OwO.nil, by simp⟩⟩
  · refine W_skip ?_
    refine W_seq ?_
    refine W_region ?_
    refine wl_lit (rows := []) (parts := []) sl_85 rfl (by decide) (by decide) rfl rfl (by simp) (by simp) rfl ?_; intro v5 w1 b5 hb5 hE1 hO5
    have hq5 : w.heap.size ≤ b5 := Nat.le_trans hX.size hb5
    replace hX := hX.tr hE1
    refine wl_val (rn_move (by conv => lhs; whnf)) ?_
    have hXo := hX
    refine wl_app sl_85 rfl rfl rfl (o := some b5) (rows := []) (.inr ⟨b5, [], rfl, hO5⟩) (hs.ext hX (fun _ h => h)) h1 (by simp only [List.length_cons, List.length_nil, List.length_append, List.length_replicate, List.length_take, List.length_drop]; omega) (by simp only [List.length_cons, List.length_nil, List.length_append, List.length_replicate, big]; omega) ?_; intro v7 w2 o7 hE2 hO7 hf7
    replace hX := hX.mineO hE2 (fun i hi => by cases hi; exact .inr hq5)
    refine wl_val (rn_assign (by conv => lhs; whnf)) ?_
    refine wl_nil ?_
    refine W_ret ?_
    exact ⟨_, resR1 (res1_tmp rfl), hX, ⟨o7, by rw [List.nil_append] at hO7; exact hO7, fun i hi => by rcases hf7 i hi with h | h; cases h; exact hq5; exact Nat.le_trans hXo.size h⟩⟩
end Go.Proofs.YtaddeakfojpdoaaGreatDoorC

/- The model's maps: putting, getting. -/
set_option linter.unusedVariables false
set_option linter.unusedSimpArgs false
set_option maxRecDepth 100000
namespace Go.Proofs.YtaddeakfojpdoaaGreatDoorC
open Go.RowKit
-- (bellman/set.Map[int, bellman/model.box]).Put
set_option maxHeartbeats 800000 in
theorem mput_ib (w : World) (ks : List Int) (vs : List (List Value)) {v1 v2 : Value} (x : Int) (hm : MapR Non w eI1 2 v1 v2 ks vs) (hord : Sorted ltI ks) (hn : ks.length ≤ 1000000) (hv1 : ∀ r ∈ vs, ∀ u ∈ r, u.oneCell' = true) (p q : Value) (hp1 : p.oneCell' = true) (hq1 : q.oneCell' = true) : Fn Tryz.prog 61 #[.agg #[v1, v2], .int .i64 x, .agg #[p, q]] w fun u w' => ∃ u1 u2, u = .agg #[u1, u2] ∧ MapR (Old w) w' eI1 2 u1 u2 (putK ltI ks x) (putV ltI ks x vs [p, q]) := by
  obtain ⟨q1, n1, c1, rfl⟩ := hm.keys.shape; obtain ⟨q2, n2, c2, rfl⟩ := hm.vals.shape
  have hlb := lb_le (lt := ltI) ks x
  have hlen := hm.len
  have hX := Ext.refl Non w
  refine fn_of_W (args := [_, _, _]) Tryz.func61 rfl (by kernel_rfl) rfl ?_
  refine W_seq ?_
  refine W_region ?_
  refine wl_boxS rfl ?_; intro b3 w1 hb3 hE1 hB3
  have hq3 : w.heap.size ≤ b3 := Nat.le_trans hX.size hb3
  have hl3 : Mine Non w b3 := .inr hq3
  replace hX := hX.tr hE1
  refine wl_boxS rfl ?_; intro b5 w2 hb5 hE2 hB5
  have hn3_5 : b3 < b5 := Nat.lt_of_lt_of_le hB3.lt hb5
  have hq5 : w.heap.size ≤ b5 := Nat.le_trans hX.size hb5
  have hl5 : Mine Non w b5 := .inr hq5
  replace hX := hX.tr hE2
  replace hB3 := hB3.ext hE2 id
  refine wl_alloc z_52 ?_; intro b6 w3 hb6 hE3 hB6
  have hn3_6 : b3 < b6 := Nat.lt_of_lt_of_le hB3.lt hb6
  have hn5_6 : b5 < b6 := Nat.lt_of_lt_of_le hB5.lt hb6
  have hq6 : w.heap.size ≤ b6 := Nat.le_trans hX.size hb6
  have hl6 : Mine Non w b6 := .inr hq6
  replace hX := hX.tr hE3
  replace hB3 := hB3.ext hE3 id; replace hB5 := hB5.ext hE3 id
  refine wl_nil ?_
  refine W_seq ?_
  refine W_region ?_
  refine wl_val (rn_fieldAddr f_52_0 (by decide) rfl) ?_
  refine wl_val (rn_load1 p_23 rfl hB3 rfl) ?_
  refine wl_val (rn_move (by conv => lhs; whnf)) ?_
  refine wl_call e_87 rfl (bs_i w3 ks x (hm.keys.ext hX (fun _ h => h)) hord hn) ?_; intro v13 w4 hE4 hR4
  replace hX := hX.tr hE4
  replace hB3 := hB3.ext hE4 id; replace hB5 := hB5.ext hE4 id; replace hB6 := hB6.ext hE4 id
  subst hR4
  refine wl_val (rn_move (by conv => lhs; whnf)) ?_
  refine wl_val (rn_extract rfl rfl) ?_
  refine wl_val (rn_extract rfl rfl) ?_
  refine wl_val (rn_assign (by conv => lhs; whnf)) ?_
  refine wl_val (rn_assign (by conv => lhs; whnf)) ?_
  refine wl_nil ?_
  refine W_seq ?_
  refine W_drawF (fun i => i = b6) mixed ?_; intro w5 hE5
  replace hX := hX.tr hE5
  replace hB3 := hB3.ext hE5 id; replace hB5 := hB5.ext hE5 id; replace hB6 := hB6.ext hE5 id
  have hS := Ext.refl (fun i => i = b6) w5
  have hzd6 := hB6.lt
  refine wd_take 0 _ _ rfl (by kernel_rfl) hS (yd_do fun A hA => rn_fieldAddr f_52_0 (by decide) rfl) ?_
  refine wd_take 1 _ _ rfl (by kernel_rfl) hS (yd_do fun A hA => rn_load1 p_23 rfl (hB3.ext hA (fun e => by omega)) rfl) ?_
  refine wd_take 2 _ _ rfl (by kernel_rfl) hS (yd_do fun A hA => rn_move (by conv => lhs; whnf)) ?_
  refine wd_take 3 _ _ rfl (by kernel_rfl) hS (yd_do fun A hA => rn_move (by conv => lhs; whnf)) ?_
  refine wd_take 4 _ _ rfl (by kernel_rfl) hS (yd_do fun A hA => rn_move (by conv => lhs; whnf)) ?_
  refine wd_take 6 _ _ rfl (by kernel_rfl) hS (yd_do fun A hA => rn_fieldAddr f_52_1 (by decide) rfl) ?_
  refine wd_take 7 _ _ rfl (by kernel_rfl) hS (yd_do fun A hA => rn_load1 p_50 rfl (hB3.ext hA (fun e => by omega)) rfl) ?_
  refine wd_take 8 _ _ rfl (by kernel_rfl) hS (yd_do fun A hA => rn_move (by conv => lhs; whnf)) ?_
  refine wd_take 9 _ _ rfl (by kernel_rfl) hS (yd_do fun A hA => rn_move (by conv => lhs; whnf)) ?_
  refine wd_take 10 _ _ rfl (by kernel_rfl) hS (yd_do fun A hA => rn_loadB s_87 rfl rfl (hB5.ext hA (fun e => by omega))) ?_
  refine wd_only 5 _ rfl (by kernel_rfl) ?_
  refine s1_do ?_
  refine wl_call e_88 rfl (put_i w5 (lb ltI ks x) (isAt ltI ks x) (ks.map eI1) (hm.keys.ext (hX.mine hS (.inr hq6)) (fun _ h => h)) (by rw [List.length_map]; exact hlb) (fun h => by rw [List.length_map]; exact isAt_lt h) rfl rfl (eI_one ks) (by rw [List.length_map]; exact hn)) ?_; intro v21 w6 hE6 hR6
  replace hB6 := hB6.ext hE6 id
  replace hS := hS.tr hE6
  obtain ⟨p21, s21, hp21, hO21⟩ := hR6
  obtain ⟨a21, l21, c21, rfl⟩ := id hO21.shape
  have hz6 := hB6.lt; have hzs := hS.size; have hzx := hX.size
  refine wl_nil ⟨hS, ?_⟩
  refine wd_only 11 _ rfl (by kernel_rfl) ?_
  refine s1_do ?_
  refine wl_call e_97 rfl (put_b w6 (lb ltI ks x) (isAt ltI ks x) vs (hm.vals.ext (hX.mine hS (.inr hq6)) (fun _ h => h)) (by rw [hlen]; exact hlb) (fun h => by rw [hlen]; exact isAt_lt h) hp1 hq1 hv1 (by rw [hlen]; exact hn)) ?_; intro v27 w7 hE7 hR7
  replace hB6 := hB6.ext hE7 id
  replace hS := hS.tr hE7
  replace hO21 := hO21.ext hE7 id
  obtain ⟨p27, s27, hp27, hO27⟩ := hR7
  obtain ⟨a27, l27, c27, rfl⟩ := id hO27.shape
  have hzs2 := hS.size
  refine wl_nil ⟨hS, ?_⟩
  refine wd_take 12 _ _ rfl (by kernel_rfl) hS (yd_do fun A hA => rn_build' b_52 rfl rfl (cs := [.slice a21 l21 c21, .slice a27 l27 c27]) rfl) ?_
  refine wd_only 13 _ rfl (by kernel_rfl) ?_
  refine s1_do ?_
  refine wl_storeB s_52 rfl rfl rfl (two1 rfl rfl) hB6 rfl ?_; intro w8 hE8 hB6 hz8
  replace hS := hS.mine hE8 (by first | exact .inl rfl | exact .inl (.inl rfl) | exact .inl (.inr rfl) | exact .inl (.inr (.inr rfl)) | exact .inl (.inr (.inl rfl)) | exact .inl (.inl (.inl rfl)) | exact .inl (.inl (.inr rfl)))
  replace hO21 := hO21.ext hE8 (fun e => by omega)
  replace hO27 := hO27.ext hE8 (fun e => by omega)
  refine wl_nil ⟨hS, ?_⟩
  refine wd_done (by kernel_rfl) ?_ _
  replace hX := hX.mine hS (.inr hq6)
  refine W_ret ?_
  exact ⟨_, resR1 (res1_box s_52 rfl hB6 rfl), hX, ⟨_, _, rfl, ⟨by rw [← putK_map]; exact hO21.sl (fun h => by unfold Old at h; omega), hO27.sl (fun h => by unfold Old at h; omega), putV_len hm.len⟩⟩⟩
-- (bellman/set.Map[int, bellman/model.box]).Get
theorem mget_ib (w : World) (ks : List Int) (vs : List (List Value)) {v1 v2 : Value} (x : Int) (hm : MapR Non w eI1 2 v1 v2 ks vs) (hord : Sorted ltI ks) (hn : ks.length ≤ 1000000) (hv1 : ∀ r ∈ vs, ∀ u ∈ r, u.oneCell' = true) : Fn Tryz.prog 63 #[.agg #[v1, v2], .int .i64 x] w fun u w' => ∃ p q : Value, u = .tuple #[.agg #[p, q], .bool (isAt ltI ks x)] ∧ (isAt ltI ks x = true → vs[lb ltI ks x]? = some [p, q]) ∧ (isAt ltI ks x = false → p = .slice none 0 0 ∧ q = .int .i64 0) := by
  obtain ⟨q1, n1, c1, rfl⟩ := hm.keys.shape; obtain ⟨q2, c2, rfl, _⟩ := hm.vals.len
  have hlb := lb_le (lt := ltI) ks x
  have hlen := hm.len
  have hX := Ext.refl Non w
  refine fn_of_W (args := [_, _]) Tryz.func63 rfl (by kernel_rfl) rfl ?_
  refine W_seq ?_
  refine W_region ?_
  refine wl_boxS rfl ?_; intro b2 w1 hb2 hE1 hB2
  have hq2 : w.heap.size ≤ b2 := Nat.le_trans hX.size hb2
  have hl2 : Mine Non w b2 := .inr hq2
  replace hX := hX.tr hE1
  refine wl_alloc z_87 ?_; intro b4 w2 hb4 hE2 hB4
  have hn2_4 : b2 < b4 := Nat.lt_of_lt_of_le hB2.lt hb4
  have hq4 : w.heap.size ≤ b4 := Nat.le_trans hX.size hb4
  have hl4 : Mine Non w b4 := .inr hq4
  replace hX := hX.tr hE2
  replace hB2 := hB2.ext hE2 id
  refine wl_val (rn_assign (by conv => lhs; whnf)) ?_
  refine wl_nil ?_
  refine W_seq ?_
  refine W_region ?_
  refine wl_val (rn_fieldAddr f_52_0 (by decide) rfl) ?_
  refine wl_val (rn_load1 p_23 rfl hB2 rfl) ?_
  refine wl_val (rn_move (by conv => lhs; whnf)) ?_
  refine wl_call e_87 rfl (bs_i w2 ks x (hm.keys.ext hX (fun _ h => h)) hord hn) ?_; intro v13 w3 hE3 hR3
  replace hX := hX.tr hE3
  replace hB2 := hB2.ext hE3 id; replace hB4 := hB4.ext hE3 id
  subst hR3
  refine wl_val (rn_move (by conv => lhs; whnf)) ?_
  refine wl_val (rn_extract rfl rfl) ?_
  refine wl_val (rn_extract rfl rfl) ?_
  refine wl_val (rn_assign (by conv => lhs; whnf)) ?_
  refine wl_val (rn_assign (by conv => lhs; whnf)) ?_
  refine wl_nil ?_
  refine W_seq ?_
  refine W_seq ?_
  refine W_region ?_
  refine wl_val (rn_move (by conv => lhs; whnf)) ?_
  refine wl_val (rn_not rfl) ?_
  refine wl_nil ?_
  refine W_cond rfl (fun hc0 => ?_) (fun hc0 => ?_)
  · have hat : isAt ltI ks x = false := by simpa using hc0
    refine W_seq ?_
    refine W_region ?_
    refine wl_alloc z_87 ?_; intro b8 w4 hb8 hE4 hB8
    have hn2_8 : b2 < b8 := Nat.lt_of_lt_of_le hB2.lt hb8
    have hn4_8 : b4 < b8 := Nat.lt_of_lt_of_le hB4.lt hb8
    have hq8 : w.heap.size ≤ b8 := Nat.le_trans hX.size hb8
    have hl8 : Mine Non w b8 := .inr hq8
    replace hX := hX.tr hE4
    replace hB2 := hB2.ext hE4 id; replace hB4 := hB4.ext hE4 id
    refine wl_nil ?_
    refine W_seq ?_
    refine W_region ?_
    refine wl_val (rn_loadB s_87 rfl rfl hB8) ?_
    refine wl_storeB s_87 rfl rfl rfl (by first | exact two1 hz1 hz2 | exact two1 rfl rfl) hB4 rfl ?_; intro w5 hE5 hB4 hz5
    replace hX := hX.mine hE5 hl4
    replace hB2 := hB2.ext hE5 (fun h => by omega); replace hB8 := hB8.ext hE5 (fun h => by omega)
    refine wl_val (rn_assign (by conv => lhs; whnf)) ?_
    refine wl_nil ?_
    refine W_ret ?_
    exact ⟨_, resR2 (res1_box s_87 rfl hB4 rfl) (res1_tmp rfl), hX, ⟨_, _, by rw [hat]; rfl, fun h => by rw [hat] at h; (cases h), fun _ => ⟨rfl, rfl⟩⟩⟩
  · have hat : isAt ltI ks x = true := by simpa using hc0
    obtain ⟨r, hr⟩ : ∃ r, vs[lb ltI ks x]? = some r := ⟨_, List.getElem?_eq_getElem (by rw [hlen]; exact isAt_lt hat)⟩
    obtain ⟨p, q, rfl⟩ : ∃ p q, r = [p, q] := by have := hm.vals.each r (List.mem_of_getElem? hr); match r, this with | [p, q], _ => exact ⟨p, q, rfl⟩
    have hz1 := hv1 _ (List.mem_of_getElem? hr) p (by simp); have hz2 := hv1 _ (List.mem_of_getElem? hr) q (by simp)
    obtain ⟨b2v, o2v, ea⟩ := hm.vals.base (by intro e; have := congrArg List.length e; rw [hlen] at this; have h2 := isAt_lt hat; simp only [List.length_nil] at this; omega); subst ea
    refine W_skip ?_
    refine W_seq ?_
    refine W_region ?_
    refine wl_val (rn_fieldAddr f_52_1 (by decide) rfl) ?_
    refine wl_val (rn_load1 p_50 rfl hB2 rfl) ?_
    refine wl_val (rn_move (by conv => lhs; whnf)) ?_
    refine wl_val (rn_indexAddr sl_50 rfl rfl (by rw [hlen]; have := isAt_lt hat; omega)) ?_
    refine wl_val (rn_loadS s_87 rfl rfl ((hm.vals.ext hX (fun _ h => h)).all0 hr)) ?_
    refine wl_storeB s_87 rfl rfl rfl (by first | exact two1 hz1 hz2 | exact two1 rfl rfl) hB4 rfl ?_; intro w6 hE6 hB4 hz6
    replace hX := hX.mine hE6 hl4
    replace hB2 := hB2.ext hE6 (fun h => by omega)
    refine wl_val (rn_assign (by conv => lhs; whnf)) ?_
    refine wl_nil ?_
    refine W_ret ?_
    exact ⟨_, resR2 (res1_box s_87 rfl hB4 rfl) (res1_tmp rfl), hX, ⟨p, q, by rw [hat]; rfl, fun _ => hr, fun h => by rw [hat] at h; (cases h)⟩⟩
-- (bellman/set.Map[int, bellman/set.Set[string]]).Put
set_option maxHeartbeats 800000 in
theorem mput_it (w : World) (ks : List Int) (vs : List (List Value)) {v1 v2 : Value} (x : Int) (hm : MapR Non w eI1 2 v1 v2 ks vs) (hord : Sorted ltI ks) (hn : ks.length ≤ 1000000) (hv1 : ∀ r ∈ vs, ∀ u ∈ r, u.oneCell' = true) (p q : Value) (hp1 : p.oneCell' = true) (hq1 : q.oneCell' = true) : Fn Tryz.prog 55 #[.agg #[v1, v2], .int .i64 x, .agg #[p, q]] w fun u w' => ∃ u1 u2, u = .agg #[u1, u2] ∧ MapR (Old w) w' eI1 2 u1 u2 (putK ltI ks x) (putV ltI ks x vs [p, q]) := by
  obtain ⟨q1, n1, c1, rfl⟩ := hm.keys.shape; obtain ⟨q2, n2, c2, rfl⟩ := hm.vals.shape
  have hlb := lb_le (lt := ltI) ks x
  have hlen := hm.len
  have hX := Ext.refl Non w
  refine fn_of_W (args := [_, _, _]) Tryz.func55 rfl (by kernel_rfl) rfl ?_
  refine W_seq ?_
  refine W_region ?_
  refine wl_boxS rfl ?_; intro b3 w1 hb3 hE1 hB3
  have hq3 : w.heap.size ≤ b3 := Nat.le_trans hX.size hb3
  have hl3 : Mine Non w b3 := .inr hq3
  replace hX := hX.tr hE1
  refine wl_boxS rfl ?_; intro b5 w2 hb5 hE2 hB5
  have hn3_5 : b3 < b5 := Nat.lt_of_lt_of_le hB3.lt hb5
  have hq5 : w.heap.size ≤ b5 := Nat.le_trans hX.size hb5
  have hl5 : Mine Non w b5 := .inr hq5
  replace hX := hX.tr hE2
  replace hB3 := hB3.ext hE2 id
  refine wl_alloc z_47 ?_; intro b6 w3 hb6 hE3 hB6
  have hn3_6 : b3 < b6 := Nat.lt_of_lt_of_le hB3.lt hb6
  have hn5_6 : b5 < b6 := Nat.lt_of_lt_of_le hB5.lt hb6
  have hq6 : w.heap.size ≤ b6 := Nat.le_trans hX.size hb6
  have hl6 : Mine Non w b6 := .inr hq6
  replace hX := hX.tr hE3
  replace hB3 := hB3.ext hE3 id; replace hB5 := hB5.ext hE3 id
  refine wl_nil ?_
  refine W_seq ?_
  refine W_region ?_
  refine wl_val (rn_fieldAddr f_47_0 (by decide) rfl) ?_
  refine wl_val (rn_load1 p_23 rfl hB3 rfl) ?_
  refine wl_val (rn_move (by conv => lhs; whnf)) ?_
  refine wl_call e_87 rfl (bs_i w3 ks x (hm.keys.ext hX (fun _ h => h)) hord hn) ?_; intro v13 w4 hE4 hR4
  replace hX := hX.tr hE4
  replace hB3 := hB3.ext hE4 id; replace hB5 := hB5.ext hE4 id; replace hB6 := hB6.ext hE4 id
  subst hR4
  refine wl_val (rn_move (by conv => lhs; whnf)) ?_
  refine wl_val (rn_extract rfl rfl) ?_
  refine wl_val (rn_extract rfl rfl) ?_
  refine wl_val (rn_assign (by conv => lhs; whnf)) ?_
  refine wl_val (rn_assign (by conv => lhs; whnf)) ?_
  refine wl_nil ?_
  refine W_seq ?_
  refine W_drawF (fun i => i = b6) mixed ?_; intro w5 hE5
  replace hX := hX.tr hE5
  replace hB3 := hB3.ext hE5 id; replace hB5 := hB5.ext hE5 id; replace hB6 := hB6.ext hE5 id
  have hS := Ext.refl (fun i => i = b6) w5
  have hzd6 := hB6.lt
  refine wd_take 0 _ _ rfl (by kernel_rfl) hS (yd_do fun A hA => rn_fieldAddr f_47_0 (by decide) rfl) ?_
  refine wd_take 1 _ _ rfl (by kernel_rfl) hS (yd_do fun A hA => rn_load1 p_23 rfl (hB3.ext hA (fun e => by omega)) rfl) ?_
  refine wd_take 2 _ _ rfl (by kernel_rfl) hS (yd_do fun A hA => rn_move (by conv => lhs; whnf)) ?_
  refine wd_take 3 _ _ rfl (by kernel_rfl) hS (yd_do fun A hA => rn_move (by conv => lhs; whnf)) ?_
  refine wd_take 4 _ _ rfl (by kernel_rfl) hS (yd_do fun A hA => rn_move (by conv => lhs; whnf)) ?_
  refine wd_take 6 _ _ rfl (by kernel_rfl) hS (yd_do fun A hA => rn_fieldAddr f_47_1 (by decide) rfl) ?_
  refine wd_take 7 _ _ rfl (by kernel_rfl) hS (yd_do fun A hA => rn_load1 p_45 rfl (hB3.ext hA (fun e => by omega)) rfl) ?_
  refine wd_take 8 _ _ rfl (by kernel_rfl) hS (yd_do fun A hA => rn_move (by conv => lhs; whnf)) ?_
  refine wd_take 9 _ _ rfl (by kernel_rfl) hS (yd_do fun A hA => rn_move (by conv => lhs; whnf)) ?_
  refine wd_take 10 _ _ rfl (by kernel_rfl) hS (yd_do fun A hA => rn_loadB s_120 rfl rfl (hB5.ext hA (fun e => by omega))) ?_
  refine wd_only 5 _ rfl (by kernel_rfl) ?_
  refine s1_do ?_
  refine wl_call e_88 rfl (put_i w5 (lb ltI ks x) (isAt ltI ks x) (ks.map eI1) (hm.keys.ext (hX.mine hS (.inr hq6)) (fun _ h => h)) (by rw [List.length_map]; exact hlb) (fun h => by rw [List.length_map]; exact isAt_lt h) rfl rfl (eI_one ks) (by rw [List.length_map]; exact hn)) ?_; intro v21 w6 hE6 hR6
  replace hB6 := hB6.ext hE6 id
  replace hS := hS.tr hE6
  obtain ⟨p21, s21, hp21, hO21⟩ := hR6
  obtain ⟨a21, l21, c21, rfl⟩ := id hO21.shape
  have hz6 := hB6.lt; have hzs := hS.size; have hzx := hX.size
  refine wl_nil ⟨hS, ?_⟩
  refine wd_only 11 _ rfl (by kernel_rfl) ?_
  refine s1_do ?_
  refine wl_call e_89 rfl (put_t w6 (lb ltI ks x) (isAt ltI ks x) vs (hm.vals.ext (hX.mine hS (.inr hq6)) (fun _ h => h)) (by rw [hlen]; exact hlb) (fun h => by rw [hlen]; exact isAt_lt h) hp1 hq1 hv1 (by rw [hlen]; exact hn)) ?_; intro v27 w7 hE7 hR7
  replace hB6 := hB6.ext hE7 id
  replace hS := hS.tr hE7
  replace hO21 := hO21.ext hE7 id
  obtain ⟨p27, s27, hp27, hO27⟩ := hR7
  obtain ⟨a27, l27, c27, rfl⟩ := id hO27.shape
  have hzs2 := hS.size
  refine wl_nil ⟨hS, ?_⟩
  refine wd_take 12 _ _ rfl (by kernel_rfl) hS (yd_do fun A hA => rn_build' b_47 rfl rfl (cs := [.slice a21 l21 c21, .slice a27 l27 c27]) rfl) ?_
  refine wd_only 13 _ rfl (by kernel_rfl) ?_
  refine s1_do ?_
  refine wl_storeB s_47 rfl rfl rfl (two1 rfl rfl) hB6 rfl ?_; intro w8 hE8 hB6 hz8
  replace hS := hS.mine hE8 (by first | exact .inl rfl | exact .inl (.inl rfl) | exact .inl (.inr rfl) | exact .inl (.inr (.inr rfl)) | exact .inl (.inr (.inl rfl)) | exact .inl (.inl (.inl rfl)) | exact .inl (.inl (.inr rfl)))
  replace hO21 := hO21.ext hE8 (fun e => by omega)
  replace hO27 := hO27.ext hE8 (fun e => by omega)
  refine wl_nil ⟨hS, ?_⟩
  refine wd_done (by kernel_rfl) ?_ _
  replace hX := hX.mine hS (.inr hq6)
  refine W_ret ?_
  exact ⟨_, resR1 (res1_box s_47 rfl hB6 rfl), hX, ⟨_, _, rfl, ⟨by rw [← putK_map]; exact hO21.sl (fun h => by unfold Old at h; omega), hO27.sl (fun h => by unfold Old at h; omega), putV_len hm.len⟩⟩⟩
-- (bellman/set.Map[int, bellman/set.Set[string]]).Get
theorem mget_it (w : World) (ks : List Int) (vs : List (List Value)) {v1 v2 : Value} (x : Int) (hm : MapR Non w eI1 2 v1 v2 ks vs) (hord : Sorted ltI ks) (hn : ks.length ≤ 1000000) (hv1 : ∀ r ∈ vs, ∀ u ∈ r, u.oneCell' = true) : Fn Tryz.prog 90 #[.agg #[v1, v2], .int .i64 x] w fun u w' => ∃ p q : Value, u = .tuple #[.agg #[p, q], .bool (isAt ltI ks x)] ∧ (isAt ltI ks x = true → vs[lb ltI ks x]? = some [p, q]) ∧ (isAt ltI ks x = false → p = .slice none 0 0 ∧ q = .slice none 0 0) := by
  obtain ⟨q1, n1, c1, rfl⟩ := hm.keys.shape; obtain ⟨q2, c2, rfl, _⟩ := hm.vals.len
  have hlb := lb_le (lt := ltI) ks x
  have hlen := hm.len
  have hX := Ext.refl Non w
  refine fn_of_W (args := [_, _]) Tryz.func90 rfl (by kernel_rfl) rfl ?_
  refine W_seq ?_
  refine W_region ?_
  refine wl_boxS rfl ?_; intro b2 w1 hb2 hE1 hB2
  have hq2 : w.heap.size ≤ b2 := Nat.le_trans hX.size hb2
  have hl2 : Mine Non w b2 := .inr hq2
  replace hX := hX.tr hE1
  refine wl_alloc z_120 ?_; intro b4 w2 hb4 hE2 hB4
  have hn2_4 : b2 < b4 := Nat.lt_of_lt_of_le hB2.lt hb4
  have hq4 : w.heap.size ≤ b4 := Nat.le_trans hX.size hb4
  have hl4 : Mine Non w b4 := .inr hq4
  replace hX := hX.tr hE2
  replace hB2 := hB2.ext hE2 id
  refine wl_val (rn_assign (by conv => lhs; whnf)) ?_
  refine wl_nil ?_
  refine W_seq ?_
  refine W_region ?_
  refine wl_val (rn_fieldAddr f_47_0 (by decide) rfl) ?_
  refine wl_val (rn_load1 p_23 rfl hB2 rfl) ?_
  refine wl_val (rn_move (by conv => lhs; whnf)) ?_
  refine wl_call e_87 rfl (bs_i w2 ks x (hm.keys.ext hX (fun _ h => h)) hord hn) ?_; intro v13 w3 hE3 hR3
  replace hX := hX.tr hE3
  replace hB2 := hB2.ext hE3 id; replace hB4 := hB4.ext hE3 id
  subst hR3
  refine wl_val (rn_move (by conv => lhs; whnf)) ?_
  refine wl_val (rn_extract rfl rfl) ?_
  refine wl_val (rn_extract rfl rfl) ?_
  refine wl_val (rn_assign (by conv => lhs; whnf)) ?_
  refine wl_val (rn_assign (by conv => lhs; whnf)) ?_
  refine wl_nil ?_
  refine W_seq ?_
  refine W_seq ?_
  refine W_region ?_
  refine wl_val (rn_move (by conv => lhs; whnf)) ?_
  refine wl_val (rn_not rfl) ?_
  refine wl_nil ?_
  refine W_cond rfl (fun hc0 => ?_) (fun hc0 => ?_)
  · have hat : isAt ltI ks x = false := by simpa using hc0
    refine W_seq ?_
    refine W_region ?_
    refine wl_alloc z_120 ?_; intro b8 w4 hb8 hE4 hB8
    have hn2_8 : b2 < b8 := Nat.lt_of_lt_of_le hB2.lt hb8
    have hn4_8 : b4 < b8 := Nat.lt_of_lt_of_le hB4.lt hb8
    have hq8 : w.heap.size ≤ b8 := Nat.le_trans hX.size hb8
    have hl8 : Mine Non w b8 := .inr hq8
    replace hX := hX.tr hE4
    replace hB2 := hB2.ext hE4 id; replace hB4 := hB4.ext hE4 id
    refine wl_nil ?_
    refine W_seq ?_
    refine W_region ?_
    refine wl_val (rn_loadB s_120 rfl rfl hB8) ?_
    refine wl_storeB s_120 rfl rfl rfl (by first | exact two1 hz1 hz2 | exact two1 rfl rfl) hB4 rfl ?_; intro w5 hE5 hB4 hz5
    replace hX := hX.mine hE5 hl4
    replace hB2 := hB2.ext hE5 (fun h => by omega); replace hB8 := hB8.ext hE5 (fun h => by omega)
    refine wl_val (rn_assign (by conv => lhs; whnf)) ?_
    refine wl_nil ?_
    refine W_ret ?_
    exact ⟨_, resR2 (res1_box s_120 rfl hB4 rfl) (res1_tmp rfl), hX, ⟨_, _, by rw [hat]; rfl, fun h => by rw [hat] at h; (cases h), fun _ => ⟨rfl, rfl⟩⟩⟩
  · have hat : isAt ltI ks x = true := by simpa using hc0
    obtain ⟨r, hr⟩ : ∃ r, vs[lb ltI ks x]? = some r := ⟨_, List.getElem?_eq_getElem (by rw [hlen]; exact isAt_lt hat)⟩
    obtain ⟨p, q, rfl⟩ : ∃ p q, r = [p, q] := by have := hm.vals.each r (List.mem_of_getElem? hr); match r, this with | [p, q], _ => exact ⟨p, q, rfl⟩
    have hz1 := hv1 _ (List.mem_of_getElem? hr) p (by simp); have hz2 := hv1 _ (List.mem_of_getElem? hr) q (by simp)
    obtain ⟨b2v, o2v, ea⟩ := hm.vals.base (by intro e; have := congrArg List.length e; rw [hlen] at this; have h2 := isAt_lt hat; simp only [List.length_nil] at this; omega); subst ea
    refine W_skip ?_
    refine W_seq ?_
    refine W_region ?_
    refine wl_val (rn_fieldAddr f_47_1 (by decide) rfl) ?_
    refine wl_val (rn_load1 p_45 rfl hB2 rfl) ?_
    refine wl_val (rn_move (by conv => lhs; whnf)) ?_
    refine wl_val (rn_indexAddr sl_45 rfl rfl (by rw [hlen]; have := isAt_lt hat; omega)) ?_
    refine wl_val (rn_loadS s_120 rfl rfl ((hm.vals.ext hX (fun _ h => h)).all0 hr)) ?_
    refine wl_storeB s_120 rfl rfl rfl (by first | exact two1 hz1 hz2 | exact two1 rfl rfl) hB4 rfl ?_; intro w6 hE6 hB4 hz6
    replace hX := hX.mine hE6 hl4
    replace hB2 := hB2.ext hE6 (fun h => by omega)
    refine wl_val (rn_assign (by conv => lhs; whnf)) ?_
    refine wl_nil ?_
    refine W_ret ?_
    exact ⟨_, resR2 (res1_box s_120 rfl hB4 rfl) (res1_tmp rfl), hX, ⟨p, q, by rw [hat]; rfl, fun _ => hr, fun h => by rw [hat] at h; (cases h)⟩⟩
-- (bellman/set.Map[string, struct{}]).Put
set_option maxHeartbeats 800000 in
theorem mput_su (w : World) (ks : List Str) (vs : List (List Value)) {v1 v2 : Value} (x : Str) (hm : MapR Non w eS1 0 v1 v2 ks vs) (hord : Sorted ltS ks) (hn : ks.length ≤ 1000000) (hv1 : ∀ r ∈ vs, ∀ u ∈ r, u.oneCell' = true)  : Fn Tryz.prog 117 #[.agg #[v1, v2], Sv x, .agg #[]] w fun u w' => ∃ u1 u2, u = .agg #[u1, u2] ∧ MapR (Old w) w' eS1 0 u1 u2 (putK ltS ks x) (putV ltS ks x vs []) := by
  obtain ⟨q1, n1, c1, rfl⟩ := hm.keys.shape; obtain ⟨q2, n2, c2, rfl⟩ := hm.vals.shape
  have hlb := lb_le (lt := ltS) ks x
  have hlen := hm.len
  have hX := Ext.refl Non w
  refine fn_of_W (args := [_, _, _]) Tryz.func117 rfl (by kernel_rfl) rfl ?_
  refine W_seq ?_
  refine W_region ?_
  refine wl_boxS rfl ?_; intro b3 w1 hb3 hE1 hB3
  have hq3 : w.heap.size ≤ b3 := Nat.le_trans hX.size hb3
  have hl3 : Mine Non w b3 := .inr hq3
  replace hX := hX.tr hE1
  refine wl_boxS rfl ?_; intro b5 w2 hb5 hE2 hB5
  have hn3_5 : b3 < b5 := Nat.lt_of_lt_of_le hB3.lt hb5
  have hq5 : w.heap.size ≤ b5 := Nat.le_trans hX.size hb5
  have hl5 : Mine Non w b5 := .inr hq5
  replace hX := hX.tr hE2
  replace hB3 := hB3.ext hE2 id
  refine wl_alloc z_118 ?_; intro b6 w3 hb6 hE3 hB6
  have hn3_6 : b3 < b6 := Nat.lt_of_lt_of_le hB3.lt hb6
  have hn5_6 : b5 < b6 := Nat.lt_of_lt_of_le hB5.lt hb6
  have hq6 : w.heap.size ≤ b6 := Nat.le_trans hX.size hb6
  have hl6 : Mine Non w b6 := .inr hq6
  replace hX := hX.tr hE3
  replace hB3 := hB3.ext hE3 id; replace hB5 := hB5.ext hE3 id
  refine wl_nil ?_
  refine W_seq ?_
  refine W_region ?_
  refine wl_val (rn_fieldAddr f_118_0 (by decide) rfl) ?_
  refine wl_val (rn_load1 p_22 rfl hB3 rfl) ?_
  refine wl_val (rn_move (by conv => lhs; whnf)) ?_
  refine wl_call e_108 rfl (bs_s w3 ks x (hm.keys.ext hX (fun _ h => h)) hord hn) ?_; intro v13 w4 hE4 hR4
  replace hX := hX.tr hE4
  replace hB3 := hB3.ext hE4 id; replace hB5 := hB5.ext hE4 id; replace hB6 := hB6.ext hE4 id
  subst hR4
  refine wl_val (rn_move (by conv => lhs; whnf)) ?_
  refine wl_val (rn_extract rfl rfl) ?_
  refine wl_val (rn_extract rfl rfl) ?_
  refine wl_val (rn_assign (by conv => lhs; whnf)) ?_
  refine wl_val (rn_assign (by conv => lhs; whnf)) ?_
  refine wl_nil ?_
  refine W_seq ?_
  refine W_drawF (fun i => i = b6) mixed ?_; intro w5 hE5
  replace hX := hX.tr hE5
  replace hB3 := hB3.ext hE5 id; replace hB5 := hB5.ext hE5 id; replace hB6 := hB6.ext hE5 id
  have hS := Ext.refl (fun i => i = b6) w5
  have hzd6 := hB6.lt
  refine wd_take 0 _ _ rfl (by kernel_rfl) hS (yd_do fun A hA => rn_fieldAddr f_118_0 (by decide) rfl) ?_
  refine wd_take 1 _ _ rfl (by kernel_rfl) hS (yd_do fun A hA => rn_load1 p_22 rfl (hB3.ext hA (fun e => by omega)) rfl) ?_
  refine wd_take 2 _ _ rfl (by kernel_rfl) hS (yd_do fun A hA => rn_move (by conv => lhs; whnf)) ?_
  refine wd_take 3 _ _ rfl (by kernel_rfl) hS (yd_do fun A hA => rn_move (by conv => lhs; whnf)) ?_
  refine wd_take 4 _ _ rfl (by kernel_rfl) hS (yd_do fun A hA => rn_move (by conv => lhs; whnf)) ?_
  refine wd_take 6 _ _ rfl (by kernel_rfl) hS (yd_do fun A hA => rn_fieldAddr f_118_1 (by decide) rfl) ?_
  refine wd_take 7 _ _ rfl (by kernel_rfl) hS (yd_do fun A hA => rn_load1 p_94 rfl (hB3.ext hA (fun e => by omega)) rfl) ?_
  refine wd_take 8 _ _ rfl (by kernel_rfl) hS (yd_do fun A hA => rn_move (by conv => lhs; whnf)) ?_
  refine wd_take 9 _ _ rfl (by kernel_rfl) hS (yd_do fun A hA => rn_move (by conv => lhs; whnf)) ?_
  refine wd_take 10 _ _ rfl (by kernel_rfl) hS (yd_do fun A hA => rn_loadB s_158 rfl rfl (hB5.ext hA (fun e => by omega))) ?_
  refine wd_only 5 _ rfl (by kernel_rfl) ?_
  refine s1_do ?_
  refine wl_call e_113 rfl (put_s w5 (lb ltS ks x) (isAt ltS ks x) (ks.map eS1) (hm.keys.ext (hX.mine hS (.inr hq6)) (fun _ h => h)) (by rw [List.length_map]; exact hlb) (fun h => by rw [List.length_map]; exact isAt_lt h) rfl rfl (eS_one ks) (by rw [List.length_map]; exact hn)) ?_; intro v21 w6 hE6 hR6
  replace hB6 := hB6.ext hE6 id
  replace hS := hS.tr hE6
  obtain ⟨p21, s21, hp21, hO21⟩ := hR6
  obtain ⟨a21, l21, c21, rfl⟩ := id hO21.shape
  have hz6 := hB6.lt; have hzs := hS.size; have hzx := hX.size
  refine wl_nil ⟨hS, ?_⟩
  refine wd_only 11 _ rfl (by kernel_rfl) ?_
  refine s1_do ?_
  refine wl_call e_143 rfl (put_u w6 (lb ltS ks x) (isAt ltS ks x) vs (hm.vals.ext (hX.mine hS (.inr hq6)) (fun _ h => h)) (by rw [hlen]; exact hlb) (fun h => by rw [hlen]; exact isAt_lt h) rfl hv1 (by rw [hlen]; exact hn)) ?_; intro v27 w7 hE7 hR7
  replace hB6 := hB6.ext hE7 id
  replace hS := hS.tr hE7
  replace hO21 := hO21.ext hE7 id
  obtain ⟨p27, s27, hp27, hO27⟩ := hR7
  obtain ⟨a27, l27, c27, rfl⟩ := id hO27.shape
  have hzs2 := hS.size
  refine wl_nil ⟨hS, ?_⟩
  refine wd_take 12 _ _ rfl (by kernel_rfl) hS (yd_do fun A hA => rn_build' b_118 rfl rfl (cs := [.slice a21 l21 c21, .slice a27 l27 c27]) rfl) ?_
  refine wd_only 13 _ rfl (by kernel_rfl) ?_
  refine s1_do ?_
  refine wl_storeB s_118 rfl rfl rfl (two1 rfl rfl) hB6 rfl ?_; intro w8 hE8 hB6 hz8
  replace hS := hS.mine hE8 (by first | exact .inl rfl | exact .inl (.inl rfl) | exact .inl (.inr rfl) | exact .inl (.inr (.inr rfl)) | exact .inl (.inr (.inl rfl)) | exact .inl (.inl (.inl rfl)) | exact .inl (.inl (.inr rfl)))
  replace hO21 := hO21.ext hE8 (fun e => by omega)
  replace hO27 := hO27.ext hE8 (fun e => by omega)
  refine wl_nil ⟨hS, ?_⟩
  refine wd_done (by kernel_rfl) ?_ _
  replace hX := hX.mine hS (.inr hq6)
  refine W_ret ?_
  exact ⟨_, resR1 (res1_box s_118 rfl hB6 rfl), hX, ⟨_, _, rfl, ⟨by rw [← putK_map]; exact hO21.sl (fun h => by unfold Old at h; omega), hO27.sl (fun h => by unfold Old at h; omega), putV_len hm.len⟩⟩⟩
end Go.Proofs.YtaddeakfojpdoaaGreatDoorC

/- Maps with rising keys: what the document's loops lay, by places; texts compared byte by byte. -/
set_option linter.unusedVariables false
set_option linter.unusedSimpArgs false
namespace Go.Proofs.YtaddeakfojpdoaaGreatDoorC
open Go.RowKit
section
set_option linter.unusedSectionVars false
variable {κ β : Type} [DecidableEq κ] {lt : κ → κ → Bool}
def dropK (lt : κ → κ → Bool) (l : List κ) (x : κ) : List κ := if isAt lt l x = true then l.take (lb lt l x) ++ l.drop (lb lt l x + 1) else l
def dropV (lt : κ → κ → Bool) (l : List κ) (x : κ) (vs : List β) : List β := if isAt lt l x = true then vs.take (lb lt l x) ++ vs.drop (lb lt l x + 1) else vs
theorem dropV_len {l : List κ} {x : κ} {vs : List β} (h : vs.length = l.length) : (dropV lt l x vs).length = (dropK lt l x).length := by
  unfold dropV dropK; split
  · simp [h]
  · exact h
theorem dropV_map {γ : Type} (f : β → γ) (l : List κ) (x : κ) (vs : List β) : dropV lt l x (vs.map f) = (dropV lt l x vs).map f := by
  unfold dropV; split <;> simp [List.map_take, List.map_drop]
/-- Values put by places. -/
def putW (lt : κ → κ → Bool) (l : List κ) (x : κ) (vs : List β) (r : β) : List β := if isAt lt l x = true then vs.set (lb lt l x) r else vs.take (lb lt l x) ++ r :: vs.drop (lb lt l x)
theorem putW_map {γ : Type} (f : β → γ) (l : List κ) (x : κ) (vs : List β) (r : β) : putW lt l x (vs.map f) (f r) = (putW lt l x vs r).map f := by
  unfold putW; split
  · rw [List.map_set]
  · simp [List.map_take, List.map_drop]
theorem putW_len {l : List κ} {x : κ} {vs : List β} {r : β} (h : vs.length = l.length) : (putW lt l x vs r).length = (putK lt l x).length := by
  have := lb_le (lt := lt) l x
  unfold putW putK; split
  · simp [h]
  · simp [h]
/-- The key at a place, and x. -/
theorem key_at (hl : Lo lt) {l : List κ} (hs : Sorted lt l) {x y : κ} {i : Nat} (hy : l[i]? = some y) : (lt y x = true ↔ i < lb lt l x) ∧ (y = x ↔ isAt lt l x = true ∧ i = lb lt l x) := by
  have h1 : i < lb lt l x → lt y x = true := fun h => lb_lt h hy
  have h2 : lb lt l x ≤ i → lt y x = false := fun h => lb_ge hl hs h hy
  refine ⟨⟨fun h => ?_, h1⟩, ?_⟩
  · rcases Nat.lt_or_ge i (lb lt l x) with h' | h'
    · exact h'
    · rw [h2 h'] at h; cases h
  · constructor
    · rintro rfl
      have hm : isAt lt l y = true := (isAt_iff hl hs y).2 (List.mem_of_getElem? hy)
      refine ⟨hm, ?_⟩
      have hge : lb lt l y ≤ i := by
        rcases Nat.lt_or_ge i (lb lt l y) with h' | h'
        · have := h1 h'; rw [hl.1] at this; cases this
        · exact h'
      unfold isAt at hm
      have hm := of_decide_eq_true hm
      rcases Nat.lt_or_ge (lb lt l y) i with h' | h'
      · have := hs.get hm hy h'; rw [hl.1] at this; cases this
      · omega
    · rintro ⟨ha, rfl⟩
      unfold isAt at ha
      have ha := of_decide_eq_true ha
      rw [hy] at ha; exact Option.some.inj ha
end
end Go.Proofs.YtaddeakfojpdoaaGreatDoorC

/- More single operations in the calculus: equality of truth values, the greater of two; each rule holds of whatever program. -/
set_option linter.unusedVariables false
set_option linter.unusedSimpArgs false
namespace Go.Proofs.YtaddeakfojpdoaaGreatDoorC
open Go.RowKit
variable {P : Program} {σ : Env} {w : World} {dst : Option Nat} {ty : TypeId} {pos : String} {af : Array Edge} {g : Option (Nat × Bool)}
theorem rn_max2 {t u : TypeId} {x y : Operand} {k : IntKind} {a b : Int} (hx : ev σ x = .int k a) (hy : ev σ y = .int k b) : Rn P σ w ⟨dst, .call ⟨.builtin .max, #[x, y], #[t, u]⟩, ty, pos, af, g⟩ (.int k (if b > a then b else a)) := by
  show (execOp (ev σ) _).run P w = _
  simp [execOp, resolve, invoke, builtin, hx, hy, Builtin.max_, Builtin.max2]
end Go.Proofs.YtaddeakfojpdoaaGreatDoorC

/- Texts: where a byte stands, what lies ahead of it; the library's search for a byte, in the calculus. -/
set_option linter.unusedVariables false
set_option linter.unusedSimpArgs false
namespace Go.Proofs.YtaddeakfojpdoaaGreatDoorC
open Go.RowKit
/-- What lies ahead of the first byte c. -/
def pre1 (c : UInt8) (s : Str) : Str := s.takeWhile (fun x => !(x == c))
theorem pre1_le (c : UInt8) (s : Str) : (pre1 c s).length ≤ s.length := by
  unfold pre1; induction s with
  | nil => simp
  | cons y l ih => rw [List.takeWhile_cons]; split <;> simp; exact ih
/-- The place of the first byte c, or -1. -/
def fi (s : Str) (c : UInt8) : Int := if c ∈ s then ((pre1 c s).length : Int) else -1
theorem pre1_mem {c : UInt8} : ∀ {s : Str}, c ∈ s → s[(pre1 c s).length]? = some c
  | [], h => by cases h
  | y :: s, h => by
    unfold pre1
    rw [List.takeWhile_cons]
    by_cases e : y = c
    · subst e; simp
    · have h2 : c ∈ s := by rcases List.mem_cons.1 h with h | h; exact absurd h.symm e; exact h
      have := pre1_mem h2
      unfold pre1 at this
      simp [e, this]
theorem pre1_not {c : UInt8} : ∀ {s : Str}, ¬ c ∈ s → pre1 c s = s
  | [], _ => rfl
  | y :: s, h => by
    have h1 : ¬ y = c := fun e => h (by simp [e])
    have h2 : ¬ c ∈ s := fun e => h (by simp [e])
    have := pre1_not h2
    unfold pre1 at *
    rw [List.takeWhile_cons]; simp [h1, this]
theorem pre1_take (c : UInt8) : ∀ (s : Str), s.take (pre1 c s).length = pre1 c s
  | [] => rfl
  | y :: s => by
    have := pre1_take c s
    unfold pre1 at *
    rw [List.takeWhile_cons]
    split
    · simp [this]
    · simp
theorem pre1_ne {c : UInt8} : ∀ {s : Str} {x : UInt8}, x ∈ pre1 c s → x ≠ c
  | [], x, h => by simp [pre1] at h
  | y :: s, x, h => by
    unfold pre1 at h
    rw [List.takeWhile_cons] at h
    split at h
    · rename_i hy
      rcases List.mem_cons.1 h with e | h
      · subst e; simpa using hy
      · exact pre1_ne (s := s) h
    · cases h
theorem pre1_lt {c : UInt8} {s : Str} {i : Nat} {x : UInt8} (hi : i < (pre1 c s).length) (hx : s[i]? = some x) : x ≠ c := by
  have h1 : (pre1 c s)[i]? = some x := by rw [← pre1_take c s, List.getElem?_take_of_lt hi, hx]
  have h2 : x ∈ pre1 c s := List.mem_of_getElem? h1
  exact pre1_ne h2
theorem get_str! (s : Str) (i : Nat) (h : i < s.length) : (ByteArray.mk s.toArray)[i]! = s[i] := by
  have h1 : i < (ByteArray.mk s.toArray).size := by simpa [ByteArray.size] using h
  rw [getElem!_pos _ i h1]; rfl
theorem firstIdx_fi (s : Str) (c : UInt8) : firstIdx ⟨s.toArray⟩ c = fi s c := by
  unfold firstIdx fi
  have hsz : (ByteArray.mk s.toArray).size = s.length := by simp [ByteArray.size]
  rw [hsz]
  by_cases hc : c ∈ s
  · rw [if_pos hc]
    have h1 := pre1_mem hc
    have hlt : (pre1 c s).length < s.length := (List.getElem?_eq_some_iff.1 h1).1
    have : (List.range s.length).find? (fun i => (ByteArray.mk s.toArray)[i]! == c) = some (pre1 c s).length := by
      rw [List.find?_range_eq_some]
      refine ⟨?_, by simpa using hlt, fun j hj => ?_⟩
      · rw [get_str! s _ hlt]
        have := (List.getElem?_eq_some_iff.1 h1).2
        simp [this]
      · have hj' : j < s.length := by omega
        rw [get_str! s j hj']
        have := pre1_lt hj (List.getElem?_eq_getElem hj')
        simpa using this
    rw [this]
  · rw [if_neg hc]
    have : (List.range s.length).find? (fun i => (ByteArray.mk s.toArray)[i]! == c) = none := by
      rw [List.find?_eq_none]
      intro i hi
      have hi' : i < s.length := by simpa using hi
      rw [get_str! s i hi']
      intro e
      have : s[i] = c := by simpa using e
      exact hc (this ▸ List.getElem_mem hi')
    rw [this]
/-- Function f is the library's search for a byte. -/
structure IB (P : Program) (f : FuncId) : Prop where
  ex : ∃ fn, P.funcs[f]? = some fn ∧ (fn.name == "runtime.NumGoroutine") = false ∧ fn.body.isNone = true ∧ Extern.findNext fn = none ∧ Extern.find fn = some Extern.BytealgIndexByte.indexByte
section
variable {P : Program} {σ : Env} {w : World} {dst : Option Nat} {ty : TypeId} {pos : String} {af : Array Edge} {g : Option (Nat × Bool)}
theorem rn_indexByte {f : FuncId} {ts : Array TypeId} {x y : Operand} {s : Str} {c : UInt8} (hib : IB P f)
    (hx : ev σ x = Sv s) (hy : ev σ y = .int .u8 c.toNat) : Rn P σ w ⟨dst, .call ⟨.value (.func f), #[x, y], ts⟩, ty, pos, af, g⟩ (.int .i64 (fi s c)) := by
  show (execOp (ev σ) _).run P w = _
  obtain ⟨fn, hf, hname, hb, hn, he⟩ := hib.ex
  have h1 := run_callFunc_extern hf hname hb hn he #[Sv s, .int .u8 c.toNat] w
  have h2 := run_indexByte_string (P := P) ⟨s.toArray⟩ (c.toNat : Int) w
  have h3 : ((c.toNat : Int)).toNat.toUInt8 = c := by simp
  rw [h3, firstIdx_fi] at h2
  have h4 : (callFunc f #[Sv s, .int .u8 c.toNat]).run P w = .ok (.value (.int .i64 (fi s c))) w := by rw [h1, h2]; rfl
  simp only [execOp, resolve, Sem.run_bind, Sem.run_pure, Result.andThen_ok]
  have hargs : (#[x, y] : Array Operand).map (ev σ) = #[Sv s, .int .u8 c.toNat] := by simp [hx, hy]
  rw [hargs]
  simp only [ev, Deferred.ofValue, Sem.run_pure, Result.andThen_ok, invoke]
  simpa using h4
end
/-- Function f is the library's count of a byte. -/
structure CB (P : Program) (f : FuncId) : Prop where
  ex : ∃ fn, P.funcs[f]? = some fn ∧ (fn.name == "runtime.NumGoroutine") = false ∧ fn.body.isNone = true ∧ Extern.findNext fn = none ∧ Extern.find fn = some Extern.BytealgCount.count
section
variable {P : Program} {σ : Env} {w : World} {dst : Option Nat} {ty : TypeId} {pos : String} {af : Array Edge} {g : Option (Nat × Bool)}
theorem rn_countString {f : FuncId} {ts : Array TypeId} {x y : Operand} {s : Str} {c : UInt8} (hib : CB P f)
    (hx : ev σ x = Sv s) (hy : ev σ y = .int .u8 c.toNat) : Rn P σ w ⟨dst, .call ⟨.value (.func f), #[x, y], ts⟩, ty, pos, af, g⟩ (.int .i64 (s.count c : Nat)) := by
  show (execOp (ev σ) _).run P w = _
  obtain ⟨fn, hf, hname, hb, hn, he⟩ := hib.ex
  have h1 := run_callFunc_extern hf hname hb hn he #[Sv s, .int .u8 c.toNat] w
  have h2 := Lib.run_countString (P := P) ⟨s.toArray⟩ (c.toNat : Int) w
  have h3 : ((c.toNat : Int)).toNat.toUInt8 = c := by simp
  rw [h3] at h2
  unfold Lib.countByte at h2
  have h4 : (callFunc f #[Sv s, .int .u8 c.toNat]).run P w = .ok (.value (.int .i64 (s.count c : Nat))) w := by rw [h1, h2]; rfl
  simp only [execOp, resolve, Sem.run_bind, Sem.run_pure, Result.andThen_ok]
  have hargs : (#[x, y] : Array Operand).map (ev σ) = #[Sv s, .int .u8 c.toNat] := by simp [hx, hy]
  rw [hargs]
  simp only [ev, Deferred.ofValue, Sem.run_pure, Result.andThen_ok, invoke]
  simpa using h4
end
section
variable {P : Program} {σ : Env} {w : World} {ty : TypeId} {pos : String} {af : Array Edge} {ops rest : List Oper} {K : Ops}
end
end Go.Proofs.YtaddeakfojpdoaaGreatDoorC

/- Levels of a text, topics, filters, and which matches which: plain lists. -/
set_option linter.unusedVariables false
set_option linter.unusedSimpArgs false
namespace Go.Proofs.YtaddeakfojpdoaaGreatDoorC
open Go.RowKit

/-- What stands between the bytes b. -/
def spl (b : UInt8) : Str → List Str
  | [] => [[]]
  | c :: s => if c = b then [] :: spl b s else match spl b s with
    | [] => [[c]]
    | l :: r => (c :: l) :: r
theorem spl_ne (b : UInt8) (s : Str) : spl b s ≠ [] := by
  cases s with
  | nil => simp [spl]
  | cons c s =>
    simp only [spl]; split
    · simp
    · split <;> simp
theorem spl_eq (b : UInt8) (s : Str) : spl b (b :: s) = [] :: spl b s := by simp [spl]
theorem spl_neq {b c : UInt8} {s : Str} (h : c ≠ b) {l : Str} {r : List Str} (hs : spl b s = l :: r) : spl b (c :: s) = (c :: l) :: r := by simp [spl, h, hs]
theorem spl_ex (b : UInt8) (s : Str) : ∃ l r, spl b s = l :: r := by
  cases h : spl b s with
  | nil => exact absurd h (spl_ne b s)
  | cons l r => exact ⟨l, r, rfl⟩
theorem spl_app (b : UInt8) : ∀ (p q : Str) {out : List Str} {t h : Str} {r : List Str}, spl b p = out ++ [t] → spl b q = h :: r → spl b (p ++ q) = out ++ (t ++ h) :: r
  | [], q, out, t, h, r, hp, hq => by
    cases out with
    | nil =>
      have : t = [] := by simpa [spl] using hp.symm
      subst this; simpa using hq
    | cons x xs => simp [spl] at hp
  | c :: p, q, out, t, h, r, hp, hq => by
    rw [List.cons_append]
    by_cases hc : c = b
    · subst hc
      rw [spl_eq] at hp ⊢
      cases out with
      | nil => simp at hp; exact absurd hp.2 (spl_ne c p)
      | cons x xs =>
        rw [List.cons_append, List.cons.injEq] at hp
        rw [spl_app c p q hp.2 hq, ← hp.1]; rfl
    · obtain ⟨l, rest, hs⟩ := spl_ex b p
      rw [spl_neq hc hs] at hp
      cases out with
      | nil =>
        rw [List.nil_append, List.cons.injEq] at hp
        obtain ⟨h1, h2⟩ := hp
        have := spl_app b p q (out := []) (t := l) (by rw [hs, h2]; rfl) hq
        rw [spl_neq hc (by rw [this]; rfl), ← h1]; rfl
      | cons x xs =>
        rw [List.cons_append, List.cons.injEq] at hp
        obtain ⟨h1, h2⟩ := hp
        have := spl_app b p q (out := l :: xs) (t := t) (by rw [hs, h2]; rfl) hq
        rw [spl_neq hc (by rw [this]; rfl), ← h1]; rfl
theorem spl_not {b : UInt8} : ∀ {s : Str}, ¬ b ∈ s → spl b s = [s]
  | [], _ => rfl
  | c :: s, h => by
    simp only [List.mem_cons, not_or] at h
    exact spl_neq (fun e => h.1 e.symm) (spl_not h.2)
theorem pre1_post {c : UInt8} {s : Str} (h : c ∈ s) : s = pre1 c s ++ c :: s.drop ((pre1 c s).length + 1) := by
  have h1 := pre1_mem h
  have h2 := pre1_take c s
  obtain ⟨hlt, hc⟩ := List.getElem?_eq_some_iff.1 h1
  have e : s = s.take (pre1 c s).length ++ s.drop (pre1 c s).length := (List.take_append_drop _ _).symm
  rw [h2, List.drop_eq_getElem_cons hlt, hc] at e
  exact e
theorem spl_cut {b : UInt8} {s : Str} (h : b ∈ s) : spl b s = pre1 b s :: spl b (s.drop ((pre1 b s).length + 1)) := by
  obtain ⟨l, r, hr⟩ := spl_ex b (s.drop ((pre1 b s).length + 1))
  have h1 : spl b (pre1 b s) = [] ++ [pre1 b s] := spl_not fun hm => pre1_ne hm rfl
  have := spl_app b (pre1 b s) (b :: s.drop ((pre1 b s).length + 1)) h1 (spl_eq b _)
  rw [← pre1_post h] at this
  rw [this]; simp
theorem spl_mem {b : UInt8} : ∀ {s : Str} {l : Str}, l ∈ spl b s → ∀ x ∈ l, x ∈ s ∧ x ≠ b
  | [], l, h, x, hx => by simp [spl] at h; subst h; cases hx
  | c :: s, l, h, x, hx => by
    by_cases hc : c = b
    · subst hc; rw [spl_eq] at h
      rcases List.mem_cons.1 h with rfl | h
      · cases hx
      · have := spl_mem h x hx; exact ⟨List.mem_cons_of_mem _ this.1, this.2⟩
    · obtain ⟨l', r, hs⟩ := spl_ex b s
      rw [spl_neq hc hs] at h
      rcases List.mem_cons.1 h with rfl | h
      · rcases List.mem_cons.1 hx with rfl | hx
        · exact ⟨by simp, hc⟩
        · have := spl_mem (s := s) (l := l') (by rw [hs]; simp) x hx; exact ⟨List.mem_cons_of_mem _ this.1, this.2⟩
      · have := spl_mem (s := s) (l := l) (by rw [hs]; exact List.mem_cons_of_mem _ h) x hx; exact ⟨List.mem_cons_of_mem _ this.1, this.2⟩
theorem spl_len (b : UInt8) : ∀ s : Str, (spl b s).length = s.count b + 1
  | [] => rfl
  | c :: s => by
    have ih := spl_len b s
    by_cases hc : c = b
    · subst hc; rw [spl_eq]; simp [ih]
    · obtain ⟨l', r, hs⟩ := spl_ex b s
      rw [spl_neq hc hs]; rw [hs] at ih
      rw [List.count_cons_of_ne hc, ← ih]; rfl
theorem spl_le {b : UInt8} : ∀ {s : Str} {l : Str}, l ∈ spl b s → l.length ≤ s.length
  | [], l, h => by simp [spl] at h; subst h; simp
  | c :: s, l, h => by
    by_cases hc : c = b
    · subst hc; rw [spl_eq] at h
      rcases List.mem_cons.1 h with rfl | h
      · simp
      · have := spl_le h; simp only [List.length_cons]; omega
    · obtain ⟨l', r, hs⟩ := spl_ex b s
      rw [spl_neq hc hs] at h
      rcases List.mem_cons.1 h with rfl | h
      · have := spl_le (s := s) (l := l') (by rw [hs]; exact List.mem_cons_self); simp only [List.length_cons]; omega
      · have := spl_le (s := s) (l := l) (by rw [hs]; exact List.mem_cons_of_mem _ h); simp only [List.length_cons]; omega
theorem spl_len_le (b : UInt8) (s : Str) : (spl b s).length ≤ s.length + 1 := by rw [spl_len]; have := List.count_le_length (a := b) (l := s); omega
/-- Texts with b between each two. -/
def joinB (b : UInt8) : List Str → Str
  | [] => []
  | [l] => l
  | l :: r => l ++ b :: joinB b r
theorem joinB_cons (b : UInt8) (l : Str) {r : List Str} (h : r ≠ []) : joinB b (l :: r) = l ++ b :: joinB b r := by cases r with | nil => exact absurd rfl h | cons => rfl
theorem join_spl (b : UInt8) : ∀ s : Str, joinB b (spl b s) = s
  | [] => rfl
  | c :: s => by
    have ih := join_spl b s
    by_cases hc : c = b
    · subst hc; rw [spl_eq, joinB_cons c [] (spl_ne c s), ih]; rfl
    · obtain ⟨l', r, hs⟩ := spl_ex b s
      rw [spl_neq hc hs]; rw [hs] at ih
      cases r with
      | nil => simp only [joinB] at ih ⊢; rw [ih]
      | cons x xs => rw [joinB_cons b _ (by simp)] at ih ⊢; rw [List.cons_append, ih]
end Go.Proofs.YtaddeakfojpdoaaGreatDoorC

/- Tries as trees; plain. -/
set_option linter.unusedVariables false
set_option linter.unusedSimpArgs false
namespace Go.Proofs.YtaddeakfojpdoaaGreatDoorC
open Go.RowKit
/-- A node: its subscribers, its levels, its kids at them. -/
inductive Tr
  | node (subs : List Int) (keys : List Str) (vals : List Tr)
def Tr.subs : Tr → List Int | .node s _ _ => s
def Tr.keys : Tr → List Str | .node _ k _ => k
def Tr.vals : Tr → List Tr | .node _ _ v => v
abbrev Tr.bare : Tr := .node [] [] []
/-- The kid at a level; of none a bare one. -/
def Tr.kid (t : Tr) (l : Str) : Tr := if isAt ltS t.keys l = true then (t.vals[lb ltS t.keys l]?).getD .bare else .bare
/-- A subscriber put at some levels. -/
def Tr.put : List Str → Int → Tr → Tr
  | [], s, t => .node (putK ltI t.subs s) t.keys t.vals
  | l :: ls, s, t => .node t.subs (putK ltS t.keys l) (putW ltS t.keys l t.vals (Tr.put ls s (t.kid l)))
/-- A subscriber is at some levels. -/
def Tr.At : List Str → Int → Tr → Prop
  | [], s, t => s ∈ t.subs
  | k :: p, s, t => ∃ (i : Nat) (v : Tr), t.keys[i]? = some k ∧ t.vals[i]? = some v ∧ Tr.At p s v
/-- How long levels are with a stroke behind each. -/
def wgt : List Str → Nat
  | [] => 0
  | l :: ls => l.length + 1 + wgt ls
/-- A tree whose lists rise and have at most n members, its paths at most m bytes. -/
inductive Tr.Ok (n : Nat) : Nat → Tr → Prop
  | mk {m : Nat} {ss : List Int} {ks : List Str} {vs : List Tr} (h1 : Sorted ltI ss) (h2 : ss.length ≤ n) (h3 : Sorted ltS ks) (h4 : ks.length ≤ n) (h5 : vs.length = ks.length)
      (h6 : ∀ (i : Nat) (k : Str), ks[i]? = some k → k.length + 1 ≤ m) (h7 : ∀ (i : Nat) (k : Str) (v : Tr), ks[i]? = some k → vs[i]? = some v → Tr.Ok n (m - (k.length + 1)) v) : Tr.Ok n m (.node ss ks vs)
variable {n m : Nat} {t : Tr}
theorem Tr.Ok.s (h : t.Ok n m) : Sorted ltI t.subs := by cases h; assumption
theorem Tr.Ok.sl (h : t.Ok n m) : t.subs.length ≤ n := by cases h; assumption
theorem Tr.Ok.k (h : t.Ok n m) : Sorted ltS t.keys := by cases h; assumption
theorem Tr.Ok.kl (h : t.Ok n m) : t.keys.length ≤ n := by cases h; assumption
theorem Tr.Ok.len (h : t.Ok n m) : t.vals.length = t.keys.length := by cases h; assumption
theorem Tr.Ok.kn (h : t.Ok n m) {i : Nat} {k : Str} (hk : t.keys[i]? = some k) : k.length + 1 ≤ m := by cases h with | mk _ _ _ _ _ h6 _ => exact h6 i k hk
theorem Tr.Ok.at (h : t.Ok n m) {i : Nat} {k : Str} {v : Tr} (hk : t.keys[i]? = some k) (hv : t.vals[i]? = some v) : v.Ok n (m - (k.length + 1)) := by cases h with | mk _ _ _ _ _ _ h7 => exact h7 i k v hk hv
theorem Tr.Ok.mono {n' : Nat} (hn : n ≤ n') (h : t.Ok n m) : ∀ {m' : Nat}, m ≤ m' → t.Ok n' m' := by
  induction h with
  | mk h1 h2 h3 h4 h5 h6 h7 ih => intro m' hm; exact .mk h1 (by omega) h3 (by omega) h5 (fun i k hk => by have := h6 i k hk; omega) fun i k v hk hv => ih i k v hk hv (by omega)
theorem Tr.Ok.bare : Tr.bare.Ok n m := .mk List.Pairwise.nil (Nat.zero_le _) List.Pairwise.nil (Nat.zero_le _) rfl (fun i k h => by simp at h) (fun i k v h => by simp at h)
theorem isAt_get {κ : Type} [DecidableEq κ] {lt : κ → κ → Bool} {l : List κ} {x : κ} (h : isAt lt l x = true) : l[lb lt l x]? = some x := by simpa [isAt] using h
theorem Tr.Ok.kid (h : t.Ok n m) (l : Str) : (t.kid l).Ok n (m - (l.length + 1)) := by
  unfold Tr.kid
  split
  · rename_i ha
    have hk := isAt_get ha
    have hlt := isAt_lt ha
    have hv : t.vals[lb ltS t.keys l]? = some (t.vals[lb ltS t.keys l]'(by rw [h.len]; exact hlt)) := List.getElem?_eq_getElem _
    rw [hv]; exact h.at hk hv
  · exact Tr.Ok.bare
/-- What is in a map behind a put, by places. -/
theorem put_get {β : Type} {ks : List Str} (hs : Sorted ltS ks) {l : Str} {vs : List β} {r : β} (hl : vs.length = ks.length) (k : Str) (v : β) :
    (∃ i : Nat, (putK ltS ks l)[i]? = some k ∧ (putW ltS ks l vs r)[i]? = some v) ↔ (k = l ∧ v = r) ∨ (k ≠ l ∧ ∃ i : Nat, ks[i]? = some k ∧ vs[i]? = some v) := by
  have hb := lb_le (lt := ltS) ks l
  unfold putK putW
  by_cases ha : isAt ltS ks l = true
  · rw [if_pos ha, if_pos ha]
    have hk := isAt_get ha
    have hlt := isAt_lt ha
    constructor
    · rintro ⟨i, h1, h2⟩
      rw [List.getElem?_set] at h2
      by_cases e : lb ltS ks l = i
      · rw [if_pos e, if_pos (by omega)] at h2
        subst e
        rw [hk] at h1; cases h1; cases h2; exact .inl ⟨rfl, rfl⟩
      · rw [if_neg e] at h2
        refine .inr ⟨fun ek => ?_, i, h1, h2⟩
        subst ek
        exact e ((key_at lo_str hs h1).2.1 rfl).2.symm
    · rintro (⟨rfl, rfl⟩ | ⟨hne, i, h1, h2⟩)
      · exact ⟨_, hk, by rw [List.getElem?_set, if_pos rfl, if_pos (by omega)]⟩
      · refine ⟨i, h1, ?_⟩
        rw [List.getElem?_set, if_neg (fun e => hne (by subst e; rw [hk] at h1; exact (Option.some.inj h1).symm))]; exact h2
  · rw [if_neg ha, if_neg ha]
    have hno : ∀ i : Nat, ks[i]? ≠ some l := fun i h => ha ((isAt_iff lo_str hs l).2 (List.mem_of_getElem? h))
    have e1 : ∀ i : Nat, (ks.take (lb ltS ks l) ++ l :: ks.drop (lb ltS ks l))[i]? = if i < lb ltS ks l then ks[i]? else if i = lb ltS ks l then some l else ks[i - 1]? := by
      intro i
      rw [List.getElem?_append, List.length_take, Nat.min_eq_left hb]
      split
      · rw [List.getElem?_take_of_lt (by assumption)]
      · split
        · subst_vars; simp
        · rw [show i - lb ltS ks l = (i - lb ltS ks l - 1) + 1 from by omega, List.getElem?_cons_succ, List.getElem?_drop]; congr 1; omega
    have e2 : ∀ i : Nat, (vs.take (lb ltS ks l) ++ r :: vs.drop (lb ltS ks l))[i]? = if i < lb ltS ks l then vs[i]? else if i = lb ltS ks l then some r else vs[i - 1]? := by
      intro i
      rw [List.getElem?_append, List.length_take, Nat.min_eq_left (by omega)]
      split
      · rw [List.getElem?_take_of_lt (by assumption)]
      · split
        · subst_vars; simp
        · rw [show i - lb ltS ks l = (i - lb ltS ks l - 1) + 1 from by omega, List.getElem?_cons_succ, List.getElem?_drop]; congr 1; omega
    constructor
    · rintro ⟨i, h1, h2⟩
      rw [e1] at h1; rw [e2] at h2
      by_cases c1 : i < lb ltS ks l
      · rw [if_pos c1] at h1 h2; exact .inr ⟨fun e => hno i (e ▸ h1), i, h1, h2⟩
      · rw [if_neg c1] at h1 h2
        by_cases c2 : i = lb ltS ks l
        · rw [if_pos c2] at h1 h2; cases h1; cases h2; exact .inl ⟨rfl, rfl⟩
        · rw [if_neg c2] at h1 h2; exact .inr ⟨fun e => hno _ (e ▸ h1), _, h1, h2⟩
    · rintro (⟨rfl, rfl⟩ | ⟨hne, i, h1, h2⟩)
      · exact ⟨lb ltS ks k, by rw [e1, if_neg (by omega), if_pos rfl], by rw [e2, if_neg (by omega), if_pos rfl]⟩
      · by_cases c1 : i < lb ltS ks l
        · exact ⟨i, by rw [e1, if_pos c1]; exact h1, by rw [e2, if_pos c1]; exact h2⟩
        · exact ⟨i + 1, by rw [e1, if_neg (by omega), if_neg (by omega)]; exact h1, by rw [e2, if_neg (by omega), if_neg (by omega)]; exact h2⟩
theorem Tr.Ok.put (s : Int) : ∀ (ls : List Str) {m : Nat} {t : Tr}, t.Ok n m → wgt ls ≤ m → (t.put ls s).Ok (n + 1) m
  | [], m, t, h, _ => by
    refine .mk (putK_sorted lo_int h.s s) (Nat.le_trans (putK_len _ _) (by have := h.sl; omega)) h.k (by have := h.kl; omega) h.len (fun i k hk => h.kn hk) fun i k v hk hv => (h.at hk hv).mono (by omega) (Nat.le_refl _)
  | l :: ls, m, t, h, hw => by
    simp only [wgt] at hw
    have hr := Tr.Ok.put s ls (h.kid l) (by omega)
    have key : ∀ (i : Nat) (k : Str) (v : Tr), (putK ltS t.keys l)[i]? = some k → (putW ltS t.keys l t.vals (Tr.put ls s (t.kid l)))[i]? = some v → k.length + 1 ≤ m ∧ v.Ok (n + 1) (m - (k.length + 1)) := by
      intro i k v hk hv
      rcases (put_get h.k h.len k v).1 ⟨i, hk, hv⟩ with ⟨rfl, rfl⟩ | ⟨_, j, h1, h2⟩
      · exact ⟨by omega, hr⟩
      · exact ⟨h.kn h1, (h.at h1 h2).mono (by omega) (Nat.le_refl _)⟩
    have hlen := putW_len (lt := ltS) (x := l) (r := Tr.put ls s (t.kid l)) h.len
    refine .mk h.s (by have := h.sl; omega) (putK_sorted lo_str h.k l) (Nat.le_trans (putK_len _ _) (by have := h.kl; omega)) hlen (fun i k hk => ?_) (fun i k v hk hv => (key i k v hk hv).2)
    have hi := (List.getElem?_eq_some_iff.1 hk).1
    exact (key i k _ hk (List.getElem?_eq_getElem (by omega))).1
theorem kid_at (h : t.Ok n m) (l : Str) (q : List Str) (s : Int) : (t.kid l).At q s ↔ (∃ (i : Nat) (v : Tr), t.keys[i]? = some l ∧ t.vals[i]? = some v ∧ v.At q s) ∨ (isAt ltS t.keys l = false ∧ Tr.bare.At q s) := by
  unfold Tr.kid
  by_cases ha : isAt ltS t.keys l = true
  · rw [if_pos ha]
    have hk := isAt_get ha
    have hlt := isAt_lt ha
    have hv : t.vals[lb ltS t.keys l]? = some (t.vals[lb ltS t.keys l]'(by rw [h.len]; exact hlt)) := List.getElem?_eq_getElem _
    rw [hv]
    constructor
    · intro h1; exact .inl ⟨_, _, hk, hv, h1⟩
    · rintro (⟨i, v, h1, h2, h3⟩ | ⟨h1, _⟩)
      · have e := ((key_at lo_str h.k h1).2.1 rfl).2
        subst e
        rw [hv] at h2; cases h2; exact h3
      · rw [ha] at h1; cases h1
  · rw [if_neg ha]
    have hf : isAt ltS t.keys l = false := by simpa using ha
    constructor
    · intro h1; exact .inr ⟨hf, h1⟩
    · rintro (⟨i, v, h1, _⟩ | ⟨_, h1⟩)
      · exact absurd ((isAt_iff lo_str h.k l).2 (List.mem_of_getElem? h1)) ha
      · exact h1
theorem bare_at (q : List Str) (s : Int) : ¬ Tr.bare.At q s := by
  cases q with
  | nil => simp [Tr.At, Tr.subs]
  | cons k q => rintro ⟨i, v, h, _⟩; simp [Tr.keys] at h
theorem at_put (s0 : Int) : ∀ (ls : List Str) {m : Nat} {t : Tr}, t.Ok n m → ∀ (p : List Str) (s : Int), (t.put ls s0).At p s ↔ (p = ls ∧ s = s0) ∨ t.At p s
  | [], m, t, h, p, s => by
    cases p with
    | nil => simp only [Tr.At, Tr.put, Tr.subs, true_and]; exact putK_mem lo_int h.s s0 s
    | cons k q => simp [Tr.At, Tr.put, Tr.keys, Tr.vals]
  | l :: ls, m, t, h, p, s => by
    cases p with
    | nil => simp [Tr.At, Tr.put, Tr.subs]
    | cons k q =>
      have e : (t.put (l :: ls) s0).At (k :: q) s ↔ ∃ v : Tr, (∃ i : Nat, (putK ltS t.keys l)[i]? = some k ∧ (putW ltS t.keys l t.vals (Tr.put ls s0 (t.kid l)))[i]? = some v) ∧ v.At q s := by
        simp only [Tr.At, Tr.put, Tr.keys, Tr.vals]
        constructor
        · rintro ⟨i, v, h1, h2, h3⟩; exact ⟨v, ⟨i, h1, h2⟩, h3⟩
        · rintro ⟨v, ⟨i, h1, h2⟩, h3⟩; exact ⟨i, v, h1, h2, h3⟩
      rw [e]
      have ih := at_put s0 ls (h.kid l) q s
      constructor
      · rintro ⟨v, h1, h2⟩
        rcases (put_get h.k h.len k v).1 h1 with ⟨rfl, rfl⟩ | ⟨_, i, h3, h4⟩
        · rcases ih.1 h2 with ⟨rfl, rfl⟩ | h5
          · exact .inl ⟨rfl, rfl⟩
          · rcases (kid_at h k q s).1 h5 with h6 | ⟨_, h6⟩
            · exact .inr h6
            · exact absurd h6 (bare_at _ _)
        · exact .inr ⟨i, v, h3, h4, h2⟩
      · rintro (⟨h1, rfl⟩ | ⟨i, v, h1, h2, h3⟩)
        · cases h1
          exact ⟨_, (put_get h.k h.len _ _).2 (.inl ⟨rfl, rfl⟩), ih.2 (.inl ⟨rfl, rfl⟩)⟩
        · by_cases ek : k = l
          · subst ek
            exact ⟨_, (put_get h.k h.len _ _).2 (.inl ⟨rfl, rfl⟩), ih.2 (.inr ((kid_at h k q s).2 (.inl ⟨i, v, h1, h2, h3⟩)))⟩
          · exact ⟨v, (put_get h.k h.len _ _).2 (.inr ⟨ek, i, h1, h2⟩), h3⟩

/-! ### what is told -/
/-- The pairs below a node, by their levels. -/
def Tr.toldP : Tr → List (List Str × Int)
  | .node _ ks vs => ((ks.zip vs.attach).map fun p => (p.2.1.subs.map fun s => ([p.1], s)) ++ p.2.1.toldP.map fun q => (p.1 :: q.1, q.2)).flatten
termination_by t => SizeOf.sizeOf t
decreasing_by
  have h := List.sizeOf_lt_of_mem p.2.2
  simp only [Tr.node.sizeOf_spec]; omega
/-- A kid's part. -/
def Tr.part (k : Str) (v : Tr) : List (List Str × Int) := (v.subs.map fun s => ([k], s)) ++ v.toldP.map fun q => (k :: q.1, q.2)
theorem wgt_spl (s : Str) : wgt (spl 47 s) = s.length + 1 := by
  have key : ∀ s : Str, wgt (spl 47 s) = (joinB 47 (spl 47 s)).length + 1 := by
    intro s
    have : ∀ l : List Str, l ≠ [] → wgt l = (joinB 47 l).length + 1 := by
      intro l
      induction l with
      | nil => intro h; exact absurd rfl h
      | cons a l ih =>
        intro _
        cases l with
        | nil => simp [wgt, joinB]
        | cons b l => rw [wgt, ih (by simp), joinB_cons 47 a (r := b :: l) (by simp)]; simp only [List.length_append, List.length_cons]; omega
    exact this _ (spl_ne 47 s)
  rw [key, join_spl]
end Go.Proofs.YtaddeakfojpdoaaGreatDoorC
