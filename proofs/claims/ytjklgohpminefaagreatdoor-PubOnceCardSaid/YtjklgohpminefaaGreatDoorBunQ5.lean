/- The library's functions on slices that the sets use: clone, delete, insert, and a list with something at a place. -/
import Derived.Test.YtjklgohpminefaaGreatDoorBunQ4
import Derived.Test.YtjklgohpminefaaGreatDoorBunQ3

set_option linter.unusedVariables false
set_option linter.unusedSimpArgs false
set_option maxRecDepth 1000000
namespace Go.Proofs.YtjklgohpminefaaGreatDoorC
open Go.RowKit
set_option maxHeartbeats 1600000 in
theorem insert_i (w : World) (i : Nat) (rows : List (List Value)) (r : List Value) {v vx : Value} (hs : Sl Non w v 1 rows) (hv : ∃ a, v = .slice a rows.length rows.length) (hi : i ≤ rows.length) (hx : Sl Non w vx 1 [r]) (h2 : ∀ u ∈ r, u.oneCell' = true) (h1 : ∀ r ∈ rows, ∀ u ∈ r, u.oneCell' = true) (hn : rows.length ≤ 1000000) : Fn Tryz.prog 307 #[v, .int .i64 (i : Nat), vx] w fun u w' => ∃ b spare, w.heap.size ≤ b ∧ Ow w' u b 1 (rows.take i ++ r :: rows.drop i) spare := by
 obtain ⟨a, rfl⟩ := hv
 obtain ⟨a2, c2, rfl, _⟩ := hx.len
 have hbig : rows.length ≤ big := by simp only [big]; omega
 have hti : (rows.take i).length = i := by rw [List.length_take]; omega
 have htj : (rows.drop i).length = rows.length - i := List.length_drop
 have hX := Ext.refl Non w
 refine Zfw (args := [_, _, _]) Tryz.func307 rfl rfl ?_
 refine Zs (Za ?_)
 refine Zc (Zs (Zm (Zm ?_)))
 refine Zb (Xs Xe (l := i) (h := rows.length) (m := rows.length) rfl ⟨_, rfl⟩ rfl rfl (by simp) (by omega) (by omega) (by omega)) ?_
 refine Zc (Zs (Zm ?_))
 refine Zb (Z1 Xe rfl) (Za ?_)
 refine Zc (ZC (Zs (Zm ?_)))
 refine Zb (Xc rfl rfl) (Zc ?_)
 refine ZE rfl (fun hc0 => ?_) (fun hc0 => ?_)
 ·exact absurd (of_decide_eq_true hc0) (by simp)
 ·refine ZF (Zs (Zm ?_))
  refine Zb (Z1 Xe rfl) (Za ?_)
  refine Zc (ZC (Zs (Zm (Zm ?_))))
  refine Zb (Xc rfl rfl) (Zc ?_)
  refine ZE rfl (fun hc1 => ?_) (fun hc1 => ?_)
  ·have hie : i = rows.length := by have := of_decide_eq_true hc1; omega
   subst hie
   refine Zs (Zm (Zm ?_))
   have hXo := hX
   refine wl_grow Xe rfl rfl rfl (hs.ext hX (fun _ h => h)) (hx.ext hX (fun _ h => h)) (by simp only [List.length_cons, List.length_nil, List.length_append, List.length_replicate, List.length_take, List.length_drop]; omega) (by simp only [List.length_cons, List.length_nil, List.length_append, List.length_replicate, List.length_take, List.length_drop]; omega) (by simp only [List.length_cons, List.length_nil, List.length_append, List.length_replicate, big]; omega) ?_; intro v25 w1 b25 spare25 hb25 E1 hO25
   replace hX := hX.tr E1
   refine Za ?_
   refine Zc (ZB ?_)
   exact ⟨_, ZD (Zh rfl), hX, ⟨b25, spare25, Zle hXo.size hb25, by rw [List.take_of_length_le (Nat.le_refl _), List.drop_of_length_le (Nat.le_refl _)]; exact hO25⟩⟩
  ·have hie : ¬ i = rows.length := by have := of_decide_eq_false hc1; omega
   refine ZF (ZC (Zs (Zm (Zm ?_))))
   refine Zb (ZX rfl rfl (by simp only [List.length_singleton]; omega)) (Zm ?_)
   refine Zb (rn_cap Xe rfl) (Zb (Ja rfl rfl) (Zc ?_))
   refine ZE rfl (fun hc2 => ?_) (fun hc2 => ?_)
   ·refine Zs (Zm (Zm ?_))
    refine Zb (Jf Xe (h := i) (m := rows.length) rfl rfl ⟨_, rfl⟩ rfl (by simp) (by omega) (by omega)) (Zm (Zm ?_))
    refine Zb (ZX rfl rfl (by simp only [List.length_singleton]; omega)) (Zm ?_)
    refine Zb (QS rfl rfl (by simp only [List.length_singleton]; omega)) (wl_zeros (q := rows.length + 1 - i) Xe rfl JF rfl (congrArg (Value.int .i64) (by simp only [List.length_singleton]; omega)) ((hs.ext hX (fun _ h => h)).cut0 hi (by omega) (Nat.le_refl _)) (by rw [hti]; omega) (by rw [hti]; omega) (by rw [hti]; simp only [big]; omega) ?_); intro v40 w2 b40 spare40 hb40 E2 hO40
    have hq40 := Zq hX hb40
    replace hX := hX.tr E2
    refine Za ?_
    refine Zc (Zs ?_)
    obtain ⟨c40, hv40, hk1, hk2, hk3⟩ := hO40.val; rw [List.length_append, hti, List.length_replicate, show i + (rows.length + 1 - i) = rows.length + 1 from by omega] at hv40 hk1
    refine Zm (Zm ?_)
    refine Zb (Qy Xe (l := i) (h := rows.length + 1) (m := c40) hv40 ⟨_, rfl⟩ rfl rfl (by simp) (by omega) (by omega) (by omega) (by omega)) ?_
    refine Zm ?_
    refine Ql (l := i) Xe rfl rfl hO40 (hx.ext hX (fun _ h => h)) (oneR h2) (by simp only [List.length_singleton, List.length_append, hti, List.length_replicate]; omega) ?_; intro w3 E3 O45 _
    have ht45 : [r].take (rows.length + 1 - i) = [r] := List.take_of_length_le (by simp only [List.length_singleton]; omega)
    rw [ht45] at O45
    replace hX := hX.mine E3 (.inr hq40)
    refine Zc (ZC (QQ (fun x => x = b40) mixed ?_)); intro w4 E4
    replace hX := hX.tr E4
    replace O45 := O45.ext E4 id
    have hS := Ext.refl (fun x => x = b40) w4
    refine Zd 0 rfl hS Zy ?_
    refine Zd 1 rfl hS Zy ?_
    refine Zd 2 rfl hS Zy ?_
    refine Zd 3 rfl hS (ZG fun A hA => ZX rfl rfl (by simp only [List.length_singleton]; omega)) (Zd 4 rfl hS (ZG fun A hA => Qy Xe (l := i + 1) (h := rows.length + 1) (m := c40) hv40 ⟨_, rfl⟩ rfl rfl (by simp) (by omega) (by omega) (by omega) (by omega)) ?_)
    refine Zd 5 rfl hS Zy ?_
    refine Zd 6 rfl hS Zy ?_
    refine Zd 7 rfl hS (ZG fun A hA => Xs Xe (l := i) (h := rows.length) (m := rows.length) rfl ⟨_, rfl⟩ rfl rfl (by simp) (by omega) (by omega) (by omega)) ?_
    refine Zp 8 rfl (ZK ?_)
    have hsl := (hs.ext hX (fun _ h => h)).cut hi (Nat.le_refl _) (Nat.le_refl _) (Nat.le_refl _)
    have htd : (rows.drop i).take (rows.length - i) = rows.drop i := List.take_of_length_le (by rw [htj]; exact Nat.le_refl _)
    have hte : (rows.drop i).take (rows.length + 1 - (i + 1)) = rows.drop i := List.take_of_length_le (by rw [htj]; omega)
    rw [htd] at hsl
    refine Ql (l := i + 1) Xe rfl rfl O45 hsl (fun r hr => h1 r (List.mem_of_mem_drop hr)) (by rw [htj, X4 (by simp only [List.length_singleton, List.length_append, hti, List.length_replicate]; omega), List.length_append, hti, List.length_replicate]; omega) ?_; intro w5 E5 hO54 _
    rw [hte, ins_rows hi (by rw [List.length_replicate])] at hO54
    replace hS := hS.trans E5
    refine Zc ⟨hS, ?_⟩
    refine Xw (by kernel_rfl) ?_ _
    replace hX := hX.mine hS (.inr hq40)
    refine Zs (Zm (Za ?_))
    refine Zc (ZB ?_)
    exact ⟨_, ZD (Zh rfl), hX, ⟨b40, spare40, hq40, hO54⟩⟩
   ·exact absurd (of_decide_eq_false hc2) (fun h => h (by simp only [List.length_singleton]; omega))
set_option maxHeartbeats 800000 in
theorem put_i (w : World) (i : Nat) (there : Bool) (rows : List (List Value)) {v x : Value} (hs : Sl Non w v 1 rows) (hi : i ≤ rows.length) (hi2 : there = true → i < rows.length) (hx1 : x.oneCell' = true) (hxc : x.cells = #[x]) (h1 : ∀ r ∈ rows, ∀ u ∈ r, u.oneCell' = true) (hn : rows.length ≤ 1000000) : Fn Tryz.prog 263 #[v, .int .i64 (i : Nat), .bool there, x] w fun u w' => ∃ b spare, w.heap.size ≤ b ∧ Ow w' u b 1 (if there = true then rows.set i [x] else rows.take i ++ [x] :: rows.drop i) spare := by
 obtain ⟨a, c, rfl, _⟩ := hs.len
 have hbig : rows.length ≤ big := by simp only [big]; omega
 have hX := Ext.refl Non w
 refine Zfw (args := [_, _, _, _]) Tryz.func263 rfl rfl ?_
 refine Zs (Za ?_)
 refine Zc (Zs (Zm ?_))
 refine Zb (Z1 Xe rfl) (JR Xe rfl rfl rfl (by omega) hbig ?_); intro w1 b12 hb12 E1 hO12
 have hq12 := Zq hX hb12
 replace hX := hX.tr E1
 refine Za ?_
 refine Zc (Zs (Zm (Zm ?_)))
 refine Ql (l := 0) Xe (by rw [Nat.zero_mul]; rfl) rfl hO12 (hs.ext hX (fun _ h => h)) h1 (by rw [List.length_replicate]; omega) ?_; intro w2 E2 O15 _
 have hp15 : XX (List.replicate rows.length [.int .i64 0]) 0 (rows.take rows.length) = rows := by unfold XX; simp
 rw [hp15] at O15
 replace hX := hX.mine E2 (.inr hq12)
 refine Zc (ZC (Zs (Zm ?_)))
 refine Zc ?_
 refine ZE rfl (fun hc0 => ?_) (fun hc0 => ?_)
 ·have hlt := hi2 hc0
  refine Zs (Zm (Zm (Zm ?_)))
  refine Zb (ZH Xe rfl rfl (by omega)) (JA p_3 rfl rfl hx1 hxc O15 (by omega) ?_); intro w3 E3 hO20
  replace hX := hX.mine E3 (.inr hq12)
  refine Zc (Zs (Zm (Za ?_)))
  refine Zc (ZB ?_)
  exact ⟨_, ZD (Zh rfl), hX, ⟨b12, [], hq12, by rw [if_pos hc0]; exact hO20⟩⟩
 ·refine ZF (Zs (Zm (Zm (Zm ?_))))
  refine Xz (r := [x]) Xe rfl rfl (by rw [show ev _ (Operand.tmp 24) = x from rfl, hxc]) rfl (by decide) ?_; intro v25 w4 b25 hb25 E4 hO25
  replace hX := hX.tr E4
  replace O15 := O15.ext E4 id
  have hXo := hX
  refine Zw zE rfl (insert_i w4 i rows [x] (O15.sl (M := Non) id) ⟨_, rfl⟩ hi (hO25.sl (M := Non) id) (J1 hx1) h1 hn) ?_; intro v26 w5 E5 R5
  replace hX := hX.tr E5
  replace O15 := O15.ext E5 id
  obtain ⟨b26, spare26, hb26, O26⟩ := R5
  refine Za ?_
  refine Zc (ZB ?_)
  exact ⟨_, ZD (Zh rfl), hX, ⟨b26, spare26, Zle hXo.size hb26, by rw [if_neg (by rw [hc0]; simp)]; exact O26⟩⟩
theorem clone_s (w : World) (rows : List (List Value)) {v : Value} (hs : Sl Non w v 1 rows) (h1 : ∀ r ∈ rows, ∀ u ∈ r, u.oneCell' = true) (hn : rows.length ≤ 1000000) : Fn Tryz.prog 117 #[v] w fun u w' => ∃ oo, OwO w' u oo 1 rows ∧ ∀ i, oo = some i → w.heap.size ≤ i := by
 obtain ⟨a, c, rfl, _⟩ := hs.len
 have hX := Ext.refl Non w
 refine Zfw (args := [_]) Tryz.func117 rfl rfl ?_
 refine Zs (Za ?_)
 refine Zc (ZC (Zs (Zm ?_)))
 refine Zb (Q9 Xq rfl rfl) (Zc ?_)
 refine ZE rfl (fun hc0 => ?_) (fun hc0 => ?_)
 ·have hr : rows = [] := by obtain ⟨⟨a2, c2, e1, _, _, e4⟩, _⟩ := hs; simp only [Value.slice.injEq] at e1; rcases e4 with e4 | ⟨b, o, e4, _⟩; exact e4; rw [e1.1, e4] at hc0; cases hc0
  refine Zs (Za ?_)
  refine Zc (ZB ?_)
  exact ⟨_, ZD (Zh rfl), hX, ⟨none, by rw [hr]; exact OwO.nil, by simp⟩⟩
 ·refine ZF (Zs (wl_lit (rows := []) (parts := []) Xq rfl (by decide) (by decide) rfl rfl (by simp) (by simp) rfl ?_)); intro v5 w1 b5 hb5 E1 hO5
  have hq5 := Zq hX hb5
  replace hX := hX.tr E1
  refine Zm ?_
  have hXo := hX
  refine Qm Xq rfl rfl rfl (o := some b5) (rows := []) (.inr ⟨b5, [], rfl, hO5⟩) (hs.ext hX (fun _ h => h)) h1 (by simp only [List.length_cons, List.length_nil, List.length_append, List.length_replicate, List.length_take, List.length_drop]; omega) (by simp only [List.length_cons, List.length_nil, List.length_append, List.length_replicate, big]; omega) ?_; intro v7 w2 o7 E2 hO7 hf7
  replace hX := hX.mineO E2 (fun i hi => by cases hi; exact .inr hq5)
  refine Za ?_
  refine Zc (ZB ?_)
  exact ⟨_, ZD (Zh rfl), hX, ⟨o7, by rw [List.nil_append] at hO7; exact hO7, fun i hi => by rcases hf7 i hi with h | h; cases h; exact hq5; exact Zle hXo.size h⟩⟩
theorem delete_s (w : World) (i j b : Nat) (rows : List (List Value)) (spare : List Value) {v : Value} (hs : Ow w v b 1 rows spare) (hij : i ≤ j) (hj : j ≤ rows.length) (h1 : ∀ r ∈ rows, ∀ u ∈ r, u.oneCell' = true) (hn : rows.length ≤ 1000000) : FnM Tryz.prog (fun x => x = b) 116 #[v, .int .i64 (i : Nat), .int .i64 (j : Nat)] w fun u w' => ∃ spare', Ow w' u b 1 (rows.take i ++ rows.drop j) spare' := by
 obtain ⟨c, rfl, hc1, hc2, hc3⟩ := id hs.val
 have hti : (rows.take i).length = i := by rw [List.length_take]; omega
 have htj : (rows.drop j).length = rows.length - j := List.length_drop
 have hX := Ext.refl (fun x => x = b) w
 refine Zfm (args := [_, _, _]) Tryz.func116 rfl rfl ?_
 refine Zs (Za ?_)
 refine Zc (Zs (Zm (Zm (Zm (Zm ?_)))))
 refine Zb (Z1 Xq rfl) (Zb (Xs Xq (l := i) (h := j) (m := rows.length) rfl ⟨_, rfl⟩ ⟨_, rfl⟩ ⟨_, rfl⟩ (by simp) (by omega) (by omega) (by omega)) ?_)
 refine Zc (ZC (Zs (Zm (Zm ?_))))
 refine Zb (Xc rfl rfl) (Zc ?_)
 refine ZE rfl (fun hc0 => ?_) (fun hc0 => ?_)
 ·have hie : i = j := by have := of_decide_eq_true hc0; omega
  subst hie
  refine Zs (Zm (Za ?_))
  refine Zc (ZB ?_)
  exact ⟨_, ZD (Zh rfl), hX, ⟨spare, by rw [List.take_append_drop]; exact hs⟩⟩
 ·have hie : ¬ i = j := by have := of_decide_eq_false hc0; omega
  refine ZF (Zs (Zm ?_))
  refine Zb (Z1 Xq rfl) (Za ?_)
  refine Zc (ZC (QQ (fun x => x = b) mixed ?_)); intro w1 E1
  replace hX := hX.tr E1
  replace hs := hs.ext E1 id
  have hS := Ext.refl (fun x => x = b) w1
  refine Zd 0 rfl hS Zy ?_
  refine Zd 1 rfl hS Zy ?_
  refine Zd 2 rfl hS (ZG fun A hA => Jf Xq (h := i) (m := c) rfl rfl ⟨_, rfl⟩ rfl (by simp) (by omega) (by omega)) ?_
  refine Zd 3 rfl hS Zy ?_
  refine Zd 4 rfl hS Zy ?_
  refine Zd 5 rfl hS (ZG fun A hA => Xs Xq (l := j) (h := rows.length) (m := c) rfl ⟨_, rfl⟩ rfl rfl (by simp) (by omega) (by omega) (by omega)) ?_
  refine Zp 6 rfl (ZK ?_)
  have hsl := (hs.sl (M := Non) id).cut hj (Nat.le_refl _) hc1 (Nat.le_refl _)
  refine wl_appR (rows := rows.take i) (rows2 := rows.drop j) Xq rfl rfl (hs.cut rfl (by omega)) (by rw [List.take_of_length_le (by omega)] at hsl; exact hsl) (fun r hr => h1 r (List.mem_of_mem_drop hr)) (by rw [hti, htj]; omega) ?_; intro w2 spare26 E2 O26
  rw [hti, htj] at O26 ⊢
  replace hS := hS.trans E2
  refine Zc ⟨hS, ?_⟩
  refine Zd 7 rfl hS (ZG fun A hA => Xm (by conv => lhs; whnf)) ?_
  refine Xw (by kernel_rfl) ?_ _
  replace hX := hX.trans hS
  refine Zs (Zm (Zm ?_))
  refine Zb (Z1 Xq rfl) (Zm ?_)
  refine Zb (Xs Xq (l := (i + (rows.length - j))) (h := rows.length) (m := c) rfl ⟨_, rfl⟩ ⟨_, rfl⟩ rfl (by simp) (by omega) (by omega) (by omega)) ?_
  refine wl_clear Xq rfl (J1 rfl) rfl O26 (.inr ⟨by rw [if_neg (by omega)]; simp only [Option.map_some, XF, Nat.zero_add, List.length_append, hti, htj], by obtain ⟨c9, e9, _, _, e8⟩ := O26.val; simp only [Value.slice.injEq] at e9; rw [e8, List.length_append, hti, htj, ← e9.2.2]; exact Nat.mul_le_mul_right _ (by omega)⟩) ?_; intro w3 spare27 E3 hO27
  replace hX := hX.trans E3
  refine Zc (Zs (Zm (Za ?_)))
  refine Zc (ZB ?_)
  exact ⟨_, ZD (Zh rfl), hX, ⟨spare27, hO27⟩⟩
set_option maxHeartbeats 1600000 in
theorem insert_s (w : World) (i : Nat) (rows : List (List Value)) (r : List Value) {v vx : Value} (hs : Sl Non w v 1 rows) (hv : ∃ a, v = .slice a rows.length rows.length) (hi : i ≤ rows.length) (hx : Sl Non w vx 1 [r]) (h2 : ∀ u ∈ r, u.oneCell' = true) (h1 : ∀ r ∈ rows, ∀ u ∈ r, u.oneCell' = true) (hn : rows.length ≤ 1000000) : Fn Tryz.prog 192 #[v, .int .i64 (i : Nat), vx] w fun u w' => ∃ b spare, w.heap.size ≤ b ∧ Ow w' u b 1 (rows.take i ++ r :: rows.drop i) spare := by
 obtain ⟨a, rfl⟩ := hv
 obtain ⟨a2, c2, rfl, _⟩ := hx.len
 have hbig : rows.length ≤ big := by simp only [big]; omega
 have hti : (rows.take i).length = i := by rw [List.length_take]; omega
 have htj : (rows.drop i).length = rows.length - i := List.length_drop
 have hX := Ext.refl Non w
 refine Zfw (args := [_, _, _]) Tryz.func192 rfl rfl ?_
 refine Zs (Za ?_)
 refine Zc (Zs (Zm (Zm ?_)))
 refine Zb (Xs Xq (l := i) (h := rows.length) (m := rows.length) rfl ⟨_, rfl⟩ rfl rfl (by simp) (by omega) (by omega) (by omega)) ?_
 refine Zc (Zs (Zm ?_))
 refine Zb (Z1 Xq rfl) (Za ?_)
 refine Zc (ZC (Zs (Zm ?_)))
 refine Zb (Xc rfl rfl) (Zc ?_)
 refine ZE rfl (fun hc0 => ?_) (fun hc0 => ?_)
 ·exact absurd (of_decide_eq_true hc0) (by simp)
 ·refine ZF (Zs (Zm ?_))
  refine Zb (Z1 Xq rfl) (Za ?_)
  refine Zc (ZC (Zs (Zm (Zm ?_))))
  refine Zb (Xc rfl rfl) (Zc ?_)
  refine ZE rfl (fun hc1 => ?_) (fun hc1 => ?_)
  ·have hie : i = rows.length := by have := of_decide_eq_true hc1; omega
   subst hie
   refine Zs (Zm (Zm ?_))
   have hXo := hX
   refine wl_grow Xq rfl rfl rfl (hs.ext hX (fun _ h => h)) (hx.ext hX (fun _ h => h)) (by simp only [List.length_cons, List.length_nil, List.length_append, List.length_replicate, List.length_take, List.length_drop]; omega) (by simp only [List.length_cons, List.length_nil, List.length_append, List.length_replicate, List.length_take, List.length_drop]; omega) (by simp only [List.length_cons, List.length_nil, List.length_append, List.length_replicate, big]; omega) ?_; intro v25 w1 b25 spare25 hb25 E1 hO25
   replace hX := hX.tr E1
   refine Za ?_
   refine Zc (ZB ?_)
   exact ⟨_, ZD (Zh rfl), hX, ⟨b25, spare25, Zle hXo.size hb25, by rw [List.take_of_length_le (Nat.le_refl _), List.drop_of_length_le (Nat.le_refl _)]; exact hO25⟩⟩
  ·have hie : ¬ i = rows.length := by have := of_decide_eq_false hc1; omega
   refine ZF (ZC (Zs (Zm (Zm ?_))))
   refine Zb (ZX rfl rfl (by simp only [List.length_singleton]; omega)) (Zm ?_)
   refine Zb (rn_cap Xq rfl) (Zb (Ja rfl rfl) (Zc ?_))
   refine ZE rfl (fun hc2 => ?_) (fun hc2 => ?_)
   ·refine Zs (Zm (Zm ?_))
    refine Zb (Jf Xq (h := i) (m := rows.length) rfl rfl ⟨_, rfl⟩ rfl (by simp) (by omega) (by omega)) (Zm (Zm ?_))
    refine Zb (ZX rfl rfl (by simp only [List.length_singleton]; omega)) (Zm ?_)
    refine Zb (QS rfl rfl (by simp only [List.length_singleton]; omega)) (wl_zeros (q := rows.length + 1 - i) Xq rfl JF rfl (congrArg (Value.int .i64) (by simp only [List.length_singleton]; omega)) ((hs.ext hX (fun _ h => h)).cut0 hi (by omega) (Nat.le_refl _)) (by rw [hti]; omega) (by rw [hti]; omega) (by rw [hti]; simp only [big]; omega) ?_); intro v40 w2 b40 spare40 hb40 E2 hO40
    have hq40 := Zq hX hb40
    replace hX := hX.tr E2
    refine Za ?_
    refine Zc (Zs ?_)
    obtain ⟨c40, hv40, hk1, hk2, hk3⟩ := hO40.val; rw [List.length_append, hti, List.length_replicate, show i + (rows.length + 1 - i) = rows.length + 1 from by omega] at hv40 hk1
    refine Zm (Zm ?_)
    refine Zb (Qy Xq (l := i) (h := rows.length + 1) (m := c40) hv40 ⟨_, rfl⟩ rfl rfl (by simp) (by omega) (by omega) (by omega) (by omega)) ?_
    refine Zm ?_
    refine Ql (l := i) Xq rfl rfl hO40 (hx.ext hX (fun _ h => h)) (oneR h2) (by simp only [List.length_singleton, List.length_append, hti, List.length_replicate]; omega) ?_; intro w3 E3 O45 _
    have ht45 : [r].take (rows.length + 1 - i) = [r] := List.take_of_length_le (by simp only [List.length_singleton]; omega)
    rw [ht45] at O45
    replace hX := hX.mine E3 (.inr hq40)
    refine Zc (ZC (QQ (fun x => x = b40) mixed ?_)); intro w4 E4
    replace hX := hX.tr E4
    replace O45 := O45.ext E4 id
    have hS := Ext.refl (fun x => x = b40) w4
    refine Zd 0 rfl hS Zy ?_
    refine Zd 1 rfl hS Zy ?_
    refine Zd 2 rfl hS Zy ?_
    refine Zd 3 rfl hS (ZG fun A hA => ZX rfl rfl (by simp only [List.length_singleton]; omega)) (Zd 4 rfl hS (ZG fun A hA => Qy Xq (l := i + 1) (h := rows.length + 1) (m := c40) hv40 ⟨_, rfl⟩ rfl rfl (by simp) (by omega) (by omega) (by omega) (by omega)) ?_)
    refine Zd 5 rfl hS Zy ?_
    refine Zd 6 rfl hS Zy ?_
    refine Zd 7 rfl hS (ZG fun A hA => Xs Xq (l := i) (h := rows.length) (m := rows.length) rfl ⟨_, rfl⟩ rfl rfl (by simp) (by omega) (by omega) (by omega)) ?_
    refine Zp 8 rfl (ZK ?_)
    have hsl := (hs.ext hX (fun _ h => h)).cut hi (Nat.le_refl _) (Nat.le_refl _) (Nat.le_refl _)
    have htd : (rows.drop i).take (rows.length - i) = rows.drop i := List.take_of_length_le (by rw [htj]; exact Nat.le_refl _)
    have hte : (rows.drop i).take (rows.length + 1 - (i + 1)) = rows.drop i := List.take_of_length_le (by rw [htj]; omega)
    rw [htd] at hsl
    refine Ql (l := i + 1) Xq rfl rfl O45 hsl (fun r hr => h1 r (List.mem_of_mem_drop hr)) (by rw [htj, X4 (by simp only [List.length_singleton, List.length_append, hti, List.length_replicate]; omega), List.length_append, hti, List.length_replicate]; omega) ?_; intro w5 E5 hO54 _
    rw [hte, ins_rows hi (by rw [List.length_replicate])] at hO54
    replace hS := hS.trans E5
    refine Zc ⟨hS, ?_⟩
    refine Xw (by kernel_rfl) ?_ _
    replace hX := hX.mine hS (.inr hq40)
    refine Zs (Zm (Za ?_))
    refine Zc (ZB ?_)
    exact ⟨_, ZD (Zh rfl), hX, ⟨b40, spare40, hq40, hO54⟩⟩
   ·exact absurd (of_decide_eq_false hc2) (fun h => h (by simp only [List.length_singleton]; omega))
set_option maxHeartbeats 800000 in
theorem put_s (w : World) (i : Nat) (there : Bool) (rows : List (List Value)) {v x : Value} (hs : Sl Non w v 1 rows) (hi : i ≤ rows.length) (hi2 : there = true → i < rows.length) (hx1 : x.oneCell' = true) (hxc : x.cells = #[x]) (h1 : ∀ r ∈ rows, ∀ u ∈ r, u.oneCell' = true) (hn : rows.length ≤ 1000000) : Fn Tryz.prog 120 #[v, .int .i64 (i : Nat), .bool there, x] w fun u w' => ∃ b spare, w.heap.size ≤ b ∧ Ow w' u b 1 (if there = true then rows.set i [x] else rows.take i ++ [x] :: rows.drop i) spare := by
 obtain ⟨a, c, rfl, _⟩ := hs.len
 have hbig : rows.length ≤ big := by simp only [big]; omega
 have hX := Ext.refl Non w
 refine Zfw (args := [_, _, _, _]) Tryz.func120 rfl rfl ?_
 refine Zs (Za ?_)
 refine Zc (Zs (Zm ?_))
 refine Zb (Z1 Xq rfl) (JR Xq rfl rfl rfl (by omega) hbig ?_); intro w1 b12 hb12 E1 hO12
 have hq12 := Zq hX hb12
 replace hX := hX.tr E1
 refine Za ?_
 refine Zc (Zs (Zm (Zm ?_)))
 refine Ql (l := 0) Xq (by rw [Nat.zero_mul]; rfl) rfl hO12 (hs.ext hX (fun _ h => h)) h1 (by rw [List.length_replicate]; omega) ?_; intro w2 E2 O15 _
 have hp15 : XX (List.replicate rows.length [.string ⟨#[]⟩]) 0 (rows.take rows.length) = rows := by unfold XX; simp
 rw [hp15] at O15
 replace hX := hX.mine E2 (.inr hq12)
 refine Zc (ZC (Zs (Zm ?_)))
 refine Zc ?_
 refine ZE rfl (fun hc0 => ?_) (fun hc0 => ?_)
 ·have hlt := hi2 hc0
  refine Zs (Zm (Zm (Zm ?_)))
  refine Zb (ZH Xq rfl rfl (by omega)) (JA p_9 rfl rfl hx1 hxc O15 (by omega) ?_); intro w3 E3 hO20
  replace hX := hX.mine E3 (.inr hq12)
  refine Zc (Zs (Zm (Za ?_)))
  refine Zc (ZB ?_)
  exact ⟨_, ZD (Zh rfl), hX, ⟨b12, [], hq12, by rw [if_pos hc0]; exact hO20⟩⟩
 ·refine ZF (Zs (Zm (Zm (Zm ?_))))
  refine Xz (r := [x]) Xq rfl rfl (by rw [show ev _ (Operand.tmp 24) = x from rfl, hxc]) rfl (by decide) ?_; intro v25 w4 b25 hb25 E4 hO25
  replace hX := hX.tr E4
  replace O15 := O15.ext E4 id
  have hXo := hX
  refine Zw zE rfl (insert_s w4 i rows [x] (O15.sl (M := Non) id) ⟨_, rfl⟩ hi (hO25.sl (M := Non) id) (J1 hx1) h1 hn) ?_; intro v26 w5 E5 R5
  replace hX := hX.tr E5
  replace O15 := O15.ext E5 id
  obtain ⟨b26, spare26, hb26, O26⟩ := R5
  refine Za ?_
  refine Zc (ZB ?_)
  exact ⟨_, ZD (Zh rfl), hX, ⟨b26, spare26, Zle hXo.size hb26, by rw [if_neg (by rw [hc0]; simp)]; exact O26⟩⟩
set_option maxHeartbeats 1600000 in
theorem insert_u (w : World) (i : Nat) (rows : List (List Value)) (r : List Value) {v vx : Value} (hs : Sl Non w v 0 rows) (hv : ∃ a, v = .slice a rows.length rows.length) (hi : i ≤ rows.length) (hx : Sl Non w vx 0 [r]) (h2 : ∀ u ∈ r, u.oneCell' = true) (h1 : ∀ r ∈ rows, ∀ u ∈ r, u.oneCell' = true) (hn : rows.length ≤ 1000000) : Fn Tryz.prog 308 #[v, .int .i64 (i : Nat), vx] w fun u w' => ∃ b spare, w.heap.size ≤ b ∧ Ow w' u b 0 (rows.take i ++ r :: rows.drop i) spare := by
 obtain ⟨a, rfl⟩ := hv
 obtain ⟨a2, c2, rfl, _⟩ := hx.len
 have hbig : rows.length ≤ big := by simp only [big]; omega
 have hti : (rows.take i).length = i := by rw [List.length_take]; omega
 have htj : (rows.drop i).length = rows.length - i := List.length_drop
 have hX := Ext.refl Non w
 refine Zfw (args := [_, _, _]) Tryz.func308 rfl rfl ?_
 refine Zs (Za ?_)
 refine Zc (Zs (Zm (Zm ?_)))
 refine Zb (Xs QA (l := i) (h := rows.length) (m := rows.length) rfl ⟨_, rfl⟩ rfl rfl (by simp) (by omega) (by omega) (by omega)) ?_
 refine Zc (Zs (Zm ?_))
 refine Zb (Z1 QA rfl) (Za ?_)
 refine Zc (ZC (Zs (Zm ?_)))
 refine Zb (Xc rfl rfl) (Zc ?_)
 refine ZE rfl (fun hc0 => ?_) (fun hc0 => ?_)
 ·exact absurd (of_decide_eq_true hc0) (by simp)
 ·refine ZF (Zs (Zm ?_))
  refine Zb (Z1 QA rfl) (Za ?_)
  refine Zc (ZC (Zs (Zm (Zm ?_))))
  refine Zb (Xc rfl rfl) (Zc ?_)
  refine ZE rfl (fun hc1 => ?_) (fun hc1 => ?_)
  ·have hie : i = rows.length := by have := of_decide_eq_true hc1; omega
   subst hie
   refine Zs (Zm (Zm ?_))
   have hXo := hX
   refine wl_grow QA rfl rfl rfl (hs.ext hX (fun _ h => h)) (hx.ext hX (fun _ h => h)) (by simp only [List.length_cons, List.length_nil, List.length_append, List.length_replicate, List.length_take, List.length_drop]; omega) (by simp only [List.length_cons, List.length_nil, List.length_append, List.length_replicate, List.length_take, List.length_drop]; omega) (by simp only [List.length_cons, List.length_nil, List.length_append, List.length_replicate, big]; omega) ?_; intro v25 w1 b25 spare25 hb25 E1 hO25
   replace hX := hX.tr E1
   refine Za ?_
   refine Zc (ZB ?_)
   exact ⟨_, ZD (Zh rfl), hX, ⟨b25, spare25, Zle hXo.size hb25, by rw [List.take_of_length_le (Nat.le_refl _), List.drop_of_length_le (Nat.le_refl _)]; exact hO25⟩⟩
  ·have hie : ¬ i = rows.length := by have := of_decide_eq_false hc1; omega
   refine ZF (ZC (Zs (Zm (Zm ?_))))
   refine Zb (ZX rfl rfl (by simp only [List.length_singleton]; omega)) (Zm ?_)
   refine Zb (rn_cap QA rfl) (Zb (Ja rfl rfl) (Zc ?_))
   refine ZE rfl (fun hc2 => ?_) (fun hc2 => ?_)
   ·refine Zs (Zm (Zm ?_))
    refine Zb (Jf QA (h := i) (m := rows.length) rfl rfl ⟨_, rfl⟩ rfl (by simp) (by omega) (by omega)) (Zm (Zm ?_))
    refine Zb (ZX rfl rfl (by simp only [List.length_singleton]; omega)) (Zm ?_)
    refine Zb (QS rfl rfl (by simp only [List.length_singleton]; omega)) (wl_zeros (q := rows.length + 1 - i) QA rfl JF rfl (congrArg (Value.int .i64) (by simp only [List.length_singleton]; omega)) ((hs.ext hX (fun _ h => h)).cut0 hi (by omega) (Nat.le_refl _)) (by rw [hti]; omega) (by rw [hti]; omega) (by rw [hti]; simp only [big]; omega) ?_); intro v40 w2 b40 spare40 hb40 E2 hO40
    have hq40 := Zq hX hb40
    replace hX := hX.tr E2
    refine Za ?_
    refine Zc (Zs ?_)
    obtain ⟨c40, hv40, hk1, hk2, hk3⟩ := hO40.val; rw [List.length_append, hti, List.length_replicate, show i + (rows.length + 1 - i) = rows.length + 1 from by omega] at hv40 hk1
    refine Zm (Zm ?_)
    refine Zb (Qy QA (l := i) (h := rows.length + 1) (m := c40) hv40 ⟨_, rfl⟩ rfl rfl (by simp) (by omega) (by omega) (by omega) (by omega)) ?_
    refine Zm ?_
    refine Ql (l := i) QA rfl rfl hO40 (hx.ext hX (fun _ h => h)) (oneR h2) (by simp only [List.length_singleton, List.length_append, hti, List.length_replicate]; omega) ?_; intro w3 E3 O45 _
    have ht45 : [r].take (rows.length + 1 - i) = [r] := List.take_of_length_le (by simp only [List.length_singleton]; omega)
    rw [ht45] at O45
    replace hX := hX.mine E3 (.inr hq40)
    refine Zc (ZC (QQ (fun x => x = b40) mixed ?_)); intro w4 E4
    replace hX := hX.tr E4
    replace O45 := O45.ext E4 id
    have hS := Ext.refl (fun x => x = b40) w4
    refine Zd 0 rfl hS Zy ?_
    refine Zd 1 rfl hS Zy ?_
    refine Zd 2 rfl hS Zy ?_
    refine Zd 3 rfl hS (ZG fun A hA => ZX rfl rfl (by simp only [List.length_singleton]; omega)) (Zd 4 rfl hS (ZG fun A hA => Qy QA (l := i + 1) (h := rows.length + 1) (m := c40) hv40 ⟨_, rfl⟩ rfl rfl (by simp) (by omega) (by omega) (by omega) (by omega)) ?_)
    refine Zd 5 rfl hS Zy ?_
    refine Zd 6 rfl hS Zy ?_
    refine Zd 7 rfl hS (ZG fun A hA => Xs QA (l := i) (h := rows.length) (m := rows.length) rfl ⟨_, rfl⟩ rfl rfl (by simp) (by omega) (by omega) (by omega)) ?_
    refine Zp 8 rfl (ZK ?_)
    have hsl := (hs.ext hX (fun _ h => h)).cut hi (Nat.le_refl _) (Nat.le_refl _) (Nat.le_refl _)
    have htd : (rows.drop i).take (rows.length - i) = rows.drop i := List.take_of_length_le (by rw [htj]; exact Nat.le_refl _)
    have hte : (rows.drop i).take (rows.length + 1 - (i + 1)) = rows.drop i := List.take_of_length_le (by rw [htj]; omega)
    rw [htd] at hsl
    refine Ql (l := i + 1) QA rfl rfl O45 hsl (fun r hr => h1 r (List.mem_of_mem_drop hr)) (by rw [htj, X4 (by simp only [List.length_singleton, List.length_append, hti, List.length_replicate]; omega), List.length_append, hti, List.length_replicate]; omega) ?_; intro w5 E5 hO54 _
    rw [hte, ins_rows hi (by rw [List.length_replicate])] at hO54
    replace hS := hS.trans E5
    refine Zc ⟨hS, ?_⟩
    refine Xw (by kernel_rfl) ?_ _
    replace hX := hX.mine hS (.inr hq40)
    refine Zs (Zm (Za ?_))
    refine Zc (ZB ?_)
    exact ⟨_, ZD (Zh rfl), hX, ⟨b40, spare40, hq40, hO54⟩⟩
   ·exact absurd (of_decide_eq_false hc2) (fun h => h (by simp only [List.length_singleton]; omega))
set_option maxHeartbeats 800000 in
theorem put_u (w : World) (i : Nat) (there : Bool) (rows : List (List Value)) {v x : Value} (hs : Sl Non w v 0 rows) (hi : i ≤ rows.length) (hi2 : there = true → i < rows.length) (hxe : x = .agg #[]) (h1 : ∀ r ∈ rows, ∀ u ∈ r, u.oneCell' = true) (hn : rows.length ≤ 1000000) : Fn Tryz.prog 264 #[v, .int .i64 (i : Nat), .bool there, x] w fun u w' => ∃ b spare, w.heap.size ≤ b ∧ Ow w' u b 0 (if there = true then rows.set i [] else rows.take i ++ [] :: rows.drop i) spare := by
 obtain ⟨a, c, rfl, _⟩ := hs.len
 have hbig : rows.length ≤ big := by simp only [big]; omega
 subst hxe
 have hX := Ext.refl Non w
 refine Zfw (args := [_, _, _, _]) Tryz.func264 rfl rfl ?_
 refine Zs (ZY rfl ?_); intro b7 w1 hb7 E1 B7
 have hq7 := Zq hX hb7
 replace hX := hX.tr E1
 refine Za ?_
 refine Zc (Zs (Zm ?_))
 refine Zb (Z1 QA rfl) (JR QA rfl rfl rfl (by omega) hbig ?_); intro w2 b12 hb12 E2 hO12
 have hq12 := Zq hX hb12
 have hn7 := Zn B7 hb12
 replace hX := hX.tr E2
 replace B7 := Zx B7 E2
 refine Za ?_
 refine Zc (Zs (Zm (Zm ?_)))
 refine Ql (l := 0) QA (by rw [Nat.zero_mul]; rfl) rfl hO12 (hs.ext hX (fun _ h => h)) h1 (by rw [List.length_replicate]; omega) ?_; intro w3 E3 O15 _
 have hp15 : XX (List.replicate rows.length []) 0 (rows.take rows.length) = rows := by unfold XX; simp
 rw [hp15] at O15
 replace hX := hX.mine E3 (.inr hq12)
 replace B7 := B7.ext E3 (fun e => by omega)
 refine Zc (ZC (Zs (Zm ?_)))
 refine Zc ?_
 refine ZE rfl (fun hc0 => ?_) (fun hc0 => ?_)
 ·have hlt := hi2 hc0
  refine Zs (Zm (Zm ?_))
  refine Zb (ZR s_270 rfl rfl B7) (Zb (ZH QA rfl rfl (by omega)) (wl_store0 s_270 rfl rfl ?_))
  obtain ⟨w4, hw4⟩ : ∃ A, A = w3 := ⟨_, rfl⟩; subst hw4
  have hO20 := O15.set0 i
  refine Zc (Zs (Zm (Za ?_)))
  refine Zc (ZB ?_)
  exact ⟨_, ZD (Zh rfl), hX, ⟨b12, [], hq12, by rw [if_pos hc0]; exact hO20⟩⟩
 ·refine ZF (Zs (Zm (Zm ?_)))
  refine Zb (ZR s_270 rfl rfl B7) (Xz (r := []) QA rfl rfl rfl rfl (by decide) ?_); intro v25 w5 b25 hb25 E5 hO25
  replace hX := hX.tr E5
  replace B7 := Zx B7 E5
  replace O15 := O15.ext E5 id
  have hXo := hX
  refine Zw zE rfl (insert_u w5 i rows [] (O15.sl (M := Non) id) ⟨_, rfl⟩ hi (hO25.sl (M := Non) id) (by simp) h1 hn) ?_; intro v26 w6 E6 R6
  replace hX := hX.tr E6
  replace B7 := Zx B7 E6
  replace O15 := O15.ext E6 id
  obtain ⟨b26, spare26, hb26, O26⟩ := R6
  refine Za ?_
  refine Zc (ZB ?_)
  exact ⟨_, ZD (Zh rfl), hX, ⟨b26, spare26, Zle hXo.size hb26, by rw [if_neg (by rw [hc0]; simp)]; exact O26⟩⟩
set_option maxHeartbeats 1600000 in
theorem insert_n (w : World) (i : Nat) (rows : List (List Value)) (r : List Value) {v vx : Value} (hs : Sl Non w v 1 rows) (hv : ∃ a, v = .slice a rows.length rows.length) (hi : i ≤ rows.length) (hx : Sl Non w vx 1 [r]) (h2 : ∀ u ∈ r, u.oneCell' = true) (h1 : ∀ r ∈ rows, ∀ u ∈ r, u.oneCell' = true) (hn : rows.length ≤ 1000000) : Fn Tryz.prog 340 #[v, .int .i64 (i : Nat), vx] w fun u w' => ∃ b spare, w.heap.size ≤ b ∧ Ow w' u b 1 (rows.take i ++ r :: rows.drop i) spare := by
 obtain ⟨a, rfl⟩ := hv
 obtain ⟨a2, c2, rfl, _⟩ := hx.len
 have hbig : rows.length ≤ big := by simp only [big]; omega
 have hti : (rows.take i).length = i := by rw [List.length_take]; omega
 have htj : (rows.drop i).length = rows.length - i := List.length_drop
 have hX := Ext.refl Non w
 refine Zfw (args := [_, _, _]) Tryz.func340 rfl rfl ?_
 refine Zs (Za ?_)
 refine Zc (Zs (Zm (Zm ?_)))
 refine Zb (Xs Qz (l := i) (h := rows.length) (m := rows.length) rfl ⟨_, rfl⟩ rfl rfl (by simp) (by omega) (by omega) (by omega)) ?_
 refine Zc (Zs (Zm ?_))
 refine Zb (Z1 Qz rfl) (Za ?_)
 refine Zc (ZC (Zs (Zm ?_)))
 refine Zb (Xc rfl rfl) (Zc ?_)
 refine ZE rfl (fun hc0 => ?_) (fun hc0 => ?_)
 ·exact absurd (of_decide_eq_true hc0) (by simp)
 ·refine ZF (Zs (Zm ?_))
  refine Zb (Z1 Qz rfl) (Za ?_)
  refine Zc (ZC (Zs (Zm (Zm ?_))))
  refine Zb (Xc rfl rfl) (Zc ?_)
  refine ZE rfl (fun hc1 => ?_) (fun hc1 => ?_)
  ·have hie : i = rows.length := by have := of_decide_eq_true hc1; omega
   subst hie
   refine Zs (Zm (Zm ?_))
   have hXo := hX
   refine wl_grow Qz rfl rfl rfl (hs.ext hX (fun _ h => h)) (hx.ext hX (fun _ h => h)) (by simp only [List.length_cons, List.length_nil, List.length_append, List.length_replicate, List.length_take, List.length_drop]; omega) (by simp only [List.length_cons, List.length_nil, List.length_append, List.length_replicate, List.length_take, List.length_drop]; omega) (by simp only [List.length_cons, List.length_nil, List.length_append, List.length_replicate, big]; omega) ?_; intro v25 w1 b25 spare25 hb25 E1 hO25
   replace hX := hX.tr E1
   refine Za ?_
   refine Zc (ZB ?_)
   exact ⟨_, ZD (Zh rfl), hX, ⟨b25, spare25, Zle hXo.size hb25, by rw [List.take_of_length_le (Nat.le_refl _), List.drop_of_length_le (Nat.le_refl _)]; exact hO25⟩⟩
  ·have hie : ¬ i = rows.length := by have := of_decide_eq_false hc1; omega
   refine ZF (ZC (Zs (Zm (Zm ?_))))
   refine Zb (ZX rfl rfl (by simp only [List.length_singleton]; omega)) (Zm ?_)
   refine Zb (rn_cap Qz rfl) (Zb (Ja rfl rfl) (Zc ?_))
   refine ZE rfl (fun hc2 => ?_) (fun hc2 => ?_)
   ·refine Zs (Zm (Zm ?_))
    refine Zb (Jf Qz (h := i) (m := rows.length) rfl rfl ⟨_, rfl⟩ rfl (by simp) (by omega) (by omega)) (Zm (Zm ?_))
    refine Zb (ZX rfl rfl (by simp only [List.length_singleton]; omega)) (Zm ?_)
    refine Zb (QS rfl rfl (by simp only [List.length_singleton]; omega)) (wl_zeros (q := rows.length + 1 - i) Qz rfl JF rfl (congrArg (Value.int .i64) (by simp only [List.length_singleton]; omega)) ((hs.ext hX (fun _ h => h)).cut0 hi (by omega) (Nat.le_refl _)) (by rw [hti]; omega) (by rw [hti]; omega) (by rw [hti]; simp only [big]; omega) ?_); intro v40 w2 b40 spare40 hb40 E2 hO40
    have hq40 := Zq hX hb40
    replace hX := hX.tr E2
    refine Za ?_
    refine Zc (Zs ?_)
    obtain ⟨c40, hv40, hk1, hk2, hk3⟩ := hO40.val; rw [List.length_append, hti, List.length_replicate, show i + (rows.length + 1 - i) = rows.length + 1 from by omega] at hv40 hk1
    refine Zm (Zm ?_)
    refine Zb (Qy Qz (l := i) (h := rows.length + 1) (m := c40) hv40 ⟨_, rfl⟩ rfl rfl (by simp) (by omega) (by omega) (by omega) (by omega)) ?_
    refine Zm ?_
    refine Ql (l := i) Qz rfl rfl hO40 (hx.ext hX (fun _ h => h)) (oneR h2) (by simp only [List.length_singleton, List.length_append, hti, List.length_replicate]; omega) ?_; intro w3 E3 O45 _
    have ht45 : [r].take (rows.length + 1 - i) = [r] := List.take_of_length_le (by simp only [List.length_singleton]; omega)
    rw [ht45] at O45
    replace hX := hX.mine E3 (.inr hq40)
    refine Zc (ZC (QQ (fun x => x = b40) mixed ?_)); intro w4 E4
    replace hX := hX.tr E4
    replace O45 := O45.ext E4 id
    have hS := Ext.refl (fun x => x = b40) w4
    refine Zd 0 rfl hS Zy ?_
    refine Zd 1 rfl hS Zy ?_
    refine Zd 2 rfl hS Zy ?_
    refine Zd 3 rfl hS (ZG fun A hA => ZX rfl rfl (by simp only [List.length_singleton]; omega)) (Zd 4 rfl hS (ZG fun A hA => Qy Qz (l := i + 1) (h := rows.length + 1) (m := c40) hv40 ⟨_, rfl⟩ rfl rfl (by simp) (by omega) (by omega) (by omega) (by omega)) ?_)
    refine Zd 5 rfl hS Zy ?_
    refine Zd 6 rfl hS Zy ?_
    refine Zd 7 rfl hS (ZG fun A hA => Xs Qz (l := i) (h := rows.length) (m := rows.length) rfl ⟨_, rfl⟩ rfl rfl (by simp) (by omega) (by omega) (by omega)) ?_
    refine Zp 8 rfl (ZK ?_)
    have hsl := (hs.ext hX (fun _ h => h)).cut hi (Nat.le_refl _) (Nat.le_refl _) (Nat.le_refl _)
    have htd : (rows.drop i).take (rows.length - i) = rows.drop i := List.take_of_length_le (by rw [htj]; exact Nat.le_refl _)
    have hte : (rows.drop i).take (rows.length + 1 - (i + 1)) = rows.drop i := List.take_of_length_le (by rw [htj]; omega)
    rw [htd] at hsl
    refine Ql (l := i + 1) Qz rfl rfl O45 hsl (fun r hr => h1 r (List.mem_of_mem_drop hr)) (by rw [htj, X4 (by simp only [List.length_singleton, List.length_append, hti, List.length_replicate]; omega), List.length_append, hti, List.length_replicate]; omega) ?_; intro w5 E5 hO54 _
    rw [hte, ins_rows hi (by rw [List.length_replicate])] at hO54
    replace hS := hS.trans E5
    refine Zc ⟨hS, ?_⟩
    refine Xw (by kernel_rfl) ?_ _
    replace hX := hX.mine hS (.inr hq40)
    refine Zs (Zm (Za ?_))
    refine Zc (ZB ?_)
    exact ⟨_, ZD (Zh rfl), hX, ⟨b40, spare40, hq40, hO54⟩⟩
   ·exact absurd (of_decide_eq_false hc2) (fun h => h (by simp only [List.length_singleton]; omega))
set_option maxHeartbeats 800000 in
theorem put_n (w : World) (i : Nat) (there : Bool) (rows : List (List Value)) {v x : Value} (hs : Sl Non w v 1 rows) (hi : i ≤ rows.length) (hi2 : there = true → i < rows.length) (hx1 : x.oneCell' = true) (hxc : x.cells = #[x]) (h1 : ∀ r ∈ rows, ∀ u ∈ r, u.oneCell' = true) (hn : rows.length ≤ 1000000) : Fn Tryz.prog 316 #[v, .int .i64 (i : Nat), .bool there, x] w fun u w' => ∃ b spare, w.heap.size ≤ b ∧ Ow w' u b 1 (if there = true then rows.set i [x] else rows.take i ++ [x] :: rows.drop i) spare := by
 obtain ⟨a, c, rfl, _⟩ := hs.len
 have hbig : rows.length ≤ big := by simp only [big]; omega
 have hX := Ext.refl Non w
 refine Zfw (args := [_, _, _, _]) Tryz.func316 rfl rfl ?_
 refine Zs (Za ?_)
 refine Zc (Zs (Zm ?_))
 refine Zb (Z1 Qz rfl) (JR Qz rfl rfl rfl (by omega) hbig ?_); intro w1 b12 hb12 E1 hO12
 have hq12 := Zq hX hb12
 replace hX := hX.tr E1
 refine Za ?_
 refine Zc (Zs (Zm (Zm ?_)))
 refine Ql (l := 0) Qz (by rw [Nat.zero_mul]; rfl) rfl hO12 (hs.ext hX (fun _ h => h)) h1 (by rw [List.length_replicate]; omega) ?_; intro w2 E2 O15 _
 have hp15 : XX (List.replicate rows.length [.pointer none]) 0 (rows.take rows.length) = rows := by unfold XX; simp
 rw [hp15] at O15
 replace hX := hX.mine E2 (.inr hq12)
 refine Zc (ZC (Zs (Zm ?_)))
 refine Zc ?_
 refine ZE rfl (fun hc0 => ?_) (fun hc0 => ?_)
 ·have hlt := hi2 hc0
  refine Zs (Zm (Zm (Zm ?_)))
  refine Zb (ZH Qz rfl rfl (by omega)) (JA p_101 rfl rfl hx1 hxc O15 (by omega) ?_); intro w3 E3 hO20
  replace hX := hX.mine E3 (.inr hq12)
  refine Zc (Zs (Zm (Za ?_)))
  refine Zc (ZB ?_)
  exact ⟨_, ZD (Zh rfl), hX, ⟨b12, [], hq12, by rw [if_pos hc0]; exact hO20⟩⟩
 ·refine ZF (Zs (Zm (Zm (Zm ?_))))
  refine Xz (r := [x]) Qz rfl rfl (by rw [show ev _ (Operand.tmp 24) = x from rfl, hxc]) rfl (by decide) ?_; intro v25 w4 b25 hb25 E4 hO25
  replace hX := hX.tr E4
  replace O15 := O15.ext E4 id
  have hXo := hX
  refine Zw zE rfl (insert_n w4 i rows [x] (O15.sl (M := Non) id) ⟨_, rfl⟩ hi (hO25.sl (M := Non) id) (J1 hx1) h1 hn) ?_; intro v26 w5 E5 R5
  replace hX := hX.tr E5
  replace O15 := O15.ext E5 id
  obtain ⟨b26, spare26, hb26, O26⟩ := R5
  refine Za ?_
  refine Zc (ZB ?_)
  exact ⟨_, ZD (Zh rfl), hX, ⟨b26, spare26, Zle hXo.size hb26, by rw [if_neg (by rw [hc0]; simp)]; exact O26⟩⟩
theorem clone_e (w : World) (rows : List (List Value)) {v : Value} (hs : Sl Non w v 2 rows) (h1 : ∀ r ∈ rows, ∀ u ∈ r, u.oneCell' = true) (hn : rows.length ≤ 1000000) : Fn Tryz.prog 119 #[v] w fun u w' => ∃ oo, OwO w' u oo 2 rows ∧ ∀ i, oo = some i → w.heap.size ≤ i := by
 obtain ⟨a, c, rfl, _⟩ := hs.len
 have hX := Ext.refl Non w
 refine Zfw (args := [_]) Tryz.func119 rfl rfl ?_
 refine Zs (Za ?_)
 refine Zc (ZC (Zs (Zm ?_)))
 refine Zb (Q9 X9 rfl rfl) (Zc ?_)
 refine ZE rfl (fun hc0 => ?_) (fun hc0 => ?_)
 ·have hr : rows = [] := by obtain ⟨⟨a2, c2, e1, _, _, e4⟩, _⟩ := hs; simp only [Value.slice.injEq] at e1; rcases e4 with e4 | ⟨b, o, e4, _⟩; exact e4; rw [e1.1, e4] at hc0; cases hc0
  refine Zs (Za ?_)
  refine Zc (ZB ?_)
  exact ⟨_, ZD (Zh rfl), hX, ⟨none, by rw [hr]; exact OwO.nil, by simp⟩⟩
 ·refine ZF (Zs (wl_lit (rows := []) (parts := []) X9 rfl (by decide) (by decide) rfl rfl (by simp) (by simp) rfl ?_)); intro v5 w1 b5 hb5 E1 hO5
  have hq5 := Zq hX hb5
  replace hX := hX.tr E1
  refine Zm ?_
  have hXo := hX
  refine Qm X9 rfl rfl rfl (o := some b5) (rows := []) (.inr ⟨b5, [], rfl, hO5⟩) (hs.ext hX (fun _ h => h)) h1 (by simp only [List.length_cons, List.length_nil, List.length_append, List.length_replicate, List.length_take, List.length_drop]; omega) (by simp only [List.length_cons, List.length_nil, List.length_append, List.length_replicate, big]; omega) ?_; intro v7 w2 o7 E2 hO7 hf7
  replace hX := hX.mineO E2 (fun i hi => by cases hi; exact .inr hq5)
  refine Za ?_
  refine Zc (ZB ?_)
  exact ⟨_, ZD (Zh rfl), hX, ⟨o7, by rw [List.nil_append] at hO7; exact hO7, fun i hi => by rcases hf7 i hi with h | h; cases h; exact hq5; exact Zle hXo.size h⟩⟩
theorem delete_e (w : World) (i j b : Nat) (rows : List (List Value)) (spare : List Value) {v : Value} (hs : Ow w v b 2 rows spare) (hij : i ≤ j) (hj : j ≤ rows.length) (h1 : ∀ r ∈ rows, ∀ u ∈ r, u.oneCell' = true) (hn : rows.length ≤ 1000000) : FnM Tryz.prog (fun x => x = b) 118 #[v, .int .i64 (i : Nat), .int .i64 (j : Nat)] w fun u w' => ∃ spare', Ow w' u b 2 (rows.take i ++ rows.drop j) spare' := by
 obtain ⟨c, rfl, hc1, hc2, hc3⟩ := id hs.val
 have hti : (rows.take i).length = i := by rw [List.length_take]; omega
 have htj : (rows.drop j).length = rows.length - j := List.length_drop
 have hX := Ext.refl (fun x => x = b) w
 refine Zfm (args := [_, _, _]) Tryz.func118 rfl rfl ?_
 refine Zs (Za ?_)
 refine Zc (Zs (Zm (Zm (Zm (Zm ?_)))))
 refine Zb (Z1 X9 rfl) (Zb (Xs X9 (l := i) (h := j) (m := rows.length) rfl ⟨_, rfl⟩ ⟨_, rfl⟩ ⟨_, rfl⟩ (by simp) (by omega) (by omega) (by omega)) ?_)
 refine Zc (ZC (Zs (Zm (Zm ?_))))
 refine Zb (Xc rfl rfl) (Zc ?_)
 refine ZE rfl (fun hc0 => ?_) (fun hc0 => ?_)
 ·have hie : i = j := by have := of_decide_eq_true hc0; omega
  subst hie
  refine Zs (Zm (Za ?_))
  refine Zc (ZB ?_)
  exact ⟨_, ZD (Zh rfl), hX, ⟨spare, by rw [List.take_append_drop]; exact hs⟩⟩
 ·have hie : ¬ i = j := by have := of_decide_eq_false hc0; omega
  refine ZF (Zs (Zm ?_))
  refine Zb (Z1 X9 rfl) (Za ?_)
  refine Zc (ZC (QQ (fun x => x = b) mixed ?_)); intro w1 E1
  replace hX := hX.tr E1
  replace hs := hs.ext E1 id
  have hS := Ext.refl (fun x => x = b) w1
  refine Zd 0 rfl hS Zy ?_
  refine Zd 1 rfl hS Zy ?_
  refine Zd 2 rfl hS (ZG fun A hA => Jf X9 (h := i) (m := c) rfl rfl ⟨_, rfl⟩ rfl (by simp) (by omega) (by omega)) ?_
  refine Zd 3 rfl hS Zy ?_
  refine Zd 4 rfl hS Zy ?_
  refine Zd 5 rfl hS (ZG fun A hA => Xs X9 (l := j) (h := rows.length) (m := c) rfl ⟨_, rfl⟩ rfl rfl (by simp) (by omega) (by omega) (by omega)) ?_
  refine Zp 6 rfl (ZK ?_)
  have hsl := (hs.sl (M := Non) id).cut hj (Nat.le_refl _) hc1 (Nat.le_refl _)
  refine wl_appR (rows := rows.take i) (rows2 := rows.drop j) X9 rfl rfl (hs.cut rfl (by omega)) (by rw [List.take_of_length_le (by omega)] at hsl; exact hsl) (fun r hr => h1 r (List.mem_of_mem_drop hr)) (by rw [hti, htj]; omega) ?_; intro w2 spare26 E2 O26
  rw [hti, htj] at O26 ⊢
  replace hS := hS.trans E2
  refine Zc ⟨hS, ?_⟩
  refine Zd 7 rfl hS (ZG fun A hA => Xm (by conv => lhs; whnf)) ?_
  refine Xw (by kernel_rfl) ?_ _
  replace hX := hX.trans hS
  refine Zs (Zm (Zm ?_))
  refine Zb (Z1 X9 rfl) (Zm ?_)
  refine Zb (Xs X9 (l := (i + (rows.length - j))) (h := rows.length) (m := c) rfl ⟨_, rfl⟩ ⟨_, rfl⟩ rfl (by simp) (by omega) (by omega) (by omega)) ?_
  refine wl_clear X9 rfl (two1' rfl rfl) rfl O26 (.inr ⟨by rw [if_neg (by omega)]; simp only [Option.map_some, XF, Nat.zero_add, List.length_append, hti, htj], by obtain ⟨c9, e9, _, _, e8⟩ := O26.val; simp only [Value.slice.injEq] at e9; rw [e8, List.length_append, hti, htj, ← e9.2.2]; exact Nat.mul_le_mul_right _ (by omega)⟩) ?_; intro w3 spare27 E3 hO27
  replace hX := hX.trans E3
  refine Zc (Zs (Zm (Za ?_)))
  refine Zc (ZB ?_)
  exact ⟨_, ZD (Zh rfl), hX, ⟨spare27, hO27⟩⟩
set_option maxHeartbeats 1600000 in
theorem insert_e (w : World) (i : Nat) (rows : List (List Value)) (r : List Value) {v vx : Value} (hs : Sl Non w v 2 rows) (hv : ∃ a, v = .slice a rows.length rows.length) (hi : i ≤ rows.length) (hx : Sl Non w vx 2 [r]) (h2 : ∀ u ∈ r, u.oneCell' = true) (h1 : ∀ r ∈ rows, ∀ u ∈ r, u.oneCell' = true) (hn : rows.length ≤ 1000000) : Fn Tryz.prog 193 #[v, .int .i64 (i : Nat), vx] w fun u w' => ∃ b spare, w.heap.size ≤ b ∧ Ow w' u b 2 (rows.take i ++ r :: rows.drop i) spare := by
 obtain ⟨a, rfl⟩ := hv
 obtain ⟨a2, c2, rfl, _⟩ := hx.len
 have hbig : rows.length ≤ big := by simp only [big]; omega
 have hti : (rows.take i).length = i := by rw [List.length_take]; omega
 have htj : (rows.drop i).length = rows.length - i := List.length_drop
 have hX := Ext.refl Non w
 refine Zfw (args := [_, _, _]) Tryz.func193 rfl rfl ?_
 refine Zs (Za ?_)
 refine Zc (Zs (Zm (Zm ?_)))
 refine Zb (Xs X9 (l := i) (h := rows.length) (m := rows.length) rfl ⟨_, rfl⟩ rfl rfl (by simp) (by omega) (by omega) (by omega)) ?_
 refine Zc (Zs (Zm ?_))
 refine Zb (Z1 X9 rfl) (Za ?_)
 refine Zc (ZC (Zs (Zm ?_)))
 refine Zb (Xc rfl rfl) (Zc ?_)
 refine ZE rfl (fun hc0 => ?_) (fun hc0 => ?_)
 ·exact absurd (of_decide_eq_true hc0) (by simp)
 ·refine ZF (Zs (Zm ?_))
  refine Zb (Z1 X9 rfl) (Za ?_)
  refine Zc (ZC (Zs (Zm (Zm ?_))))
  refine Zb (Xc rfl rfl) (Zc ?_)
  refine ZE rfl (fun hc1 => ?_) (fun hc1 => ?_)
  ·have hie : i = rows.length := by have := of_decide_eq_true hc1; omega
   subst hie
   refine Zs (Zm (Zm ?_))
   have hXo := hX
   refine wl_grow X9 rfl rfl rfl (hs.ext hX (fun _ h => h)) (hx.ext hX (fun _ h => h)) (by simp only [List.length_cons, List.length_nil, List.length_append, List.length_replicate, List.length_take, List.length_drop]; omega) (by simp only [List.length_cons, List.length_nil, List.length_append, List.length_replicate, List.length_take, List.length_drop]; omega) (by simp only [List.length_cons, List.length_nil, List.length_append, List.length_replicate, big]; omega) ?_; intro v25 w1 b25 spare25 hb25 E1 hO25
   replace hX := hX.tr E1
   refine Za ?_
   refine Zc (ZB ?_)
   exact ⟨_, ZD (Zh rfl), hX, ⟨b25, spare25, Zle hXo.size hb25, by rw [List.take_of_length_le (Nat.le_refl _), List.drop_of_length_le (Nat.le_refl _)]; exact hO25⟩⟩
  ·have hie : ¬ i = rows.length := by have := of_decide_eq_false hc1; omega
   refine ZF (ZC (Zs (Zm (Zm ?_))))
   refine Zb (ZX rfl rfl (by simp only [List.length_singleton]; omega)) (Zm ?_)
   refine Zb (rn_cap X9 rfl) (Zb (Ja rfl rfl) (Zc ?_))
   refine ZE rfl (fun hc2 => ?_) (fun hc2 => ?_)
   ·refine Zs (Zm (Zm ?_))
    refine Zb (Jf X9 (h := i) (m := rows.length) rfl rfl ⟨_, rfl⟩ rfl (by simp) (by omega) (by omega)) (Zm (Zm ?_))
    refine Zb (ZX rfl rfl (by simp only [List.length_singleton]; omega)) (Zm ?_)
    refine Zb (QS rfl rfl (by simp only [List.length_singleton]; omega)) (wl_zeros (q := rows.length + 1 - i) X9 rfl JF rfl (congrArg (Value.int .i64) (by simp only [List.length_singleton]; omega)) ((hs.ext hX (fun _ h => h)).cut0 hi (by omega) (Nat.le_refl _)) (by rw [hti]; omega) (by rw [hti]; omega) (by rw [hti]; simp only [big]; omega) ?_); intro v40 w2 b40 spare40 hb40 E2 hO40
    have hq40 := Zq hX hb40
    replace hX := hX.tr E2
    refine Za ?_
    refine Zc (Zs ?_)
    obtain ⟨c40, hv40, hk1, hk2, hk3⟩ := hO40.val; rw [List.length_append, hti, List.length_replicate, show i + (rows.length + 1 - i) = rows.length + 1 from by omega] at hv40 hk1
    refine Zm (Zm ?_)
    refine Zb (Qy X9 (l := i) (h := rows.length + 1) (m := c40) hv40 ⟨_, rfl⟩ rfl rfl (by simp) (by omega) (by omega) (by omega) (by omega)) ?_
    refine Zm ?_
    refine Ql (l := i) X9 rfl rfl hO40 (hx.ext hX (fun _ h => h)) (oneR h2) (by simp only [List.length_singleton, List.length_append, hti, List.length_replicate]; omega) ?_; intro w3 E3 O45 _
    have ht45 : [r].take (rows.length + 1 - i) = [r] := List.take_of_length_le (by simp only [List.length_singleton]; omega)
    rw [ht45] at O45
    replace hX := hX.mine E3 (.inr hq40)
    refine Zc (ZC (QQ (fun x => x = b40) mixed ?_)); intro w4 E4
    replace hX := hX.tr E4
    replace O45 := O45.ext E4 id
    have hS := Ext.refl (fun x => x = b40) w4
    refine Zd 0 rfl hS Zy ?_
    refine Zd 1 rfl hS Zy ?_
    refine Zd 2 rfl hS Zy ?_
    refine Zd 3 rfl hS (ZG fun A hA => ZX rfl rfl (by simp only [List.length_singleton]; omega)) (Zd 4 rfl hS (ZG fun A hA => Qy X9 (l := i + 1) (h := rows.length + 1) (m := c40) hv40 ⟨_, rfl⟩ rfl rfl (by simp) (by omega) (by omega) (by omega) (by omega)) ?_)
    refine Zd 5 rfl hS Zy ?_
    refine Zd 6 rfl hS Zy ?_
    refine Zd 7 rfl hS (ZG fun A hA => Xs X9 (l := i) (h := rows.length) (m := rows.length) rfl ⟨_, rfl⟩ rfl rfl (by simp) (by omega) (by omega) (by omega)) ?_
    refine Zp 8 rfl (ZK ?_)
    have hsl := (hs.ext hX (fun _ h => h)).cut hi (Nat.le_refl _) (Nat.le_refl _) (Nat.le_refl _)
    have htd : (rows.drop i).take (rows.length - i) = rows.drop i := List.take_of_length_le (by rw [htj]; exact Nat.le_refl _)
    have hte : (rows.drop i).take (rows.length + 1 - (i + 1)) = rows.drop i := List.take_of_length_le (by rw [htj]; omega)
    rw [htd] at hsl
    refine Ql (l := i + 1) X9 rfl rfl O45 hsl (fun r hr => h1 r (List.mem_of_mem_drop hr)) (by rw [htj, X4 (by simp only [List.length_singleton, List.length_append, hti, List.length_replicate]; omega), List.length_append, hti, List.length_replicate]; omega) ?_; intro w5 E5 hO54 _
    rw [hte, ins_rows hi (by rw [List.length_replicate])] at hO54
    replace hS := hS.trans E5
    refine Zc ⟨hS, ?_⟩
    refine Xw (by kernel_rfl) ?_ _
    replace hX := hX.mine hS (.inr hq40)
    refine Zs (Zm (Za ?_))
    refine Zc (ZB ?_)
    exact ⟨_, ZD (Zh rfl), hX, ⟨b40, spare40, hq40, hO54⟩⟩
   ·exact absurd (of_decide_eq_false hc2) (fun h => h (by simp only [List.length_singleton]; omega))
set_option maxHeartbeats 800000 in
theorem put_e (w : World) (i : Nat) (there : Bool) (rows : List (List Value)) {v p q : Value} (hs : Sl Non w v 2 rows) (hi : i ≤ rows.length) (hi2 : there = true → i < rows.length) (hp1 : p.oneCell' = true) (hq1 : q.oneCell' = true) (h1 : ∀ r ∈ rows, ∀ u ∈ r, u.oneCell' = true) (hn : rows.length ≤ 1000000) : Fn Tryz.prog 121 #[v, .int .i64 (i : Nat), .bool there, .agg #[p, q]] w fun u w' => ∃ b spare, w.heap.size ≤ b ∧ Ow w' u b 2 (if there = true then rows.set i [p, q] else rows.take i ++ [p, q] :: rows.drop i) spare := by
 obtain ⟨a, c, rfl, _⟩ := hs.len
 have hbig : rows.length ≤ big := by simp only [big]; omega
 have hX := Ext.refl Non w
 refine Zfw (args := [_, _, _, _]) Tryz.func121 rfl rfl ?_
 refine Zs (ZY rfl ?_); intro b7 w1 hb7 E1 B7
 have hq7 := Zq hX hb7
 replace hX := hX.tr E1
 refine Za ?_
 refine Zc (Zs (Zm ?_))
 refine Zb (Z1 X9 rfl) (JR X9 rfl rfl rfl (by omega) hbig ?_); intro w2 b12 hb12 E2 hO12
 have hq12 := Zq hX hb12
 have hn7 := Zn B7 hb12
 replace hX := hX.tr E2
 replace B7 := Zx B7 E2
 refine Za ?_
 refine Zc (Zs (Zm (Zm ?_)))
 refine Ql (l := 0) X9 (by rw [Nat.zero_mul]; rfl) rfl hO12 (hs.ext hX (fun _ h => h)) h1 (by rw [List.length_replicate]; omega) ?_; intro w3 E3 O15 _
 have hp15 : XX (List.replicate rows.length [.string ⟨#[]⟩, .int .i64 0]) 0 (rows.take rows.length) = rows := by unfold XX; simp
 rw [hp15] at O15
 replace hX := hX.mine E3 (.inr hq12)
 replace B7 := B7.ext E3 (fun e => by omega)
 refine Zc (ZC (Zs (Zm ?_)))
 refine Zc ?_
 refine ZE rfl (fun hc0 => ?_) (fun hc0 => ?_)
 ·have hlt := hi2 hc0
  refine Zs (Zm (Zm ?_))
  refine Zb (ZR s_138 rfl rfl B7) (Zb (ZH X9 rfl rfl (by omega)) (wl_storeES s_138 rfl rfl rfl (two1' hp1 hq1) O15 (by omega) ?_)); intro w4 E4 hO20
  replace hX := hX.mine E4 (.inr hq12)
  refine Zc (Zs (Zm (Za ?_)))
  refine Zc (ZB ?_)
  exact ⟨_, ZD (Zh rfl), hX, ⟨b12, [], hq12, by rw [if_pos hc0]; exact hO20⟩⟩
 ·refine ZF (Zs (Zm (Zm ?_)))
  refine Zb (ZR s_138 rfl rfl B7) (Xz (r := [p, q]) X9 rfl rfl rfl rfl (by decide) ?_); intro v25 w5 b25 hb25 E5 hO25
  replace hX := hX.tr E5
  replace B7 := Zx B7 E5
  replace O15 := O15.ext E5 id
  have hXo := hX
  refine Zw zE rfl (insert_e w5 i rows [p, q] (O15.sl (M := Non) id) ⟨_, rfl⟩ hi (hO25.sl (M := Non) id) (two1' hp1 hq1) h1 hn) ?_; intro v26 w6 E6 R6
  replace hX := hX.tr E6
  replace B7 := Zx B7 E6
  replace O15 := O15.ext E6 id
  obtain ⟨b26, spare26, hb26, O26⟩ := R6
  refine Za ?_
  refine Zc (ZB ?_)
  exact ⟨_, ZD (Zh rfl), hX, ⟨b26, spare26, Zle hXo.size hb26, by rw [if_neg (by rw [hc0]; simp)]; exact O26⟩⟩
def eI1 (x : Int) : List Value := [.int .i64 x]
def eS1 (x : Str) : List Value := [Sv x]
theorem eI_at {ks : List Int} {i : Nat} {x : Int} (h : ks[i]? = some x) : (ks.map eI1)[i]? = some [.int .i64 x] := by simp [h, eI1]
theorem eS_at {ks : List Str} {i : Nat} {x : Str} (h : ks[i]? = some x) : (ks.map eS1)[i]? = some [Sv x] := by simp [h, eS1]
theorem eI_one (ks : List Int) : ∀ r ∈ ks.map eI1, ∀ u ∈ r, u.oneCell' = true := by
 intro r hr u hu; obtain ⟨x, _, rfl⟩ := List.mem_map.1 hr; simp only [eI1, List.mem_singleton] at hu; subst hu; rfl
theorem eS_one (ks : List Str) : ∀ r ∈ ks.map eS1, ∀ u ∈ r, u.oneCell' = true := by
 intro r hr u hu; obtain ⟨x, _, rfl⟩ := List.mem_map.1 hr; simp only [eS1, List.mem_singleton] at hu; subst hu; rfl
theorem sNaN_i (w : World) (x : Int) : Fn Tryz.prog 306 #[.int .i64 x] w fun u w' => u = .bool false := by
 have hX := Ext.refl Non w
 refine Zfw (args := [_]) Tryz.func306 rfl rfl ?_
 refine Zs (Za ?_)
 refine Zc (Zs (Zm (Zm ?_)))
 refine Zb (X2 rfl rfl) (Za ?_)
 refine Zc (ZB ?_)
 exact ⟨_, ZD (Zh rfl), hX, by show Value.bool (decide (x ≠ x)) = _; simp⟩
theorem cNaN_i (w : World) (x : Int) : Fn Tryz.prog 334 #[.int .i64 x] w fun u w' => u = .bool false := by
 have hX := Ext.refl Non w
 refine Zfw (args := [_]) Tryz.func334 rfl rfl ?_
 refine Zs (Za ?_)
 refine Zc (Zs (Zm (Zm ?_)))
 refine Zb (X2 rfl rfl) (Za ?_)
 refine Zc (ZB ?_)
 exact ⟨_, ZD (Zh rfl), hX, by show Value.bool (decide (x ≠ x)) = _; simp⟩
theorem less_i (w : World) (x y : Int) : Fn Tryz.prog 305 #[.int .i64 x, .int .i64 y] w fun u w' => u = .bool (ltI x y) := by
 have hX := Ext.refl Non w
 refine Zfw (args := [_, _]) Tryz.func305 rfl rfl ?_
 refine Zs (Za ?_)
 refine Zc (Zs (Zm ?_))
 refine Zw zE rfl (cNaN_i w _) ?_; intro v6 w1 E1 R1
 replace hX := hX.tr E1
 subst R1
 refine Zm ?_
 refine ZU rfl rfl (ZU rfl rfl (ZU rfl rfl (Zb (ZQ rfl (by conv => lhs; whnf)) ?_)))
 refine Zm ?_
 refine Zu rfl rfl (Zm ?_)
 refine Zu rfl rfl (Zm ?_)
 refine Zu rfl rfl (Zb (Xj rfl rfl) (Zb (ZQ rfl (by conv => lhs; whnf)) ?_))
 refine Za ?_
 refine Zc (ZB ?_)
 exact ⟨_, ZD (Zh rfl), hX, rfl⟩
set_option maxHeartbeats 800000 in
theorem bs_i (w : World) (ks : List Int) (x : Int) {v : Value} (hs : Sl Non w v 1 (ks.map eI1)) (hord : Xi ltI ks) (hn : ks.length ≤ 1000000) : Fn Tryz.prog 262 #[v, .int .i64 x] w fun u w' => u = .tuple #[.int .i64 (lb ltI ks x : Nat), .bool (XP ltI ks x)] := by
 obtain ⟨a, c, rfl, _⟩ := hs.len
 simp only [List.length_map] at hs ⊢
 have hX := Ext.refl Non w
 refine Zfw (args := [_, _]) Tryz.func262 rfl rfl ?_
 refine Zs (Za (Za ?_))
 refine Zc (Zs (Zm ?_))
 refine Zb (Z1 Xe rfl) (Za ?_)
 refine Zc (Zs (Zm (Za (Za ?_))))
 refine Zc (ZC (ZO ?_))
 refine Xt (S := Nat × Nat) [0, 1, 6, 7, 8] (fun ⟨i, j⟩ => [.slice a ks.length c, .int .i64 x, .int .i64 (ks.length : Nat), .int .i64 (i : Nat), .int .i64 (j : Nat)]) (fun ⟨i, j⟩ A => (Ext Non w A) ∧ (i ≤ j ∧ j ≤ ks.length ∧ (∀ p y, p < i → ks[p]? = some y → ltI y x = true) ∧ (∀ p y, j ≤ p → ks[p]? = some y → ltI y x = false))) (fun ⟨i, j⟩ => j - i) (0, ks.length) ⟨rfl, rfl, rfl, rfl, rfl, trivial⟩ ⟨hX, ⟨Nat.zero_le _, Nat.le_refl _, fun p y h => absurd h (Nat.not_lt_zero _), fun p y h hy => by have := (List.getElem?_eq_some_iff.1 hy).1; omega⟩⟩ ?_
 rintro τ0 ⟨i, j⟩ A0 ⟨hX, I0⟩
 obtain ⟨hij, hjn, hlo, hhi⟩ := I0
 refine ZC (Zs (Zm (Zm ?_)))
 refine Zb (Xj rfl rfl) (Zc ?_)
 refine ZE rfl (fun hc0 => ?_) (fun hc0 => ?_)
 ·have hlt := of_decide_eq_true hc0; simp only [Int.ofNat_lt] at hlt
  have hh : (i + j) / 2 < ks.length := by omega
  obtain ⟨y, hy⟩ : ∃ y, ks[(i + j) / 2]? = some y := ⟨_, List.getElem?_eq_getElem hh⟩
  obtain ⟨b, o, ea⟩ := hs.base (by intro e; simp at e; subst e; simp at hh); subst ea
  refine ZF (ZO (Zs (Zm (Zm ?_))))
  refine Zb (ZX rfl rfl (by omega)) (Zb (XH JF ui_253 rfl (wrap_u64 (by omega))) (Zb (Rn.cast (rn_shr1 rfl rfl) (congrArg (Value.int .u64) (fdiv2 i j))) (Zb (XH ui_253 JF rfl (QE (by omega))) (Za ?_))))
  refine Zc (Zs (Zm (Zm ?_)))
  refine Zb (ZH Xe rfl rfl (by omega)) (Zb (Xb p_3 rfl ((hs.ext hX (fun _ h => h)).at0 (eI_at hy) rfl)) (Zm ?_))
  refine Zw zE rfl (less_i A0 _ _) ?_; intro v27 w1 E1 R1
  replace hX := hX.tr E1
  subst R1
  refine Zc ?_
  refine ZE rfl (fun hc1 => ?_) (fun hc1 => ?_)
  ·refine ZJ (Zm ?_)
   refine Zb (ZX rfl rfl (by omega)) (Za ?_)
   refine Zc ?_
   exact ⟨rfl, ((i + j) / 2 + 1, j), ⟨rfl, rfl, rfl, rfl, rfl, trivial⟩, ⟨hX, ⟨by omega, hjn, fun p z hp hz => by by_cases e : p = (i + j) / 2; (subst e; rw [hz] at hy; cases hy; exact hc1); exact (lo_int).tr _ _ _ (hord.get hz hy (by omega)) hc1, hhi⟩⟩, by show j - ((i + j) / 2 + 1) < j - i; omega⟩
  ·refine ZJ (Zm (Za ?_))
   refine Zc ?_
   exact ⟨rfl, (i, (i + j) / 2), ⟨rfl, rfl, rfl, rfl, rfl, trivial⟩, ⟨hX, ⟨by omega, by omega, hlo, fun p z hp hz => by by_cases e : p = (i + j) / 2; (subst e; rw [hz] at hy; cases hy; exact hc1); (cases hzx : ltI z x with | false => rfl | true => have := (lo_int).tr _ _ _ (hord.get hy hz (by omega)) hzx; rw [this] at hc1; cases hc1)⟩⟩, by show (i + j) / 2 - i < j - i; omega⟩
 ·have hge := of_decide_eq_false hc0; simp only [Int.ofNat_lt, Nat.not_lt] at hge
  have hej : i = j := by omega
  subst hej
  have hlb : lb ltI ks x = i := lb_of hjn hlo (fun y hy => hhi i y (Nat.le_refl _) hy)
  refine XL ?_
  refine Zs (Zm (Zm (Zm ?_)))
  refine Zb (Xj rfl rfl) (Zm ?_)
  refine Z3 (d := 35) rfl (fun hg35 => ?_) (fun hg35 => ?_)
  ·have hlt := of_decide_eq_true hg35; simp only [Int.ofNat_lt] at hlt
   obtain ⟨y, hy⟩ : ∃ y, ks[i]? = some y := ⟨_, List.getElem?_eq_getElem hlt⟩
   obtain ⟨b, o, ea⟩ := hs.base (by intro e; simp at e; subst e; simp at hlt); subst ea
   refine Zu rfl (Zcb hg35) (Zm ?_)
   refine Zu rfl (Zcb hg35) (Zm ?_)
   refine Zu rfl (Zcb hg35) (Zb (ZH Xe rfl rfl (by omega)) (Zu rfl (Zcb hg35) (Zb (Xb p_3 rfl ((hs.ext hX (fun _ h => h)).at0 (eI_at hy) rfl)) (Zu rfl (Zcb hg35) (Zm ?_)))))
   refine Zu rfl (Zcb hg35) (Zb (Xc rfl rfl) (Zu rfl (Zcb hg35) (Zm ?_)))
   refine Z3 (d := 42) rfl (fun hg42 => ?_) (fun hg42 => ?_)
   ·refine ZU rfl (Zcb hg42) (ZU rfl (Zcb hg42) (ZU rfl (Zcb hg42) (ZU rfl (Zcb hg42) (ZU rfl (Zcb hg42) (ZU rfl (Zcb hg42) (X7 rfl rfl (X7 rfl rfl (ZU rfl (Zcb hg42) ?_))))))))
    refine Zu rfl (Zcb hg35) (Zb (Z8 (Zcb hg42) (by conv => lhs; whnf)) ?_)
    refine Zb (Z8 (Zcb hg35) (by conv => lhs; whnf)) ?_
    refine Za (Za ?_)
    refine Zc (ZB ?_)
    have hxy := of_decide_eq_true hg42
    exact ⟨_, Qd (Zh rfl) (Zh rfl), hX, by show Value.tuple #[.int .i64 (i : Nat), .bool true] = _; rw [hlb]; unfold XP; rw [hlb, hy, hxy, decide_eq_true rfl]⟩
   ·refine Zu rfl (Zcb hg42) (Zm ?_)
    refine Zu rfl (Zcb hg42) (Zm ?_)
    refine Zu rfl (Zcb hg42) (Zb (ZH Xe rfl rfl (by omega)) (Zu rfl (Zcb hg42) (Zb (Xb p_3 rfl ((hs.ext hX (fun _ h => h)).at0 (eI_at hy) rfl)) (Zu rfl (Zcb hg42) (Zw zE rfl (sNaN_i A0 _) ?_))))); intro v47 w2 E2 R2
    replace hX := hX.tr E2
    subst R2
    refine Zu rfl (Zcb hg42) (Zm ?_)
    refine ZU rfl rfl (ZU rfl rfl (Zu rfl (Zcb hg42) (Zb (ZQ rfl (by conv => lhs; whnf)) ?_)))
    refine Zu rfl (Zcb hg35) (Zb (ZQ (Zcb hg42) (by conv => lhs; whnf)) ?_)
    refine Zb (Z8 (Zcb hg35) (by conv => lhs; whnf)) ?_
    refine Za (Za ?_)
    refine Zc (ZB ?_)
    have hxy := of_decide_eq_false hg42
    exact ⟨_, Qd (Zh rfl) (Zh rfl), hX, by show Value.tuple #[.int .i64 (i : Nat), .bool false] = _; rw [hlb]; unfold XP; rw [hlb, hy, decide_eq_false (fun e => hxy (Option.some.inj e))]⟩
  ·refine ZU rfl (Zcb hg35) (ZU rfl (Zcb hg35) (ZU rfl (Zcb hg35) (ZU rfl (Zcb hg35) (ZU rfl (Zcb hg35) (ZU rfl (Zcb hg35) (ZU rfl (Zcb hg35) (X7 rfl rfl (X7 rfl rfl ?_))))))))
   refine X7 rfl rfl ?_
   refine X7 rfl rfl ?_
   refine X7 rfl rfl ?_
   refine X7 rfl rfl ?_
   refine X7 rfl rfl ?_
   refine X7 rfl rfl ?_
   refine X7 rfl rfl ?_
   refine ZU rfl (Zcb hg35) (Zb (ZQ (Zcb hg35) (by conv => lhs; whnf)) ?_)
   refine Za (Za ?_)
   refine Zc (ZB ?_)
   have hge2 := of_decide_eq_false hg35; simp only [Int.ofNat_lt, Nat.not_lt] at hge2
   exact ⟨_, Qd (Zh rfl) (Zh rfl), hX, by show Value.tuple #[.int .i64 (i : Nat), .bool false] = _; rw [hlb]; unfold XP; rw [hlb, List.getElem?_eq_none hge2, decide_eq_false (by simp)]⟩
theorem sNaN_s (w : World) (x : Str) : Fn Tryz.prog 191 #[Sv x] w fun u w' => u = .bool false := by
 have hX := Ext.refl Non w
 refine Zfw (args := [_]) Tryz.func191 rfl rfl ?_
 refine Zs (Za ?_)
 refine Zc (Zs (Zm (Zm ?_)))
 refine Zb (rn_sneq rfl rfl) (Za ?_)
 refine Zc (ZB ?_)
 exact ⟨_, ZD (Zh rfl), hX, by show Value.bool (decide (x ≠ x)) = _; simp⟩
theorem cNaN_s (w : World) (x : Str) : Fn Tryz.prog 233 #[Sv x] w fun u w' => u = .bool false := by
 have hX := Ext.refl Non w
 refine Zfw (args := [_]) Tryz.func233 rfl rfl ?_
 refine Zs (Za ?_)
 refine Zc (Zs (Zm (Zm ?_)))
 refine Zb (rn_sneq rfl rfl) (Za ?_)
 refine Zc (ZB ?_)
 exact ⟨_, ZD (Zh rfl), hX, by show Value.bool (decide (x ≠ x)) = _; simp⟩
theorem less_s (w : World) (x y : Str) : Fn Tryz.prog 190 #[Sv x, Sv y] w fun u w' => u = .bool (ltS x y) := by
 have hX := Ext.refl Non w
 refine Zfw (args := [_, _]) Tryz.func190 rfl rfl ?_
 refine Zs (Za ?_)
 refine Zc (Zs (Zm ?_))
 refine Zw zE rfl (cNaN_s w _) ?_; intro v6 w1 E1 R1
 replace hX := hX.tr E1
 subst R1
 refine Zm ?_
 refine ZU rfl rfl (ZU rfl rfl (ZU rfl rfl (Zb (ZQ rfl (by conv => lhs; whnf)) ?_)))
 refine Zm ?_
 refine Zu rfl rfl (Zm ?_)
 refine Zu rfl rfl (Zm ?_)
 refine Zu rfl rfl (Zb (rn_slss rfl rfl) (Zb (ZQ rfl (by conv => lhs; whnf)) ?_))
 refine Za ?_
 refine Zc (ZB ?_)
 exact ⟨_, ZD (Zh rfl), hX, rfl⟩
set_option maxHeartbeats 800000 in
theorem bs_s (w : World) (ks : List Str) (x : Str) {v : Value} (hs : Sl Non w v 1 (ks.map eS1)) (hord : Xi ltS ks) (hn : ks.length ≤ 1000000) : Fn Tryz.prog 115 #[v, Sv x] w fun u w' => u = .tuple #[.int .i64 (lb ltS ks x : Nat), .bool (XP ltS ks x)] := by
 obtain ⟨a, c, rfl, _⟩ := hs.len
 simp only [List.length_map] at hs ⊢
 have hX := Ext.refl Non w
 refine Zfw (args := [_, _]) Tryz.func115 rfl rfl ?_
 refine Zs (Za (Za ?_))
 refine Zc (Zs (Zm ?_))
 refine Zb (Z1 Xq rfl) (Za ?_)
 refine Zc (Zs (Zm (Za (Za ?_))))
 refine Zc (ZC (ZO ?_))
 refine Xt (S := Nat × Nat) [0, 1, 6, 7, 8] (fun ⟨i, j⟩ => [.slice a ks.length c, Sv x, .int .i64 (ks.length : Nat), .int .i64 (i : Nat), .int .i64 (j : Nat)]) (fun ⟨i, j⟩ A => (Ext Non w A) ∧ (i ≤ j ∧ j ≤ ks.length ∧ (∀ p y, p < i → ks[p]? = some y → ltS y x = true) ∧ (∀ p y, j ≤ p → ks[p]? = some y → ltS y x = false))) (fun ⟨i, j⟩ => j - i) (0, ks.length) ⟨rfl, rfl, rfl, rfl, rfl, trivial⟩ ⟨hX, ⟨Nat.zero_le _, Nat.le_refl _, fun p y h => absurd h (Nat.not_lt_zero _), fun p y h hy => by have := (List.getElem?_eq_some_iff.1 hy).1; omega⟩⟩ ?_
 rintro τ0 ⟨i, j⟩ A0 ⟨hX, I0⟩
 obtain ⟨hij, hjn, hlo, hhi⟩ := I0
 refine ZC (Zs (Zm (Zm ?_)))
 refine Zb (Xj rfl rfl) (Zc ?_)
 refine ZE rfl (fun hc0 => ?_) (fun hc0 => ?_)
 ·have hlt := of_decide_eq_true hc0; simp only [Int.ofNat_lt] at hlt
  have hh : (i + j) / 2 < ks.length := by omega
  obtain ⟨y, hy⟩ : ∃ y, ks[(i + j) / 2]? = some y := ⟨_, List.getElem?_eq_getElem hh⟩
  obtain ⟨b, o, ea⟩ := hs.base (by intro e; simp at e; subst e; simp at hh); subst ea
  refine ZF (ZO (Zs (Zm (Zm ?_))))
  refine Zb (ZX rfl rfl (by omega)) (Zb (XH JF ui_253 rfl (wrap_u64 (by omega))) (Zb (Rn.cast (rn_shr1 rfl rfl) (congrArg (Value.int .u64) (fdiv2 i j))) (Zb (XH ui_253 JF rfl (QE (by omega))) (Za ?_))))
  refine Zc (Zs (Zm (Zm ?_)))
  refine Zb (ZH Xq rfl rfl (by omega)) (Zb (Xb p_9 rfl ((hs.ext hX (fun _ h => h)).at0 (eS_at hy) rfl)) (Zm ?_))
  refine Zw zE rfl (less_s A0 _ _) ?_; intro v27 w1 E1 R1
  replace hX := hX.tr E1
  subst R1
  refine Zc ?_
  refine ZE rfl (fun hc1 => ?_) (fun hc1 => ?_)
  ·refine ZJ (Zm ?_)
   refine Zb (ZX rfl rfl (by omega)) (Za ?_)
   refine Zc ?_
   exact ⟨rfl, ((i + j) / 2 + 1, j), ⟨rfl, rfl, rfl, rfl, rfl, trivial⟩, ⟨hX, ⟨by omega, hjn, fun p z hp hz => by by_cases e : p = (i + j) / 2; (subst e; rw [hz] at hy; cases hy; exact hc1); exact (lo_str).tr _ _ _ (hord.get hz hy (by omega)) hc1, hhi⟩⟩, by show j - ((i + j) / 2 + 1) < j - i; omega⟩
  ·refine ZJ (Zm (Za ?_))
   refine Zc ?_
   exact ⟨rfl, (i, (i + j) / 2), ⟨rfl, rfl, rfl, rfl, rfl, trivial⟩, ⟨hX, ⟨by omega, by omega, hlo, fun p z hp hz => by by_cases e : p = (i + j) / 2; (subst e; rw [hz] at hy; cases hy; exact hc1); (cases hzx : ltS z x with | false => rfl | true => have := (lo_str).tr _ _ _ (hord.get hy hz (by omega)) hzx; rw [this] at hc1; cases hc1)⟩⟩, by show (i + j) / 2 - i < j - i; omega⟩
 ·have hge := of_decide_eq_false hc0; simp only [Int.ofNat_lt, Nat.not_lt] at hge
  have hej : i = j := by omega
  subst hej
  have hlb : lb ltS ks x = i := lb_of hjn hlo (fun y hy => hhi i y (Nat.le_refl _) hy)
  refine XL ?_
  refine Zs (Zm (Zm (Zm ?_)))
  refine Zb (Xj rfl rfl) (Zm ?_)
  refine Z3 (d := 35) rfl (fun hg35 => ?_) (fun hg35 => ?_)
  ·have hlt := of_decide_eq_true hg35; simp only [Int.ofNat_lt] at hlt
   obtain ⟨y, hy⟩ : ∃ y, ks[i]? = some y := ⟨_, List.getElem?_eq_getElem hlt⟩
   obtain ⟨b, o, ea⟩ := hs.base (by intro e; simp at e; subst e; simp at hlt); subst ea
   refine Zu rfl (Zcb hg35) (Zm ?_)
   refine Zu rfl (Zcb hg35) (Zm ?_)
   refine Zu rfl (Zcb hg35) (Zb (ZH Xq rfl rfl (by omega)) (Zu rfl (Zcb hg35) (Zb (Xb p_9 rfl ((hs.ext hX (fun _ h => h)).at0 (eS_at hy) rfl)) (Zu rfl (Zcb hg35) (Zm ?_)))))
   refine Zu rfl (Zcb hg35) (Zb (Jv rfl rfl) (Zu rfl (Zcb hg35) (Zm ?_)))
   refine Z3 (d := 42) rfl (fun hg42 => ?_) (fun hg42 => ?_)
   ·refine ZU rfl (Zcb hg42) (ZU rfl (Zcb hg42) (ZU rfl (Zcb hg42) (ZU rfl (Zcb hg42) (ZU rfl (Zcb hg42) (ZU rfl (Zcb hg42) (X7 rfl rfl (X7 rfl rfl (ZU rfl (Zcb hg42) ?_))))))))
    refine Zu rfl (Zcb hg35) (Zb (Z8 (Zcb hg42) (by conv => lhs; whnf)) ?_)
    refine Zb (Z8 (Zcb hg35) (by conv => lhs; whnf)) ?_
    refine Za (Za ?_)
    refine Zc (ZB ?_)
    have hxy := of_decide_eq_true hg42
    exact ⟨_, Qd (Zh rfl) (Zh rfl), hX, by show Value.tuple #[.int .i64 (i : Nat), .bool true] = _; rw [hlb]; unfold XP; rw [hlb, hy, hxy, decide_eq_true rfl]⟩
   ·refine Zu rfl (Zcb hg42) (Zm ?_)
    refine Zu rfl (Zcb hg42) (Zm ?_)
    refine Zu rfl (Zcb hg42) (Zb (ZH Xq rfl rfl (by omega)) (Zu rfl (Zcb hg42) (Zb (Xb p_9 rfl ((hs.ext hX (fun _ h => h)).at0 (eS_at hy) rfl)) (Zu rfl (Zcb hg42) (Zw zE rfl (sNaN_s A0 _) ?_))))); intro v47 w2 E2 R2
    replace hX := hX.tr E2
    subst R2
    refine Zu rfl (Zcb hg42) (Zm ?_)
    refine ZU rfl rfl (ZU rfl rfl (Zu rfl (Zcb hg42) (Zb (ZQ rfl (by conv => lhs; whnf)) ?_)))
    refine Zu rfl (Zcb hg35) (Zb (ZQ (Zcb hg42) (by conv => lhs; whnf)) ?_)
    refine Zb (Z8 (Zcb hg35) (by conv => lhs; whnf)) ?_
    refine Za (Za ?_)
    refine Zc (ZB ?_)
    have hxy := of_decide_eq_false hg42
    exact ⟨_, Qd (Zh rfl) (Zh rfl), hX, by show Value.tuple #[.int .i64 (i : Nat), .bool false] = _; rw [hlb]; unfold XP; rw [hlb, hy, decide_eq_false (fun e => hxy (Option.some.inj e))]⟩
  ·refine ZU rfl (Zcb hg35) (ZU rfl (Zcb hg35) (ZU rfl (Zcb hg35) (ZU rfl (Zcb hg35) (ZU rfl (Zcb hg35) (ZU rfl (Zcb hg35) (ZU rfl (Zcb hg35) (X7 rfl rfl (X7 rfl rfl ?_))))))))
   refine X7 rfl rfl ?_
   refine X7 rfl rfl ?_
   refine X7 rfl rfl ?_
   refine X7 rfl rfl ?_
   refine X7 rfl rfl ?_
   refine X7 rfl rfl ?_
   refine X7 rfl rfl ?_
   refine ZU rfl (Zcb hg35) (Zb (ZQ (Zcb hg35) (by conv => lhs; whnf)) ?_)
   refine Za (Za ?_)
   refine Zc (ZB ?_)
   have hge2 := of_decide_eq_false hg35; simp only [Int.ofNat_lt, Nat.not_lt] at hge2
   exact ⟨_, Qd (Zh rfl) (Zh rfl), hX, by show Value.tuple #[.int .i64 (i : Nat), .bool false] = _; rw [hlb]; unfold XP; rw [hlb, List.getElem?_eq_none hge2, decide_eq_false (by simp)]⟩
def eE1 (x : Str × Int) : List Value := [Sv x.1, .int .i64 x.2]
theorem eE_at {ks : List (Str × Int)} {i : Nat} {x : Str × Int} (h : ks[i]? = some x) : (ks.map eE1)[i]? = some [Sv x.1, .int .i64 x.2] := by simp [h, eE1]
theorem eE_one (ks : List (Str × Int)) : ∀ r ∈ ks.map eE1, ∀ u ∈ r, u.oneCell' = true := by
 intro r hr u hu; obtain ⟨x, _, rfl⟩ := List.mem_map.1 hr; simp only [eE1, List.mem_cons, List.not_mem_nil, or_false] at hu; rcases hu with rfl | rfl <;> rfl
set_option maxHeartbeats 800000 in
theorem mput_iu (w : World) (ks : List Int) (vs : List (List Value)) {v1 v2 : Value} (x : Int) (hm : Qs Non w eI1 0 v1 v2 ks vs) (hord : Xi ltI ks) (hn : ks.length ≤ 1000000) (hv1 : ∀ r ∈ vs, ∀ u ∈ r, u.oneCell' = true)  : Fn Tryz.prog 201 #[.agg #[v1, v2], .int .i64 x, .agg #[]] w fun u w' => ∃ u1 u2, u = .agg #[u1, u2] ∧ Qs (Old w) w' eI1 0 u1 u2 (XS ltI ks x) (putV ltI ks x vs []) := by
 obtain ⟨q1, n1, c1, rfl⟩ := hm.keys.shape; obtain ⟨q2, n2, c2, rfl⟩ := hm.vals.shape
 have hlb := lb_le (lt := ltI) ks x
 have hlen := hm.len
 have hX := Ext.refl Non w
 refine Zfw (args := [_, _, _]) Tryz.func201 rfl rfl ?_
 refine Zs (ZY rfl ?_); intro b3 w1 hb3 E1 B3
 have hq3 := Zq hX hb3
 replace hX := hX.tr E1
 refine ZY rfl ?_; intro b5 w2 hb5 E2 B5
 have hn3_5 := Zn B3 hb5
 have hq5 := Zq hX hb5
 replace hX := hX.tr E2
 replace B3 := Zx B3 E2
 refine ZT z_150 ?_; intro b6 w3 hb6 E3 B6
 have hn3_6 := Zn B3 hb6
 have hn5_6 := Zn B5 hb6
 have hq6 := Zq hX hb6
 replace hX := hX.tr E3
 replace B3 := Zx B3 E3; replace B5 := Zx B5 E3
 refine Zc (Zs (Zb (Zf f_150_0 rfl) (Zb (Zi XT rfl B3 rfl) (Zm ?_))))
 refine Zw zE rfl (bs_i w3 ks x (hm.keys.ext hX (fun _ h => h)) hord hn) ?_; intro v13 w4 E4 R4
 replace hX := hX.tr E4
 replace B3 := Zx B3 E4; replace B5 := Zx B5 E4; replace B6 := Zx B6 E4
 subst R4
 refine Zm ?_
 refine Zb (ZM rfl rfl) (Zb (ZM rfl rfl) (Za (Za ?_)))
 refine Zc (ZC (QQ (fun i => i = b6) mixed ?_)); intro w5 E5
 replace hX := hX.tr E5
 replace B3 := Zx B3 E5; replace B5 := Zx B5 E5; replace B6 := Zx B6 E5
 have hS := Ext.refl (fun i => i = b6) w5
 have hzd6 := B6.lt
 refine Zd 0 rfl hS (Zr (Zf f_150_0 rfl)) (Zd 1 rfl hS (ZG fun A hA => Zi XT rfl (B3.ext hA (fun e => by omega)) rfl) (Zd 2 rfl hS Zy ?_))
 refine Zd 3 rfl hS Zy ?_
 refine Zd 4 rfl hS Zy ?_
 refine Zd 6 rfl hS (Zr (Zf f_150_1 rfl)) (Zd 7 rfl hS (ZG fun A hA => Zi p_148 rfl (B3.ext hA (fun e => by omega)) rfl) (Zd 8 rfl hS Zy ?_))
 refine Zd 9 rfl hS Zy ?_
 refine Zd 10 rfl hS (ZG fun A hA => ZR s_270 rfl rfl (B5.ext hA (fun e => by omega))) (Zp 5 rfl (ZK (Zw zE rfl (put_i w5 (lb ltI ks x) (XP ltI ks x) (ks.map eI1) (hm.keys.ext (hX.mine hS (.inr hq6)) (fun _ h => h)) (by rw [List.length_map]; exact hlb) (fun h => by rw [List.length_map]; exact X3 h) rfl rfl (eI_one ks) (by rw [List.length_map]; exact hn)) ?_))); intro v21 w6 E6 R6
 replace B6 := Zx B6 E6
 replace hS := hS.tr E6
 obtain ⟨p21, s21, hp21, O21⟩ := R6
 obtain ⟨a21, l21, c21, rfl⟩ := id O21.shape
 have hz6 := B6.lt; have hzs := hS.size; have hzx := hX.size
 refine Zc ⟨hS, ?_⟩
 refine Zp 11 rfl (ZK (Zw zE rfl (put_u w6 (lb ltI ks x) (XP ltI ks x) vs (hm.vals.ext (hX.mine hS (.inr hq6)) (fun _ h => h)) (by rw [hlen]; exact hlb) (fun h => by rw [hlen]; exact X3 h) rfl hv1 (by rw [hlen]; exact hn)) ?_)); intro v27 w7 E7 R7
 replace B6 := Zx B6 E7
 replace hS := hS.tr E7
 replace O21 := O21.ext E7 id
 obtain ⟨p27, s27, hp27, hO27⟩ := R7
 obtain ⟨a27, l27, c27, rfl⟩ := id hO27.shape
 have hzs2 := hS.size
 refine Zc ⟨hS, ?_⟩
 refine Zd 12 rfl hS (ZG fun A hA => Z2 b_150 rfl rfl (cs := [.slice a21 l21 c21, .slice a27 l27 c27]) rfl) (Zp 13 rfl (ZK (ZS s_150 rfl rfl rfl (Qc rfl rfl) B6 rfl ?_))); intro w8 E8 B6 hz8
 replace hS := hS.mine E8 (by first | exact .inl rfl | exact .inl (.inl rfl) | exact .inl (.inr rfl) | exact .inl (.inr (.inr rfl)) | exact .inl (.inr (.inl rfl)) | exact .inl (.inl (.inl rfl)) | exact .inl (.inl (.inr rfl)))
 replace O21 := O21.ext E8 (fun e => by omega)
 replace hO27 := hO27.ext E8 (fun e => by omega)
 refine Zc ⟨hS, ?_⟩
 refine Xw (by kernel_rfl) ?_ _
 replace hX := hX.mine hS (.inr hq6)
 refine ZB ?_
 exact ⟨_, ZD (Xn s_150 rfl B6 rfl), hX, ⟨_, _, rfl, ⟨by rw [← putK_map]; exact O21.sl (fun h => by unfold Old at h; omega), hO27.sl (fun h => by unfold Old at h; omega), putV_len hm.len⟩⟩⟩
theorem mlen_iu (w : World) (ks : List Int) (vs : List (List Value)) {v1 v2 : Value} (hm : Qs Non w eI1 0 v1 v2 ks vs) (hn : ks.length ≤ 1000000) : Fn Tryz.prog 339 #[.agg #[v1, v2]] w fun u w' => u = .int .i64 (ks.length : Nat) := by
 obtain ⟨q1, c1, rfl, _⟩ := hm.keys.len; obtain ⟨q2, n2, c2, rfl⟩ := hm.vals.shape
 have hkl : (ks.map eI1).length = ks.length := List.length_map _
 have hX := Ext.refl Non w
 refine Zfw (args := [_]) Tryz.func339 rfl rfl ?_
 refine Zs (ZY rfl ?_); intro b1 w1 hb1 E1 B1
 have hq1 := Zq hX hb1
 replace hX := hX.tr E1
 refine Za ?_
 refine Zc (Zs (Zb (Zf f_150_0 rfl) (Zb (Zi XT rfl B1 rfl) (Zb (Z1 Xe rfl) (Za ?_)))))
 refine Zc (ZB ?_)
 exact ⟨_, ZD (Zh rfl), hX, by show Value.int .i64 ((ks.map eI1).length : Nat) = _; rw [hkl]⟩
theorem mget_iu (w : World) (ks : List Int) (vs : List (List Value)) {v1 v2 : Value} (x : Int) (hm : Qs Non w eI1 0 v1 v2 ks vs) (hord : Xi ltI ks) (hn : ks.length ≤ 1000000) : Fn Tryz.prog 274 #[.agg #[v1, v2], .int .i64 x] w fun u w' => u = .tuple #[.agg #[], .bool (XP ltI ks x)] := by
 obtain ⟨q1, n1, c1, rfl⟩ := hm.keys.shape; obtain ⟨q2, c2, rfl, _⟩ := hm.vals.len
 have hlb := lb_le (lt := ltI) ks x
 have hlen := hm.len
 have hX := Ext.refl Non w
 refine Zfw (args := [_, _]) Tryz.func274 rfl rfl ?_
 refine Zs (ZY rfl ?_); intro b2 w1 hb2 E1 B2
 have hq2 := Zq hX hb2
 replace hX := hX.tr E1
 refine ZT z_270 ?_; intro b4 w2 hb4 E2 B4
 have hn2_4 := Zn B2 hb4
 have hq4 := Zq hX hb4
 have hl4 := Zl hX hb4
 replace hX := hX.tr E2
 replace B2 := Zx B2 E2
 refine Za ?_
 refine Zc (Zs (Zb (Zf f_150_0 rfl) (Zb (Zi XT rfl B2 rfl) (Zm ?_))))
 refine Zw zE rfl (bs_i w2 ks x (hm.keys.ext hX (fun _ h => h)) hord hn) ?_; intro v13 w3 E3 R3
 replace hX := hX.tr E3
 replace B2 := Zx B2 E3; replace B4 := Zx B4 E3
 subst R3
 refine Zm ?_
 refine Zb (ZM rfl rfl) (Zb (ZM rfl rfl) (Za (Za ?_)))
 refine Zc (ZC (Zs (Zm ?_)))
 refine Zb (Xy rfl) (Zc ?_)
 refine ZE rfl (fun hc0 => ?_) (fun hc0 => ?_)
 ·have hat : XP ltI ks x = false := by simpa using hc0
  refine Zs (ZT z_270 ?_); intro b8 w4 hb8 E4 B8
  have hn2_8 := Zn B2 hb8
  have hn4_8 := Zn B4 hb8
  have hq8 := Zq hX hb8
  replace hX := hX.tr E4
  replace B2 := Zx B2 E4; replace B4 := Zx B4 E4
  refine Zc (Zs (Zb (ZR s_270 rfl rfl B8) (ZS s_270 rfl rfl rfl (by simp) B4 rfl ?_))); intro w5 E5 B4 hz5
  replace hX := hX.mine E5 hl4
  replace B2 := B2.ext E5 (fun h => by omega); replace B8 := B8.ext E5 (fun h => by omega)
  refine Za ?_
  refine Zc (ZB ?_)
  exact ⟨_, Qd (Xn s_270 rfl B4 rfl) (Zh rfl), hX, by rw [hat]; rfl⟩
 ·have hat : XP ltI ks x = true := by simpa using hc0
  obtain ⟨b2v, o2v, ea⟩ := hm.vals.base (by intro e; have := congrArg List.length e; rw [hlen] at this; have h2 := X3 hat; simp only [List.length_nil] at this; omega); subst ea
  refine ZF (Zs (Zb (Zf f_150_1 rfl) (Zb (Zi p_148 rfl B2 rfl) (Zm ?_))))
  refine Zb (ZH QA rfl rfl (by rw [hlen]; have := X3 hat; omega)) (Zb (XC s_270 (vs := []) rfl rfl (fun j hj => absurd hj (Nat.not_lt_zero _))) (ZS s_270 rfl rfl rfl (by simp) B4 rfl ?_)); intro w6 E6 B4 hz6
  replace hX := hX.mine E6 hl4
  replace B2 := B2.ext E6 (fun h => by omega)
  refine Za ?_
  refine Zc (ZB ?_)
  exact ⟨_, Qd (Xn s_270 rfl B4 rfl) (Zh rfl), hX, by rw [hat]; rfl⟩
set_option maxHeartbeats 800000 in
theorem mput_sn (w : World) (ks : List Str) (vs : List (List Value)) {v1 v2 : Value} (x : Str) (hm : Qs Non w eS1 1 v1 v2 ks vs) (hord : Xi ltS ks) (hn : ks.length ≤ 1000000) (hv1 : ∀ r ∈ vs, ∀ u ∈ r, u.oneCell' = true) (y : Value) (hy1 : y.oneCell' = true) (hyc : y.cells = #[y]) : Fn Tryz.prog 277 #[.agg #[v1, v2], Sv x, y] w fun u w' => ∃ u1 u2, u = .agg #[u1, u2] ∧ Qs (Old w) w' eS1 1 u1 u2 (XS ltS ks x) (putV ltS ks x vs [y]) := by
 obtain ⟨q1, n1, c1, rfl⟩ := hm.keys.shape; obtain ⟨q2, n2, c2, rfl⟩ := hm.vals.shape
 have hlb := lb_le (lt := ltS) ks x
 have hlen := hm.len
 have hX := Ext.refl Non w
 refine Zfw (args := [_, _, _]) Tryz.func277 rfl rfl ?_
 refine Zs (ZY rfl ?_); intro b3 w1 hb3 E1 B3
 have hq3 := Zq hX hb3
 replace hX := hX.tr E1
 refine ZT z_261 ?_; intro b6 w2 hb6 E2 B6
 have hn3_6 := Zn B3 hb6
 have hq6 := Zq hX hb6
 replace hX := hX.tr E2
 replace B3 := Zx B3 E2
 refine Zc (Zs (Zb (Zf f_261_0 rfl) (Zb (Zi p_28 rfl B3 rfl) (Zm ?_))))
 refine Zw zE rfl (bs_s w2 ks x (hm.keys.ext hX (fun _ h => h)) hord hn) ?_; intro v13 w3 E3 R3
 replace hX := hX.tr E3
 replace B3 := Zx B3 E3; replace B6 := Zx B6 E3
 subst R3
 refine Zm ?_
 refine Zb (ZM rfl rfl) (Zb (ZM rfl rfl) (Za (Za ?_)))
 refine Zc (ZC (QQ (fun i => i = b6) mixed ?_)); intro w4 E4
 replace hX := hX.tr E4
 replace B3 := Zx B3 E4; replace B6 := Zx B6 E4
 have hS := Ext.refl (fun i => i = b6) w4
 have hzd6 := B6.lt
 refine Zd 0 rfl hS (Zr (Zf f_261_0 rfl)) (Zd 1 rfl hS (ZG fun A hA => Zi p_28 rfl (B3.ext hA (fun e => by omega)) rfl) (Zd 2 rfl hS Zy ?_))
 refine Zd 3 rfl hS Zy ?_
 refine Zd 4 rfl hS Zy ?_
 refine Zd 6 rfl hS (Zr (Zf f_261_1 rfl)) (Zd 7 rfl hS (ZG fun A hA => Zi p_259 rfl (B3.ext hA (fun e => by omega)) rfl) (Zd 8 rfl hS Zy ?_))
 refine Zd 9 rfl hS Zy ?_
 refine Zd 10 rfl hS Zy ?_
 refine Zp 5 rfl (ZK (Zw zE rfl (put_s w4 (lb ltS ks x) (XP ltS ks x) (ks.map eS1) (hm.keys.ext (hX.mine hS (.inr hq6)) (fun _ h => h)) (by rw [List.length_map]; exact hlb) (fun h => by rw [List.length_map]; exact X3 h) rfl rfl (eS_one ks) (by rw [List.length_map]; exact hn)) ?_)); intro v21 w5 E5 R5
 replace B6 := Zx B6 E5
 replace hS := hS.tr E5
 obtain ⟨p21, s21, hp21, O21⟩ := R5
 obtain ⟨a21, l21, c21, rfl⟩ := id O21.shape
 have hz6 := B6.lt; have hzs := hS.size; have hzx := hX.size
 refine Zc ⟨hS, ?_⟩
 refine Zp 11 rfl (ZK (Zw zE rfl (put_n w5 (lb ltS ks x) (XP ltS ks x) vs (hm.vals.ext (hX.mine hS (.inr hq6)) (fun _ h => h)) (by rw [hlen]; exact hlb) (fun h => by rw [hlen]; exact X3 h) hy1 hyc hv1 (by rw [hlen]; exact hn)) ?_)); intro v27 w6 E6 R6
 replace B6 := Zx B6 E6
 replace hS := hS.tr E6
 replace O21 := O21.ext E6 id
 obtain ⟨p27, s27, hp27, hO27⟩ := R6
 obtain ⟨a27, l27, c27, rfl⟩ := id hO27.shape
 have hzs2 := hS.size
 refine Zc ⟨hS, ?_⟩
 refine Zd 12 rfl hS (ZG fun A hA => Z2 b_261 rfl rfl (cs := [.slice a21 l21 c21, .slice a27 l27 c27]) rfl) (Zp 13 rfl (ZK (ZS s_261 rfl rfl rfl (Qc rfl rfl) B6 rfl ?_))); intro w7 E7 B6 hz7
 replace hS := hS.mine E7 (by first | exact .inl rfl | exact .inl (.inl rfl) | exact .inl (.inr rfl) | exact .inl (.inr (.inr rfl)) | exact .inl (.inr (.inl rfl)) | exact .inl (.inl (.inl rfl)) | exact .inl (.inl (.inr rfl)))
 replace O21 := O21.ext E7 (fun e => by omega)
 replace hO27 := hO27.ext E7 (fun e => by omega)
 refine Zc ⟨hS, ?_⟩
 refine Xw (by kernel_rfl) ?_ _
 replace hX := hX.mine hS (.inr hq6)
 refine ZB ?_
 exact ⟨_, ZD (Xn s_261 rfl B6 rfl), hX, ⟨_, _, rfl, ⟨by rw [← putK_map]; exact O21.sl (fun h => by unfold Old at h; omega), hO27.sl (fun h => by unfold Old at h; omega), putV_len hm.len⟩⟩⟩
theorem mlen_sn (w : World) (ks : List Str) (vs : List (List Value)) {v1 v2 : Value} (hm : Qs Non w eS1 1 v1 v2 ks vs) (hn : ks.length ≤ 1000000) : Fn Tryz.prog 313 #[.agg #[v1, v2]] w fun u w' => u = .int .i64 (ks.length : Nat) := by
 obtain ⟨q1, c1, rfl, _⟩ := hm.keys.len; obtain ⟨q2, n2, c2, rfl⟩ := hm.vals.shape
 have hkl : (ks.map eS1).length = ks.length := List.length_map _
 have hX := Ext.refl Non w
 refine Zfw (args := [_]) Tryz.func313 rfl rfl ?_
 refine Zs (ZY rfl ?_); intro b1 w1 hb1 E1 B1
 have hq1 := Zq hX hb1
 replace hX := hX.tr E1
 refine Za ?_
 refine Zc (Zs (Zb (Zf f_261_0 rfl) (Zb (Zi p_28 rfl B1 rfl) (Zb (Z1 Xq rfl) (Za ?_)))))
 refine Zc (ZB ?_)
 exact ⟨_, ZD (Zh rfl), hX, by show Value.int .i64 ((ks.map eS1).length : Nat) = _; rw [hkl]⟩
theorem mget_sn (w : World) (ks : List Str) (vs : List (List Value)) {v1 v2 : Value} (x : Str) (hm : Qs Non w eS1 1 v1 v2 ks vs) (hord : Xi ltS ks) (hn : ks.length ≤ 1000000) : Fn Tryz.prog 199 #[.agg #[v1, v2], Sv x] w fun u w' => ∃ z : Value, u = .tuple #[z, .bool (XP ltS ks x)] ∧ (XP ltS ks x = true → vs[lb ltS ks x]? = some [z]) ∧ (XP ltS ks x = false → z = .pointer none) := by
 obtain ⟨q1, n1, c1, rfl⟩ := hm.keys.shape; obtain ⟨q2, c2, rfl, _⟩ := hm.vals.len
 have hlb := lb_le (lt := ltS) ks x
 have hlen := hm.len
 have hX := Ext.refl Non w
 refine Zfw (args := [_, _]) Tryz.func199 rfl rfl ?_
 refine Zs (ZY rfl ?_); intro b2 w1 hb2 E1 B2
 have hq2 := Zq hX hb2
 replace hX := hX.tr E1
 refine Za (Za ?_)
 refine Zc (Zs (Zb (Zf f_261_0 rfl) (Zb (Zi p_28 rfl B2 rfl) (Zm ?_))))
 refine Zw zE rfl (bs_s w1 ks x (hm.keys.ext hX (fun _ h => h)) hord hn) ?_; intro v13 w2 E2 R2
 replace hX := hX.tr E2
 replace B2 := Zx B2 E2
 subst R2
 refine Zm ?_
 refine Zb (ZM rfl rfl) (Zb (ZM rfl rfl) (Za (Za ?_)))
 refine Zc (ZC (Zs (Zm ?_)))
 refine Zb (Xy rfl) (Zc ?_)
 refine ZE rfl (fun hc0 => ?_) (fun hc0 => ?_)
 ·have hat : XP ltS ks x = false := by simpa using hc0
  refine Zs (Za ?_)
  refine Zc (Zs (Zm (Za (Za ?_))))
  refine Zc (ZB ?_)
  exact ⟨_, Qd (Zh rfl) (Zh rfl), hX, ⟨_, by rw [hat]; rfl, fun h => by rw [hat] at h; (cases h), fun _ => rfl⟩⟩
 ·have hat : XP ltS ks x = true := by simpa using hc0
  obtain ⟨r, hr⟩ : ∃ r, vs[lb ltS ks x]? = some r := ⟨_, List.getElem?_eq_getElem (by rw [hlen]; exact X3 hat)⟩
  obtain ⟨z, rfl⟩ : ∃ z, r = [z] := by have := hm.vals.each r (List.mem_of_getElem? hr); match r, this with | [z], _ => exact ⟨z, rfl⟩
  obtain ⟨b2v, o2v, ea⟩ := hm.vals.base (by intro e; have := congrArg List.length e; rw [hlen] at this; have h2 := X3 hat; simp only [List.length_nil] at this; omega); subst ea
  refine ZF (Zs (Zb (Zf f_261_1 rfl) (Zb (Zi p_259 rfl B2 rfl) (Zm ?_))))
  refine Zb (ZH Qz rfl rfl (by rw [hlen]; have := X3 hat; omega)) (Zb (Xb p_101 rfl ((hm.vals.ext hX (fun _ h => h)).at0 hr rfl)) (Za (Za ?_)))
  refine Zc (ZB ?_)
  exact ⟨_, Qd (Zh rfl) (Zh rfl), hX, ⟨z, by rw [hat]; rfl, fun _ => hr, fun h => by rw [hat] at h; (cases h)⟩⟩
set_option maxHeartbeats 800000 in
theorem mput_se (w : World) (ks : List Str) (vs : List (List Value)) {v1 v2 : Value} (x : Str) (hm : Qs Non w eS1 2 v1 v2 ks vs) (hord : Xi ltS ks) (hn : ks.length ≤ 1000000) (hv1 : ∀ r ∈ vs, ∀ u ∈ r, u.oneCell' = true) (p q : Value) (hp1 : p.oneCell' = true) (hq1 : q.oneCell' = true) : Fn Tryz.prog 61 #[.agg #[v1, v2], Sv x, .agg #[p, q]] w fun u w' => ∃ u1 u2, u = .agg #[u1, u2] ∧ Qs (Old w) w' eS1 2 u1 u2 (XS ltS ks x) (putV ltS ks x vs [p, q]) := by
 obtain ⟨q1, n1, c1, rfl⟩ := hm.keys.shape; obtain ⟨q2, n2, c2, rfl⟩ := hm.vals.shape
 have hlb := lb_le (lt := ltS) ks x
 have hlen := hm.len
 have hX := Ext.refl Non w
 refine Zfw (args := [_, _, _]) Tryz.func61 rfl rfl ?_
 refine Zs (ZY rfl ?_); intro b3 w1 hb3 E1 B3
 have hq3 := Zq hX hb3
 replace hX := hX.tr E1
 refine ZY rfl ?_; intro b5 w2 hb5 E2 B5
 have hn3_5 := Zn B3 hb5
 have hq5 := Zq hX hb5
 replace hX := hX.tr E2
 replace B3 := Zx B3 E2
 refine ZT z_82 ?_; intro b6 w3 hb6 E3 B6
 have hn3_6 := Zn B3 hb6
 have hn5_6 := Zn B5 hb6
 have hq6 := Zq hX hb6
 replace hX := hX.tr E3
 replace B3 := Zx B3 E3; replace B5 := Zx B5 E3
 refine Zc (Zs (Zb (Zf f_82_0 rfl) (Zb (Zi p_28 rfl B3 rfl) (Zm ?_))))
 refine Zw zE rfl (bs_s w3 ks x (hm.keys.ext hX (fun _ h => h)) hord hn) ?_; intro v13 w4 E4 R4
 replace hX := hX.tr E4
 replace B3 := Zx B3 E4; replace B5 := Zx B5 E4; replace B6 := Zx B6 E4
 subst R4
 refine Zm ?_
 refine Zb (ZM rfl rfl) (Zb (ZM rfl rfl) (Za (Za ?_)))
 refine Zc (ZC (QQ (fun i => i = b6) mixed ?_)); intro w5 E5
 replace hX := hX.tr E5
 replace B3 := Zx B3 E5; replace B5 := Zx B5 E5; replace B6 := Zx B6 E5
 have hS := Ext.refl (fun i => i = b6) w5
 have hzd6 := B6.lt
 refine Zd 0 rfl hS (Zr (Zf f_82_0 rfl)) (Zd 1 rfl hS (ZG fun A hA => Zi p_28 rfl (B3.ext hA (fun e => by omega)) rfl) (Zd 2 rfl hS Zy ?_))
 refine Zd 3 rfl hS Zy ?_
 refine Zd 4 rfl hS Zy ?_
 refine Zd 6 rfl hS (Zr (Zf f_82_1 rfl)) (Zd 7 rfl hS (ZG fun A hA => Zi p_80 rfl (B3.ext hA (fun e => by omega)) rfl) (Zd 8 rfl hS Zy ?_))
 refine Zd 9 rfl hS Zy ?_
 refine Zd 10 rfl hS (ZG fun A hA => ZR s_138 rfl rfl (B5.ext hA (fun e => by omega))) (Zp 5 rfl (ZK (Zw zE rfl (put_s w5 (lb ltS ks x) (XP ltS ks x) (ks.map eS1) (hm.keys.ext (hX.mine hS (.inr hq6)) (fun _ h => h)) (by rw [List.length_map]; exact hlb) (fun h => by rw [List.length_map]; exact X3 h) rfl rfl (eS_one ks) (by rw [List.length_map]; exact hn)) ?_))); intro v21 w6 E6 R6
 replace B6 := Zx B6 E6
 replace hS := hS.tr E6
 obtain ⟨p21, s21, hp21, O21⟩ := R6
 obtain ⟨a21, l21, c21, rfl⟩ := id O21.shape
 have hz6 := B6.lt; have hzs := hS.size; have hzx := hX.size
 refine Zc ⟨hS, ?_⟩
 refine Zp 11 rfl (ZK (Zw zE rfl (put_e w6 (lb ltS ks x) (XP ltS ks x) vs (hm.vals.ext (hX.mine hS (.inr hq6)) (fun _ h => h)) (by rw [hlen]; exact hlb) (fun h => by rw [hlen]; exact X3 h) hp1 hq1 hv1 (by rw [hlen]; exact hn)) ?_)); intro v27 w7 E7 R7
 replace B6 := Zx B6 E7
 replace hS := hS.tr E7
 replace O21 := O21.ext E7 id
 obtain ⟨p27, s27, hp27, hO27⟩ := R7
 obtain ⟨a27, l27, c27, rfl⟩ := id hO27.shape
 have hzs2 := hS.size
 refine Zc ⟨hS, ?_⟩
 refine Zd 12 rfl hS (ZG fun A hA => Z2 b_82 rfl rfl (cs := [.slice a21 l21 c21, .slice a27 l27 c27]) rfl) (Zp 13 rfl (ZK (ZS s_82 rfl rfl rfl (Qc rfl rfl) B6 rfl ?_))); intro w8 E8 B6 hz8
 replace hS := hS.mine E8 (by first | exact .inl rfl | exact .inl (.inl rfl) | exact .inl (.inr rfl) | exact .inl (.inr (.inr rfl)) | exact .inl (.inr (.inl rfl)) | exact .inl (.inl (.inl rfl)) | exact .inl (.inl (.inr rfl)))
 replace O21 := O21.ext E8 (fun e => by omega)
 replace hO27 := hO27.ext E8 (fun e => by omega)
 refine Zc ⟨hS, ?_⟩
 refine Xw (by kernel_rfl) ?_ _
 replace hX := hX.mine hS (.inr hq6)
 refine ZB ?_
 exact ⟨_, ZD (Xn s_82 rfl B6 rfl), hX, ⟨_, _, rfl, ⟨by rw [← putK_map]; exact O21.sl (fun h => by unfold Old at h; omega), hO27.sl (fun h => by unfold Old at h; omega), putV_len hm.len⟩⟩⟩
end Go.Proofs.YtjklgohpminefaaGreatDoorC
