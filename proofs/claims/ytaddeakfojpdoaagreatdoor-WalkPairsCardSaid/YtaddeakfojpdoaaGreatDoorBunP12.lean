/- Tries: the document's pairs. -/
import Derived.Test.YtaddeakfojpdoaaGreatDoorBunP11
import Derived.Test.YtaddeakfojpdoaaGreatDoorBunP8
import Derived.Test.YtaddeakfojpdoaaGreatDoorBunP5
set_option linter.unusedVariables false
set_option linter.unusedSimpArgs false
set_option maxRecDepth 100000
namespace Go.Proofs.YtaddeakfojpdoaaGreatDoorC
open Go.RowKit
theorem eT_at {l : List (Str × Int)} {i : Nat} {x : Str × Int} (h : l[i]? = some x) : (l.map eT1)[i]? = some [Sv x.1] := by simp [h, eT1]
theorem eU_at {l : List (Str × Int)} {i : Nat} {x : Str × Int} (h : l[i]? = some x) : (l.map eU1)[i]? = some [.int .i64 x.2] := by simp [h, eU1]
theorem eT_one (l : List (Str × Int)) : ∀ r ∈ l.map eT1, ∀ u ∈ r, u.oneCell' = true := by
  intro r hr u hu; obtain ⟨x, _, rfl⟩ := List.mem_map.1 hr; simp only [eT1, List.mem_singleton] at hu; subst hu; rfl
theorem eU_one (l : List (Str × Int)) : ∀ r ∈ l.map eU1, ∀ u ∈ r, u.oneCell' = true := by
  intro r hr u hu; obtain ⟨x, _, rfl⟩ := List.mem_map.1 hr; simp only [eU1, List.mem_singleton] at hu; subst hu; rfl
theorem sl_cap {M : Nat → Prop} {w : World} {a : Option Addr} {n c k : Nat} {rows : List (List Value)} (h : Sl M w (.slice a n c) k rows) : rows.length ≤ c := by
  obtain ⟨⟨_, _, e, hc, _⟩, _⟩ := h
  simp only [Value.slice.injEq] at e
  omega
theorem ins_map {α β : Type} (e : α → β) (D : List α) (j : Nat) (q : α) : [] ++ (D.map e).take j ++ [e q] ++ ((D.map e).drop j).take (D.length - j) = (D.take j ++ q :: D.drop j).map e := by
  rw [List.take_of_length_le (l := (D.map e).drop j) (by rw [List.length_drop, List.length_map]; exact Nat.le_refl _)]; simp
-- bellman/bellmanref14.Ahead
set_option maxHeartbeats 800000 in
theorem ahead_ok (w : World) (a b : Str) (x y : Int) (hna : a.length ≤ 1000000) (hnb : b.length ≤ 1000000) : Fn Tryz.prog 27 #[Sv a, .int .i64 x, Sv b, .int .i64 y] w fun u w' => u = .bool (ltT (a, x) (b, y)) := by
  have hsla := spl_len_le 47 a; have hslb := spl_len_le 47 b
  have hX := Ext.refl Non w
  refine fn_of_W (args := [_, _, _, _]) Tryz.func27 rfl (by kernel_rfl) rfl ?_
  refine W_seq ?_
  refine W_region ?_
  refine wl_val (rn_assign (by conv => lhs; whnf)) ?_
  refine wl_nil ?_
  refine W_seq ?_
  refine W_seq ?_
  refine W_region ?_
  refine wl_val (rn_move (by conv => lhs; whnf)) ?_
  refine wl_val (rn_move (by conv => lhs; whnf)) ?_
  refine wl_val (rn_seql rfl rfl) ?_
  refine wl_nil ?_
  refine W_cond rfl (fun hc0 => ?_) (fun hc0 => ?_)
  · have hab : a = b := of_decide_eq_true hc0
    refine W_seq ?_
    refine W_region ?_
    refine wl_val (rn_move (by conv => lhs; whnf)) ?_
    refine wl_val (rn_move (by conv => lhs; whnf)) ?_
    refine wl_val (rn_lss rfl rfl) ?_
    refine wl_val (rn_assign (by conv => lhs; whnf)) ?_
    refine wl_nil ?_
    refine W_ret ?_
    exact ⟨_, resR1 (res1_tmp rfl), hX, by subst hab; rw [ltT_eq]; rfl⟩
  · have hne : a ≠ b := of_decide_eq_false hc0
    refine W_skip ?_
    refine W_seq ?_
    refine W_region ?_
    refine wl_val (rn_move (by conv => lhs; whnf)) ?_
    refine wl_call e_30 rfl (rlevels_ok w a hna) ?_; intro v19 w1 hE1 hR1
    replace hX := hX.tr hE1
    have hF := hR1; obtain ⟨aF, cF, hvF, _⟩ := id hF.len; rw [List.length_map] at hvF; subst hvF
    refine wl_val (rn_move (by conv => lhs; whnf)) ?_
    refine wl_call e_30 rfl (rlevels_ok w1 b hnb) ?_; intro v21 w2 hE2 hR2
    replace hX := hX.tr hE2
    replace hF := hF.ext hE2 (fun _ h => h)
    have hG := hR2; obtain ⟨aG, cG, hvG, _⟩ := id hG.len; rw [List.length_map] at hvG; subst hvG
    refine wl_val (rn_assign (by conv => lhs; whnf)) ?_
    refine wl_val (rn_assign (by conv => lhs; whnf)) ?_
    refine wl_nil ?_
    refine W_seq ?_
    refine W_seq ?_
    refine W_region ?_
    refine wl_val (rn_assign (by conv => lhs; whnf)) ?_
    refine wl_nil ?_
    refine W_block ?_   -- block 0
    refine W_loopS (S := Nat) [9, 10, 11] (fun i => [.slice aF (spl 47 a).length cF, .slice aG (spl 47 b).length cG, .int .i64 (i : Nat)]) (fun i A => (Ext Non w A) ∧ (i ≤ (spl 47 a).length ∧ i ≤ (spl 47 b).length ∧ (spl 47 a).take i = (spl 47 b).take i ∧ Sl Non A (.slice aF (spl 47 a).length cF) 1 ((spl 47 a).map eS1) ∧ Sl Non A (.slice aG (spl 47 b).length cG) 1 ((spl 47 b).map eS1))) (fun i => (spl 47 a).length - i) 0 ⟨rfl, rfl, rfl, trivial⟩ ⟨hX, ⟨Nat.zero_le _, Nat.zero_le _, rfl, hF, hG⟩⟩ ?_
    rintro τ0 i A0 ⟨hX, hI0⟩
    obtain ⟨hia, hib, htk, hF, hG⟩ := hI0
    refine W_seq ?_
    refine W_seq ?_
    refine W_region ?_
    refine wl_val (rn_move (by conv => lhs; whnf)) ?_
    refine wl_val (rn_move (by conv => lhs; whnf)) ?_
    refine wl_val (rn_len sl_22 rfl) ?_
    refine wl_val (rn_lss rfl rfl) ?_
    refine wl_val (rn_move (by conv => lhs; whnf)) ?_
    refine wl_split (d := 26) rfl (fun hg26 => ?_) (fun hg26 => ?_)
    · have hlt := of_decide_eq_true hg26; simp only [Int.ofNat_lt] at hlt
      obtain ⟨p, hi⟩ : ∃ p, ((spl 47 a))[i]? = some p := ⟨_, List.getElem?_eq_getElem hlt⟩
      obtain ⟨bb, oo, ea⟩ := hF.base (by intro e; have := congrArg List.length e; simp only [List.length_map, List.length_nil] at this; omega); subst ea
      refine wl_yes rfl (congrArg Value.bool hg26) ?_
      refine wl_val (rn_move (by conv => lhs; whnf)) ?_
      refine wl_yes rfl (congrArg Value.bool hg26) ?_
      refine wl_val (rn_move (by conv => lhs; whnf)) ?_
      refine wl_yes rfl (congrArg Value.bool hg26) ?_
      refine wl_val (rn_len sl_22 rfl) ?_
      refine wl_yes rfl (congrArg Value.bool hg26) ?_
      refine wl_val (rn_lss rfl rfl) ?_
      refine wl_val (rn_pickT (congrArg Value.bool hg26) (by conv => lhs; whnf)) ?_
      refine wl_nil ?_
      refine W_cond rfl (fun hc1 => ?_) (fun hc1 => ?_)
      · have hlt2 := of_decide_eq_true hc1; simp only [Int.ofNat_lt] at hlt2
        obtain ⟨q, hj⟩ : ∃ q, ((spl 47 b))[i]? = some q := ⟨_, List.getElem?_eq_getElem hlt2⟩
        obtain ⟨bb2, oo2, ea2⟩ := hG.base (by intro e; have := congrArg List.length e; simp only [List.length_map, List.length_nil] at this; omega); subst ea2
        refine W_skip ?_
        refine W_seq ?_
        refine W_block ?_   -- block 1
        refine W_seq ?_
        refine W_drawE mixed ?_; intro w3 hE3
        replace hX := hX.tr hE3
        replace hF := hF.ext hE3 (fun _ h => h)
        replace hG := hG.ext hE3 (fun _ h => h)
        have hS := Ext.refl Non w3
        refine wd_take 0 _ _ rfl (by kernel_rfl) hS (yd_do fun A hA => rn_move (by conv => lhs; whnf)) ?_
        refine wd_take 1 _ _ rfl (by kernel_rfl) hS (yd_do fun A hA => rn_move (by conv => lhs; whnf)) ?_
        refine wd_take 2 _ _ rfl (by kernel_rfl) hS (yd_do fun A hA => rn_indexAddr sl_22 rfl rfl (by omega)) ?_
        refine wd_take 3 _ _ rfl (by kernel_rfl) hS (yd_do fun A hA => rn_load p_9 rfl ((hF.ext hA (fun _ h => h.elim)).at0 (eS_at hi) rfl)) ?_
        refine wd_take 4 _ _ rfl (by kernel_rfl) hS (yd_do fun A hA => rn_move (by conv => lhs; whnf)) ?_
        refine wd_take 5 _ _ rfl (by kernel_rfl) hS (yd_do fun A hA => rn_move (by conv => lhs; whnf)) ?_
        refine wd_take 6 _ _ rfl (by kernel_rfl) hS (yd_do fun A hA => rn_indexAddr sl_22 rfl rfl (by omega)) ?_
        refine wd_take 7 _ _ rfl (by kernel_rfl) hS (yd_do fun A hA => rn_load p_9 rfl ((hG.ext hA (fun _ h => h.elim)).at0 (eS_at hj) rfl)) ?_
        refine wd_take 8 _ _ rfl (by kernel_rfl) hS (yd_do fun A hA => rn_sneq rfl rfl) ?_
        refine wd_done (by kernel_rfl) ?_ _
        replace hX := hX.tr hS
        replace hF := hF.ext hS (fun _ h => h)
        replace hG := hG.ext hS (fun _ h => h)
        refine W_cond rfl (fun hc2 => ?_) (fun hc2 => ?_)
        · have hpq : p ≠ q := of_decide_eq_true hc2
          refine W_seq ?_
          refine W_drawE mixed ?_; intro w4 hE4
          replace hX := hX.tr hE4
          replace hF := hF.ext hE4 (fun _ h => h)
          replace hG := hG.ext hE4 (fun _ h => h)
          have hS := Ext.refl Non w4
          refine wd_take 0 _ _ rfl (by kernel_rfl) hS (yd_do fun A hA => rn_move (by conv => lhs; whnf)) ?_
          refine wd_take 1 _ _ rfl (by kernel_rfl) hS (yd_do fun A hA => rn_move (by conv => lhs; whnf)) ?_
          refine wd_take 2 _ _ rfl (by kernel_rfl) hS (yd_do fun A hA => rn_indexAddr sl_22 rfl rfl (by omega)) ?_
          refine wd_take 3 _ _ rfl (by kernel_rfl) hS (yd_do fun A hA => rn_load p_9 rfl ((hF.ext hA (fun _ h => h.elim)).at0 (eS_at hi) rfl)) ?_
          refine wd_take 4 _ _ rfl (by kernel_rfl) hS (yd_do fun A hA => rn_move (by conv => lhs; whnf)) ?_
          refine wd_take 5 _ _ rfl (by kernel_rfl) hS (yd_do fun A hA => rn_move (by conv => lhs; whnf)) ?_
          refine wd_take 6 _ _ rfl (by kernel_rfl) hS (yd_do fun A hA => rn_indexAddr sl_22 rfl rfl (by omega)) ?_
          refine wd_take 7 _ _ rfl (by kernel_rfl) hS (yd_do fun A hA => rn_load p_9 rfl ((hG.ext hA (fun _ h => h.elim)).at0 (eS_at hj) rfl)) ?_
          refine wd_only 8 _ rfl (by kernel_rfl) ?_
          refine s1_do ?_
          refine wl_call e_48 rfl (rless_ok w4 p q (by have := spl_le (List.mem_of_getElem? hi); omega) (by have := spl_le (List.mem_of_getElem? hj); omega)) ?_; intro v51 w5 hE5 hR5
          replace hS := hS.tr hE5
          subst hR5
          refine wl_nil ⟨hS, ?_⟩
          refine wd_take 9 _ _ rfl (by kernel_rfl) hS (yd_do fun A hA => rn_assign (by conv => lhs; whnf)) ?_
          refine wd_done (by kernel_rfl) ?_ _
          replace hX := hX.tr hS
          replace hF := hF.ext hS (fun _ h => h)
          replace hG := hG.ext hS (fun _ h => h)
          refine W_ret ?_
          exact ⟨_, resR1 (res1_tmp rfl), hX, by rw [ltT_ne hne, ltP_at i _ _ htk hi hj hpq]; rfl⟩
        · have hpq : p = q := by have := of_decide_eq_false hc2; simpa using this
          refine W_skip ?_
          refine W_region ?_
          refine wl_val (rn_move (by conv => lhs; whnf)) ?_
          refine wl_val (rn_add rfl rfl (by omega)) ?_
          refine wl_val (rn_assign (by conv => lhs; whnf)) ?_
          refine wl_nil ?_
          exact ⟨rfl, i + 1, ⟨rfl, rfl, rfl, trivial⟩, ⟨hX, ⟨hlt, hlt2, by rw [List.take_add_one, List.take_add_one, htk, hi, hj, hpq], hF, hG⟩⟩, by omega⟩
      · have hge := of_decide_eq_false hc1; simp only [Int.ofNat_lt, Nat.not_lt] at hge
        have hend : ltP (spl 47 a) (spl 47 b) = decide ((spl 47 a).length < (spl 47 b).length) := ltP_end _ _ ⟨i, htk, .inr (by omega), hia, hib⟩
        refine W_exit ?_   -- exit 0
        refine W_seq ?_
        refine W_region ?_
        refine wl_val (rn_move (by conv => lhs; whnf)) ?_
        refine wl_val (rn_len sl_22 rfl) ?_
        refine wl_val (rn_move (by conv => lhs; whnf)) ?_
        refine wl_val (rn_len sl_22 rfl) ?_
        refine wl_val (rn_lss rfl rfl) ?_
        refine wl_val (rn_assign (by conv => lhs; whnf)) ?_
        refine wl_nil ?_
        refine W_ret ?_
        exact ⟨_, resR1 (res1_tmp rfl), hX, (by rw [ltT_ne hne, hend]; exact congrArg Value.bool (decide_eq_decide.2 (by omega)))⟩
    · have hge := of_decide_eq_false hg26; simp only [Int.ofNat_lt, Nat.not_lt] at hge
      have hend : ltP (spl 47 a) (spl 47 b) = decide ((spl 47 a).length < (spl 47 b).length) := ltP_end _ _ ⟨i, htk, .inl (by omega), hia, hib⟩
      refine wl_no rfl (congrArg Value.bool hg26) ?_
      refine wl_no rfl (congrArg Value.bool hg26) ?_
      refine wl_no rfl (congrArg Value.bool hg26) ?_
      refine wl_no rfl (congrArg Value.bool hg26) ?_
      refine wl_val (rn_pickF (congrArg Value.bool hg26) (by conv => lhs; whnf)) ?_
      refine wl_nil ?_
      refine W_condF rfl ?_
      refine W_exit ?_   -- exit 0
      refine W_seq ?_
      refine W_region ?_
      refine wl_val (rn_move (by conv => lhs; whnf)) ?_
      refine wl_val (rn_len sl_22 rfl) ?_
      refine wl_val (rn_move (by conv => lhs; whnf)) ?_
      refine wl_val (rn_len sl_22 rfl) ?_
      refine wl_val (rn_lss rfl rfl) ?_
      refine wl_val (rn_assign (by conv => lhs; whnf)) ?_
      refine wl_nil ?_
      refine W_ret ?_
      exact ⟨_, resR1 (res1_tmp rfl), hX, (by rw [ltT_ne hne, hend]; exact congrArg Value.bool (decide_eq_decide.2 (by omega)))⟩
-- bellman/bellmanref14.Pairs
set_option maxHeartbeats 6400000 in
theorem rpairs14_ok (w : World) (ks : List Str) (ys : List Int) {v1 v2 : Value} (hk : Sl Non w v1 1 (ks.map eS1)) (hv : Sl Non w v2 1 (ys.map eI1)) (hkl : ∀ k ∈ ks, k.length ≤ 1000000) (hn : ks.length ≤ 1000) : Fn Tryz.prog 15 #[v1, v2] w fun u w' => ∃ va vb, u = .tuple #[va, vb] ∧ Sl Non w' va 1 ((docOf (ks.zip ys)).map eT1) ∧ Sl Non w' vb 1 ((docOf (ks.zip ys)).map eU1) := by
  obtain ⟨a1, c1, rfl, _⟩ := hk.len; obtain ⟨a2, c2, rfl, hyb⟩ := hv.len
  simp only [List.length_map] at hk hv hyb ⊢
  have hbig2 : big = 9223372036854775807 := rfl
  have hX := Ext.refl Non w
  refine fn_of_W (args := [_, _]) Tryz.func15 rfl (by kernel_rfl) rfl ?_
  refine W_seq ?_
  refine W_region ?_
  refine wl_val (rn_assign (by conv => lhs; whnf)) ?_
  refine wl_val (rn_assign (by conv => lhs; whnf)) ?_
  refine wl_nil ?_
  refine W_seq ?_
  refine W_region ?_
  refine wl_val (rn_assign (by conv => lhs; whnf)) ?_
  refine wl_nil ?_
  refine W_seq ?_
  refine W_region ?_
  refine wl_val (rn_assign (by conv => lhs; whnf)) ?_
  refine wl_nil ?_
  refine W_seq ?_
  refine W_seq ?_
  refine W_region ?_
  refine wl_val (rn_assign (by conv => lhs; whnf)) ?_
  refine wl_nil ?_
  refine W_block ?_   -- block 0
  refine W_loopS (S := Nat × List (Str × Int) × Option Addr × Nat × Option Addr × Nat) [0, 1, 6, 7, 8] (fun ⟨i, D, a6, c6, a7, c7⟩ => [.slice a1 ks.length c1, .slice a2 ys.length c2, .slice a6 D.length c6, .slice a7 D.length c7, .int .i64 (i : Nat)]) (fun ⟨i, D, a6, c6, a7, c7⟩ A => (Ext Non w A) ∧ (i ≤ ks.length ∧ i ≤ ys.length ∧ D = docOf ((ks.zip ys).take i) ∧ Sl Non A (.slice a6 D.length c6) 1 (D.map eT1) ∧ Sl Non A (.slice a7 D.length c7) 1 (D.map eU1))) (fun ⟨i, D, a6, c6, a7, c7⟩ => ks.length - i) (0, [], none, 0, none, 0) ⟨rfl, rfl, rfl, rfl, rfl, trivial⟩ ⟨hX, ⟨Nat.zero_le _, Nat.zero_le _, rfl, Sl.nil _ _ _, Sl.nil _ _ _⟩⟩ ?_
  rintro τ0 ⟨i, D, a6, c6, a7, c7⟩ A0 ⟨hX, hI0⟩
  obtain ⟨hik, hiy, hD, hS6, hS7⟩ := hI0
  have hc6 := sl_cap hS6; have hc7 := sl_cap hS7; rw [List.length_map] at hc6 hc7
  have hDn : D.length ≤ 1000 := by rw [hD]; refine Nat.le_trans (docOf_len _) ?_; rw [List.length_take, List.length_zip]; omega
  have hDl : ∀ z ∈ D, z.1.length ≤ 1000000 := fun z hz => by rw [hD, docOf_mem] at hz; exact hkl _ (List.of_mem_zip (show (z.1, z.2) ∈ (ks.zip ys) from List.mem_of_mem_take hz.1)).1
  refine W_seq ?_
  refine W_seq ?_
  refine W_region ?_
  refine wl_val (rn_move (by conv => lhs; whnf)) ?_
  refine wl_val (rn_move (by conv => lhs; whnf)) ?_
  refine wl_val (rn_len sl_22 rfl) ?_
  refine wl_val (rn_lss rfl rfl) ?_
  refine wl_val (rn_move (by conv => lhs; whnf)) ?_
  refine wl_split (d := 14) rfl (fun hg14 => ?_) (fun hg14 => ?_)
  · have hlt := of_decide_eq_true hg14; simp only [Int.ofNat_lt] at hlt
    refine wl_yes rfl (congrArg Value.bool hg14) ?_
    refine wl_val (rn_move (by conv => lhs; whnf)) ?_
    refine wl_yes rfl (congrArg Value.bool hg14) ?_
    refine wl_val (rn_move (by conv => lhs; whnf)) ?_
    refine wl_yes rfl (congrArg Value.bool hg14) ?_
    refine wl_val (rn_len sl_23 rfl) ?_
    refine wl_yes rfl (congrArg Value.bool hg14) ?_
    refine wl_val (rn_lss rfl rfl) ?_
    refine wl_val (rn_pickT (congrArg Value.bool hg14) (by conv => lhs; whnf)) ?_
    refine wl_nil ?_
    refine W_cond rfl (fun hc0 => ?_) (fun hc0 => ?_)
    · have hlt2 := of_decide_eq_true hc0; simp only [Int.ofNat_lt] at hlt2
      obtain ⟨x, hi⟩ : ∃ x, ks[i]? = some x := ⟨_, List.getElem?_eq_getElem hlt⟩
      obtain ⟨s, hj⟩ : ∃ y, ys[i]? = some y := ⟨_, List.getElem?_eq_getElem hlt2⟩
      obtain ⟨bb, oo, ea⟩ := hk.base (by intro e; have := congrArg List.length e; simp only [List.length_map, List.length_nil] at this; omega); subst ea
      obtain ⟨bb2, oo2, ea2⟩ := hv.base (by intro e; have := congrArg List.length e; simp only [List.length_map, List.length_nil] at this; omega); subst ea2
      have hz := zip_at2 hi hj
      have htk : (ks.zip ys).take (i + 1) = (ks.zip ys).take i ++ [(x, s)] := by rw [List.take_add_one, hz]; rfl
      have hxl := hkl x (List.mem_of_getElem? hi)
      refine W_skip ?_
      refine W_seq ?_
      refine W_block ?_   -- block 1
      refine W_seq ?_
      refine W_seq ?_
      refine W_region ?_
      refine wl_val (rn_move (by conv => lhs; whnf)) ?_
      refine wl_val (rn_move (by conv => lhs; whnf)) ?_
      refine wl_val (rn_indexAddr sl_22 rfl rfl (by omega)) ?_
      refine wl_val (rn_load p_9 rfl ((hk.ext hX (fun _ h => h)).at0 (eS_at hi) rfl)) ?_
      refine wl_val (rn_seql rfl rfl) ?_
      refine wl_nil ?_
      refine W_cond rfl (fun hc1 => ?_) (fun hc1 => ?_)
      · have hxe : x = [] := of_decide_eq_true hc1
        have hD1 : docOf ((ks.zip ys).take (i + 1)) = D := by rw [htk, docOf_snoc, if_pos hxe, hD]
        refine W_exit ?_   -- exit 1
        refine W_region ?_
        refine wl_val (rn_move (by conv => lhs; whnf)) ?_
        refine wl_val (rn_add rfl rfl (by omega)) ?_
        refine wl_val (rn_assign (by conv => lhs; whnf)) ?_
        refine wl_nil ?_
        exact ⟨rfl, (i + 1, D, _, _, _, _), ⟨rfl, rfl, rfl, rfl, rfl, trivial⟩, ⟨hX, ⟨hlt, hlt2, hD1.symm, hS6, hS7⟩⟩, by show ks.length - (i + 1) < ks.length - i; omega⟩
      · have hxe : ¬ x = [] := of_decide_eq_false hc1
        refine W_skip ?_
        refine W_seq ?_
        refine W_region ?_
        refine wl_val (rn_assign (by conv => lhs; whnf)) ?_
        refine wl_nil ?_
        refine W_seq ?_
        refine W_block ?_   -- block 2
        refine W_loopS (S := Nat) [0, 1, 6, 7, 8, 9] (fun j => [.slice (some ⟨bb, oo, none⟩) ks.length c1, .slice (some ⟨bb2, oo2, none⟩) ys.length c2, .slice a6 D.length c6, .slice a7 D.length c7, .int .i64 (i : Nat), .int .i64 (j : Nat)]) (fun j A => (Ext Non w A) ∧ (j ≤ D.length ∧ (∀ p y, p < j → D[p]? = some y → ltT y (x, s) = true) ∧ Sl Non A (.slice a6 D.length c6) 1 (D.map eT1) ∧ Sl Non A (.slice a7 D.length c7) 1 (D.map eU1))) (fun j => D.length - j) 0 ⟨rfl, rfl, rfl, rfl, rfl, rfl, trivial⟩ ⟨hX, ⟨Nat.zero_le _, fun p y h => by omega, hS6, hS7⟩⟩ ?_
        rintro τ1 j A1 ⟨hX, hI1⟩
        obtain ⟨hjD, hlo, hS6, hS7⟩ := hI1
        refine W_seq ?_
        refine W_seq ?_
        refine W_drawE mixed ?_; intro w1 hE1
        replace hX := hX.tr hE1
        replace hS6 := hS6.ext hE1 (fun _ h => h)
        replace hS7 := hS7.ext hE1 (fun _ h => h)
        have hS := Ext.refl Non w1
        refine wd_take 0 _ _ rfl (by kernel_rfl) hS (yd_do fun A hA => rn_move (by conv => lhs; whnf)) ?_
        refine wd_take 1 _ _ rfl (by kernel_rfl) hS (yd_do fun A hA => rn_move (by conv => lhs; whnf)) ?_
        refine wd_take 2 _ _ rfl (by kernel_rfl) hS (yd_do fun A hA => rn_len sl_22 rfl) ?_
        refine wd_take 3 _ _ rfl (by kernel_rfl) hS (yd_do fun A hA => rn_lss rfl rfl) ?_
        refine wd_take 4 _ _ rfl (by kernel_rfl) hS (yd_do fun A hA => rn_move (by conv => lhs; whnf)) ?_
        refine wd_split (d := 31) rfl (fun hg31 => ?_) (fun hg31 => ?_)
        · have hjl := of_decide_eq_true hg31; simp only [Int.ofNat_lt] at hjl
          obtain ⟨z, hzj⟩ : ∃ z, D[j]? = some z := ⟨_, List.getElem?_eq_getElem hjl⟩
          obtain ⟨bb6, oo6, ea6⟩ := hS6.base (by intro e; have := congrArg List.length e; simp only [List.length_map, List.length_nil] at this; omega); subst ea6
          obtain ⟨bb7, oo7, ea7⟩ := hS7.base (by intro e; have := congrArg List.length e; simp only [List.length_map, List.length_nil] at this; omega); subst ea7
          have hzl : z.1.length ≤ 1000000 := hDl z (List.mem_of_getElem? hzj)
          refine wd_take 5 _ _ rfl (by kernel_rfl) hS (yd_yes rfl (congrArg Value.bool hg31) fun A hA => rn_move (by conv => lhs; whnf)) ?_
          refine wd_take 6 _ _ rfl (by kernel_rfl) hS (yd_yes rfl (congrArg Value.bool hg31) fun A hA => rn_move (by conv => lhs; whnf)) ?_
          refine wd_take 7 _ _ rfl (by kernel_rfl) hS (yd_yes rfl (congrArg Value.bool hg31) fun A hA => rn_indexAddr sl_22 rfl rfl (by omega)) ?_
          refine wd_take 8 _ _ rfl (by kernel_rfl) hS (yd_yes rfl (congrArg Value.bool hg31) fun A hA => rn_load p_9 rfl ((hS6.ext hA (fun _ h => h.elim)).at0 (eT_at hzj) rfl)) ?_
          refine wd_take 9 _ _ rfl (by kernel_rfl) hS (yd_yes rfl (congrArg Value.bool hg31) fun A hA => rn_move (by conv => lhs; whnf)) ?_
          refine wd_take 10 _ _ rfl (by kernel_rfl) hS (yd_yes rfl (congrArg Value.bool hg31) fun A hA => rn_move (by conv => lhs; whnf)) ?_
          refine wd_take 11 _ _ rfl (by kernel_rfl) hS (yd_yes rfl (congrArg Value.bool hg31) fun A hA => rn_indexAddr sl_23 rfl rfl (by omega)) ?_
          refine wd_take 12 _ _ rfl (by kernel_rfl) hS (yd_yes rfl (congrArg Value.bool hg31) fun A hA => rn_load p_3 rfl ((hS7.ext hA (fun _ h => h.elim)).at0 (eU_at hzj) rfl)) ?_
          refine wd_take 13 _ _ rfl (by kernel_rfl) hS (yd_yes rfl (congrArg Value.bool hg31) fun A hA => rn_move (by conv => lhs; whnf)) ?_
          refine wd_take 14 _ _ rfl (by kernel_rfl) hS (yd_yes rfl (congrArg Value.bool hg31) fun A hA => rn_move (by conv => lhs; whnf)) ?_
          refine wd_take 15 _ _ rfl (by kernel_rfl) hS (yd_yes rfl (congrArg Value.bool hg31) fun A hA => rn_indexAddr sl_22 rfl rfl (by omega)) ?_
          refine wd_take 16 _ _ rfl (by kernel_rfl) hS (yd_yes rfl (congrArg Value.bool hg31) fun A hA => rn_load p_9 rfl (((hk.ext hX (fun _ h => h)).ext hA (fun _ h => h.elim)).at0 (eS_at hi) rfl)) ?_
          refine wd_take 17 _ _ rfl (by kernel_rfl) hS (yd_yes rfl (congrArg Value.bool hg31) fun A hA => rn_move (by conv => lhs; whnf)) ?_
          refine wd_take 18 _ _ rfl (by kernel_rfl) hS (yd_yes rfl (congrArg Value.bool hg31) fun A hA => rn_move (by conv => lhs; whnf)) ?_
          refine wd_take 19 _ _ rfl (by kernel_rfl) hS (yd_yes rfl (congrArg Value.bool hg31) fun A hA => rn_indexAddr sl_23 rfl rfl (by omega)) ?_
          refine wd_take 20 _ _ rfl (by kernel_rfl) hS (yd_yes rfl (congrArg Value.bool hg31) fun A hA => rn_load p_3 rfl (((hv.ext hX (fun _ h => h)).ext hA (fun _ h => h.elim)).at0 (eI_at hj) rfl)) ?_
          refine wd_only 21 _ rfl (by kernel_rfl) ?_
          refine s1_yes rfl (congrArg Value.bool hg31) ?_
          refine wl_call e_27 rfl (ahead_ok w1 z.1 x z.2 s hzl hxl) ?_; intro v48 w2 hE2 hR2
          replace hS := hS.tr hE2
          subst hR2
          refine wl_nil ⟨hS, ?_⟩
          refine wd_take 22 _ _ rfl (by kernel_rfl) hS (yd_do fun A hA => rn_pickT (congrArg Value.bool hg31) (by conv => lhs; whnf)) ?_
          refine wd_done (by kernel_rfl) ?_ _
          replace hX := hX.tr hS
          replace hS6 := hS6.ext hS (fun _ h => h)
          replace hS7 := hS7.ext hS (fun _ h => h)
          refine W_cond rfl (fun hc2 => ?_) (fun hc2 => ?_)
          · have hzt : ltT z (x, s) = true := hc2
            refine W_skip ?_
            refine W_block ?_   -- block 3
            refine W_region ?_
            refine wl_val (rn_move (by conv => lhs; whnf)) ?_
            refine wl_val (rn_add rfl rfl (by omega)) ?_
            refine wl_val (rn_assign (by conv => lhs; whnf)) ?_
            refine wl_nil ?_
            exact ⟨rfl, j + 1, ⟨rfl, rfl, rfl, rfl, rfl, rfl, trivial⟩, ⟨hX, ⟨hjl, fun p y hp hy => by rcases Nat.lt_or_ge p j with h | h; exact hlo p y h hy; (have e : p = j := by omega); subst e; rw [hzj] at hy; cases hy; exact hzt, hS6, hS7⟩⟩, by omega⟩
          · have hlb : lb ltT D (x, s) = j := lb_step hlo hjD (fun y hy => by rw [hzj] at hy; cases hy; exact hc2)
            refine W_exit ?_   -- exit 2
            refine W_seq ?_
            refine W_seq ?_
            refine W_drawE mixed ?_; intro w3 hE3
            replace hX := hX.tr hE3
            replace hS6 := hS6.ext hE3 (fun _ h => h)
            replace hS7 := hS7.ext hE3 (fun _ h => h)
            have hS := Ext.refl Non w3
            refine wd_take 0 _ _ rfl (by kernel_rfl) hS (yd_do fun A hA => rn_move (by conv => lhs; whnf)) ?_
            refine wd_take 1 _ _ rfl (by kernel_rfl) hS (yd_do fun A hA => rn_move (by conv => lhs; whnf)) ?_
            refine wd_take 2 _ _ rfl (by kernel_rfl) hS (yd_do fun A hA => rn_len sl_22 rfl) ?_
            refine wd_take 3 _ _ rfl (by kernel_rfl) hS (yd_do fun A hA => rn_lss rfl rfl) ?_
            refine wd_take 4 _ _ rfl (by kernel_rfl) hS (yd_do fun A hA => rn_move (by conv => lhs; whnf)) ?_
            refine wd_split (d := 56) rfl (fun hg56 => ?_) (fun hg56 => ?_)
            · refine wd_take 5 _ _ rfl (by kernel_rfl) hS (yd_yes rfl (congrArg Value.bool hg56) fun A hA => rn_move (by conv => lhs; whnf)) ?_
              refine wd_take 6 _ _ rfl (by kernel_rfl) hS (yd_yes rfl (congrArg Value.bool hg56) fun A hA => rn_move (by conv => lhs; whnf)) ?_
              refine wd_take 7 _ _ rfl (by kernel_rfl) hS (yd_yes rfl (congrArg Value.bool hg56) fun A hA => rn_indexAddr sl_22 rfl rfl (by omega)) ?_
              refine wd_take 8 _ _ rfl (by kernel_rfl) hS (yd_yes rfl (congrArg Value.bool hg56) fun A hA => rn_load p_9 rfl ((hS6.ext hA (fun _ h => h.elim)).at0 (eT_at hzj) rfl)) ?_
              refine wd_take 9 _ _ rfl (by kernel_rfl) hS (yd_yes rfl (congrArg Value.bool hg56) fun A hA => rn_move (by conv => lhs; whnf)) ?_
              refine wd_take 10 _ _ rfl (by kernel_rfl) hS (yd_yes rfl (congrArg Value.bool hg56) fun A hA => rn_move (by conv => lhs; whnf)) ?_
              refine wd_take 11 _ _ rfl (by kernel_rfl) hS (yd_yes rfl (congrArg Value.bool hg56) fun A hA => rn_indexAddr sl_22 rfl rfl (by omega)) ?_
              refine wd_take 12 _ _ rfl (by kernel_rfl) hS (yd_yes rfl (congrArg Value.bool hg56) fun A hA => rn_load p_9 rfl (((hk.ext hX (fun _ h => h)).ext hA (fun _ h => h.elim)).at0 (eS_at hi) rfl)) ?_
              refine wd_take 13 _ _ rfl (by kernel_rfl) hS (yd_yes rfl (congrArg Value.bool hg56) fun A hA => rn_seql rfl rfl) ?_
              refine wd_take 14 _ _ rfl (by kernel_rfl) hS (yd_do fun A hA => rn_pickT (congrArg Value.bool hg56) (by conv => lhs; whnf)) ?_
              refine wd_take 15 _ _ rfl (by kernel_rfl) hS (yd_do fun A hA => rn_move (by conv => lhs; whnf)) ?_
              refine wd_split (d := 67) rfl (fun hg67 => ?_) (fun hg67 => ?_)
              · have hz1 : z.1 = x := of_decide_eq_true hg67
                refine wd_take 16 _ _ rfl (by kernel_rfl) hS (yd_yes rfl (congrArg Value.bool hg67) fun A hA => rn_move (by conv => lhs; whnf)) ?_
                refine wd_take 17 _ _ rfl (by kernel_rfl) hS (yd_yes rfl (congrArg Value.bool hg67) fun A hA => rn_move (by conv => lhs; whnf)) ?_
                refine wd_take 18 _ _ rfl (by kernel_rfl) hS (yd_yes rfl (congrArg Value.bool hg67) fun A hA => rn_indexAddr sl_23 rfl rfl (by omega)) ?_
                refine wd_take 19 _ _ rfl (by kernel_rfl) hS (yd_yes rfl (congrArg Value.bool hg67) fun A hA => rn_load p_3 rfl ((hS7.ext hA (fun _ h => h.elim)).at0 (eU_at hzj) rfl)) ?_
                refine wd_take 20 _ _ rfl (by kernel_rfl) hS (yd_yes rfl (congrArg Value.bool hg67) fun A hA => rn_move (by conv => lhs; whnf)) ?_
                refine wd_take 21 _ _ rfl (by kernel_rfl) hS (yd_yes rfl (congrArg Value.bool hg67) fun A hA => rn_move (by conv => lhs; whnf)) ?_
                refine wd_take 22 _ _ rfl (by kernel_rfl) hS (yd_yes rfl (congrArg Value.bool hg67) fun A hA => rn_indexAddr sl_23 rfl rfl (by omega)) ?_
                refine wd_take 23 _ _ rfl (by kernel_rfl) hS (yd_yes rfl (congrArg Value.bool hg67) fun A hA => rn_load p_3 rfl (((hv.ext hX (fun _ h => h)).ext hA (fun _ h => h.elim)).at0 (eI_at hj) rfl)) ?_
                refine wd_take 24 _ _ rfl (by kernel_rfl) hS (yd_yes rfl (congrArg Value.bool hg67) fun A hA => rn_eql rfl rfl) ?_
                refine wd_take 25 _ _ rfl (by kernel_rfl) hS (yd_do fun A hA => rn_pickT (congrArg Value.bool hg67) (by conv => lhs; whnf)) ?_
                refine wd_done (by kernel_rfl) ?_ _
                replace hX := hX.tr hS
                replace hS6 := hS6.ext hS (fun _ h => h)
                replace hS7 := hS7.ext hS (fun _ h => h)
                refine W_cond rfl (fun hc3 => ?_) (fun hc3 => ?_)
                · have hz2 : z.2 = s := of_decide_eq_true hc3
                  have hD1 : docOf ((ks.zip ys).take (i + 1)) = D := by rw [htk, docOf_snoc, if_neg hxe, ← hD]; unfold putK; rw [if_pos]; unfold isAt; rw [hlb, hzj]; exact decide_eq_true (by rw [← hz1, ← hz2])
                  refine W_exit ?_   -- exit 1
                  refine W_region ?_
                  refine wl_val (rn_move (by conv => lhs; whnf)) ?_
                  refine wl_val (rn_add rfl rfl (by omega)) ?_
                  refine wl_val (rn_assign (by conv => lhs; whnf)) ?_
                  refine wl_nil ?_
                  exact ⟨rfl, (i + 1, D, _, _, _, _), ⟨rfl, rfl, rfl, rfl, rfl, trivial⟩, ⟨hX, ⟨hlt, hlt2, hD1.symm, hS6, hS7⟩⟩, by show ks.length - (i + 1) < ks.length - i; omega⟩
                · have hz2 : ¬ z.2 = s := of_decide_eq_false hc3
                  have hna : isAt ltT D (x, s) = false := by unfold isAt; rw [hlb]; exact decide_eq_false (by rw [hzj]; intro e; exact hz2 (by rw [Option.some.inj e]))
                  have hD1 : docOf ((ks.zip ys).take (i + 1)) = D.take j ++ (x, s) :: D.drop j := by rw [htk, docOf_snoc, if_neg hxe, ← hD]; unfold putK; rw [if_neg (by rw [hna]; simp), hlb]
                  refine W_skip ?_
                  refine W_seq ?_
                  refine W_drawX (fun j => false) mixed ?_; intro w4 hE4
                  replace hX := hX.tr hE4
                  replace hS6 := hS6.ext hE4 (fun _ h => h)
                  replace hS7 := hS7.ext hE4 (fun _ h => h)
                  have hS := Ext.refl Non w4
                  obtain ⟨n1, hn1⟩ : ∃ n, n = (World.heap w4).size := ⟨_, rfl⟩
                  refine wx_take 1 [3, 4, 10, 14, 15] _ _ rfl (by kernel_rfl) hS (yd_do fun A hA => rn_move (by conv => lhs; whnf)) ?_
                  refine wx_take 2 [3, 4, 10, 14, 15] _ _ rfl (by kernel_rfl) hS (yd_do fun A hA => rn_move (by conv => lhs; whnf)) ?_
                  refine wx_take 3 [4, 10, 14, 15] _ _ rfl (by kernel_rfl) hS (yd_do fun A hA => rn_slice0 sl_22 (h := j) (m := c6) rfl rfl ⟨_, rfl⟩ rfl (by simp) (by omega) (by omega)) ?_
                  refine wx_take 5 [7, 8, 9, 10, 14, 15] _ _ rfl (by kernel_rfl) hS (yd_do fun A hA => rn_move (by conv => lhs; whnf)) ?_
                  refine wx_take 6 [7, 8, 9, 10, 14, 15] _ _ rfl (by kernel_rfl) hS (yd_do fun A hA => rn_move (by conv => lhs; whnf)) ?_
                  refine wx_take 7 [8, 9, 10, 14, 15] _ _ rfl (by kernel_rfl) hS (yd_do fun A hA => rn_indexAddr sl_22 rfl rfl (by omega)) ?_
                  refine wx_take 8 [9, 10, 14, 15] _ _ rfl (by kernel_rfl) hS (yd_do fun A hA => rn_load p_9 rfl (((hk.ext hX (fun _ h => h)).ext hA (fun _ h => h.elim)).at0 (eS_at hi) rfl)) ?_
                  refine wx_take 11 [13, 14, 15] _ _ rfl (by kernel_rfl) hS (yd_do fun A hA => rn_move (by conv => lhs; whnf)) ?_
                  refine wx_take 12 [13, 14, 15] _ _ rfl (by kernel_rfl) hS (yd_do fun A hA => rn_move (by conv => lhs; whnf)) ?_
                  refine wx_take 13 [14, 15] _ _ rfl (by kernel_rfl) hS (yd_do fun A hA => rn_slice sl_22 (l := j) (h := D.length) (m := c6) rfl ⟨_, rfl⟩ rfl rfl (by simp) (by omega) (by omega) (by omega)) ?_
                  refine wx_two 0 9 _ _ rfl rfl (by kernel_rfl) ?_ ?_
                  · refine s1_do ?_
                    refine wl_lit sl_22 (rows := []) rfl (by decide) (by decide) rfl rfl (by simp) (by simp) rfl ?_; intro v78 w5 b78 hb78 hE5 hO78
                    have hm78 : n1 ≤ b78 := by have := hS.size; omega
                    try have hd1 : b87 < b78 := Nat.lt_of_lt_of_le hO87.box.lt hb78
                    replace hS := hS.tr hE5
                    refine wl_nil ⟨fun _ => hS, ?_⟩
                    refine wx_two 4 9 _ _ rfl rfl (by kernel_rfl) ?_ ?_
                    · refine s1_do ?_
                      have hsz82 := hS.size
                      refine wl_app sl_22 rfl rfl rfl (show OwO _ _ (some b78) 1 [] from .inr ⟨b78, [], rfl, hO78⟩) ((hS6.ext hS (fun _ h => h)).cut0 (h := j) (m := c6) (by omega) (by omega) (by omega)) (fun r hr => eT_one D r (List.mem_of_mem_take hr)) (by simp only [List.length_map, List.length_append, List.length_take, List.length_drop, List.length_cons, List.length_nil]; omega) (by simp only [List.length_map, List.length_append, List.length_take, List.length_drop, List.length_cons, List.length_nil, big]; omega) ?_; intro v82 w6 o82 hE6 hO82 hf82
                      obtain ⟨a82, c82, hv82⟩ := id hO82.len; subst hv82
                      try have hdq : ∀ i, o82 = some i → i ≠ b87 := fun i hi e => by rcases hf82 i hi with h | h; cases h; omega; have := hO87.box.lt; omega
                      try replace hO87 := hO87.ext hE6 (fun e => by cases e; omega)
                      replace hS := hS.mineF hE6 (fun i hi => .inr (by cases hi; omega))
                      have hm82 : ∀ i, o82 = some i → n1 ≤ i := fun i hi => by rcases hf82 i hi with h | h; cases h; omega; omega
                      refine wl_nil ⟨fun _ => hS, ?_⟩
                      refine wx_only 9 _ rfl (by kernel_rfl) ?_
                      refine s1_do ?_
                      refine wl_lit1 (r := eT1 (x, s)) sl_22 rfl rfl rfl rfl (by decide) ?_; intro v87 w7 b87 hb87 hE7 hO87
                      have hm87 : n1 ≤ b87 := by have := hS.size; omega
                      try have hd2 : b78 < b87 := Nat.lt_of_lt_of_le hO78.box.lt hb87
                      try have hd3 : ∀ i, o82 = some i → i < b87 := fun i hi => Nat.lt_of_lt_of_le (hO82.lt hi) hb87
                      replace hS := hS.tr hE7
                      replace hO82 := hO82.ext hE7 (fun _ _ h => h)
                      refine wl_nil ⟨fun _ => hS, ?_⟩
                      refine wx_only 10 _ rfl (by kernel_rfl) ?_
                      refine s1_do ?_
                      have hsz88 := hS.size
                      refine wl_app sl_22 rfl rfl rfl hO82 (hO87.sl (M := Non) id) (fun r hr => by simp only [List.mem_singleton] at hr; subst hr; exact one1 rfl) (by simp only [List.length_map, List.length_append, List.length_take, List.length_drop, List.length_cons, List.length_nil]; omega) (by simp only [List.length_map, List.length_append, List.length_take, List.length_drop, List.length_cons, List.length_nil, big]; omega) ?_; intro v88 w8 o88 hE8 hO88 hf88
                      obtain ⟨a88, c88, hv88⟩ := id hO88.len; subst hv88
                      replace hS := hS.mineF hE8 (fun i hi => .inr (by have := hm82 i hi; omega))
                      have hm88 : ∀ i, o88 = some i → n1 ≤ i := fun i hi => by rcases hf88 i hi with h | h; exact hm82 i h; omega
                      refine wl_nil ⟨fun _ => hS, ?_⟩
                      refine wx_only 14 _ rfl (by kernel_rfl) ?_
                      refine s1_do ?_
                      refine wl_app sl_22 rfl rfl rfl hO88 ((hS6.ext hS (fun _ h => h)).cut (l := j) (h := D.length) (m := c6) (by omega) (by omega) (by omega) (by omega)) (fun r hr => eT_one D r (List.mem_of_mem_drop (List.mem_of_mem_take hr))) (by simp only [List.length_map, List.length_append, List.length_take, List.length_drop, List.length_cons, List.length_nil]; omega) (by simp only [List.length_map, List.length_append, List.length_take, List.length_drop, List.length_cons, List.length_nil, big]; omega) ?_; intro v92 w9 o92 hE9 hO92 hf92
                      rw [ins_map] at hO92
                      obtain ⟨a92, c92, hv92⟩ := id hO92.len; rw [List.length_map] at hv92; subst hv92
                      replace hS := hS.mineF hE9 (fun i hi => .inr (by have := hm88 i hi; omega))
                      have hN6 := hO92.sl (M := Non) (fun _ _ h => h)
                      refine wl_nil ⟨fun _ => hS, ?_⟩
                      refine wx_take 15 [] _ _ rfl (by kernel_rfl) hS (yd_do fun A hA => rn_assign (by conv => lhs; whnf)) ?_
                      refine wx_done (by kernel_rfl) ?_ _
                      replace hX := hX.tr hS
                      replace hS6 := hS6.ext hS (fun _ h => h)
                      replace hS7 := hS7.ext hS (fun _ h => h)
                      refine W_drawX (fun j => false) mixed ?_; intro w10 hE10
                      replace hX := hX.tr hE10
                      replace hS6 := hS6.ext hE10 (fun _ h => h)
                      replace hS7 := hS7.ext hE10 (fun _ h => h)
                      replace hN6 := hN6.ext hE10 (fun _ h => h)
                      have hS := Ext.refl Non w10
                      obtain ⟨n1, hn1⟩ : ∃ n, n = (World.heap w10).size := ⟨_, rfl⟩
                      refine wx_take 1 [3, 4, 10, 14, 15] _ _ rfl (by kernel_rfl) hS (yd_do fun A hA => rn_move (by conv => lhs; whnf)) ?_
                      refine wx_take 2 [3, 4, 10, 14, 15] _ _ rfl (by kernel_rfl) hS (yd_do fun A hA => rn_move (by conv => lhs; whnf)) ?_
                      refine wx_take 3 [4, 10, 14, 15] _ _ rfl (by kernel_rfl) hS (yd_do fun A hA => rn_slice0 sl_23 (h := j) (m := c7) rfl rfl ⟨_, rfl⟩ rfl (by simp) (by omega) (by omega)) ?_
                      refine wx_take 5 [7, 8, 9, 10, 14, 15] _ _ rfl (by kernel_rfl) hS (yd_do fun A hA => rn_move (by conv => lhs; whnf)) ?_
                      refine wx_take 6 [7, 8, 9, 10, 14, 15] _ _ rfl (by kernel_rfl) hS (yd_do fun A hA => rn_move (by conv => lhs; whnf)) ?_
                      refine wx_take 7 [8, 9, 10, 14, 15] _ _ rfl (by kernel_rfl) hS (yd_do fun A hA => rn_indexAddr sl_23 rfl rfl (by omega)) ?_
                      refine wx_take 8 [9, 10, 14, 15] _ _ rfl (by kernel_rfl) hS (yd_do fun A hA => rn_load p_3 rfl (((hv.ext hX (fun _ h => h)).ext hA (fun _ h => h.elim)).at0 (eI_at hj) rfl)) ?_
                      refine wx_take 11 [13, 14, 15] _ _ rfl (by kernel_rfl) hS (yd_do fun A hA => rn_move (by conv => lhs; whnf)) ?_
                      refine wx_take 12 [13, 14, 15] _ _ rfl (by kernel_rfl) hS (yd_do fun A hA => rn_move (by conv => lhs; whnf)) ?_
                      refine wx_take 13 [14, 15] _ _ rfl (by kernel_rfl) hS (yd_do fun A hA => rn_slice sl_23 (l := j) (h := D.length) (m := c7) rfl ⟨_, rfl⟩ rfl rfl (by simp) (by omega) (by omega) (by omega)) ?_
                      refine wx_two 0 9 _ _ rfl rfl (by kernel_rfl) ?_ ?_
                      · refine s1_do ?_
                        refine wl_lit sl_23 (rows := []) rfl (by decide) (by decide) rfl rfl (by simp) (by simp) rfl ?_; intro v93 w11 b93 hb93 hE11 hO93
                        have hm93 : n1 ≤ b93 := by have := hS.size; omega
                        try have hd1 : b102 < b93 := Nat.lt_of_lt_of_le hO102.box.lt hb93
                        replace hS := hS.tr hE11
                        refine wl_nil ⟨fun _ => hS, ?_⟩
                        refine wx_two 4 9 _ _ rfl rfl (by kernel_rfl) ?_ ?_
                        · refine s1_do ?_
                          have hsz97 := hS.size
                          refine wl_app sl_23 rfl rfl rfl (show OwO _ _ (some b93) 1 [] from .inr ⟨b93, [], rfl, hO93⟩) ((hS7.ext hS (fun _ h => h)).cut0 (h := j) (m := c7) (by omega) (by omega) (by omega)) (fun r hr => eU_one D r (List.mem_of_mem_take hr)) (by simp only [List.length_map, List.length_append, List.length_take, List.length_drop, List.length_cons, List.length_nil]; omega) (by simp only [List.length_map, List.length_append, List.length_take, List.length_drop, List.length_cons, List.length_nil, big]; omega) ?_; intro v97 w12 o97 hE12 hO97 hf97
                          obtain ⟨a97, c97, hv97⟩ := id hO97.len; subst hv97
                          try have hdq : ∀ i, o97 = some i → i ≠ b102 := fun i hi e => by rcases hf97 i hi with h | h; cases h; omega; have := hO102.box.lt; omega
                          try replace hO102 := hO102.ext hE12 (fun e => by cases e; omega)
                          replace hS := hS.mineF hE12 (fun i hi => .inr (by cases hi; omega))
                          have hm97 : ∀ i, o97 = some i → n1 ≤ i := fun i hi => by rcases hf97 i hi with h | h; cases h; omega; omega
                          refine wl_nil ⟨fun _ => hS, ?_⟩
                          refine wx_only 9 _ rfl (by kernel_rfl) ?_
                          refine s1_do ?_
                          refine wl_lit1 (r := eU1 (x, s)) sl_23 rfl rfl rfl rfl (by decide) ?_; intro v102 w13 b102 hb102 hE13 hO102
                          have hm102 : n1 ≤ b102 := by have := hS.size; omega
                          try have hd2 : b93 < b102 := Nat.lt_of_lt_of_le hO93.box.lt hb102
                          try have hd3 : ∀ i, o97 = some i → i < b102 := fun i hi => Nat.lt_of_lt_of_le (hO97.lt hi) hb102
                          replace hS := hS.tr hE13
                          replace hO97 := hO97.ext hE13 (fun _ _ h => h)
                          refine wl_nil ⟨fun _ => hS, ?_⟩
                          refine wx_only 10 _ rfl (by kernel_rfl) ?_
                          refine s1_do ?_
                          have hsz103 := hS.size
                          refine wl_app sl_23 rfl rfl rfl hO97 (hO102.sl (M := Non) id) (fun r hr => by simp only [List.mem_singleton] at hr; subst hr; exact one1 rfl) (by simp only [List.length_map, List.length_append, List.length_take, List.length_drop, List.length_cons, List.length_nil]; omega) (by simp only [List.length_map, List.length_append, List.length_take, List.length_drop, List.length_cons, List.length_nil, big]; omega) ?_; intro v103 w14 o103 hE14 hO103 hf103
                          obtain ⟨a103, c103, hv103⟩ := id hO103.len; subst hv103
                          replace hS := hS.mineF hE14 (fun i hi => .inr (by have := hm97 i hi; omega))
                          have hm103 : ∀ i, o103 = some i → n1 ≤ i := fun i hi => by rcases hf103 i hi with h | h; exact hm97 i h; omega
                          refine wl_nil ⟨fun _ => hS, ?_⟩
                          refine wx_only 14 _ rfl (by kernel_rfl) ?_
                          refine s1_do ?_
                          refine wl_app sl_23 rfl rfl rfl hO103 ((hS7.ext hS (fun _ h => h)).cut (l := j) (h := D.length) (m := c7) (by omega) (by omega) (by omega) (by omega)) (fun r hr => eU_one D r (List.mem_of_mem_drop (List.mem_of_mem_take hr))) (by simp only [List.length_map, List.length_append, List.length_take, List.length_drop, List.length_cons, List.length_nil]; omega) (by simp only [List.length_map, List.length_append, List.length_take, List.length_drop, List.length_cons, List.length_nil, big]; omega) ?_; intro v107 w15 o107 hE15 hO107 hf107
                          rw [ins_map] at hO107
                          obtain ⟨a107, c107, hv107⟩ := id hO107.len; rw [List.length_map] at hv107; subst hv107
                          replace hS := hS.mineF hE15 (fun i hi => .inr (by have := hm103 i hi; omega))
                          have hN7 := hO107.sl (M := Non) (fun _ _ h => h)
                          refine wl_nil ⟨fun _ => hS, ?_⟩
                          refine wx_take 15 [] _ _ rfl (by kernel_rfl) hS (yd_do fun A hA => rn_assign (by conv => lhs; whnf)) ?_
                          refine wx_done (by kernel_rfl) ?_ _
                          replace hX := hX.tr hS
                          replace hS6 := hS6.ext hS (fun _ h => h)
                          replace hS7 := hS7.ext hS (fun _ h => h)
                          replace hN6 := hN6.ext hS (fun _ h => h)
                          refine W_region ?_
                          refine wl_val (rn_move (by conv => lhs; whnf)) ?_
                          refine wl_val (rn_add rfl rfl (by omega)) ?_
                          refine wl_val (rn_assign (by conv => lhs; whnf)) ?_
                          refine wl_nil ?_
                          exact ⟨rfl, (i + 1, D.take j ++ (x, s) :: D.drop j, _, _, _, _), ⟨rfl, rfl, rfl, rfl, rfl, trivial⟩, ⟨hX, ⟨hlt, hlt2, hD1.symm, hN6, hN7⟩⟩, by show ks.length - (i + 1) < ks.length - i; omega⟩
                        · refine s1_do ?_
                          refine wl_lit1 (r := eU1 (x, s)) sl_23 rfl rfl rfl rfl (by decide) ?_; intro v102 w16 b102 hb102 hE16 hO102
                          have hm102 : n1 ≤ b102 := by have := hS.size; omega
                          try have hd2 : b93 < b102 := Nat.lt_of_lt_of_le hO93.box.lt hb102
                          try have hd3 : ∀ i, o97 = some i → i < b102 := fun i hi => Nat.lt_of_lt_of_le (hO97.lt hi) hb102
                          replace hS := hS.tr hE16
                          replace hO93 := hO93.ext hE16 id
                          refine wl_nil ⟨fun _ => hS, ?_⟩
                          refine wx_only 4 _ rfl (by kernel_rfl) ?_
                          refine s1_do ?_
                          have hsz97 := hS.size
                          refine wl_app sl_23 rfl rfl rfl (show OwO _ _ (some b93) 1 [] from .inr ⟨b93, [], rfl, hO93⟩) ((hS7.ext hS (fun _ h => h)).cut0 (h := j) (m := c7) (by omega) (by omega) (by omega)) (fun r hr => eU_one D r (List.mem_of_mem_take hr)) (by simp only [List.length_map, List.length_append, List.length_take, List.length_drop, List.length_cons, List.length_nil]; omega) (by simp only [List.length_map, List.length_append, List.length_take, List.length_drop, List.length_cons, List.length_nil, big]; omega) ?_; intro v97 w17 o97 hE17 hO97 hf97
                          obtain ⟨a97, c97, hv97⟩ := id hO97.len; subst hv97
                          try have hdq : ∀ i, o97 = some i → i ≠ b102 := fun i hi e => by rcases hf97 i hi with h | h; cases h; omega; have := hO102.box.lt; omega
                          try replace hO102 := hO102.ext hE17 (fun e => by cases e; omega)
                          replace hS := hS.mineF hE17 (fun i hi => .inr (by cases hi; omega))
                          have hm97 : ∀ i, o97 = some i → n1 ≤ i := fun i hi => by rcases hf97 i hi with h | h; cases h; omega; omega
                          refine wl_nil ⟨fun _ => hS, ?_⟩
                          refine wx_only 10 _ rfl (by kernel_rfl) ?_
                          refine s1_do ?_
                          have hsz103 := hS.size
                          refine wl_app sl_23 rfl rfl rfl hO97 (hO102.sl (M := Non) id) (fun r hr => by simp only [List.mem_singleton] at hr; subst hr; exact one1 rfl) (by simp only [List.length_map, List.length_append, List.length_take, List.length_drop, List.length_cons, List.length_nil]; omega) (by simp only [List.length_map, List.length_append, List.length_take, List.length_drop, List.length_cons, List.length_nil, big]; omega) ?_; intro v103 w18 o103 hE18 hO103 hf103
                          obtain ⟨a103, c103, hv103⟩ := id hO103.len; subst hv103
                          replace hS := hS.mineF hE18 (fun i hi => .inr (by have := hm97 i hi; omega))
                          have hm103 : ∀ i, o103 = some i → n1 ≤ i := fun i hi => by rcases hf103 i hi with h | h; exact hm97 i h; omega
                          refine wl_nil ⟨fun _ => hS, ?_⟩
                          refine wx_only 14 _ rfl (by kernel_rfl) ?_
                          refine s1_do ?_
                          refine wl_app sl_23 rfl rfl rfl hO103 ((hS7.ext hS (fun _ h => h)).cut (l := j) (h := D.length) (m := c7) (by omega) (by omega) (by omega) (by omega)) (fun r hr => eU_one D r (List.mem_of_mem_drop (List.mem_of_mem_take hr))) (by simp only [List.length_map, List.length_append, List.length_take, List.length_drop, List.length_cons, List.length_nil]; omega) (by simp only [List.length_map, List.length_append, List.length_take, List.length_drop, List.length_cons, List.length_nil, big]; omega) ?_; intro v107 w19 o107 hE19 hO107 hf107
                          rw [ins_map] at hO107
                          obtain ⟨a107, c107, hv107⟩ := id hO107.len; rw [List.length_map] at hv107; subst hv107
                          replace hS := hS.mineF hE19 (fun i hi => .inr (by have := hm103 i hi; omega))
                          have hN7 := hO107.sl (M := Non) (fun _ _ h => h)
                          refine wl_nil ⟨fun _ => hS, ?_⟩
                          refine wx_take 15 [] _ _ rfl (by kernel_rfl) hS (yd_do fun A hA => rn_assign (by conv => lhs; whnf)) ?_
                          refine wx_done (by kernel_rfl) ?_ _
                          replace hX := hX.tr hS
                          replace hS6 := hS6.ext hS (fun _ h => h)
                          replace hS7 := hS7.ext hS (fun _ h => h)
                          replace hN6 := hN6.ext hS (fun _ h => h)
                          refine W_region ?_
                          refine wl_val (rn_move (by conv => lhs; whnf)) ?_
                          refine wl_val (rn_add rfl rfl (by omega)) ?_
                          refine wl_val (rn_assign (by conv => lhs; whnf)) ?_
                          refine wl_nil ?_
                          exact ⟨rfl, (i + 1, D.take j ++ (x, s) :: D.drop j, _, _, _, _), ⟨rfl, rfl, rfl, rfl, rfl, trivial⟩, ⟨hX, ⟨hlt, hlt2, hD1.symm, hN6, hN7⟩⟩, by show ks.length - (i + 1) < ks.length - i; omega⟩
                      · refine s1_do ?_
                        refine wl_lit1 (r := eU1 (x, s)) sl_23 rfl rfl rfl rfl (by decide) ?_; intro v102 w20 b102 hb102 hE20 hO102
                        have hm102 : n1 ≤ b102 := by have := hS.size; omega
                        try have hd2 : b93 < b102 := Nat.lt_of_lt_of_le hO93.box.lt hb102
                        try have hd3 : ∀ i, o97 = some i → i < b102 := fun i hi => Nat.lt_of_lt_of_le (hO97.lt hi) hb102
                        replace hS := hS.tr hE20
                        refine wl_nil ⟨fun _ => hS, ?_⟩
                        refine wx_only 0 _ rfl (by kernel_rfl) ?_
                        refine s1_do ?_
                        refine wl_lit sl_23 (rows := []) rfl (by decide) (by decide) rfl rfl (by simp) (by simp) rfl ?_; intro v93 w21 b93 hb93 hE21 hO93
                        have hm93 : n1 ≤ b93 := by have := hS.size; omega
                        try have hd1 : b102 < b93 := Nat.lt_of_lt_of_le hO102.box.lt hb93
                        replace hS := hS.tr hE21
                        replace hO102 := hO102.ext hE21 id
                        refine wl_nil ⟨fun _ => hS, ?_⟩
                        refine wx_only 4 _ rfl (by kernel_rfl) ?_
                        refine s1_do ?_
                        have hsz97 := hS.size
                        refine wl_app sl_23 rfl rfl rfl (show OwO _ _ (some b93) 1 [] from .inr ⟨b93, [], rfl, hO93⟩) ((hS7.ext hS (fun _ h => h)).cut0 (h := j) (m := c7) (by omega) (by omega) (by omega)) (fun r hr => eU_one D r (List.mem_of_mem_take hr)) (by simp only [List.length_map, List.length_append, List.length_take, List.length_drop, List.length_cons, List.length_nil]; omega) (by simp only [List.length_map, List.length_append, List.length_take, List.length_drop, List.length_cons, List.length_nil, big]; omega) ?_; intro v97 w22 o97 hE22 hO97 hf97
                        obtain ⟨a97, c97, hv97⟩ := id hO97.len; subst hv97
                        try have hdq : ∀ i, o97 = some i → i ≠ b102 := fun i hi e => by rcases hf97 i hi with h | h; cases h; omega; have := hO102.box.lt; omega
                        try replace hO102 := hO102.ext hE22 (fun e => by cases e; omega)
                        replace hS := hS.mineF hE22 (fun i hi => .inr (by cases hi; omega))
                        have hm97 : ∀ i, o97 = some i → n1 ≤ i := fun i hi => by rcases hf97 i hi with h | h; cases h; omega; omega
                        refine wl_nil ⟨fun _ => hS, ?_⟩
                        refine wx_only 10 _ rfl (by kernel_rfl) ?_
                        refine s1_do ?_
                        have hsz103 := hS.size
                        refine wl_app sl_23 rfl rfl rfl hO97 (hO102.sl (M := Non) id) (fun r hr => by simp only [List.mem_singleton] at hr; subst hr; exact one1 rfl) (by simp only [List.length_map, List.length_append, List.length_take, List.length_drop, List.length_cons, List.length_nil]; omega) (by simp only [List.length_map, List.length_append, List.length_take, List.length_drop, List.length_cons, List.length_nil, big]; omega) ?_; intro v103 w23 o103 hE23 hO103 hf103
                        obtain ⟨a103, c103, hv103⟩ := id hO103.len; subst hv103
                        replace hS := hS.mineF hE23 (fun i hi => .inr (by have := hm97 i hi; omega))
                        have hm103 : ∀ i, o103 = some i → n1 ≤ i := fun i hi => by rcases hf103 i hi with h | h; exact hm97 i h; omega
                        refine wl_nil ⟨fun _ => hS, ?_⟩
                        refine wx_only 14 _ rfl (by kernel_rfl) ?_
                        refine s1_do ?_
                        refine wl_app sl_23 rfl rfl rfl hO103 ((hS7.ext hS (fun _ h => h)).cut (l := j) (h := D.length) (m := c7) (by omega) (by omega) (by omega) (by omega)) (fun r hr => eU_one D r (List.mem_of_mem_drop (List.mem_of_mem_take hr))) (by simp only [List.length_map, List.length_append, List.length_take, List.length_drop, List.length_cons, List.length_nil]; omega) (by simp only [List.length_map, List.length_append, List.length_take, List.length_drop, List.length_cons, List.length_nil, big]; omega) ?_; intro v107 w24 o107 hE24 hO107 hf107
                        rw [ins_map] at hO107
                        obtain ⟨a107, c107, hv107⟩ := id hO107.len; rw [List.length_map] at hv107; subst hv107
                        replace hS := hS.mineF hE24 (fun i hi => .inr (by have := hm103 i hi; omega))
                        have hN7 := hO107.sl (M := Non) (fun _ _ h => h)
                        refine wl_nil ⟨fun _ => hS, ?_⟩
                        refine wx_take 15 [] _ _ rfl (by kernel_rfl) hS (yd_do fun A hA => rn_assign (by conv => lhs; whnf)) ?_
                        refine wx_done (by kernel_rfl) ?_ _
                        replace hX := hX.tr hS
                        replace hS6 := hS6.ext hS (fun _ h => h)
                        replace hS7 := hS7.ext hS (fun _ h => h)
                        replace hN6 := hN6.ext hS (fun _ h => h)
                        refine W_region ?_
                        refine wl_val (rn_move (by conv => lhs; whnf)) ?_
                        refine wl_val (rn_add rfl rfl (by omega)) ?_
                        refine wl_val (rn_assign (by conv => lhs; whnf)) ?_
                        refine wl_nil ?_
                        exact ⟨rfl, (i + 1, D.take j ++ (x, s) :: D.drop j, _, _, _, _), ⟨rfl, rfl, rfl, rfl, rfl, trivial⟩, ⟨hX, ⟨hlt, hlt2, hD1.symm, hN6, hN7⟩⟩, by show ks.length - (i + 1) < ks.length - i; omega⟩
                    · refine s1_do ?_
                      refine wl_lit1 (r := eT1 (x, s)) sl_22 rfl rfl rfl rfl (by decide) ?_; intro v87 w25 b87 hb87 hE25 hO87
                      have hm87 : n1 ≤ b87 := by have := hS.size; omega
                      try have hd2 : b78 < b87 := Nat.lt_of_lt_of_le hO78.box.lt hb87
                      try have hd3 : ∀ i, o82 = some i → i < b87 := fun i hi => Nat.lt_of_lt_of_le (hO82.lt hi) hb87
                      replace hS := hS.tr hE25
                      replace hO78 := hO78.ext hE25 id
                      refine wl_nil ⟨fun _ => hS, ?_⟩
                      refine wx_only 4 _ rfl (by kernel_rfl) ?_
                      refine s1_do ?_
                      have hsz82 := hS.size
                      refine wl_app sl_22 rfl rfl rfl (show OwO _ _ (some b78) 1 [] from .inr ⟨b78, [], rfl, hO78⟩) ((hS6.ext hS (fun _ h => h)).cut0 (h := j) (m := c6) (by omega) (by omega) (by omega)) (fun r hr => eT_one D r (List.mem_of_mem_take hr)) (by simp only [List.length_map, List.length_append, List.length_take, List.length_drop, List.length_cons, List.length_nil]; omega) (by simp only [List.length_map, List.length_append, List.length_take, List.length_drop, List.length_cons, List.length_nil, big]; omega) ?_; intro v82 w26 o82 hE26 hO82 hf82
                      obtain ⟨a82, c82, hv82⟩ := id hO82.len; subst hv82
                      try have hdq : ∀ i, o82 = some i → i ≠ b87 := fun i hi e => by rcases hf82 i hi with h | h; cases h; omega; have := hO87.box.lt; omega
                      try replace hO87 := hO87.ext hE26 (fun e => by cases e; omega)
                      replace hS := hS.mineF hE26 (fun i hi => .inr (by cases hi; omega))
                      have hm82 : ∀ i, o82 = some i → n1 ≤ i := fun i hi => by rcases hf82 i hi with h | h; cases h; omega; omega
                      refine wl_nil ⟨fun _ => hS, ?_⟩
                      refine wx_only 10 _ rfl (by kernel_rfl) ?_
                      refine s1_do ?_
                      have hsz88 := hS.size
                      refine wl_app sl_22 rfl rfl rfl hO82 (hO87.sl (M := Non) id) (fun r hr => by simp only [List.mem_singleton] at hr; subst hr; exact one1 rfl) (by simp only [List.length_map, List.length_append, List.length_take, List.length_drop, List.length_cons, List.length_nil]; omega) (by simp only [List.length_map, List.length_append, List.length_take, List.length_drop, List.length_cons, List.length_nil, big]; omega) ?_; intro v88 w27 o88 hE27 hO88 hf88
                      obtain ⟨a88, c88, hv88⟩ := id hO88.len; subst hv88
                      replace hS := hS.mineF hE27 (fun i hi => .inr (by have := hm82 i hi; omega))
                      have hm88 : ∀ i, o88 = some i → n1 ≤ i := fun i hi => by rcases hf88 i hi with h | h; exact hm82 i h; omega
                      refine wl_nil ⟨fun _ => hS, ?_⟩
                      refine wx_only 14 _ rfl (by kernel_rfl) ?_
                      refine s1_do ?_
                      refine wl_app sl_22 rfl rfl rfl hO88 ((hS6.ext hS (fun _ h => h)).cut (l := j) (h := D.length) (m := c6) (by omega) (by omega) (by omega) (by omega)) (fun r hr => eT_one D r (List.mem_of_mem_drop (List.mem_of_mem_take hr))) (by simp only [List.length_map, List.length_append, List.length_take, List.length_drop, List.length_cons, List.length_nil]; omega) (by simp only [List.length_map, List.length_append, List.length_take, List.length_drop, List.length_cons, List.length_nil, big]; omega) ?_; intro v92 w28 o92 hE28 hO92 hf92
                      rw [ins_map] at hO92
                      obtain ⟨a92, c92, hv92⟩ := id hO92.len; rw [List.length_map] at hv92; subst hv92
                      replace hS := hS.mineF hE28 (fun i hi => .inr (by have := hm88 i hi; omega))
                      have hN6 := hO92.sl (M := Non) (fun _ _ h => h)
                      refine wl_nil ⟨fun _ => hS, ?_⟩
                      refine wx_take 15 [] _ _ rfl (by kernel_rfl) hS (yd_do fun A hA => rn_assign (by conv => lhs; whnf)) ?_
                      refine wx_done (by kernel_rfl) ?_ _
                      replace hX := hX.tr hS
                      replace hS6 := hS6.ext hS (fun _ h => h)
                      replace hS7 := hS7.ext hS (fun _ h => h)
                      refine W_drawX (fun j => false) mixed ?_; intro w29 hE29
                      replace hX := hX.tr hE29
                      replace hS6 := hS6.ext hE29 (fun _ h => h)
                      replace hS7 := hS7.ext hE29 (fun _ h => h)
                      replace hN6 := hN6.ext hE29 (fun _ h => h)
                      have hS := Ext.refl Non w29
                      obtain ⟨n1, hn1⟩ : ∃ n, n = (World.heap w29).size := ⟨_, rfl⟩
                      refine wx_take 1 [3, 4, 10, 14, 15] _ _ rfl (by kernel_rfl) hS (yd_do fun A hA => rn_move (by conv => lhs; whnf)) ?_
                      refine wx_take 2 [3, 4, 10, 14, 15] _ _ rfl (by kernel_rfl) hS (yd_do fun A hA => rn_move (by conv => lhs; whnf)) ?_
                      refine wx_take 3 [4, 10, 14, 15] _ _ rfl (by kernel_rfl) hS (yd_do fun A hA => rn_slice0 sl_23 (h := j) (m := c7) rfl rfl ⟨_, rfl⟩ rfl (by simp) (by omega) (by omega)) ?_
                      refine wx_take 5 [7, 8, 9, 10, 14, 15] _ _ rfl (by kernel_rfl) hS (yd_do fun A hA => rn_move (by conv => lhs; whnf)) ?_
                      refine wx_take 6 [7, 8, 9, 10, 14, 15] _ _ rfl (by kernel_rfl) hS (yd_do fun A hA => rn_move (by conv => lhs; whnf)) ?_
                      refine wx_take 7 [8, 9, 10, 14, 15] _ _ rfl (by kernel_rfl) hS (yd_do fun A hA => rn_indexAddr sl_23 rfl rfl (by omega)) ?_
                      refine wx_take 8 [9, 10, 14, 15] _ _ rfl (by kernel_rfl) hS (yd_do fun A hA => rn_load p_3 rfl (((hv.ext hX (fun _ h => h)).ext hA (fun _ h => h.elim)).at0 (eI_at hj) rfl)) ?_
                      refine wx_take 11 [13, 14, 15] _ _ rfl (by kernel_rfl) hS (yd_do fun A hA => rn_move (by conv => lhs; whnf)) ?_
                      refine wx_take 12 [13, 14, 15] _ _ rfl (by kernel_rfl) hS (yd_do fun A hA => rn_move (by conv => lhs; whnf)) ?_
                      refine wx_take 13 [14, 15] _ _ rfl (by kernel_rfl) hS (yd_do fun A hA => rn_slice sl_23 (l := j) (h := D.length) (m := c7) rfl ⟨_, rfl⟩ rfl rfl (by simp) (by omega) (by omega) (by omega)) ?_
                      refine wx_two 0 9 _ _ rfl rfl (by kernel_rfl) ?_ ?_
                      · refine s1_do ?_
                        refine wl_lit sl_23 (rows := []) rfl (by decide) (by decide) rfl rfl (by simp) (by simp) rfl ?_; intro v93 w30 b93 hb93 hE30 hO93
                        have hm93 : n1 ≤ b93 := by have := hS.size; omega
                        try have hd1 : b102 < b93 := Nat.lt_of_lt_of_le hO102.box.lt hb93
                        replace hS := hS.tr hE30
                        refine wl_nil ⟨fun _ => hS, ?_⟩
                        refine wx_two 4 9 _ _ rfl rfl (by kernel_rfl) ?_ ?_
                        · refine s1_do ?_
                          have hsz97 := hS.size
                          refine wl_app sl_23 rfl rfl rfl (show OwO _ _ (some b93) 1 [] from .inr ⟨b93, [], rfl, hO93⟩) ((hS7.ext hS (fun _ h => h)).cut0 (h := j) (m := c7) (by omega) (by omega) (by omega)) (fun r hr => eU_one D r (List.mem_of_mem_take hr)) (by simp only [List.length_map, List.length_append, List.length_take, List.length_drop, List.length_cons, List.length_nil]; omega) (by simp only [List.length_map, List.length_append, List.length_take, List.length_drop, List.length_cons, List.length_nil, big]; omega) ?_; intro v97 w31 o97 hE31 hO97 hf97
                          obtain ⟨a97, c97, hv97⟩ := id hO97.len; subst hv97
                          try have hdq : ∀ i, o97 = some i → i ≠ b102 := fun i hi e => by rcases hf97 i hi with h | h; cases h; omega; have := hO102.box.lt; omega
                          try replace hO102 := hO102.ext hE31 (fun e => by cases e; omega)
                          replace hS := hS.mineF hE31 (fun i hi => .inr (by cases hi; omega))
                          have hm97 : ∀ i, o97 = some i → n1 ≤ i := fun i hi => by rcases hf97 i hi with h | h; cases h; omega; omega
                          refine wl_nil ⟨fun _ => hS, ?_⟩
                          refine wx_only 9 _ rfl (by kernel_rfl) ?_
                          refine s1_do ?_
                          refine wl_lit1 (r := eU1 (x, s)) sl_23 rfl rfl rfl rfl (by decide) ?_; intro v102 w32 b102 hb102 hE32 hO102
                          have hm102 : n1 ≤ b102 := by have := hS.size; omega
                          try have hd2 : b93 < b102 := Nat.lt_of_lt_of_le hO93.box.lt hb102
                          try have hd3 : ∀ i, o97 = some i → i < b102 := fun i hi => Nat.lt_of_lt_of_le (hO97.lt hi) hb102
                          replace hS := hS.tr hE32
                          replace hO97 := hO97.ext hE32 (fun _ _ h => h)
                          refine wl_nil ⟨fun _ => hS, ?_⟩
                          refine wx_only 10 _ rfl (by kernel_rfl) ?_
                          refine s1_do ?_
                          have hsz103 := hS.size
                          refine wl_app sl_23 rfl rfl rfl hO97 (hO102.sl (M := Non) id) (fun r hr => by simp only [List.mem_singleton] at hr; subst hr; exact one1 rfl) (by simp only [List.length_map, List.length_append, List.length_take, List.length_drop, List.length_cons, List.length_nil]; omega) (by simp only [List.length_map, List.length_append, List.length_take, List.length_drop, List.length_cons, List.length_nil, big]; omega) ?_; intro v103 w33 o103 hE33 hO103 hf103
                          obtain ⟨a103, c103, hv103⟩ := id hO103.len; subst hv103
                          replace hS := hS.mineF hE33 (fun i hi => .inr (by have := hm97 i hi; omega))
                          have hm103 : ∀ i, o103 = some i → n1 ≤ i := fun i hi => by rcases hf103 i hi with h | h; exact hm97 i h; omega
                          refine wl_nil ⟨fun _ => hS, ?_⟩
                          refine wx_only 14 _ rfl (by kernel_rfl) ?_
                          refine s1_do ?_
                          refine wl_app sl_23 rfl rfl rfl hO103 ((hS7.ext hS (fun _ h => h)).cut (l := j) (h := D.length) (m := c7) (by omega) (by omega) (by omega) (by omega)) (fun r hr => eU_one D r (List.mem_of_mem_drop (List.mem_of_mem_take hr))) (by simp only [List.length_map, List.length_append, List.length_take, List.length_drop, List.length_cons, List.length_nil]; omega) (by simp only [List.length_map, List.length_append, List.length_take, List.length_drop, List.length_cons, List.length_nil, big]; omega) ?_; intro v107 w34 o107 hE34 hO107 hf107
                          rw [ins_map] at hO107
                          obtain ⟨a107, c107, hv107⟩ := id hO107.len; rw [List.length_map] at hv107; subst hv107
                          replace hS := hS.mineF hE34 (fun i hi => .inr (by have := hm103 i hi; omega))
                          have hN7 := hO107.sl (M := Non) (fun _ _ h => h)
                          refine wl_nil ⟨fun _ => hS, ?_⟩
                          refine wx_take 15 [] _ _ rfl (by kernel_rfl) hS (yd_do fun A hA => rn_assign (by conv => lhs; whnf)) ?_
                          refine wx_done (by kernel_rfl) ?_ _
                          replace hX := hX.tr hS
                          replace hS6 := hS6.ext hS (fun _ h => h)
                          replace hS7 := hS7.ext hS (fun _ h => h)
                          replace hN6 := hN6.ext hS (fun _ h => h)
                          refine W_region ?_
                          refine wl_val (rn_move (by conv => lhs; whnf)) ?_
                          refine wl_val (rn_add rfl rfl (by omega)) ?_
                          refine wl_val (rn_assign (by conv => lhs; whnf)) ?_
                          refine wl_nil ?_
                          exact ⟨rfl, (i + 1, D.take j ++ (x, s) :: D.drop j, _, _, _, _), ⟨rfl, rfl, rfl, rfl, rfl, trivial⟩, ⟨hX, ⟨hlt, hlt2, hD1.symm, hN6, hN7⟩⟩, by show ks.length - (i + 1) < ks.length - i; omega⟩
                        · refine s1_do ?_
                          refine wl_lit1 (r := eU1 (x, s)) sl_23 rfl rfl rfl rfl (by decide) ?_; intro v102 w35 b102 hb102 hE35 hO102
                          have hm102 : n1 ≤ b102 := by have := hS.size; omega
                          try have hd2 : b93 < b102 := Nat.lt_of_lt_of_le hO93.box.lt hb102
                          try have hd3 : ∀ i, o97 = some i → i < b102 := fun i hi => Nat.lt_of_lt_of_le (hO97.lt hi) hb102
                          replace hS := hS.tr hE35
                          replace hO93 := hO93.ext hE35 id
                          refine wl_nil ⟨fun _ => hS, ?_⟩
                          refine wx_only 4 _ rfl (by kernel_rfl) ?_
                          refine s1_do ?_
                          have hsz97 := hS.size
                          refine wl_app sl_23 rfl rfl rfl (show OwO _ _ (some b93) 1 [] from .inr ⟨b93, [], rfl, hO93⟩) ((hS7.ext hS (fun _ h => h)).cut0 (h := j) (m := c7) (by omega) (by omega) (by omega)) (fun r hr => eU_one D r (List.mem_of_mem_take hr)) (by simp only [List.length_map, List.length_append, List.length_take, List.length_drop, List.length_cons, List.length_nil]; omega) (by simp only [List.length_map, List.length_append, List.length_take, List.length_drop, List.length_cons, List.length_nil, big]; omega) ?_; intro v97 w36 o97 hE36 hO97 hf97
                          obtain ⟨a97, c97, hv97⟩ := id hO97.len; subst hv97
                          try have hdq : ∀ i, o97 = some i → i ≠ b102 := fun i hi e => by rcases hf97 i hi with h | h; cases h; omega; have := hO102.box.lt; omega
                          try replace hO102 := hO102.ext hE36 (fun e => by cases e; omega)
                          replace hS := hS.mineF hE36 (fun i hi => .inr (by cases hi; omega))
                          have hm97 : ∀ i, o97 = some i → n1 ≤ i := fun i hi => by rcases hf97 i hi with h | h; cases h; omega; omega
                          refine wl_nil ⟨fun _ => hS, ?_⟩
                          refine wx_only 10 _ rfl (by kernel_rfl) ?_
                          refine s1_do ?_
                          have hsz103 := hS.size
                          refine wl_app sl_23 rfl rfl rfl hO97 (hO102.sl (M := Non) id) (fun r hr => by simp only [List.mem_singleton] at hr; subst hr; exact one1 rfl) (by simp only [List.length_map, List.length_append, List.length_take, List.length_drop, List.length_cons, List.length_nil]; omega) (by simp only [List.length_map, List.length_append, List.length_take, List.length_drop, List.length_cons, List.length_nil, big]; omega) ?_; intro v103 w37 o103 hE37 hO103 hf103
                          obtain ⟨a103, c103, hv103⟩ := id hO103.len; subst hv103
                          replace hS := hS.mineF hE37 (fun i hi => .inr (by have := hm97 i hi; omega))
                          have hm103 : ∀ i, o103 = some i → n1 ≤ i := fun i hi => by rcases hf103 i hi with h | h; exact hm97 i h; omega
                          refine wl_nil ⟨fun _ => hS, ?_⟩
                          refine wx_only 14 _ rfl (by kernel_rfl) ?_
                          refine s1_do ?_
                          refine wl_app sl_23 rfl rfl rfl hO103 ((hS7.ext hS (fun _ h => h)).cut (l := j) (h := D.length) (m := c7) (by omega) (by omega) (by omega) (by omega)) (fun r hr => eU_one D r (List.mem_of_mem_drop (List.mem_of_mem_take hr))) (by simp only [List.length_map, List.length_append, List.length_take, List.length_drop, List.length_cons, List.length_nil]; omega) (by simp only [List.length_map, List.length_append, List.length_take, List.length_drop, List.length_cons, List.length_nil, big]; omega) ?_; intro v107 w38 o107 hE38 hO107 hf107
                          rw [ins_map] at hO107
                          obtain ⟨a107, c107, hv107⟩ := id hO107.len; rw [List.length_map] at hv107; subst hv107
                          replace hS := hS.mineF hE38 (fun i hi => .inr (by have := hm103 i hi; omega))
                          have hN7 := hO107.sl (M := Non) (fun _ _ h => h)
                          refine wl_nil ⟨fun _ => hS, ?_⟩
                          refine wx_take 15 [] _ _ rfl (by kernel_rfl) hS (yd_do fun A hA => rn_assign (by conv => lhs; whnf)) ?_
                          refine wx_done (by kernel_rfl) ?_ _
                          replace hX := hX.tr hS
                          replace hS6 := hS6.ext hS (fun _ h => h)
                          replace hS7 := hS7.ext hS (fun _ h => h)
                          replace hN6 := hN6.ext hS (fun _ h => h)
                          refine W_region ?_
                          refine wl_val (rn_move (by conv => lhs; whnf)) ?_
                          refine wl_val (rn_add rfl rfl (by omega)) ?_
                          refine wl_val (rn_assign (by conv => lhs; whnf)) ?_
                          refine wl_nil ?_
                          exact ⟨rfl, (i + 1, D.take j ++ (x, s) :: D.drop j, _, _, _, _), ⟨rfl, rfl, rfl, rfl, rfl, trivial⟩, ⟨hX, ⟨hlt, hlt2, hD1.symm, hN6, hN7⟩⟩, by show ks.length - (i + 1) < ks.length - i; omega⟩
                      · refine s1_do ?_
                        refine wl_lit1 (r := eU1 (x, s)) sl_23 rfl rfl rfl rfl (by decide) ?_; intro v102 w39 b102 hb102 hE39 hO102
                        have hm102 : n1 ≤ b102 := by have := hS.size; omega
                        try have hd2 : b93 < b102 := Nat.lt_of_lt_of_le hO93.box.lt hb102
                        try have hd3 : ∀ i, o97 = some i → i < b102 := fun i hi => Nat.lt_of_lt_of_le (hO97.lt hi) hb102
                        replace hS := hS.tr hE39
                        refine wl_nil ⟨fun _ => hS, ?_⟩
                        refine wx_only 0 _ rfl (by kernel_rfl) ?_
                        refine s1_do ?_
                        refine wl_lit sl_23 (rows := []) rfl (by decide) (by decide) rfl rfl (by simp) (by simp) rfl ?_; intro v93 w40 b93 hb93 hE40 hO93
                        have hm93 : n1 ≤ b93 := by have := hS.size; omega
                        try have hd1 : b102 < b93 := Nat.lt_of_lt_of_le hO102.box.lt hb93
                        replace hS := hS.tr hE40
                        replace hO102 := hO102.ext hE40 id
                        refine wl_nil ⟨fun _ => hS, ?_⟩
                        refine wx_only 4 _ rfl (by kernel_rfl) ?_
                        refine s1_do ?_
                        have hsz97 := hS.size
                        refine wl_app sl_23 rfl rfl rfl (show OwO _ _ (some b93) 1 [] from .inr ⟨b93, [], rfl, hO93⟩) ((hS7.ext hS (fun _ h => h)).cut0 (h := j) (m := c7) (by omega) (by omega) (by omega)) (fun r hr => eU_one D r (List.mem_of_mem_take hr)) (by simp only [List.length_map, List.length_append, List.length_take, List.length_drop, List.length_cons, List.length_nil]; omega) (by simp only [List.length_map, List.length_append, List.length_take, List.length_drop, List.length_cons, List.length_nil, big]; omega) ?_; intro v97 w41 o97 hE41 hO97 hf97
                        obtain ⟨a97, c97, hv97⟩ := id hO97.len; subst hv97
                        try have hdq : ∀ i, o97 = some i → i ≠ b102 := fun i hi e => by rcases hf97 i hi with h | h; cases h; omega; have := hO102.box.lt; omega
                        try replace hO102 := hO102.ext hE41 (fun e => by cases e; omega)
                        replace hS := hS.mineF hE41 (fun i hi => .inr (by cases hi; omega))
                        have hm97 : ∀ i, o97 = some i → n1 ≤ i := fun i hi => by rcases hf97 i hi with h | h; cases h; omega; omega
                        refine wl_nil ⟨fun _ => hS, ?_⟩
                        refine wx_only 10 _ rfl (by kernel_rfl) ?_
                        refine s1_do ?_
                        have hsz103 := hS.size
                        refine wl_app sl_23 rfl rfl rfl hO97 (hO102.sl (M := Non) id) (fun r hr => by simp only [List.mem_singleton] at hr; subst hr; exact one1 rfl) (by simp only [List.length_map, List.length_append, List.length_take, List.length_drop, List.length_cons, List.length_nil]; omega) (by simp only [List.length_map, List.length_append, List.length_take, List.length_drop, List.length_cons, List.length_nil, big]; omega) ?_; intro v103 w42 o103 hE42 hO103 hf103
                        obtain ⟨a103, c103, hv103⟩ := id hO103.len; subst hv103
                        replace hS := hS.mineF hE42 (fun i hi => .inr (by have := hm97 i hi; omega))
                        have hm103 : ∀ i, o103 = some i → n1 ≤ i := fun i hi => by rcases hf103 i hi with h | h; exact hm97 i h; omega
                        refine wl_nil ⟨fun _ => hS, ?_⟩
                        refine wx_only 14 _ rfl (by kernel_rfl) ?_
                        refine s1_do ?_
                        refine wl_app sl_23 rfl rfl rfl hO103 ((hS7.ext hS (fun _ h => h)).cut (l := j) (h := D.length) (m := c7) (by omega) (by omega) (by omega) (by omega)) (fun r hr => eU_one D r (List.mem_of_mem_drop (List.mem_of_mem_take hr))) (by simp only [List.length_map, List.length_append, List.length_take, List.length_drop, List.length_cons, List.length_nil]; omega) (by simp only [List.length_map, List.length_append, List.length_take, List.length_drop, List.length_cons, List.length_nil, big]; omega) ?_; intro v107 w43 o107 hE43 hO107 hf107
                        rw [ins_map] at hO107
                        obtain ⟨a107, c107, hv107⟩ := id hO107.len; rw [List.length_map] at hv107; subst hv107
                        replace hS := hS.mineF hE43 (fun i hi => .inr (by have := hm103 i hi; omega))
                        have hN7 := hO107.sl (M := Non) (fun _ _ h => h)
                        refine wl_nil ⟨fun _ => hS, ?_⟩
                        refine wx_take 15 [] _ _ rfl (by kernel_rfl) hS (yd_do fun A hA => rn_assign (by conv => lhs; whnf)) ?_
                        refine wx_done (by kernel_rfl) ?_ _
                        replace hX := hX.tr hS
                        replace hS6 := hS6.ext hS (fun _ h => h)
                        replace hS7 := hS7.ext hS (fun _ h => h)
                        replace hN6 := hN6.ext hS (fun _ h => h)
                        refine W_region ?_
                        refine wl_val (rn_move (by conv => lhs; whnf)) ?_
                        refine wl_val (rn_add rfl rfl (by omega)) ?_
                        refine wl_val (rn_assign (by conv => lhs; whnf)) ?_
                        refine wl_nil ?_
                        exact ⟨rfl, (i + 1, D.take j ++ (x, s) :: D.drop j, _, _, _, _), ⟨rfl, rfl, rfl, rfl, rfl, trivial⟩, ⟨hX, ⟨hlt, hlt2, hD1.symm, hN6, hN7⟩⟩, by show ks.length - (i + 1) < ks.length - i; omega⟩
                  · refine s1_do ?_
                    refine wl_lit1 (r := eT1 (x, s)) sl_22 rfl rfl rfl rfl (by decide) ?_; intro v87 w44 b87 hb87 hE44 hO87
                    have hm87 : n1 ≤ b87 := by have := hS.size; omega
                    try have hd2 : b78 < b87 := Nat.lt_of_lt_of_le hO78.box.lt hb87
                    try have hd3 : ∀ i, o82 = some i → i < b87 := fun i hi => Nat.lt_of_lt_of_le (hO82.lt hi) hb87
                    replace hS := hS.tr hE44
                    refine wl_nil ⟨fun _ => hS, ?_⟩
                    refine wx_only 0 _ rfl (by kernel_rfl) ?_
                    refine s1_do ?_
                    refine wl_lit sl_22 (rows := []) rfl (by decide) (by decide) rfl rfl (by simp) (by simp) rfl ?_; intro v78 w45 b78 hb78 hE45 hO78
                    have hm78 : n1 ≤ b78 := by have := hS.size; omega
                    try have hd1 : b87 < b78 := Nat.lt_of_lt_of_le hO87.box.lt hb78
                    replace hS := hS.tr hE45
                    replace hO87 := hO87.ext hE45 id
                    refine wl_nil ⟨fun _ => hS, ?_⟩
                    refine wx_only 4 _ rfl (by kernel_rfl) ?_
                    refine s1_do ?_
                    have hsz82 := hS.size
                    refine wl_app sl_22 rfl rfl rfl (show OwO _ _ (some b78) 1 [] from .inr ⟨b78, [], rfl, hO78⟩) ((hS6.ext hS (fun _ h => h)).cut0 (h := j) (m := c6) (by omega) (by omega) (by omega)) (fun r hr => eT_one D r (List.mem_of_mem_take hr)) (by simp only [List.length_map, List.length_append, List.length_take, List.length_drop, List.length_cons, List.length_nil]; omega) (by simp only [List.length_map, List.length_append, List.length_take, List.length_drop, List.length_cons, List.length_nil, big]; omega) ?_; intro v82 w46 o82 hE46 hO82 hf82
                    obtain ⟨a82, c82, hv82⟩ := id hO82.len; subst hv82
                    try have hdq : ∀ i, o82 = some i → i ≠ b87 := fun i hi e => by rcases hf82 i hi with h | h; cases h; omega; have := hO87.box.lt; omega
                    try replace hO87 := hO87.ext hE46 (fun e => by cases e; omega)
                    replace hS := hS.mineF hE46 (fun i hi => .inr (by cases hi; omega))
                    have hm82 : ∀ i, o82 = some i → n1 ≤ i := fun i hi => by rcases hf82 i hi with h | h; cases h; omega; omega
                    refine wl_nil ⟨fun _ => hS, ?_⟩
                    refine wx_only 10 _ rfl (by kernel_rfl) ?_
                    refine s1_do ?_
                    have hsz88 := hS.size
                    refine wl_app sl_22 rfl rfl rfl hO82 (hO87.sl (M := Non) id) (fun r hr => by simp only [List.mem_singleton] at hr; subst hr; exact one1 rfl) (by simp only [List.length_map, List.length_append, List.length_take, List.length_drop, List.length_cons, List.length_nil]; omega) (by simp only [List.length_map, List.length_append, List.length_take, List.length_drop, List.length_cons, List.length_nil, big]; omega) ?_; intro v88 w47 o88 hE47 hO88 hf88
                    obtain ⟨a88, c88, hv88⟩ := id hO88.len; subst hv88
                    replace hS := hS.mineF hE47 (fun i hi => .inr (by have := hm82 i hi; omega))
                    have hm88 : ∀ i, o88 = some i → n1 ≤ i := fun i hi => by rcases hf88 i hi with h | h; exact hm82 i h; omega
                    refine wl_nil ⟨fun _ => hS, ?_⟩
                    refine wx_only 14 _ rfl (by kernel_rfl) ?_
                    refine s1_do ?_
                    refine wl_app sl_22 rfl rfl rfl hO88 ((hS6.ext hS (fun _ h => h)).cut (l := j) (h := D.length) (m := c6) (by omega) (by omega) (by omega) (by omega)) (fun r hr => eT_one D r (List.mem_of_mem_drop (List.mem_of_mem_take hr))) (by simp only [List.length_map, List.length_append, List.length_take, List.length_drop, List.length_cons, List.length_nil]; omega) (by simp only [List.length_map, List.length_append, List.length_take, List.length_drop, List.length_cons, List.length_nil, big]; omega) ?_; intro v92 w48 o92 hE48 hO92 hf92
                    rw [ins_map] at hO92
                    obtain ⟨a92, c92, hv92⟩ := id hO92.len; rw [List.length_map] at hv92; subst hv92
                    replace hS := hS.mineF hE48 (fun i hi => .inr (by have := hm88 i hi; omega))
                    have hN6 := hO92.sl (M := Non) (fun _ _ h => h)
                    refine wl_nil ⟨fun _ => hS, ?_⟩
                    refine wx_take 15 [] _ _ rfl (by kernel_rfl) hS (yd_do fun A hA => rn_assign (by conv => lhs; whnf)) ?_
                    refine wx_done (by kernel_rfl) ?_ _
                    replace hX := hX.tr hS
                    replace hS6 := hS6.ext hS (fun _ h => h)
                    replace hS7 := hS7.ext hS (fun _ h => h)
                    refine W_drawX (fun j => false) mixed ?_; intro w49 hE49
                    replace hX := hX.tr hE49
                    replace hS6 := hS6.ext hE49 (fun _ h => h)
                    replace hS7 := hS7.ext hE49 (fun _ h => h)
                    replace hN6 := hN6.ext hE49 (fun _ h => h)
                    have hS := Ext.refl Non w49
                    obtain ⟨n1, hn1⟩ : ∃ n, n = (World.heap w49).size := ⟨_, rfl⟩
                    refine wx_take 1 [3, 4, 10, 14, 15] _ _ rfl (by kernel_rfl) hS (yd_do fun A hA => rn_move (by conv => lhs; whnf)) ?_
                    refine wx_take 2 [3, 4, 10, 14, 15] _ _ rfl (by kernel_rfl) hS (yd_do fun A hA => rn_move (by conv => lhs; whnf)) ?_
                    refine wx_take 3 [4, 10, 14, 15] _ _ rfl (by kernel_rfl) hS (yd_do fun A hA => rn_slice0 sl_23 (h := j) (m := c7) rfl rfl ⟨_, rfl⟩ rfl (by simp) (by omega) (by omega)) ?_
                    refine wx_take 5 [7, 8, 9, 10, 14, 15] _ _ rfl (by kernel_rfl) hS (yd_do fun A hA => rn_move (by conv => lhs; whnf)) ?_
                    refine wx_take 6 [7, 8, 9, 10, 14, 15] _ _ rfl (by kernel_rfl) hS (yd_do fun A hA => rn_move (by conv => lhs; whnf)) ?_
                    refine wx_take 7 [8, 9, 10, 14, 15] _ _ rfl (by kernel_rfl) hS (yd_do fun A hA => rn_indexAddr sl_23 rfl rfl (by omega)) ?_
                    refine wx_take 8 [9, 10, 14, 15] _ _ rfl (by kernel_rfl) hS (yd_do fun A hA => rn_load p_3 rfl (((hv.ext hX (fun _ h => h)).ext hA (fun _ h => h.elim)).at0 (eI_at hj) rfl)) ?_
                    refine wx_take 11 [13, 14, 15] _ _ rfl (by kernel_rfl) hS (yd_do fun A hA => rn_move (by conv => lhs; whnf)) ?_
                    refine wx_take 12 [13, 14, 15] _ _ rfl (by kernel_rfl) hS (yd_do fun A hA => rn_move (by conv => lhs; whnf)) ?_
                    refine wx_take 13 [14, 15] _ _ rfl (by kernel_rfl) hS (yd_do fun A hA => rn_slice sl_23 (l := j) (h := D.length) (m := c7) rfl ⟨_, rfl⟩ rfl rfl (by simp) (by omega) (by omega) (by omega)) ?_
                    refine wx_two 0 9 _ _ rfl rfl (by kernel_rfl) ?_ ?_
                    · refine s1_do ?_
                      refine wl_lit sl_23 (rows := []) rfl (by decide) (by decide) rfl rfl (by simp) (by simp) rfl ?_; intro v93 w50 b93 hb93 hE50 hO93
                      have hm93 : n1 ≤ b93 := by have := hS.size; omega
                      try have hd1 : b102 < b93 := Nat.lt_of_lt_of_le hO102.box.lt hb93
                      replace hS := hS.tr hE50
                      refine wl_nil ⟨fun _ => hS, ?_⟩
                      refine wx_two 4 9 _ _ rfl rfl (by kernel_rfl) ?_ ?_
                      · refine s1_do ?_
                        have hsz97 := hS.size
                        refine wl_app sl_23 rfl rfl rfl (show OwO _ _ (some b93) 1 [] from .inr ⟨b93, [], rfl, hO93⟩) ((hS7.ext hS (fun _ h => h)).cut0 (h := j) (m := c7) (by omega) (by omega) (by omega)) (fun r hr => eU_one D r (List.mem_of_mem_take hr)) (by simp only [List.length_map, List.length_append, List.length_take, List.length_drop, List.length_cons, List.length_nil]; omega) (by simp only [List.length_map, List.length_append, List.length_take, List.length_drop, List.length_cons, List.length_nil, big]; omega) ?_; intro v97 w51 o97 hE51 hO97 hf97
                        obtain ⟨a97, c97, hv97⟩ := id hO97.len; subst hv97
                        try have hdq : ∀ i, o97 = some i → i ≠ b102 := fun i hi e => by rcases hf97 i hi with h | h; cases h; omega; have := hO102.box.lt; omega
                        try replace hO102 := hO102.ext hE51 (fun e => by cases e; omega)
                        replace hS := hS.mineF hE51 (fun i hi => .inr (by cases hi; omega))
                        have hm97 : ∀ i, o97 = some i → n1 ≤ i := fun i hi => by rcases hf97 i hi with h | h; cases h; omega; omega
                        refine wl_nil ⟨fun _ => hS, ?_⟩
                        refine wx_only 9 _ rfl (by kernel_rfl) ?_
                        refine s1_do ?_
                        refine wl_lit1 (r := eU1 (x, s)) sl_23 rfl rfl rfl rfl (by decide) ?_; intro v102 w52 b102 hb102 hE52 hO102
                        have hm102 : n1 ≤ b102 := by have := hS.size; omega
                        try have hd2 : b93 < b102 := Nat.lt_of_lt_of_le hO93.box.lt hb102
                        try have hd3 : ∀ i, o97 = some i → i < b102 := fun i hi => Nat.lt_of_lt_of_le (hO97.lt hi) hb102
                        replace hS := hS.tr hE52
                        replace hO97 := hO97.ext hE52 (fun _ _ h => h)
                        refine wl_nil ⟨fun _ => hS, ?_⟩
                        refine wx_only 10 _ rfl (by kernel_rfl) ?_
                        refine s1_do ?_
                        have hsz103 := hS.size
                        refine wl_app sl_23 rfl rfl rfl hO97 (hO102.sl (M := Non) id) (fun r hr => by simp only [List.mem_singleton] at hr; subst hr; exact one1 rfl) (by simp only [List.length_map, List.length_append, List.length_take, List.length_drop, List.length_cons, List.length_nil]; omega) (by simp only [List.length_map, List.length_append, List.length_take, List.length_drop, List.length_cons, List.length_nil, big]; omega) ?_; intro v103 w53 o103 hE53 hO103 hf103
                        obtain ⟨a103, c103, hv103⟩ := id hO103.len; subst hv103
                        replace hS := hS.mineF hE53 (fun i hi => .inr (by have := hm97 i hi; omega))
                        have hm103 : ∀ i, o103 = some i → n1 ≤ i := fun i hi => by rcases hf103 i hi with h | h; exact hm97 i h; omega
                        refine wl_nil ⟨fun _ => hS, ?_⟩
                        refine wx_only 14 _ rfl (by kernel_rfl) ?_
                        refine s1_do ?_
                        refine wl_app sl_23 rfl rfl rfl hO103 ((hS7.ext hS (fun _ h => h)).cut (l := j) (h := D.length) (m := c7) (by omega) (by omega) (by omega) (by omega)) (fun r hr => eU_one D r (List.mem_of_mem_drop (List.mem_of_mem_take hr))) (by simp only [List.length_map, List.length_append, List.length_take, List.length_drop, List.length_cons, List.length_nil]; omega) (by simp only [List.length_map, List.length_append, List.length_take, List.length_drop, List.length_cons, List.length_nil, big]; omega) ?_; intro v107 w54 o107 hE54 hO107 hf107
                        rw [ins_map] at hO107
                        obtain ⟨a107, c107, hv107⟩ := id hO107.len; rw [List.length_map] at hv107; subst hv107
                        replace hS := hS.mineF hE54 (fun i hi => .inr (by have := hm103 i hi; omega))
                        have hN7 := hO107.sl (M := Non) (fun _ _ h => h)
                        refine wl_nil ⟨fun _ => hS, ?_⟩
                        refine wx_take 15 [] _ _ rfl (by kernel_rfl) hS (yd_do fun A hA => rn_assign (by conv => lhs; whnf)) ?_
                        refine wx_done (by kernel_rfl) ?_ _
                        replace hX := hX.tr hS
                        replace hS6 := hS6.ext hS (fun _ h => h)
                        replace hS7 := hS7.ext hS (fun _ h => h)
                        replace hN6 := hN6.ext hS (fun _ h => h)
                        refine W_region ?_
                        refine wl_val (rn_move (by conv => lhs; whnf)) ?_
                        refine wl_val (rn_add rfl rfl (by omega)) ?_
                        refine wl_val (rn_assign (by conv => lhs; whnf)) ?_
                        refine wl_nil ?_
                        exact ⟨rfl, (i + 1, D.take j ++ (x, s) :: D.drop j, _, _, _, _), ⟨rfl, rfl, rfl, rfl, rfl, trivial⟩, ⟨hX, ⟨hlt, hlt2, hD1.symm, hN6, hN7⟩⟩, by show ks.length - (i + 1) < ks.length - i; omega⟩
                      · refine s1_do ?_
                        refine wl_lit1 (r := eU1 (x, s)) sl_23 rfl rfl rfl rfl (by decide) ?_; intro v102 w55 b102 hb102 hE55 hO102
                        have hm102 : n1 ≤ b102 := by have := hS.size; omega
                        try have hd2 : b93 < b102 := Nat.lt_of_lt_of_le hO93.box.lt hb102
                        try have hd3 : ∀ i, o97 = some i → i < b102 := fun i hi => Nat.lt_of_lt_of_le (hO97.lt hi) hb102
                        replace hS := hS.tr hE55
                        replace hO93 := hO93.ext hE55 id
                        refine wl_nil ⟨fun _ => hS, ?_⟩
                        refine wx_only 4 _ rfl (by kernel_rfl) ?_
                        refine s1_do ?_
                        have hsz97 := hS.size
                        refine wl_app sl_23 rfl rfl rfl (show OwO _ _ (some b93) 1 [] from .inr ⟨b93, [], rfl, hO93⟩) ((hS7.ext hS (fun _ h => h)).cut0 (h := j) (m := c7) (by omega) (by omega) (by omega)) (fun r hr => eU_one D r (List.mem_of_mem_take hr)) (by simp only [List.length_map, List.length_append, List.length_take, List.length_drop, List.length_cons, List.length_nil]; omega) (by simp only [List.length_map, List.length_append, List.length_take, List.length_drop, List.length_cons, List.length_nil, big]; omega) ?_; intro v97 w56 o97 hE56 hO97 hf97
                        obtain ⟨a97, c97, hv97⟩ := id hO97.len; subst hv97
                        try have hdq : ∀ i, o97 = some i → i ≠ b102 := fun i hi e => by rcases hf97 i hi with h | h; cases h; omega; have := hO102.box.lt; omega
                        try replace hO102 := hO102.ext hE56 (fun e => by cases e; omega)
                        replace hS := hS.mineF hE56 (fun i hi => .inr (by cases hi; omega))
                        have hm97 : ∀ i, o97 = some i → n1 ≤ i := fun i hi => by rcases hf97 i hi with h | h; cases h; omega; omega
                        refine wl_nil ⟨fun _ => hS, ?_⟩
                        refine wx_only 10 _ rfl (by kernel_rfl) ?_
                        refine s1_do ?_
                        have hsz103 := hS.size
                        refine wl_app sl_23 rfl rfl rfl hO97 (hO102.sl (M := Non) id) (fun r hr => by simp only [List.mem_singleton] at hr; subst hr; exact one1 rfl) (by simp only [List.length_map, List.length_append, List.length_take, List.length_drop, List.length_cons, List.length_nil]; omega) (by simp only [List.length_map, List.length_append, List.length_take, List.length_drop, List.length_cons, List.length_nil, big]; omega) ?_; intro v103 w57 o103 hE57 hO103 hf103
                        obtain ⟨a103, c103, hv103⟩ := id hO103.len; subst hv103
                        replace hS := hS.mineF hE57 (fun i hi => .inr (by have := hm97 i hi; omega))
                        have hm103 : ∀ i, o103 = some i → n1 ≤ i := fun i hi => by rcases hf103 i hi with h | h; exact hm97 i h; omega
                        refine wl_nil ⟨fun _ => hS, ?_⟩
                        refine wx_only 14 _ rfl (by kernel_rfl) ?_
                        refine s1_do ?_
                        refine wl_app sl_23 rfl rfl rfl hO103 ((hS7.ext hS (fun _ h => h)).cut (l := j) (h := D.length) (m := c7) (by omega) (by omega) (by omega) (by omega)) (fun r hr => eU_one D r (List.mem_of_mem_drop (List.mem_of_mem_take hr))) (by simp only [List.length_map, List.length_append, List.length_take, List.length_drop, List.length_cons, List.length_nil]; omega) (by simp only [List.length_map, List.length_append, List.length_take, List.length_drop, List.length_cons, List.length_nil, big]; omega) ?_; intro v107 w58 o107 hE58 hO107 hf107
                        rw [ins_map] at hO107
                        obtain ⟨a107, c107, hv107⟩ := id hO107.len; rw [List.length_map] at hv107; subst hv107
                        replace hS := hS.mineF hE58 (fun i hi => .inr (by have := hm103 i hi; omega))
                        have hN7 := hO107.sl (M := Non) (fun _ _ h => h)
                        refine wl_nil ⟨fun _ => hS, ?_⟩
                        refine wx_take 15 [] _ _ rfl (by kernel_rfl) hS (yd_do fun A hA => rn_assign (by conv => lhs; whnf)) ?_
                        refine wx_done (by kernel_rfl) ?_ _
                        replace hX := hX.tr hS
                        replace hS6 := hS6.ext hS (fun _ h => h)
                        replace hS7 := hS7.ext hS (fun _ h => h)
                        replace hN6 := hN6.ext hS (fun _ h => h)
                        refine W_region ?_
                        refine wl_val (rn_move (by conv => lhs; whnf)) ?_
                        refine wl_val (rn_add rfl rfl (by omega)) ?_
                        refine wl_val (rn_assign (by conv => lhs; whnf)) ?_
                        refine wl_nil ?_
                        exact ⟨rfl, (i + 1, D.take j ++ (x, s) :: D.drop j, _, _, _, _), ⟨rfl, rfl, rfl, rfl, rfl, trivial⟩, ⟨hX, ⟨hlt, hlt2, hD1.symm, hN6, hN7⟩⟩, by show ks.length - (i + 1) < ks.length - i; omega⟩
                    · refine s1_do ?_
                      refine wl_lit1 (r := eU1 (x, s)) sl_23 rfl rfl rfl rfl (by decide) ?_; intro v102 w59 b102 hb102 hE59 hO102
                      have hm102 : n1 ≤ b102 := by have := hS.size; omega
                      try have hd2 : b93 < b102 := Nat.lt_of_lt_of_le hO93.box.lt hb102
                      try have hd3 : ∀ i, o97 = some i → i < b102 := fun i hi => Nat.lt_of_lt_of_le (hO97.lt hi) hb102
                      replace hS := hS.tr hE59
                      refine wl_nil ⟨fun _ => hS, ?_⟩
                      refine wx_only 0 _ rfl (by kernel_rfl) ?_
                      refine s1_do ?_
                      refine wl_lit sl_23 (rows := []) rfl (by decide) (by decide) rfl rfl (by simp) (by simp) rfl ?_; intro v93 w60 b93 hb93 hE60 hO93
                      have hm93 : n1 ≤ b93 := by have := hS.size; omega
                      try have hd1 : b102 < b93 := Nat.lt_of_lt_of_le hO102.box.lt hb93
                      replace hS := hS.tr hE60
                      replace hO102 := hO102.ext hE60 id
                      refine wl_nil ⟨fun _ => hS, ?_⟩
                      refine wx_only 4 _ rfl (by kernel_rfl) ?_
                      refine s1_do ?_
                      have hsz97 := hS.size
                      refine wl_app sl_23 rfl rfl rfl (show OwO _ _ (some b93) 1 [] from .inr ⟨b93, [], rfl, hO93⟩) ((hS7.ext hS (fun _ h => h)).cut0 (h := j) (m := c7) (by omega) (by omega) (by omega)) (fun r hr => eU_one D r (List.mem_of_mem_take hr)) (by simp only [List.length_map, List.length_append, List.length_take, List.length_drop, List.length_cons, List.length_nil]; omega) (by simp only [List.length_map, List.length_append, List.length_take, List.length_drop, List.length_cons, List.length_nil, big]; omega) ?_; intro v97 w61 o97 hE61 hO97 hf97
                      obtain ⟨a97, c97, hv97⟩ := id hO97.len; subst hv97
                      try have hdq : ∀ i, o97 = some i → i ≠ b102 := fun i hi e => by rcases hf97 i hi with h | h; cases h; omega; have := hO102.box.lt; omega
                      try replace hO102 := hO102.ext hE61 (fun e => by cases e; omega)
                      replace hS := hS.mineF hE61 (fun i hi => .inr (by cases hi; omega))
                      have hm97 : ∀ i, o97 = some i → n1 ≤ i := fun i hi => by rcases hf97 i hi with h | h; cases h; omega; omega
                      refine wl_nil ⟨fun _ => hS, ?_⟩
                      refine wx_only 10 _ rfl (by kernel_rfl) ?_
                      refine s1_do ?_
                      have hsz103 := hS.size
                      refine wl_app sl_23 rfl rfl rfl hO97 (hO102.sl (M := Non) id) (fun r hr => by simp only [List.mem_singleton] at hr; subst hr; exact one1 rfl) (by simp only [List.length_map, List.length_append, List.length_take, List.length_drop, List.length_cons, List.length_nil]; omega) (by simp only [List.length_map, List.length_append, List.length_take, List.length_drop, List.length_cons, List.length_nil, big]; omega) ?_; intro v103 w62 o103 hE62 hO103 hf103
                      obtain ⟨a103, c103, hv103⟩ := id hO103.len; subst hv103
                      replace hS := hS.mineF hE62 (fun i hi => .inr (by have := hm97 i hi; omega))
                      have hm103 : ∀ i, o103 = some i → n1 ≤ i := fun i hi => by rcases hf103 i hi with h | h; exact hm97 i h; omega
                      refine wl_nil ⟨fun _ => hS, ?_⟩
                      refine wx_only 14 _ rfl (by kernel_rfl) ?_
                      refine s1_do ?_
                      refine wl_app sl_23 rfl rfl rfl hO103 ((hS7.ext hS (fun _ h => h)).cut (l := j) (h := D.length) (m := c7) (by omega) (by omega) (by omega) (by omega)) (fun r hr => eU_one D r (List.mem_of_mem_drop (List.mem_of_mem_take hr))) (by simp only [List.length_map, List.length_append, List.length_take, List.length_drop, List.length_cons, List.length_nil]; omega) (by simp only [List.length_map, List.length_append, List.length_take, List.length_drop, List.length_cons, List.length_nil, big]; omega) ?_; intro v107 w63 o107 hE63 hO107 hf107
                      rw [ins_map] at hO107
                      obtain ⟨a107, c107, hv107⟩ := id hO107.len; rw [List.length_map] at hv107; subst hv107
                      replace hS := hS.mineF hE63 (fun i hi => .inr (by have := hm103 i hi; omega))
                      have hN7 := hO107.sl (M := Non) (fun _ _ h => h)
                      refine wl_nil ⟨fun _ => hS, ?_⟩
                      refine wx_take 15 [] _ _ rfl (by kernel_rfl) hS (yd_do fun A hA => rn_assign (by conv => lhs; whnf)) ?_
                      refine wx_done (by kernel_rfl) ?_ _
                      replace hX := hX.tr hS
                      replace hS6 := hS6.ext hS (fun _ h => h)
                      replace hS7 := hS7.ext hS (fun _ h => h)
                      replace hN6 := hN6.ext hS (fun _ h => h)
                      refine W_region ?_
                      refine wl_val (rn_move (by conv => lhs; whnf)) ?_
                      refine wl_val (rn_add rfl rfl (by omega)) ?_
                      refine wl_val (rn_assign (by conv => lhs; whnf)) ?_
                      refine wl_nil ?_
                      exact ⟨rfl, (i + 1, D.take j ++ (x, s) :: D.drop j, _, _, _, _), ⟨rfl, rfl, rfl, rfl, rfl, trivial⟩, ⟨hX, ⟨hlt, hlt2, hD1.symm, hN6, hN7⟩⟩, by show ks.length - (i + 1) < ks.length - i; omega⟩
              · have hz1 : ¬ z.1 = x := of_decide_eq_false hg67
                have hna : isAt ltT D (x, s) = false := by unfold isAt; rw [hlb]; exact decide_eq_false (by rw [hzj]; intro e; exact hz1 (by rw [Option.some.inj e]))
                have hD1 : docOf ((ks.zip ys).take (i + 1)) = D.take j ++ (x, s) :: D.drop j := by rw [htk, docOf_snoc, if_neg hxe, ← hD]; unfold putK; rw [if_neg (by rw [hna]; simp), hlb]
                refine wd_take 16 _ _ rfl (by kernel_rfl) hS (yd_no rfl (congrArg Value.bool hg67)) ?_
                refine wd_take 17 _ _ rfl (by kernel_rfl) hS (yd_no rfl (congrArg Value.bool hg67)) ?_
                refine wd_take 18 _ _ rfl (by kernel_rfl) hS (yd_no rfl (congrArg Value.bool hg67)) ?_
                refine wd_take 19 _ _ rfl (by kernel_rfl) hS (yd_no rfl (congrArg Value.bool hg67)) ?_
                refine wd_take 20 _ _ rfl (by kernel_rfl) hS (yd_no rfl (congrArg Value.bool hg67)) ?_
                refine wd_take 21 _ _ rfl (by kernel_rfl) hS (yd_no rfl (congrArg Value.bool hg67)) ?_
                refine wd_take 22 _ _ rfl (by kernel_rfl) hS (yd_no rfl (congrArg Value.bool hg67)) ?_
                refine wd_take 23 _ _ rfl (by kernel_rfl) hS (yd_no rfl (congrArg Value.bool hg67)) ?_
                refine wd_take 24 _ _ rfl (by kernel_rfl) hS (yd_no rfl (congrArg Value.bool hg67)) ?_
                refine wd_take 25 _ _ rfl (by kernel_rfl) hS (yd_do fun A hA => rn_pickF (congrArg Value.bool hg67) (by conv => lhs; whnf)) ?_
                refine wd_done (by kernel_rfl) ?_ _
                replace hX := hX.tr hS
                replace hS6 := hS6.ext hS (fun _ h => h)
                replace hS7 := hS7.ext hS (fun _ h => h)
                refine W_condF rfl ?_
                refine W_skip ?_
                refine W_seq ?_
                refine W_drawX (fun j => false) mixed ?_; intro w64 hE64
                replace hX := hX.tr hE64
                replace hS6 := hS6.ext hE64 (fun _ h => h)
                replace hS7 := hS7.ext hE64 (fun _ h => h)
                have hS := Ext.refl Non w64
                obtain ⟨n1, hn1⟩ : ∃ n, n = (World.heap w64).size := ⟨_, rfl⟩
                refine wx_take 1 [3, 4, 10, 14, 15] _ _ rfl (by kernel_rfl) hS (yd_do fun A hA => rn_move (by conv => lhs; whnf)) ?_
                refine wx_take 2 [3, 4, 10, 14, 15] _ _ rfl (by kernel_rfl) hS (yd_do fun A hA => rn_move (by conv => lhs; whnf)) ?_
                refine wx_take 3 [4, 10, 14, 15] _ _ rfl (by kernel_rfl) hS (yd_do fun A hA => rn_slice0 sl_22 (h := j) (m := c6) rfl rfl ⟨_, rfl⟩ rfl (by simp) (by omega) (by omega)) ?_
                refine wx_take 5 [7, 8, 9, 10, 14, 15] _ _ rfl (by kernel_rfl) hS (yd_do fun A hA => rn_move (by conv => lhs; whnf)) ?_
                refine wx_take 6 [7, 8, 9, 10, 14, 15] _ _ rfl (by kernel_rfl) hS (yd_do fun A hA => rn_move (by conv => lhs; whnf)) ?_
                refine wx_take 7 [8, 9, 10, 14, 15] _ _ rfl (by kernel_rfl) hS (yd_do fun A hA => rn_indexAddr sl_22 rfl rfl (by omega)) ?_
                refine wx_take 8 [9, 10, 14, 15] _ _ rfl (by kernel_rfl) hS (yd_do fun A hA => rn_load p_9 rfl (((hk.ext hX (fun _ h => h)).ext hA (fun _ h => h.elim)).at0 (eS_at hi) rfl)) ?_
                refine wx_take 11 [13, 14, 15] _ _ rfl (by kernel_rfl) hS (yd_do fun A hA => rn_move (by conv => lhs; whnf)) ?_
                refine wx_take 12 [13, 14, 15] _ _ rfl (by kernel_rfl) hS (yd_do fun A hA => rn_move (by conv => lhs; whnf)) ?_
                refine wx_take 13 [14, 15] _ _ rfl (by kernel_rfl) hS (yd_do fun A hA => rn_slice sl_22 (l := j) (h := D.length) (m := c6) rfl ⟨_, rfl⟩ rfl rfl (by simp) (by omega) (by omega) (by omega)) ?_
                refine wx_two 0 9 _ _ rfl rfl (by kernel_rfl) ?_ ?_
                · refine s1_do ?_
                  refine wl_lit sl_22 (rows := []) rfl (by decide) (by decide) rfl rfl (by simp) (by simp) rfl ?_; intro v78 w65 b78 hb78 hE65 hO78
                  have hm78 : n1 ≤ b78 := by have := hS.size; omega
                  try have hd1 : b87 < b78 := Nat.lt_of_lt_of_le hO87.box.lt hb78
                  replace hS := hS.tr hE65
                  refine wl_nil ⟨fun _ => hS, ?_⟩
                  refine wx_two 4 9 _ _ rfl rfl (by kernel_rfl) ?_ ?_
                  · refine s1_do ?_
                    have hsz82 := hS.size
                    refine wl_app sl_22 rfl rfl rfl (show OwO _ _ (some b78) 1 [] from .inr ⟨b78, [], rfl, hO78⟩) ((hS6.ext hS (fun _ h => h)).cut0 (h := j) (m := c6) (by omega) (by omega) (by omega)) (fun r hr => eT_one D r (List.mem_of_mem_take hr)) (by simp only [List.length_map, List.length_append, List.length_take, List.length_drop, List.length_cons, List.length_nil]; omega) (by simp only [List.length_map, List.length_append, List.length_take, List.length_drop, List.length_cons, List.length_nil, big]; omega) ?_; intro v82 w66 o82 hE66 hO82 hf82
                    obtain ⟨a82, c82, hv82⟩ := id hO82.len; subst hv82
                    try have hdq : ∀ i, o82 = some i → i ≠ b87 := fun i hi e => by rcases hf82 i hi with h | h; cases h; omega; have := hO87.box.lt; omega
                    try replace hO87 := hO87.ext hE66 (fun e => by cases e; omega)
                    replace hS := hS.mineF hE66 (fun i hi => .inr (by cases hi; omega))
                    have hm82 : ∀ i, o82 = some i → n1 ≤ i := fun i hi => by rcases hf82 i hi with h | h; cases h; omega; omega
                    refine wl_nil ⟨fun _ => hS, ?_⟩
                    refine wx_only 9 _ rfl (by kernel_rfl) ?_
                    refine s1_do ?_
                    refine wl_lit1 (r := eT1 (x, s)) sl_22 rfl rfl rfl rfl (by decide) ?_; intro v87 w67 b87 hb87 hE67 hO87
                    have hm87 : n1 ≤ b87 := by have := hS.size; omega
                    try have hd2 : b78 < b87 := Nat.lt_of_lt_of_le hO78.box.lt hb87
                    try have hd3 : ∀ i, o82 = some i → i < b87 := fun i hi => Nat.lt_of_lt_of_le (hO82.lt hi) hb87
                    replace hS := hS.tr hE67
                    replace hO82 := hO82.ext hE67 (fun _ _ h => h)
                    refine wl_nil ⟨fun _ => hS, ?_⟩
                    refine wx_only 10 _ rfl (by kernel_rfl) ?_
                    refine s1_do ?_
                    have hsz88 := hS.size
                    refine wl_app sl_22 rfl rfl rfl hO82 (hO87.sl (M := Non) id) (fun r hr => by simp only [List.mem_singleton] at hr; subst hr; exact one1 rfl) (by simp only [List.length_map, List.length_append, List.length_take, List.length_drop, List.length_cons, List.length_nil]; omega) (by simp only [List.length_map, List.length_append, List.length_take, List.length_drop, List.length_cons, List.length_nil, big]; omega) ?_; intro v88 w68 o88 hE68 hO88 hf88
                    obtain ⟨a88, c88, hv88⟩ := id hO88.len; subst hv88
                    replace hS := hS.mineF hE68 (fun i hi => .inr (by have := hm82 i hi; omega))
                    have hm88 : ∀ i, o88 = some i → n1 ≤ i := fun i hi => by rcases hf88 i hi with h | h; exact hm82 i h; omega
                    refine wl_nil ⟨fun _ => hS, ?_⟩
                    refine wx_only 14 _ rfl (by kernel_rfl) ?_
                    refine s1_do ?_
                    refine wl_app sl_22 rfl rfl rfl hO88 ((hS6.ext hS (fun _ h => h)).cut (l := j) (h := D.length) (m := c6) (by omega) (by omega) (by omega) (by omega)) (fun r hr => eT_one D r (List.mem_of_mem_drop (List.mem_of_mem_take hr))) (by simp only [List.length_map, List.length_append, List.length_take, List.length_drop, List.length_cons, List.length_nil]; omega) (by simp only [List.length_map, List.length_append, List.length_take, List.length_drop, List.length_cons, List.length_nil, big]; omega) ?_; intro v92 w69 o92 hE69 hO92 hf92
                    rw [ins_map] at hO92
                    obtain ⟨a92, c92, hv92⟩ := id hO92.len; rw [List.length_map] at hv92; subst hv92
                    replace hS := hS.mineF hE69 (fun i hi => .inr (by have := hm88 i hi; omega))
                    have hN6 := hO92.sl (M := Non) (fun _ _ h => h)
                    refine wl_nil ⟨fun _ => hS, ?_⟩
                    refine wx_take 15 [] _ _ rfl (by kernel_rfl) hS (yd_do fun A hA => rn_assign (by conv => lhs; whnf)) ?_
                    refine wx_done (by kernel_rfl) ?_ _
                    replace hX := hX.tr hS
                    replace hS6 := hS6.ext hS (fun _ h => h)
                    replace hS7 := hS7.ext hS (fun _ h => h)
                    refine W_drawX (fun j => false) mixed ?_; intro w70 hE70
                    replace hX := hX.tr hE70
                    replace hS6 := hS6.ext hE70 (fun _ h => h)
                    replace hS7 := hS7.ext hE70 (fun _ h => h)
                    replace hN6 := hN6.ext hE70 (fun _ h => h)
                    have hS := Ext.refl Non w70
                    obtain ⟨n1, hn1⟩ : ∃ n, n = (World.heap w70).size := ⟨_, rfl⟩
                    refine wx_take 1 [3, 4, 10, 14, 15] _ _ rfl (by kernel_rfl) hS (yd_do fun A hA => rn_move (by conv => lhs; whnf)) ?_
                    refine wx_take 2 [3, 4, 10, 14, 15] _ _ rfl (by kernel_rfl) hS (yd_do fun A hA => rn_move (by conv => lhs; whnf)) ?_
                    refine wx_take 3 [4, 10, 14, 15] _ _ rfl (by kernel_rfl) hS (yd_do fun A hA => rn_slice0 sl_23 (h := j) (m := c7) rfl rfl ⟨_, rfl⟩ rfl (by simp) (by omega) (by omega)) ?_
                    refine wx_take 5 [7, 8, 9, 10, 14, 15] _ _ rfl (by kernel_rfl) hS (yd_do fun A hA => rn_move (by conv => lhs; whnf)) ?_
                    refine wx_take 6 [7, 8, 9, 10, 14, 15] _ _ rfl (by kernel_rfl) hS (yd_do fun A hA => rn_move (by conv => lhs; whnf)) ?_
                    refine wx_take 7 [8, 9, 10, 14, 15] _ _ rfl (by kernel_rfl) hS (yd_do fun A hA => rn_indexAddr sl_23 rfl rfl (by omega)) ?_
                    refine wx_take 8 [9, 10, 14, 15] _ _ rfl (by kernel_rfl) hS (yd_do fun A hA => rn_load p_3 rfl (((hv.ext hX (fun _ h => h)).ext hA (fun _ h => h.elim)).at0 (eI_at hj) rfl)) ?_
                    refine wx_take 11 [13, 14, 15] _ _ rfl (by kernel_rfl) hS (yd_do fun A hA => rn_move (by conv => lhs; whnf)) ?_
                    refine wx_take 12 [13, 14, 15] _ _ rfl (by kernel_rfl) hS (yd_do fun A hA => rn_move (by conv => lhs; whnf)) ?_
                    refine wx_take 13 [14, 15] _ _ rfl (by kernel_rfl) hS (yd_do fun A hA => rn_slice sl_23 (l := j) (h := D.length) (m := c7) rfl ⟨_, rfl⟩ rfl rfl (by simp) (by omega) (by omega) (by omega)) ?_
                    refine wx_two 0 9 _ _ rfl rfl (by kernel_rfl) ?_ ?_
                    · refine s1_do ?_
                      refine wl_lit sl_23 (rows := []) rfl (by decide) (by decide) rfl rfl (by simp) (by simp) rfl ?_; intro v93 w71 b93 hb93 hE71 hO93
                      have hm93 : n1 ≤ b93 := by have := hS.size; omega
                      try have hd1 : b102 < b93 := Nat.lt_of_lt_of_le hO102.box.lt hb93
                      replace hS := hS.tr hE71
                      refine wl_nil ⟨fun _ => hS, ?_⟩
                      refine wx_two 4 9 _ _ rfl rfl (by kernel_rfl) ?_ ?_
                      · refine s1_do ?_
                        have hsz97 := hS.size
                        refine wl_app sl_23 rfl rfl rfl (show OwO _ _ (some b93) 1 [] from .inr ⟨b93, [], rfl, hO93⟩) ((hS7.ext hS (fun _ h => h)).cut0 (h := j) (m := c7) (by omega) (by omega) (by omega)) (fun r hr => eU_one D r (List.mem_of_mem_take hr)) (by simp only [List.length_map, List.length_append, List.length_take, List.length_drop, List.length_cons, List.length_nil]; omega) (by simp only [List.length_map, List.length_append, List.length_take, List.length_drop, List.length_cons, List.length_nil, big]; omega) ?_; intro v97 w72 o97 hE72 hO97 hf97
                        obtain ⟨a97, c97, hv97⟩ := id hO97.len; subst hv97
                        try have hdq : ∀ i, o97 = some i → i ≠ b102 := fun i hi e => by rcases hf97 i hi with h | h; cases h; omega; have := hO102.box.lt; omega
                        try replace hO102 := hO102.ext hE72 (fun e => by cases e; omega)
                        replace hS := hS.mineF hE72 (fun i hi => .inr (by cases hi; omega))
                        have hm97 : ∀ i, o97 = some i → n1 ≤ i := fun i hi => by rcases hf97 i hi with h | h; cases h; omega; omega
                        refine wl_nil ⟨fun _ => hS, ?_⟩
                        refine wx_only 9 _ rfl (by kernel_rfl) ?_
                        refine s1_do ?_
                        refine wl_lit1 (r := eU1 (x, s)) sl_23 rfl rfl rfl rfl (by decide) ?_; intro v102 w73 b102 hb102 hE73 hO102
                        have hm102 : n1 ≤ b102 := by have := hS.size; omega
                        try have hd2 : b93 < b102 := Nat.lt_of_lt_of_le hO93.box.lt hb102
                        try have hd3 : ∀ i, o97 = some i → i < b102 := fun i hi => Nat.lt_of_lt_of_le (hO97.lt hi) hb102
                        replace hS := hS.tr hE73
                        replace hO97 := hO97.ext hE73 (fun _ _ h => h)
                        refine wl_nil ⟨fun _ => hS, ?_⟩
                        refine wx_only 10 _ rfl (by kernel_rfl) ?_
                        refine s1_do ?_
                        have hsz103 := hS.size
                        refine wl_app sl_23 rfl rfl rfl hO97 (hO102.sl (M := Non) id) (fun r hr => by simp only [List.mem_singleton] at hr; subst hr; exact one1 rfl) (by simp only [List.length_map, List.length_append, List.length_take, List.length_drop, List.length_cons, List.length_nil]; omega) (by simp only [List.length_map, List.length_append, List.length_take, List.length_drop, List.length_cons, List.length_nil, big]; omega) ?_; intro v103 w74 o103 hE74 hO103 hf103
                        obtain ⟨a103, c103, hv103⟩ := id hO103.len; subst hv103
                        replace hS := hS.mineF hE74 (fun i hi => .inr (by have := hm97 i hi; omega))
                        have hm103 : ∀ i, o103 = some i → n1 ≤ i := fun i hi => by rcases hf103 i hi with h | h; exact hm97 i h; omega
                        refine wl_nil ⟨fun _ => hS, ?_⟩
                        refine wx_only 14 _ rfl (by kernel_rfl) ?_
                        refine s1_do ?_
                        refine wl_app sl_23 rfl rfl rfl hO103 ((hS7.ext hS (fun _ h => h)).cut (l := j) (h := D.length) (m := c7) (by omega) (by omega) (by omega) (by omega)) (fun r hr => eU_one D r (List.mem_of_mem_drop (List.mem_of_mem_take hr))) (by simp only [List.length_map, List.length_append, List.length_take, List.length_drop, List.length_cons, List.length_nil]; omega) (by simp only [List.length_map, List.length_append, List.length_take, List.length_drop, List.length_cons, List.length_nil, big]; omega) ?_; intro v107 w75 o107 hE75 hO107 hf107
                        rw [ins_map] at hO107
                        obtain ⟨a107, c107, hv107⟩ := id hO107.len; rw [List.length_map] at hv107; subst hv107
                        replace hS := hS.mineF hE75 (fun i hi => .inr (by have := hm103 i hi; omega))
                        have hN7 := hO107.sl (M := Non) (fun _ _ h => h)
                        refine wl_nil ⟨fun _ => hS, ?_⟩
                        refine wx_take 15 [] _ _ rfl (by kernel_rfl) hS (yd_do fun A hA => rn_assign (by conv => lhs; whnf)) ?_
                        refine wx_done (by kernel_rfl) ?_ _
                        replace hX := hX.tr hS
                        replace hS6 := hS6.ext hS (fun _ h => h)
                        replace hS7 := hS7.ext hS (fun _ h => h)
                        replace hN6 := hN6.ext hS (fun _ h => h)
                        refine W_region ?_
                        refine wl_val (rn_move (by conv => lhs; whnf)) ?_
                        refine wl_val (rn_add rfl rfl (by omega)) ?_
                        refine wl_val (rn_assign (by conv => lhs; whnf)) ?_
                        refine wl_nil ?_
                        exact ⟨rfl, (i + 1, D.take j ++ (x, s) :: D.drop j, _, _, _, _), ⟨rfl, rfl, rfl, rfl, rfl, trivial⟩, ⟨hX, ⟨hlt, hlt2, hD1.symm, hN6, hN7⟩⟩, by show ks.length - (i + 1) < ks.length - i; omega⟩
                      · refine s1_do ?_
                        refine wl_lit1 (r := eU1 (x, s)) sl_23 rfl rfl rfl rfl (by decide) ?_; intro v102 w76 b102 hb102 hE76 hO102
                        have hm102 : n1 ≤ b102 := by have := hS.size; omega
                        try have hd2 : b93 < b102 := Nat.lt_of_lt_of_le hO93.box.lt hb102
                        try have hd3 : ∀ i, o97 = some i → i < b102 := fun i hi => Nat.lt_of_lt_of_le (hO97.lt hi) hb102
                        replace hS := hS.tr hE76
                        replace hO93 := hO93.ext hE76 id
                        refine wl_nil ⟨fun _ => hS, ?_⟩
                        refine wx_only 4 _ rfl (by kernel_rfl) ?_
                        refine s1_do ?_
                        have hsz97 := hS.size
                        refine wl_app sl_23 rfl rfl rfl (show OwO _ _ (some b93) 1 [] from .inr ⟨b93, [], rfl, hO93⟩) ((hS7.ext hS (fun _ h => h)).cut0 (h := j) (m := c7) (by omega) (by omega) (by omega)) (fun r hr => eU_one D r (List.mem_of_mem_take hr)) (by simp only [List.length_map, List.length_append, List.length_take, List.length_drop, List.length_cons, List.length_nil]; omega) (by simp only [List.length_map, List.length_append, List.length_take, List.length_drop, List.length_cons, List.length_nil, big]; omega) ?_; intro v97 w77 o97 hE77 hO97 hf97
                        obtain ⟨a97, c97, hv97⟩ := id hO97.len; subst hv97
                        try have hdq : ∀ i, o97 = some i → i ≠ b102 := fun i hi e => by rcases hf97 i hi with h | h; cases h; omega; have := hO102.box.lt; omega
                        try replace hO102 := hO102.ext hE77 (fun e => by cases e; omega)
                        replace hS := hS.mineF hE77 (fun i hi => .inr (by cases hi; omega))
                        have hm97 : ∀ i, o97 = some i → n1 ≤ i := fun i hi => by rcases hf97 i hi with h | h; cases h; omega; omega
                        refine wl_nil ⟨fun _ => hS, ?_⟩
                        refine wx_only 10 _ rfl (by kernel_rfl) ?_
                        refine s1_do ?_
                        have hsz103 := hS.size
                        refine wl_app sl_23 rfl rfl rfl hO97 (hO102.sl (M := Non) id) (fun r hr => by simp only [List.mem_singleton] at hr; subst hr; exact one1 rfl) (by simp only [List.length_map, List.length_append, List.length_take, List.length_drop, List.length_cons, List.length_nil]; omega) (by simp only [List.length_map, List.length_append, List.length_take, List.length_drop, List.length_cons, List.length_nil, big]; omega) ?_; intro v103 w78 o103 hE78 hO103 hf103
                        obtain ⟨a103, c103, hv103⟩ := id hO103.len; subst hv103
                        replace hS := hS.mineF hE78 (fun i hi => .inr (by have := hm97 i hi; omega))
                        have hm103 : ∀ i, o103 = some i → n1 ≤ i := fun i hi => by rcases hf103 i hi with h | h; exact hm97 i h; omega
                        refine wl_nil ⟨fun _ => hS, ?_⟩
                        refine wx_only 14 _ rfl (by kernel_rfl) ?_
                        refine s1_do ?_
                        refine wl_app sl_23 rfl rfl rfl hO103 ((hS7.ext hS (fun _ h => h)).cut (l := j) (h := D.length) (m := c7) (by omega) (by omega) (by omega) (by omega)) (fun r hr => eU_one D r (List.mem_of_mem_drop (List.mem_of_mem_take hr))) (by simp only [List.length_map, List.length_append, List.length_take, List.length_drop, List.length_cons, List.length_nil]; omega) (by simp only [List.length_map, List.length_append, List.length_take, List.length_drop, List.length_cons, List.length_nil, big]; omega) ?_; intro v107 w79 o107 hE79 hO107 hf107
                        rw [ins_map] at hO107
                        obtain ⟨a107, c107, hv107⟩ := id hO107.len; rw [List.length_map] at hv107; subst hv107
                        replace hS := hS.mineF hE79 (fun i hi => .inr (by have := hm103 i hi; omega))
                        have hN7 := hO107.sl (M := Non) (fun _ _ h => h)
                        refine wl_nil ⟨fun _ => hS, ?_⟩
                        refine wx_take 15 [] _ _ rfl (by kernel_rfl) hS (yd_do fun A hA => rn_assign (by conv => lhs; whnf)) ?_
                        refine wx_done (by kernel_rfl) ?_ _
                        replace hX := hX.tr hS
                        replace hS6 := hS6.ext hS (fun _ h => h)
                        replace hS7 := hS7.ext hS (fun _ h => h)
                        replace hN6 := hN6.ext hS (fun _ h => h)
                        refine W_region ?_
                        refine wl_val (rn_move (by conv => lhs; whnf)) ?_
                        refine wl_val (rn_add rfl rfl (by omega)) ?_
                        refine wl_val (rn_assign (by conv => lhs; whnf)) ?_
                        refine wl_nil ?_
                        exact ⟨rfl, (i + 1, D.take j ++ (x, s) :: D.drop j, _, _, _, _), ⟨rfl, rfl, rfl, rfl, rfl, trivial⟩, ⟨hX, ⟨hlt, hlt2, hD1.symm, hN6, hN7⟩⟩, by show ks.length - (i + 1) < ks.length - i; omega⟩
                    · refine s1_do ?_
                      refine wl_lit1 (r := eU1 (x, s)) sl_23 rfl rfl rfl rfl (by decide) ?_; intro v102 w80 b102 hb102 hE80 hO102
                      have hm102 : n1 ≤ b102 := by have := hS.size; omega
                      try have hd2 : b93 < b102 := Nat.lt_of_lt_of_le hO93.box.lt hb102
                      try have hd3 : ∀ i, o97 = some i → i < b102 := fun i hi => Nat.lt_of_lt_of_le (hO97.lt hi) hb102
                      replace hS := hS.tr hE80
                      refine wl_nil ⟨fun _ => hS, ?_⟩
                      refine wx_only 0 _ rfl (by kernel_rfl) ?_
                      refine s1_do ?_
                      refine wl_lit sl_23 (rows := []) rfl (by decide) (by decide) rfl rfl (by simp) (by simp) rfl ?_; intro v93 w81 b93 hb93 hE81 hO93
                      have hm93 : n1 ≤ b93 := by have := hS.size; omega
                      try have hd1 : b102 < b93 := Nat.lt_of_lt_of_le hO102.box.lt hb93
                      replace hS := hS.tr hE81
                      replace hO102 := hO102.ext hE81 id
                      refine wl_nil ⟨fun _ => hS, ?_⟩
                      refine wx_only 4 _ rfl (by kernel_rfl) ?_
                      refine s1_do ?_
                      have hsz97 := hS.size
                      refine wl_app sl_23 rfl rfl rfl (show OwO _ _ (some b93) 1 [] from .inr ⟨b93, [], rfl, hO93⟩) ((hS7.ext hS (fun _ h => h)).cut0 (h := j) (m := c7) (by omega) (by omega) (by omega)) (fun r hr => eU_one D r (List.mem_of_mem_take hr)) (by simp only [List.length_map, List.length_append, List.length_take, List.length_drop, List.length_cons, List.length_nil]; omega) (by simp only [List.length_map, List.length_append, List.length_take, List.length_drop, List.length_cons, List.length_nil, big]; omega) ?_; intro v97 w82 o97 hE82 hO97 hf97
                      obtain ⟨a97, c97, hv97⟩ := id hO97.len; subst hv97
                      try have hdq : ∀ i, o97 = some i → i ≠ b102 := fun i hi e => by rcases hf97 i hi with h | h; cases h; omega; have := hO102.box.lt; omega
                      try replace hO102 := hO102.ext hE82 (fun e => by cases e; omega)
                      replace hS := hS.mineF hE82 (fun i hi => .inr (by cases hi; omega))
                      have hm97 : ∀ i, o97 = some i → n1 ≤ i := fun i hi => by rcases hf97 i hi with h | h; cases h; omega; omega
                      refine wl_nil ⟨fun _ => hS, ?_⟩
                      refine wx_only 10 _ rfl (by kernel_rfl) ?_
                      refine s1_do ?_
                      have hsz103 := hS.size
                      refine wl_app sl_23 rfl rfl rfl hO97 (hO102.sl (M := Non) id) (fun r hr => by simp only [List.mem_singleton] at hr; subst hr; exact one1 rfl) (by simp only [List.length_map, List.length_append, List.length_take, List.length_drop, List.length_cons, List.length_nil]; omega) (by simp only [List.length_map, List.length_append, List.length_take, List.length_drop, List.length_cons, List.length_nil, big]; omega) ?_; intro v103 w83 o103 hE83 hO103 hf103
                      obtain ⟨a103, c103, hv103⟩ := id hO103.len; subst hv103
                      replace hS := hS.mineF hE83 (fun i hi => .inr (by have := hm97 i hi; omega))
                      have hm103 : ∀ i, o103 = some i → n1 ≤ i := fun i hi => by rcases hf103 i hi with h | h; exact hm97 i h; omega
                      refine wl_nil ⟨fun _ => hS, ?_⟩
                      refine wx_only 14 _ rfl (by kernel_rfl) ?_
                      refine s1_do ?_
                      refine wl_app sl_23 rfl rfl rfl hO103 ((hS7.ext hS (fun _ h => h)).cut (l := j) (h := D.length) (m := c7) (by omega) (by omega) (by omega) (by omega)) (fun r hr => eU_one D r (List.mem_of_mem_drop (List.mem_of_mem_take hr))) (by simp only [List.length_map, List.length_append, List.length_take, List.length_drop, List.length_cons, List.length_nil]; omega) (by simp only [List.length_map, List.length_append, List.length_take, List.length_drop, List.length_cons, List.length_nil, big]; omega) ?_; intro v107 w84 o107 hE84 hO107 hf107
                      rw [ins_map] at hO107
                      obtain ⟨a107, c107, hv107⟩ := id hO107.len; rw [List.length_map] at hv107; subst hv107
                      replace hS := hS.mineF hE84 (fun i hi => .inr (by have := hm103 i hi; omega))
                      have hN7 := hO107.sl (M := Non) (fun _ _ h => h)
                      refine wl_nil ⟨fun _ => hS, ?_⟩
                      refine wx_take 15 [] _ _ rfl (by kernel_rfl) hS (yd_do fun A hA => rn_assign (by conv => lhs; whnf)) ?_
                      refine wx_done (by kernel_rfl) ?_ _
                      replace hX := hX.tr hS
                      replace hS6 := hS6.ext hS (fun _ h => h)
                      replace hS7 := hS7.ext hS (fun _ h => h)
                      replace hN6 := hN6.ext hS (fun _ h => h)
                      refine W_region ?_
                      refine wl_val (rn_move (by conv => lhs; whnf)) ?_
                      refine wl_val (rn_add rfl rfl (by omega)) ?_
                      refine wl_val (rn_assign (by conv => lhs; whnf)) ?_
                      refine wl_nil ?_
                      exact ⟨rfl, (i + 1, D.take j ++ (x, s) :: D.drop j, _, _, _, _), ⟨rfl, rfl, rfl, rfl, rfl, trivial⟩, ⟨hX, ⟨hlt, hlt2, hD1.symm, hN6, hN7⟩⟩, by show ks.length - (i + 1) < ks.length - i; omega⟩
                  · refine s1_do ?_
                    refine wl_lit1 (r := eT1 (x, s)) sl_22 rfl rfl rfl rfl (by decide) ?_; intro v87 w85 b87 hb87 hE85 hO87
                    have hm87 : n1 ≤ b87 := by have := hS.size; omega
                    try have hd2 : b78 < b87 := Nat.lt_of_lt_of_le hO78.box.lt hb87
                    try have hd3 : ∀ i, o82 = some i → i < b87 := fun i hi => Nat.lt_of_lt_of_le (hO82.lt hi) hb87
                    replace hS := hS.tr hE85
                    replace hO78 := hO78.ext hE85 id
                    refine wl_nil ⟨fun _ => hS, ?_⟩
                    refine wx_only 4 _ rfl (by kernel_rfl) ?_
                    refine s1_do ?_
                    have hsz82 := hS.size
                    refine wl_app sl_22 rfl rfl rfl (show OwO _ _ (some b78) 1 [] from .inr ⟨b78, [], rfl, hO78⟩) ((hS6.ext hS (fun _ h => h)).cut0 (h := j) (m := c6) (by omega) (by omega) (by omega)) (fun r hr => eT_one D r (List.mem_of_mem_take hr)) (by simp only [List.length_map, List.length_append, List.length_take, List.length_drop, List.length_cons, List.length_nil]; omega) (by simp only [List.length_map, List.length_append, List.length_take, List.length_drop, List.length_cons, List.length_nil, big]; omega) ?_; intro v82 w86 o82 hE86 hO82 hf82
                    obtain ⟨a82, c82, hv82⟩ := id hO82.len; subst hv82
                    try have hdq : ∀ i, o82 = some i → i ≠ b87 := fun i hi e => by rcases hf82 i hi with h | h; cases h; omega; have := hO87.box.lt; omega
                    try replace hO87 := hO87.ext hE86 (fun e => by cases e; omega)
                    replace hS := hS.mineF hE86 (fun i hi => .inr (by cases hi; omega))
                    have hm82 : ∀ i, o82 = some i → n1 ≤ i := fun i hi => by rcases hf82 i hi with h | h; cases h; omega; omega
                    refine wl_nil ⟨fun _ => hS, ?_⟩
                    refine wx_only 10 _ rfl (by kernel_rfl) ?_
                    refine s1_do ?_
                    have hsz88 := hS.size
                    refine wl_app sl_22 rfl rfl rfl hO82 (hO87.sl (M := Non) id) (fun r hr => by simp only [List.mem_singleton] at hr; subst hr; exact one1 rfl) (by simp only [List.length_map, List.length_append, List.length_take, List.length_drop, List.length_cons, List.length_nil]; omega) (by simp only [List.length_map, List.length_append, List.length_take, List.length_drop, List.length_cons, List.length_nil, big]; omega) ?_; intro v88 w87 o88 hE87 hO88 hf88
                    obtain ⟨a88, c88, hv88⟩ := id hO88.len; subst hv88
                    replace hS := hS.mineF hE87 (fun i hi => .inr (by have := hm82 i hi; omega))
                    have hm88 : ∀ i, o88 = some i → n1 ≤ i := fun i hi => by rcases hf88 i hi with h | h; exact hm82 i h; omega
                    refine wl_nil ⟨fun _ => hS, ?_⟩
                    refine wx_only 14 _ rfl (by kernel_rfl) ?_
                    refine s1_do ?_
                    refine wl_app sl_22 rfl rfl rfl hO88 ((hS6.ext hS (fun _ h => h)).cut (l := j) (h := D.length) (m := c6) (by omega) (by omega) (by omega) (by omega)) (fun r hr => eT_one D r (List.mem_of_mem_drop (List.mem_of_mem_take hr))) (by simp only [List.length_map, List.length_append, List.length_take, List.length_drop, List.length_cons, List.length_nil]; omega) (by simp only [List.length_map, List.length_append, List.length_take, List.length_drop, List.length_cons, List.length_nil, big]; omega) ?_; intro v92 w88 o92 hE88 hO92 hf92
                    rw [ins_map] at hO92
                    obtain ⟨a92, c92, hv92⟩ := id hO92.len; rw [List.length_map] at hv92; subst hv92
                    replace hS := hS.mineF hE88 (fun i hi => .inr (by have := hm88 i hi; omega))
                    have hN6 := hO92.sl (M := Non) (fun _ _ h => h)
                    refine wl_nil ⟨fun _ => hS, ?_⟩
                    refine wx_take 15 [] _ _ rfl (by kernel_rfl) hS (yd_do fun A hA => rn_assign (by conv => lhs; whnf)) ?_
                    refine wx_done (by kernel_rfl) ?_ _
                    replace hX := hX.tr hS
                    replace hS6 := hS6.ext hS (fun _ h => h)
                    replace hS7 := hS7.ext hS (fun _ h => h)
                    refine W_drawX (fun j => false) mixed ?_; intro w89 hE89
                    replace hX := hX.tr hE89
                    replace hS6 := hS6.ext hE89 (fun _ h => h)
                    replace hS7 := hS7.ext hE89 (fun _ h => h)
                    replace hN6 := hN6.ext hE89 (fun _ h => h)
                    have hS := Ext.refl Non w89
                    obtain ⟨n1, hn1⟩ : ∃ n, n = (World.heap w89).size := ⟨_, rfl⟩
                    refine wx_take 1 [3, 4, 10, 14, 15] _ _ rfl (by kernel_rfl) hS (yd_do fun A hA => rn_move (by conv => lhs; whnf)) ?_
                    refine wx_take 2 [3, 4, 10, 14, 15] _ _ rfl (by kernel_rfl) hS (yd_do fun A hA => rn_move (by conv => lhs; whnf)) ?_
                    refine wx_take 3 [4, 10, 14, 15] _ _ rfl (by kernel_rfl) hS (yd_do fun A hA => rn_slice0 sl_23 (h := j) (m := c7) rfl rfl ⟨_, rfl⟩ rfl (by simp) (by omega) (by omega)) ?_
                    refine wx_take 5 [7, 8, 9, 10, 14, 15] _ _ rfl (by kernel_rfl) hS (yd_do fun A hA => rn_move (by conv => lhs; whnf)) ?_
                    refine wx_take 6 [7, 8, 9, 10, 14, 15] _ _ rfl (by kernel_rfl) hS (yd_do fun A hA => rn_move (by conv => lhs; whnf)) ?_
                    refine wx_take 7 [8, 9, 10, 14, 15] _ _ rfl (by kernel_rfl) hS (yd_do fun A hA => rn_indexAddr sl_23 rfl rfl (by omega)) ?_
                    refine wx_take 8 [9, 10, 14, 15] _ _ rfl (by kernel_rfl) hS (yd_do fun A hA => rn_load p_3 rfl (((hv.ext hX (fun _ h => h)).ext hA (fun _ h => h.elim)).at0 (eI_at hj) rfl)) ?_
                    refine wx_take 11 [13, 14, 15] _ _ rfl (by kernel_rfl) hS (yd_do fun A hA => rn_move (by conv => lhs; whnf)) ?_
                    refine wx_take 12 [13, 14, 15] _ _ rfl (by kernel_rfl) hS (yd_do fun A hA => rn_move (by conv => lhs; whnf)) ?_
                    refine wx_take 13 [14, 15] _ _ rfl (by kernel_rfl) hS (yd_do fun A hA => rn_slice sl_23 (l := j) (h := D.length) (m := c7) rfl ⟨_, rfl⟩ rfl rfl (by simp) (by omega) (by omega) (by omega)) ?_
                    refine wx_two 0 9 _ _ rfl rfl (by kernel_rfl) ?_ ?_
                    · refine s1_do ?_
                      refine wl_lit sl_23 (rows := []) rfl (by decide) (by decide) rfl rfl (by simp) (by simp) rfl ?_; intro v93 w90 b93 hb93 hE90 hO93
                      have hm93 : n1 ≤ b93 := by have := hS.size; omega
                      try have hd1 : b102 < b93 := Nat.lt_of_lt_of_le hO102.box.lt hb93
                      replace hS := hS.tr hE90
                      refine wl_nil ⟨fun _ => hS, ?_⟩
                      refine wx_two 4 9 _ _ rfl rfl (by kernel_rfl) ?_ ?_
                      · refine s1_do ?_
                        have hsz97 := hS.size
                        refine wl_app sl_23 rfl rfl rfl (show OwO _ _ (some b93) 1 [] from .inr ⟨b93, [], rfl, hO93⟩) ((hS7.ext hS (fun _ h => h)).cut0 (h := j) (m := c7) (by omega) (by omega) (by omega)) (fun r hr => eU_one D r (List.mem_of_mem_take hr)) (by simp only [List.length_map, List.length_append, List.length_take, List.length_drop, List.length_cons, List.length_nil]; omega) (by simp only [List.length_map, List.length_append, List.length_take, List.length_drop, List.length_cons, List.length_nil, big]; omega) ?_; intro v97 w91 o97 hE91 hO97 hf97
                        obtain ⟨a97, c97, hv97⟩ := id hO97.len; subst hv97
                        try have hdq : ∀ i, o97 = some i → i ≠ b102 := fun i hi e => by rcases hf97 i hi with h | h; cases h; omega; have := hO102.box.lt; omega
                        try replace hO102 := hO102.ext hE91 (fun e => by cases e; omega)
                        replace hS := hS.mineF hE91 (fun i hi => .inr (by cases hi; omega))
                        have hm97 : ∀ i, o97 = some i → n1 ≤ i := fun i hi => by rcases hf97 i hi with h | h; cases h; omega; omega
                        refine wl_nil ⟨fun _ => hS, ?_⟩
                        refine wx_only 9 _ rfl (by kernel_rfl) ?_
                        refine s1_do ?_
                        refine wl_lit1 (r := eU1 (x, s)) sl_23 rfl rfl rfl rfl (by decide) ?_; intro v102 w92 b102 hb102 hE92 hO102
                        have hm102 : n1 ≤ b102 := by have := hS.size; omega
                        try have hd2 : b93 < b102 := Nat.lt_of_lt_of_le hO93.box.lt hb102
                        try have hd3 : ∀ i, o97 = some i → i < b102 := fun i hi => Nat.lt_of_lt_of_le (hO97.lt hi) hb102
                        replace hS := hS.tr hE92
                        replace hO97 := hO97.ext hE92 (fun _ _ h => h)
                        refine wl_nil ⟨fun _ => hS, ?_⟩
                        refine wx_only 10 _ rfl (by kernel_rfl) ?_
                        refine s1_do ?_
                        have hsz103 := hS.size
                        refine wl_app sl_23 rfl rfl rfl hO97 (hO102.sl (M := Non) id) (fun r hr => by simp only [List.mem_singleton] at hr; subst hr; exact one1 rfl) (by simp only [List.length_map, List.length_append, List.length_take, List.length_drop, List.length_cons, List.length_nil]; omega) (by simp only [List.length_map, List.length_append, List.length_take, List.length_drop, List.length_cons, List.length_nil, big]; omega) ?_; intro v103 w93 o103 hE93 hO103 hf103
                        obtain ⟨a103, c103, hv103⟩ := id hO103.len; subst hv103
                        replace hS := hS.mineF hE93 (fun i hi => .inr (by have := hm97 i hi; omega))
                        have hm103 : ∀ i, o103 = some i → n1 ≤ i := fun i hi => by rcases hf103 i hi with h | h; exact hm97 i h; omega
                        refine wl_nil ⟨fun _ => hS, ?_⟩
                        refine wx_only 14 _ rfl (by kernel_rfl) ?_
                        refine s1_do ?_
                        refine wl_app sl_23 rfl rfl rfl hO103 ((hS7.ext hS (fun _ h => h)).cut (l := j) (h := D.length) (m := c7) (by omega) (by omega) (by omega) (by omega)) (fun r hr => eU_one D r (List.mem_of_mem_drop (List.mem_of_mem_take hr))) (by simp only [List.length_map, List.length_append, List.length_take, List.length_drop, List.length_cons, List.length_nil]; omega) (by simp only [List.length_map, List.length_append, List.length_take, List.length_drop, List.length_cons, List.length_nil, big]; omega) ?_; intro v107 w94 o107 hE94 hO107 hf107
                        rw [ins_map] at hO107
                        obtain ⟨a107, c107, hv107⟩ := id hO107.len; rw [List.length_map] at hv107; subst hv107
                        replace hS := hS.mineF hE94 (fun i hi => .inr (by have := hm103 i hi; omega))
                        have hN7 := hO107.sl (M := Non) (fun _ _ h => h)
                        refine wl_nil ⟨fun _ => hS, ?_⟩
                        refine wx_take 15 [] _ _ rfl (by kernel_rfl) hS (yd_do fun A hA => rn_assign (by conv => lhs; whnf)) ?_
                        refine wx_done (by kernel_rfl) ?_ _
                        replace hX := hX.tr hS
                        replace hS6 := hS6.ext hS (fun _ h => h)
                        replace hS7 := hS7.ext hS (fun _ h => h)
                        replace hN6 := hN6.ext hS (fun _ h => h)
                        refine W_region ?_
                        refine wl_val (rn_move (by conv => lhs; whnf)) ?_
                        refine wl_val (rn_add rfl rfl (by omega)) ?_
                        refine wl_val (rn_assign (by conv => lhs; whnf)) ?_
                        refine wl_nil ?_
                        exact ⟨rfl, (i + 1, D.take j ++ (x, s) :: D.drop j, _, _, _, _), ⟨rfl, rfl, rfl, rfl, rfl, trivial⟩, ⟨hX, ⟨hlt, hlt2, hD1.symm, hN6, hN7⟩⟩, by show ks.length - (i + 1) < ks.length - i; omega⟩
                      · refine s1_do ?_
                        refine wl_lit1 (r := eU1 (x, s)) sl_23 rfl rfl rfl rfl (by decide) ?_; intro v102 w95 b102 hb102 hE95 hO102
                        have hm102 : n1 ≤ b102 := by have := hS.size; omega
                        try have hd2 : b93 < b102 := Nat.lt_of_lt_of_le hO93.box.lt hb102
                        try have hd3 : ∀ i, o97 = some i → i < b102 := fun i hi => Nat.lt_of_lt_of_le (hO97.lt hi) hb102
                        replace hS := hS.tr hE95
                        replace hO93 := hO93.ext hE95 id
                        refine wl_nil ⟨fun _ => hS, ?_⟩
                        refine wx_only 4 _ rfl (by kernel_rfl) ?_
                        refine s1_do ?_
                        have hsz97 := hS.size
                        refine wl_app sl_23 rfl rfl rfl (show OwO _ _ (some b93) 1 [] from .inr ⟨b93, [], rfl, hO93⟩) ((hS7.ext hS (fun _ h => h)).cut0 (h := j) (m := c7) (by omega) (by omega) (by omega)) (fun r hr => eU_one D r (List.mem_of_mem_take hr)) (by simp only [List.length_map, List.length_append, List.length_take, List.length_drop, List.length_cons, List.length_nil]; omega) (by simp only [List.length_map, List.length_append, List.length_take, List.length_drop, List.length_cons, List.length_nil, big]; omega) ?_; intro v97 w96 o97 hE96 hO97 hf97
                        obtain ⟨a97, c97, hv97⟩ := id hO97.len; subst hv97
                        try have hdq : ∀ i, o97 = some i → i ≠ b102 := fun i hi e => by rcases hf97 i hi with h | h; cases h; omega; have := hO102.box.lt; omega
                        try replace hO102 := hO102.ext hE96 (fun e => by cases e; omega)
                        replace hS := hS.mineF hE96 (fun i hi => .inr (by cases hi; omega))
                        have hm97 : ∀ i, o97 = some i → n1 ≤ i := fun i hi => by rcases hf97 i hi with h | h; cases h; omega; omega
                        refine wl_nil ⟨fun _ => hS, ?_⟩
                        refine wx_only 10 _ rfl (by kernel_rfl) ?_
                        refine s1_do ?_
                        have hsz103 := hS.size
                        refine wl_app sl_23 rfl rfl rfl hO97 (hO102.sl (M := Non) id) (fun r hr => by simp only [List.mem_singleton] at hr; subst hr; exact one1 rfl) (by simp only [List.length_map, List.length_append, List.length_take, List.length_drop, List.length_cons, List.length_nil]; omega) (by simp only [List.length_map, List.length_append, List.length_take, List.length_drop, List.length_cons, List.length_nil, big]; omega) ?_; intro v103 w97 o103 hE97 hO103 hf103
                        obtain ⟨a103, c103, hv103⟩ := id hO103.len; subst hv103
                        replace hS := hS.mineF hE97 (fun i hi => .inr (by have := hm97 i hi; omega))
                        have hm103 : ∀ i, o103 = some i → n1 ≤ i := fun i hi => by rcases hf103 i hi with h | h; exact hm97 i h; omega
                        refine wl_nil ⟨fun _ => hS, ?_⟩
                        refine wx_only 14 _ rfl (by kernel_rfl) ?_
                        refine s1_do ?_
                        refine wl_app sl_23 rfl rfl rfl hO103 ((hS7.ext hS (fun _ h => h)).cut (l := j) (h := D.length) (m := c7) (by omega) (by omega) (by omega) (by omega)) (fun r hr => eU_one D r (List.mem_of_mem_drop (List.mem_of_mem_take hr))) (by simp only [List.length_map, List.length_append, List.length_take, List.length_drop, List.length_cons, List.length_nil]; omega) (by simp only [List.length_map, List.length_append, List.length_take, List.length_drop, List.length_cons, List.length_nil, big]; omega) ?_; intro v107 w98 o107 hE98 hO107 hf107
                        rw [ins_map] at hO107
                        obtain ⟨a107, c107, hv107⟩ := id hO107.len; rw [List.length_map] at hv107; subst hv107
                        replace hS := hS.mineF hE98 (fun i hi => .inr (by have := hm103 i hi; omega))
                        have hN7 := hO107.sl (M := Non) (fun _ _ h => h)
                        refine wl_nil ⟨fun _ => hS, ?_⟩
                        refine wx_take 15 [] _ _ rfl (by kernel_rfl) hS (yd_do fun A hA => rn_assign (by conv => lhs; whnf)) ?_
                        refine wx_done (by kernel_rfl) ?_ _
                        replace hX := hX.tr hS
                        replace hS6 := hS6.ext hS (fun _ h => h)
                        replace hS7 := hS7.ext hS (fun _ h => h)
                        replace hN6 := hN6.ext hS (fun _ h => h)
                        refine W_region ?_
                        refine wl_val (rn_move (by conv => lhs; whnf)) ?_
                        refine wl_val (rn_add rfl rfl (by omega)) ?_
                        refine wl_val (rn_assign (by conv => lhs; whnf)) ?_
                        refine wl_nil ?_
                        exact ⟨rfl, (i + 1, D.take j ++ (x, s) :: D.drop j, _, _, _, _), ⟨rfl, rfl, rfl, rfl, rfl, trivial⟩, ⟨hX, ⟨hlt, hlt2, hD1.symm, hN6, hN7⟩⟩, by show ks.length - (i + 1) < ks.length - i; omega⟩
                    · refine s1_do ?_
                      refine wl_lit1 (r := eU1 (x, s)) sl_23 rfl rfl rfl rfl (by decide) ?_; intro v102 w99 b102 hb102 hE99 hO102
                      have hm102 : n1 ≤ b102 := by have := hS.size; omega
                      try have hd2 : b93 < b102 := Nat.lt_of_lt_of_le hO93.box.lt hb102
                      try have hd3 : ∀ i, o97 = some i → i < b102 := fun i hi => Nat.lt_of_lt_of_le (hO97.lt hi) hb102
                      replace hS := hS.tr hE99
                      refine wl_nil ⟨fun _ => hS, ?_⟩
                      refine wx_only 0 _ rfl (by kernel_rfl) ?_
                      refine s1_do ?_
                      refine wl_lit sl_23 (rows := []) rfl (by decide) (by decide) rfl rfl (by simp) (by simp) rfl ?_; intro v93 w100 b93 hb93 hE100 hO93
                      have hm93 : n1 ≤ b93 := by have := hS.size; omega
                      try have hd1 : b102 < b93 := Nat.lt_of_lt_of_le hO102.box.lt hb93
                      replace hS := hS.tr hE100
                      replace hO102 := hO102.ext hE100 id
                      refine wl_nil ⟨fun _ => hS, ?_⟩
                      refine wx_only 4 _ rfl (by kernel_rfl) ?_
                      refine s1_do ?_
                      have hsz97 := hS.size
                      refine wl_app sl_23 rfl rfl rfl (show OwO _ _ (some b93) 1 [] from .inr ⟨b93, [], rfl, hO93⟩) ((hS7.ext hS (fun _ h => h)).cut0 (h := j) (m := c7) (by omega) (by omega) (by omega)) (fun r hr => eU_one D r (List.mem_of_mem_take hr)) (by simp only [List.length_map, List.length_append, List.length_take, List.length_drop, List.length_cons, List.length_nil]; omega) (by simp only [List.length_map, List.length_append, List.length_take, List.length_drop, List.length_cons, List.length_nil, big]; omega) ?_; intro v97 w101 o97 hE101 hO97 hf97
                      obtain ⟨a97, c97, hv97⟩ := id hO97.len; subst hv97
                      try have hdq : ∀ i, o97 = some i → i ≠ b102 := fun i hi e => by rcases hf97 i hi with h | h; cases h; omega; have := hO102.box.lt; omega
                      try replace hO102 := hO102.ext hE101 (fun e => by cases e; omega)
                      replace hS := hS.mineF hE101 (fun i hi => .inr (by cases hi; omega))
                      have hm97 : ∀ i, o97 = some i → n1 ≤ i := fun i hi => by rcases hf97 i hi with h | h; cases h; omega; omega
                      refine wl_nil ⟨fun _ => hS, ?_⟩
                      refine wx_only 10 _ rfl (by kernel_rfl) ?_
                      refine s1_do ?_
                      have hsz103 := hS.size
                      refine wl_app sl_23 rfl rfl rfl hO97 (hO102.sl (M := Non) id) (fun r hr => by simp only [List.mem_singleton] at hr; subst hr; exact one1 rfl) (by simp only [List.length_map, List.length_append, List.length_take, List.length_drop, List.length_cons, List.length_nil]; omega) (by simp only [List.length_map, List.length_append, List.length_take, List.length_drop, List.length_cons, List.length_nil, big]; omega) ?_; intro v103 w102 o103 hE102 hO103 hf103
                      obtain ⟨a103, c103, hv103⟩ := id hO103.len; subst hv103
                      replace hS := hS.mineF hE102 (fun i hi => .inr (by have := hm97 i hi; omega))
                      have hm103 : ∀ i, o103 = some i → n1 ≤ i := fun i hi => by rcases hf103 i hi with h | h; exact hm97 i h; omega
                      refine wl_nil ⟨fun _ => hS, ?_⟩
                      refine wx_only 14 _ rfl (by kernel_rfl) ?_
                      refine s1_do ?_
                      refine wl_app sl_23 rfl rfl rfl hO103 ((hS7.ext hS (fun _ h => h)).cut (l := j) (h := D.length) (m := c7) (by omega) (by omega) (by omega) (by omega)) (fun r hr => eU_one D r (List.mem_of_mem_drop (List.mem_of_mem_take hr))) (by simp only [List.length_map, List.length_append, List.length_take, List.length_drop, List.length_cons, List.length_nil]; omega) (by simp only [List.length_map, List.length_append, List.length_take, List.length_drop, List.length_cons, List.length_nil, big]; omega) ?_; intro v107 w103 o107 hE103 hO107 hf107
                      rw [ins_map] at hO107
                      obtain ⟨a107, c107, hv107⟩ := id hO107.len; rw [List.length_map] at hv107; subst hv107
                      replace hS := hS.mineF hE103 (fun i hi => .inr (by have := hm103 i hi; omega))
                      have hN7 := hO107.sl (M := Non) (fun _ _ h => h)
                      refine wl_nil ⟨fun _ => hS, ?_⟩
                      refine wx_take 15 [] _ _ rfl (by kernel_rfl) hS (yd_do fun A hA => rn_assign (by conv => lhs; whnf)) ?_
                      refine wx_done (by kernel_rfl) ?_ _
                      replace hX := hX.tr hS
                      replace hS6 := hS6.ext hS (fun _ h => h)
                      replace hS7 := hS7.ext hS (fun _ h => h)
                      replace hN6 := hN6.ext hS (fun _ h => h)
                      refine W_region ?_
                      refine wl_val (rn_move (by conv => lhs; whnf)) ?_
                      refine wl_val (rn_add rfl rfl (by omega)) ?_
                      refine wl_val (rn_assign (by conv => lhs; whnf)) ?_
                      refine wl_nil ?_
                      exact ⟨rfl, (i + 1, D.take j ++ (x, s) :: D.drop j, _, _, _, _), ⟨rfl, rfl, rfl, rfl, rfl, trivial⟩, ⟨hX, ⟨hlt, hlt2, hD1.symm, hN6, hN7⟩⟩, by show ks.length - (i + 1) < ks.length - i; omega⟩
                · refine s1_do ?_
                  refine wl_lit1 (r := eT1 (x, s)) sl_22 rfl rfl rfl rfl (by decide) ?_; intro v87 w104 b87 hb87 hE104 hO87
                  have hm87 : n1 ≤ b87 := by have := hS.size; omega
                  try have hd2 : b78 < b87 := Nat.lt_of_lt_of_le hO78.box.lt hb87
                  try have hd3 : ∀ i, o82 = some i → i < b87 := fun i hi => Nat.lt_of_lt_of_le (hO82.lt hi) hb87
                  replace hS := hS.tr hE104
                  refine wl_nil ⟨fun _ => hS, ?_⟩
                  refine wx_only 0 _ rfl (by kernel_rfl) ?_
                  refine s1_do ?_
                  refine wl_lit sl_22 (rows := []) rfl (by decide) (by decide) rfl rfl (by simp) (by simp) rfl ?_; intro v78 w105 b78 hb78 hE105 hO78
                  have hm78 : n1 ≤ b78 := by have := hS.size; omega
                  try have hd1 : b87 < b78 := Nat.lt_of_lt_of_le hO87.box.lt hb78
                  replace hS := hS.tr hE105
                  replace hO87 := hO87.ext hE105 id
                  refine wl_nil ⟨fun _ => hS, ?_⟩
                  refine wx_only 4 _ rfl (by kernel_rfl) ?_
                  refine s1_do ?_
                  have hsz82 := hS.size
                  refine wl_app sl_22 rfl rfl rfl (show OwO _ _ (some b78) 1 [] from .inr ⟨b78, [], rfl, hO78⟩) ((hS6.ext hS (fun _ h => h)).cut0 (h := j) (m := c6) (by omega) (by omega) (by omega)) (fun r hr => eT_one D r (List.mem_of_mem_take hr)) (by simp only [List.length_map, List.length_append, List.length_take, List.length_drop, List.length_cons, List.length_nil]; omega) (by simp only [List.length_map, List.length_append, List.length_take, List.length_drop, List.length_cons, List.length_nil, big]; omega) ?_; intro v82 w106 o82 hE106 hO82 hf82
                  obtain ⟨a82, c82, hv82⟩ := id hO82.len; subst hv82
                  try have hdq : ∀ i, o82 = some i → i ≠ b87 := fun i hi e => by rcases hf82 i hi with h | h; cases h; omega; have := hO87.box.lt; omega
                  try replace hO87 := hO87.ext hE106 (fun e => by cases e; omega)
                  replace hS := hS.mineF hE106 (fun i hi => .inr (by cases hi; omega))
                  have hm82 : ∀ i, o82 = some i → n1 ≤ i := fun i hi => by rcases hf82 i hi with h | h; cases h; omega; omega
                  refine wl_nil ⟨fun _ => hS, ?_⟩
                  refine wx_only 10 _ rfl (by kernel_rfl) ?_
                  refine s1_do ?_
                  have hsz88 := hS.size
                  refine wl_app sl_22 rfl rfl rfl hO82 (hO87.sl (M := Non) id) (fun r hr => by simp only [List.mem_singleton] at hr; subst hr; exact one1 rfl) (by simp only [List.length_map, List.length_append, List.length_take, List.length_drop, List.length_cons, List.length_nil]; omega) (by simp only [List.length_map, List.length_append, List.length_take, List.length_drop, List.length_cons, List.length_nil, big]; omega) ?_; intro v88 w107 o88 hE107 hO88 hf88
                  obtain ⟨a88, c88, hv88⟩ := id hO88.len; subst hv88
                  replace hS := hS.mineF hE107 (fun i hi => .inr (by have := hm82 i hi; omega))
                  have hm88 : ∀ i, o88 = some i → n1 ≤ i := fun i hi => by rcases hf88 i hi with h | h; exact hm82 i h; omega
                  refine wl_nil ⟨fun _ => hS, ?_⟩
                  refine wx_only 14 _ rfl (by kernel_rfl) ?_
                  refine s1_do ?_
                  refine wl_app sl_22 rfl rfl rfl hO88 ((hS6.ext hS (fun _ h => h)).cut (l := j) (h := D.length) (m := c6) (by omega) (by omega) (by omega) (by omega)) (fun r hr => eT_one D r (List.mem_of_mem_drop (List.mem_of_mem_take hr))) (by simp only [List.length_map, List.length_append, List.length_take, List.length_drop, List.length_cons, List.length_nil]; omega) (by simp only [List.length_map, List.length_append, List.length_take, List.length_drop, List.length_cons, List.length_nil, big]; omega) ?_; intro v92 w108 o92 hE108 hO92 hf92
                  rw [ins_map] at hO92
                  obtain ⟨a92, c92, hv92⟩ := id hO92.len; rw [List.length_map] at hv92; subst hv92
                  replace hS := hS.mineF hE108 (fun i hi => .inr (by have := hm88 i hi; omega))
                  have hN6 := hO92.sl (M := Non) (fun _ _ h => h)
                  refine wl_nil ⟨fun _ => hS, ?_⟩
                  refine wx_take 15 [] _ _ rfl (by kernel_rfl) hS (yd_do fun A hA => rn_assign (by conv => lhs; whnf)) ?_
                  refine wx_done (by kernel_rfl) ?_ _
                  replace hX := hX.tr hS
                  replace hS6 := hS6.ext hS (fun _ h => h)
                  replace hS7 := hS7.ext hS (fun _ h => h)
                  refine W_drawX (fun j => false) mixed ?_; intro w109 hE109
                  replace hX := hX.tr hE109
                  replace hS6 := hS6.ext hE109 (fun _ h => h)
                  replace hS7 := hS7.ext hE109 (fun _ h => h)
                  replace hN6 := hN6.ext hE109 (fun _ h => h)
                  have hS := Ext.refl Non w109
                  obtain ⟨n1, hn1⟩ : ∃ n, n = (World.heap w109).size := ⟨_, rfl⟩
                  refine wx_take 1 [3, 4, 10, 14, 15] _ _ rfl (by kernel_rfl) hS (yd_do fun A hA => rn_move (by conv => lhs; whnf)) ?_
                  refine wx_take 2 [3, 4, 10, 14, 15] _ _ rfl (by kernel_rfl) hS (yd_do fun A hA => rn_move (by conv => lhs; whnf)) ?_
                  refine wx_take 3 [4, 10, 14, 15] _ _ rfl (by kernel_rfl) hS (yd_do fun A hA => rn_slice0 sl_23 (h := j) (m := c7) rfl rfl ⟨_, rfl⟩ rfl (by simp) (by omega) (by omega)) ?_
                  refine wx_take 5 [7, 8, 9, 10, 14, 15] _ _ rfl (by kernel_rfl) hS (yd_do fun A hA => rn_move (by conv => lhs; whnf)) ?_
                  refine wx_take 6 [7, 8, 9, 10, 14, 15] _ _ rfl (by kernel_rfl) hS (yd_do fun A hA => rn_move (by conv => lhs; whnf)) ?_
                  refine wx_take 7 [8, 9, 10, 14, 15] _ _ rfl (by kernel_rfl) hS (yd_do fun A hA => rn_indexAddr sl_23 rfl rfl (by omega)) ?_
                  refine wx_take 8 [9, 10, 14, 15] _ _ rfl (by kernel_rfl) hS (yd_do fun A hA => rn_load p_3 rfl (((hv.ext hX (fun _ h => h)).ext hA (fun _ h => h.elim)).at0 (eI_at hj) rfl)) ?_
                  refine wx_take 11 [13, 14, 15] _ _ rfl (by kernel_rfl) hS (yd_do fun A hA => rn_move (by conv => lhs; whnf)) ?_
                  refine wx_take 12 [13, 14, 15] _ _ rfl (by kernel_rfl) hS (yd_do fun A hA => rn_move (by conv => lhs; whnf)) ?_
                  refine wx_take 13 [14, 15] _ _ rfl (by kernel_rfl) hS (yd_do fun A hA => rn_slice sl_23 (l := j) (h := D.length) (m := c7) rfl ⟨_, rfl⟩ rfl rfl (by simp) (by omega) (by omega) (by omega)) ?_
                  refine wx_two 0 9 _ _ rfl rfl (by kernel_rfl) ?_ ?_
                  · refine s1_do ?_
                    refine wl_lit sl_23 (rows := []) rfl (by decide) (by decide) rfl rfl (by simp) (by simp) rfl ?_; intro v93 w110 b93 hb93 hE110 hO93
                    have hm93 : n1 ≤ b93 := by have := hS.size; omega
                    try have hd1 : b102 < b93 := Nat.lt_of_lt_of_le hO102.box.lt hb93
                    replace hS := hS.tr hE110
                    refine wl_nil ⟨fun _ => hS, ?_⟩
                    refine wx_two 4 9 _ _ rfl rfl (by kernel_rfl) ?_ ?_
                    · refine s1_do ?_
                      have hsz97 := hS.size
                      refine wl_app sl_23 rfl rfl rfl (show OwO _ _ (some b93) 1 [] from .inr ⟨b93, [], rfl, hO93⟩) ((hS7.ext hS (fun _ h => h)).cut0 (h := j) (m := c7) (by omega) (by omega) (by omega)) (fun r hr => eU_one D r (List.mem_of_mem_take hr)) (by simp only [List.length_map, List.length_append, List.length_take, List.length_drop, List.length_cons, List.length_nil]; omega) (by simp only [List.length_map, List.length_append, List.length_take, List.length_drop, List.length_cons, List.length_nil, big]; omega) ?_; intro v97 w111 o97 hE111 hO97 hf97
                      obtain ⟨a97, c97, hv97⟩ := id hO97.len; subst hv97
                      try have hdq : ∀ i, o97 = some i → i ≠ b102 := fun i hi e => by rcases hf97 i hi with h | h; cases h; omega; have := hO102.box.lt; omega
                      try replace hO102 := hO102.ext hE111 (fun e => by cases e; omega)
                      replace hS := hS.mineF hE111 (fun i hi => .inr (by cases hi; omega))
                      have hm97 : ∀ i, o97 = some i → n1 ≤ i := fun i hi => by rcases hf97 i hi with h | h; cases h; omega; omega
                      refine wl_nil ⟨fun _ => hS, ?_⟩
                      refine wx_only 9 _ rfl (by kernel_rfl) ?_
                      refine s1_do ?_
                      refine wl_lit1 (r := eU1 (x, s)) sl_23 rfl rfl rfl rfl (by decide) ?_; intro v102 w112 b102 hb102 hE112 hO102
                      have hm102 : n1 ≤ b102 := by have := hS.size; omega
                      try have hd2 : b93 < b102 := Nat.lt_of_lt_of_le hO93.box.lt hb102
                      try have hd3 : ∀ i, o97 = some i → i < b102 := fun i hi => Nat.lt_of_lt_of_le (hO97.lt hi) hb102
                      replace hS := hS.tr hE112
                      replace hO97 := hO97.ext hE112 (fun _ _ h => h)
                      refine wl_nil ⟨fun _ => hS, ?_⟩
                      refine wx_only 10 _ rfl (by kernel_rfl) ?_
                      refine s1_do ?_
                      have hsz103 := hS.size
                      refine wl_app sl_23 rfl rfl rfl hO97 (hO102.sl (M := Non) id) (fun r hr => by simp only [List.mem_singleton] at hr; subst hr; exact one1 rfl) (by simp only [List.length_map, List.length_append, List.length_take, List.length_drop, List.length_cons, List.length_nil]; omega) (by simp only [List.length_map, List.length_append, List.length_take, List.length_drop, List.length_cons, List.length_nil, big]; omega) ?_; intro v103 w113 o103 hE113 hO103 hf103
                      obtain ⟨a103, c103, hv103⟩ := id hO103.len; subst hv103
                      replace hS := hS.mineF hE113 (fun i hi => .inr (by have := hm97 i hi; omega))
                      have hm103 : ∀ i, o103 = some i → n1 ≤ i := fun i hi => by rcases hf103 i hi with h | h; exact hm97 i h; omega
                      refine wl_nil ⟨fun _ => hS, ?_⟩
                      refine wx_only 14 _ rfl (by kernel_rfl) ?_
                      refine s1_do ?_
                      refine wl_app sl_23 rfl rfl rfl hO103 ((hS7.ext hS (fun _ h => h)).cut (l := j) (h := D.length) (m := c7) (by omega) (by omega) (by omega) (by omega)) (fun r hr => eU_one D r (List.mem_of_mem_drop (List.mem_of_mem_take hr))) (by simp only [List.length_map, List.length_append, List.length_take, List.length_drop, List.length_cons, List.length_nil]; omega) (by simp only [List.length_map, List.length_append, List.length_take, List.length_drop, List.length_cons, List.length_nil, big]; omega) ?_; intro v107 w114 o107 hE114 hO107 hf107
                      rw [ins_map] at hO107
                      obtain ⟨a107, c107, hv107⟩ := id hO107.len; rw [List.length_map] at hv107; subst hv107
                      replace hS := hS.mineF hE114 (fun i hi => .inr (by have := hm103 i hi; omega))
                      have hN7 := hO107.sl (M := Non) (fun _ _ h => h)
                      refine wl_nil ⟨fun _ => hS, ?_⟩
                      refine wx_take 15 [] _ _ rfl (by kernel_rfl) hS (yd_do fun A hA => rn_assign (by conv => lhs; whnf)) ?_
                      refine wx_done (by kernel_rfl) ?_ _
                      replace hX := hX.tr hS
                      replace hS6 := hS6.ext hS (fun _ h => h)
                      replace hS7 := hS7.ext hS (fun _ h => h)
                      replace hN6 := hN6.ext hS (fun _ h => h)
                      refine W_region ?_
                      refine wl_val (rn_move (by conv => lhs; whnf)) ?_
                      refine wl_val (rn_add rfl rfl (by omega)) ?_
                      refine wl_val (rn_assign (by conv => lhs; whnf)) ?_
                      refine wl_nil ?_
                      exact ⟨rfl, (i + 1, D.take j ++ (x, s) :: D.drop j, _, _, _, _), ⟨rfl, rfl, rfl, rfl, rfl, trivial⟩, ⟨hX, ⟨hlt, hlt2, hD1.symm, hN6, hN7⟩⟩, by show ks.length - (i + 1) < ks.length - i; omega⟩
                    · refine s1_do ?_
                      refine wl_lit1 (r := eU1 (x, s)) sl_23 rfl rfl rfl rfl (by decide) ?_; intro v102 w115 b102 hb102 hE115 hO102
                      have hm102 : n1 ≤ b102 := by have := hS.size; omega
                      try have hd2 : b93 < b102 := Nat.lt_of_lt_of_le hO93.box.lt hb102
                      try have hd3 : ∀ i, o97 = some i → i < b102 := fun i hi => Nat.lt_of_lt_of_le (hO97.lt hi) hb102
                      replace hS := hS.tr hE115
                      replace hO93 := hO93.ext hE115 id
                      refine wl_nil ⟨fun _ => hS, ?_⟩
                      refine wx_only 4 _ rfl (by kernel_rfl) ?_
                      refine s1_do ?_
                      have hsz97 := hS.size
                      refine wl_app sl_23 rfl rfl rfl (show OwO _ _ (some b93) 1 [] from .inr ⟨b93, [], rfl, hO93⟩) ((hS7.ext hS (fun _ h => h)).cut0 (h := j) (m := c7) (by omega) (by omega) (by omega)) (fun r hr => eU_one D r (List.mem_of_mem_take hr)) (by simp only [List.length_map, List.length_append, List.length_take, List.length_drop, List.length_cons, List.length_nil]; omega) (by simp only [List.length_map, List.length_append, List.length_take, List.length_drop, List.length_cons, List.length_nil, big]; omega) ?_; intro v97 w116 o97 hE116 hO97 hf97
                      obtain ⟨a97, c97, hv97⟩ := id hO97.len; subst hv97
                      try have hdq : ∀ i, o97 = some i → i ≠ b102 := fun i hi e => by rcases hf97 i hi with h | h; cases h; omega; have := hO102.box.lt; omega
                      try replace hO102 := hO102.ext hE116 (fun e => by cases e; omega)
                      replace hS := hS.mineF hE116 (fun i hi => .inr (by cases hi; omega))
                      have hm97 : ∀ i, o97 = some i → n1 ≤ i := fun i hi => by rcases hf97 i hi with h | h; cases h; omega; omega
                      refine wl_nil ⟨fun _ => hS, ?_⟩
                      refine wx_only 10 _ rfl (by kernel_rfl) ?_
                      refine s1_do ?_
                      have hsz103 := hS.size
                      refine wl_app sl_23 rfl rfl rfl hO97 (hO102.sl (M := Non) id) (fun r hr => by simp only [List.mem_singleton] at hr; subst hr; exact one1 rfl) (by simp only [List.length_map, List.length_append, List.length_take, List.length_drop, List.length_cons, List.length_nil]; omega) (by simp only [List.length_map, List.length_append, List.length_take, List.length_drop, List.length_cons, List.length_nil, big]; omega) ?_; intro v103 w117 o103 hE117 hO103 hf103
                      obtain ⟨a103, c103, hv103⟩ := id hO103.len; subst hv103
                      replace hS := hS.mineF hE117 (fun i hi => .inr (by have := hm97 i hi; omega))
                      have hm103 : ∀ i, o103 = some i → n1 ≤ i := fun i hi => by rcases hf103 i hi with h | h; exact hm97 i h; omega
                      refine wl_nil ⟨fun _ => hS, ?_⟩
                      refine wx_only 14 _ rfl (by kernel_rfl) ?_
                      refine s1_do ?_
                      refine wl_app sl_23 rfl rfl rfl hO103 ((hS7.ext hS (fun _ h => h)).cut (l := j) (h := D.length) (m := c7) (by omega) (by omega) (by omega) (by omega)) (fun r hr => eU_one D r (List.mem_of_mem_drop (List.mem_of_mem_take hr))) (by simp only [List.length_map, List.length_append, List.length_take, List.length_drop, List.length_cons, List.length_nil]; omega) (by simp only [List.length_map, List.length_append, List.length_take, List.length_drop, List.length_cons, List.length_nil, big]; omega) ?_; intro v107 w118 o107 hE118 hO107 hf107
                      rw [ins_map] at hO107
                      obtain ⟨a107, c107, hv107⟩ := id hO107.len; rw [List.length_map] at hv107; subst hv107
                      replace hS := hS.mineF hE118 (fun i hi => .inr (by have := hm103 i hi; omega))
                      have hN7 := hO107.sl (M := Non) (fun _ _ h => h)
                      refine wl_nil ⟨fun _ => hS, ?_⟩
                      refine wx_take 15 [] _ _ rfl (by kernel_rfl) hS (yd_do fun A hA => rn_assign (by conv => lhs; whnf)) ?_
                      refine wx_done (by kernel_rfl) ?_ _
                      replace hX := hX.tr hS
                      replace hS6 := hS6.ext hS (fun _ h => h)
                      replace hS7 := hS7.ext hS (fun _ h => h)
                      replace hN6 := hN6.ext hS (fun _ h => h)
                      refine W_region ?_
                      refine wl_val (rn_move (by conv => lhs; whnf)) ?_
                      refine wl_val (rn_add rfl rfl (by omega)) ?_
                      refine wl_val (rn_assign (by conv => lhs; whnf)) ?_
                      refine wl_nil ?_
                      exact ⟨rfl, (i + 1, D.take j ++ (x, s) :: D.drop j, _, _, _, _), ⟨rfl, rfl, rfl, rfl, rfl, trivial⟩, ⟨hX, ⟨hlt, hlt2, hD1.symm, hN6, hN7⟩⟩, by show ks.length - (i + 1) < ks.length - i; omega⟩
                  · refine s1_do ?_
                    refine wl_lit1 (r := eU1 (x, s)) sl_23 rfl rfl rfl rfl (by decide) ?_; intro v102 w119 b102 hb102 hE119 hO102
                    have hm102 : n1 ≤ b102 := by have := hS.size; omega
                    try have hd2 : b93 < b102 := Nat.lt_of_lt_of_le hO93.box.lt hb102
                    try have hd3 : ∀ i, o97 = some i → i < b102 := fun i hi => Nat.lt_of_lt_of_le (hO97.lt hi) hb102
                    replace hS := hS.tr hE119
                    refine wl_nil ⟨fun _ => hS, ?_⟩
                    refine wx_only 0 _ rfl (by kernel_rfl) ?_
                    refine s1_do ?_
                    refine wl_lit sl_23 (rows := []) rfl (by decide) (by decide) rfl rfl (by simp) (by simp) rfl ?_; intro v93 w120 b93 hb93 hE120 hO93
                    have hm93 : n1 ≤ b93 := by have := hS.size; omega
                    try have hd1 : b102 < b93 := Nat.lt_of_lt_of_le hO102.box.lt hb93
                    replace hS := hS.tr hE120
                    replace hO102 := hO102.ext hE120 id
                    refine wl_nil ⟨fun _ => hS, ?_⟩
                    refine wx_only 4 _ rfl (by kernel_rfl) ?_
                    refine s1_do ?_
                    have hsz97 := hS.size
                    refine wl_app sl_23 rfl rfl rfl (show OwO _ _ (some b93) 1 [] from .inr ⟨b93, [], rfl, hO93⟩) ((hS7.ext hS (fun _ h => h)).cut0 (h := j) (m := c7) (by omega) (by omega) (by omega)) (fun r hr => eU_one D r (List.mem_of_mem_take hr)) (by simp only [List.length_map, List.length_append, List.length_take, List.length_drop, List.length_cons, List.length_nil]; omega) (by simp only [List.length_map, List.length_append, List.length_take, List.length_drop, List.length_cons, List.length_nil, big]; omega) ?_; intro v97 w121 o97 hE121 hO97 hf97
                    obtain ⟨a97, c97, hv97⟩ := id hO97.len; subst hv97
                    try have hdq : ∀ i, o97 = some i → i ≠ b102 := fun i hi e => by rcases hf97 i hi with h | h; cases h; omega; have := hO102.box.lt; omega
                    try replace hO102 := hO102.ext hE121 (fun e => by cases e; omega)
                    replace hS := hS.mineF hE121 (fun i hi => .inr (by cases hi; omega))
                    have hm97 : ∀ i, o97 = some i → n1 ≤ i := fun i hi => by rcases hf97 i hi with h | h; cases h; omega; omega
                    refine wl_nil ⟨fun _ => hS, ?_⟩
                    refine wx_only 10 _ rfl (by kernel_rfl) ?_
                    refine s1_do ?_
                    have hsz103 := hS.size
                    refine wl_app sl_23 rfl rfl rfl hO97 (hO102.sl (M := Non) id) (fun r hr => by simp only [List.mem_singleton] at hr; subst hr; exact one1 rfl) (by simp only [List.length_map, List.length_append, List.length_take, List.length_drop, List.length_cons, List.length_nil]; omega) (by simp only [List.length_map, List.length_append, List.length_take, List.length_drop, List.length_cons, List.length_nil, big]; omega) ?_; intro v103 w122 o103 hE122 hO103 hf103
                    obtain ⟨a103, c103, hv103⟩ := id hO103.len; subst hv103
                    replace hS := hS.mineF hE122 (fun i hi => .inr (by have := hm97 i hi; omega))
                    have hm103 : ∀ i, o103 = some i → n1 ≤ i := fun i hi => by rcases hf103 i hi with h | h; exact hm97 i h; omega
                    refine wl_nil ⟨fun _ => hS, ?_⟩
                    refine wx_only 14 _ rfl (by kernel_rfl) ?_
                    refine s1_do ?_
                    refine wl_app sl_23 rfl rfl rfl hO103 ((hS7.ext hS (fun _ h => h)).cut (l := j) (h := D.length) (m := c7) (by omega) (by omega) (by omega) (by omega)) (fun r hr => eU_one D r (List.mem_of_mem_drop (List.mem_of_mem_take hr))) (by simp only [List.length_map, List.length_append, List.length_take, List.length_drop, List.length_cons, List.length_nil]; omega) (by simp only [List.length_map, List.length_append, List.length_take, List.length_drop, List.length_cons, List.length_nil, big]; omega) ?_; intro v107 w123 o107 hE123 hO107 hf107
                    rw [ins_map] at hO107
                    obtain ⟨a107, c107, hv107⟩ := id hO107.len; rw [List.length_map] at hv107; subst hv107
                    replace hS := hS.mineF hE123 (fun i hi => .inr (by have := hm103 i hi; omega))
                    have hN7 := hO107.sl (M := Non) (fun _ _ h => h)
                    refine wl_nil ⟨fun _ => hS, ?_⟩
                    refine wx_take 15 [] _ _ rfl (by kernel_rfl) hS (yd_do fun A hA => rn_assign (by conv => lhs; whnf)) ?_
                    refine wx_done (by kernel_rfl) ?_ _
                    replace hX := hX.tr hS
                    replace hS6 := hS6.ext hS (fun _ h => h)
                    replace hS7 := hS7.ext hS (fun _ h => h)
                    replace hN6 := hN6.ext hS (fun _ h => h)
                    refine W_region ?_
                    refine wl_val (rn_move (by conv => lhs; whnf)) ?_
                    refine wl_val (rn_add rfl rfl (by omega)) ?_
                    refine wl_val (rn_assign (by conv => lhs; whnf)) ?_
                    refine wl_nil ?_
                    exact ⟨rfl, (i + 1, D.take j ++ (x, s) :: D.drop j, _, _, _, _), ⟨rfl, rfl, rfl, rfl, rfl, trivial⟩, ⟨hX, ⟨hlt, hlt2, hD1.symm, hN6, hN7⟩⟩, by show ks.length - (i + 1) < ks.length - i; omega⟩
            · have hna : isAt ltT D (x, s) = false := by unfold isAt; rw [hlb]; exact decide_eq_false (by first | (rw [List.getElem?_eq_none (by omega)]; simp) | exact absurd (of_decide_eq_false hg56) (by omega))
              have hD1 : docOf ((ks.zip ys).take (i + 1)) = D.take j ++ (x, s) :: D.drop j := by rw [htk, docOf_snoc, if_neg hxe, ← hD]; unfold putK; rw [if_neg (by rw [hna]; simp), hlb]
              exact absurd (of_decide_eq_false hg56) (by omega)
        · have hjg := of_decide_eq_false hg31; simp only [Int.ofNat_lt, Nat.not_lt] at hjg
          have hlb : lb ltT D (x, s) = j := lb_step hlo hjD (fun y hy => by rw [List.getElem?_eq_none hjg] at hy; cases hy)
          refine wd_take 5 _ _ rfl (by kernel_rfl) hS (yd_no rfl (congrArg Value.bool hg31)) ?_
          refine wd_take 6 _ _ rfl (by kernel_rfl) hS (yd_no rfl (congrArg Value.bool hg31)) ?_
          refine wd_take 7 _ _ rfl (by kernel_rfl) hS (yd_no rfl (congrArg Value.bool hg31)) ?_
          refine wd_take 8 _ _ rfl (by kernel_rfl) hS (yd_no rfl (congrArg Value.bool hg31)) ?_
          refine wd_take 9 _ _ rfl (by kernel_rfl) hS (yd_no rfl (congrArg Value.bool hg31)) ?_
          refine wd_take 10 _ _ rfl (by kernel_rfl) hS (yd_no rfl (congrArg Value.bool hg31)) ?_
          refine wd_take 11 _ _ rfl (by kernel_rfl) hS (yd_no rfl (congrArg Value.bool hg31)) ?_
          refine wd_take 12 _ _ rfl (by kernel_rfl) hS (yd_no rfl (congrArg Value.bool hg31)) ?_
          refine wd_take 13 _ _ rfl (by kernel_rfl) hS (yd_no rfl (congrArg Value.bool hg31)) ?_
          refine wd_take 14 _ _ rfl (by kernel_rfl) hS (yd_no rfl (congrArg Value.bool hg31)) ?_
          refine wd_take 15 _ _ rfl (by kernel_rfl) hS (yd_no rfl (congrArg Value.bool hg31)) ?_
          refine wd_take 16 _ _ rfl (by kernel_rfl) hS (yd_no rfl (congrArg Value.bool hg31)) ?_
          refine wd_take 17 _ _ rfl (by kernel_rfl) hS (yd_no rfl (congrArg Value.bool hg31)) ?_
          refine wd_take 18 _ _ rfl (by kernel_rfl) hS (yd_no rfl (congrArg Value.bool hg31)) ?_
          refine wd_take 19 _ _ rfl (by kernel_rfl) hS (yd_no rfl (congrArg Value.bool hg31)) ?_
          refine wd_take 20 _ _ rfl (by kernel_rfl) hS (yd_no rfl (congrArg Value.bool hg31)) ?_
          refine wd_only 21 _ rfl (by kernel_rfl) ?_
          refine s1_no rfl (congrArg Value.bool hg31) ⟨hS, ?_⟩
          refine wd_take 22 _ _ rfl (by kernel_rfl) hS (yd_do fun A hA => rn_pickF (congrArg Value.bool hg31) (by conv => lhs; whnf)) ?_
          refine wd_done (by kernel_rfl) ?_ _
          replace hX := hX.tr hS
          replace hS6 := hS6.ext hS (fun _ h => h)
          replace hS7 := hS7.ext hS (fun _ h => h)
          refine W_condF rfl ?_
          refine W_exit ?_   -- exit 2
          refine W_seq ?_
          refine W_seq ?_
          refine W_drawE mixed ?_; intro w124 hE124
          replace hX := hX.tr hE124
          replace hS6 := hS6.ext hE124 (fun _ h => h)
          replace hS7 := hS7.ext hE124 (fun _ h => h)
          have hS := Ext.refl Non w124
          refine wd_take 0 _ _ rfl (by kernel_rfl) hS (yd_do fun A hA => rn_move (by conv => lhs; whnf)) ?_
          refine wd_take 1 _ _ rfl (by kernel_rfl) hS (yd_do fun A hA => rn_move (by conv => lhs; whnf)) ?_
          refine wd_take 2 _ _ rfl (by kernel_rfl) hS (yd_do fun A hA => rn_len sl_22 rfl) ?_
          refine wd_take 3 _ _ rfl (by kernel_rfl) hS (yd_do fun A hA => rn_lss rfl rfl) ?_
          refine wd_take 4 _ _ rfl (by kernel_rfl) hS (yd_do fun A hA => rn_move (by conv => lhs; whnf)) ?_
          refine wd_split (d := 56) rfl (fun hg56 => ?_) (fun hg56 => ?_)
          · exact absurd (of_decide_eq_true hg56) (by omega)
          · have hna : isAt ltT D (x, s) = false := by unfold isAt; rw [hlb]; exact decide_eq_false (by first | (rw [List.getElem?_eq_none (by omega)]; simp) | exact absurd (of_decide_eq_false hg56) (by omega))
            have hD1 : docOf ((ks.zip ys).take (i + 1)) = D.take j ++ (x, s) :: D.drop j := by rw [htk, docOf_snoc, if_neg hxe, ← hD]; unfold putK; rw [if_neg (by rw [hna]; simp), hlb]
            refine wd_take 5 _ _ rfl (by kernel_rfl) hS (yd_no rfl (congrArg Value.bool hg56)) ?_
            refine wd_take 6 _ _ rfl (by kernel_rfl) hS (yd_no rfl (congrArg Value.bool hg56)) ?_
            refine wd_take 7 _ _ rfl (by kernel_rfl) hS (yd_no rfl (congrArg Value.bool hg56)) ?_
            refine wd_take 8 _ _ rfl (by kernel_rfl) hS (yd_no rfl (congrArg Value.bool hg56)) ?_
            refine wd_take 9 _ _ rfl (by kernel_rfl) hS (yd_no rfl (congrArg Value.bool hg56)) ?_
            refine wd_take 10 _ _ rfl (by kernel_rfl) hS (yd_no rfl (congrArg Value.bool hg56)) ?_
            refine wd_take 11 _ _ rfl (by kernel_rfl) hS (yd_no rfl (congrArg Value.bool hg56)) ?_
            refine wd_take 12 _ _ rfl (by kernel_rfl) hS (yd_no rfl (congrArg Value.bool hg56)) ?_
            refine wd_take 13 _ _ rfl (by kernel_rfl) hS (yd_no rfl (congrArg Value.bool hg56)) ?_
            refine wd_take 14 _ _ rfl (by kernel_rfl) hS (yd_do fun A hA => rn_pickF (congrArg Value.bool hg56) (by conv => lhs; whnf)) ?_
            refine wd_take 15 _ _ rfl (by kernel_rfl) hS (yd_do fun A hA => rn_move (by conv => lhs; whnf)) ?_
            refine wd_take 16 _ _ rfl (by kernel_rfl) hS (yd_no rfl rfl) ?_
            refine wd_take 17 _ _ rfl (by kernel_rfl) hS (yd_no rfl rfl) ?_
            refine wd_take 18 _ _ rfl (by kernel_rfl) hS (yd_no rfl rfl) ?_
            refine wd_take 19 _ _ rfl (by kernel_rfl) hS (yd_no rfl rfl) ?_
            refine wd_take 20 _ _ rfl (by kernel_rfl) hS (yd_no rfl rfl) ?_
            refine wd_take 21 _ _ rfl (by kernel_rfl) hS (yd_no rfl rfl) ?_
            refine wd_take 22 _ _ rfl (by kernel_rfl) hS (yd_no rfl rfl) ?_
            refine wd_take 23 _ _ rfl (by kernel_rfl) hS (yd_no rfl rfl) ?_
            refine wd_take 24 _ _ rfl (by kernel_rfl) hS (yd_no rfl rfl) ?_
            refine wd_take 25 _ _ rfl (by kernel_rfl) hS (yd_do fun A hA => rn_pickF rfl (by conv => lhs; whnf)) ?_
            refine wd_done (by kernel_rfl) ?_ _
            replace hX := hX.tr hS
            replace hS6 := hS6.ext hS (fun _ h => h)
            replace hS7 := hS7.ext hS (fun _ h => h)
            refine W_condF rfl ?_
            refine W_skip ?_
            refine W_seq ?_
            refine W_drawX (fun j => false) mixed ?_; intro w125 hE125
            replace hX := hX.tr hE125
            replace hS6 := hS6.ext hE125 (fun _ h => h)
            replace hS7 := hS7.ext hE125 (fun _ h => h)
            have hS := Ext.refl Non w125
            obtain ⟨n1, hn1⟩ : ∃ n, n = (World.heap w125).size := ⟨_, rfl⟩
            refine wx_take 1 [3, 4, 10, 14, 15] _ _ rfl (by kernel_rfl) hS (yd_do fun A hA => rn_move (by conv => lhs; whnf)) ?_
            refine wx_take 2 [3, 4, 10, 14, 15] _ _ rfl (by kernel_rfl) hS (yd_do fun A hA => rn_move (by conv => lhs; whnf)) ?_
            refine wx_take 3 [4, 10, 14, 15] _ _ rfl (by kernel_rfl) hS (yd_do fun A hA => rn_slice0 sl_22 (h := j) (m := c6) rfl rfl ⟨_, rfl⟩ rfl (by simp) (by omega) (by omega)) ?_
            refine wx_take 5 [7, 8, 9, 10, 14, 15] _ _ rfl (by kernel_rfl) hS (yd_do fun A hA => rn_move (by conv => lhs; whnf)) ?_
            refine wx_take 6 [7, 8, 9, 10, 14, 15] _ _ rfl (by kernel_rfl) hS (yd_do fun A hA => rn_move (by conv => lhs; whnf)) ?_
            refine wx_take 7 [8, 9, 10, 14, 15] _ _ rfl (by kernel_rfl) hS (yd_do fun A hA => rn_indexAddr sl_22 rfl rfl (by omega)) ?_
            refine wx_take 8 [9, 10, 14, 15] _ _ rfl (by kernel_rfl) hS (yd_do fun A hA => rn_load p_9 rfl (((hk.ext hX (fun _ h => h)).ext hA (fun _ h => h.elim)).at0 (eS_at hi) rfl)) ?_
            refine wx_take 11 [13, 14, 15] _ _ rfl (by kernel_rfl) hS (yd_do fun A hA => rn_move (by conv => lhs; whnf)) ?_
            refine wx_take 12 [13, 14, 15] _ _ rfl (by kernel_rfl) hS (yd_do fun A hA => rn_move (by conv => lhs; whnf)) ?_
            refine wx_take 13 [14, 15] _ _ rfl (by kernel_rfl) hS (yd_do fun A hA => rn_slice sl_22 (l := j) (h := D.length) (m := c6) rfl ⟨_, rfl⟩ rfl rfl (by simp) (by omega) (by omega) (by omega)) ?_
            refine wx_two 0 9 _ _ rfl rfl (by kernel_rfl) ?_ ?_
            · refine s1_do ?_
              refine wl_lit sl_22 (rows := []) rfl (by decide) (by decide) rfl rfl (by simp) (by simp) rfl ?_; intro v78 w126 b78 hb78 hE126 hO78
              have hm78 : n1 ≤ b78 := by have := hS.size; omega
              try have hd1 : b87 < b78 := Nat.lt_of_lt_of_le hO87.box.lt hb78
              replace hS := hS.tr hE126
              refine wl_nil ⟨fun _ => hS, ?_⟩
              refine wx_two 4 9 _ _ rfl rfl (by kernel_rfl) ?_ ?_
              · refine s1_do ?_
                have hsz82 := hS.size
                refine wl_app sl_22 rfl rfl rfl (show OwO _ _ (some b78) 1 [] from .inr ⟨b78, [], rfl, hO78⟩) ((hS6.ext hS (fun _ h => h)).cut0 (h := j) (m := c6) (by omega) (by omega) (by omega)) (fun r hr => eT_one D r (List.mem_of_mem_take hr)) (by simp only [List.length_map, List.length_append, List.length_take, List.length_drop, List.length_cons, List.length_nil]; omega) (by simp only [List.length_map, List.length_append, List.length_take, List.length_drop, List.length_cons, List.length_nil, big]; omega) ?_; intro v82 w127 o82 hE127 hO82 hf82
                obtain ⟨a82, c82, hv82⟩ := id hO82.len; subst hv82
                try have hdq : ∀ i, o82 = some i → i ≠ b87 := fun i hi e => by rcases hf82 i hi with h | h; cases h; omega; have := hO87.box.lt; omega
                try replace hO87 := hO87.ext hE127 (fun e => by cases e; omega)
                replace hS := hS.mineF hE127 (fun i hi => .inr (by cases hi; omega))
                have hm82 : ∀ i, o82 = some i → n1 ≤ i := fun i hi => by rcases hf82 i hi with h | h; cases h; omega; omega
                refine wl_nil ⟨fun _ => hS, ?_⟩
                refine wx_only 9 _ rfl (by kernel_rfl) ?_
                refine s1_do ?_
                refine wl_lit1 (r := eT1 (x, s)) sl_22 rfl rfl rfl rfl (by decide) ?_; intro v87 w128 b87 hb87 hE128 hO87
                have hm87 : n1 ≤ b87 := by have := hS.size; omega
                try have hd2 : b78 < b87 := Nat.lt_of_lt_of_le hO78.box.lt hb87
                try have hd3 : ∀ i, o82 = some i → i < b87 := fun i hi => Nat.lt_of_lt_of_le (hO82.lt hi) hb87
                replace hS := hS.tr hE128
                replace hO82 := hO82.ext hE128 (fun _ _ h => h)
                refine wl_nil ⟨fun _ => hS, ?_⟩
                refine wx_only 10 _ rfl (by kernel_rfl) ?_
                refine s1_do ?_
                have hsz88 := hS.size
                refine wl_app sl_22 rfl rfl rfl hO82 (hO87.sl (M := Non) id) (fun r hr => by simp only [List.mem_singleton] at hr; subst hr; exact one1 rfl) (by simp only [List.length_map, List.length_append, List.length_take, List.length_drop, List.length_cons, List.length_nil]; omega) (by simp only [List.length_map, List.length_append, List.length_take, List.length_drop, List.length_cons, List.length_nil, big]; omega) ?_; intro v88 w129 o88 hE129 hO88 hf88
                obtain ⟨a88, c88, hv88⟩ := id hO88.len; subst hv88
                replace hS := hS.mineF hE129 (fun i hi => .inr (by have := hm82 i hi; omega))
                have hm88 : ∀ i, o88 = some i → n1 ≤ i := fun i hi => by rcases hf88 i hi with h | h; exact hm82 i h; omega
                refine wl_nil ⟨fun _ => hS, ?_⟩
                refine wx_only 14 _ rfl (by kernel_rfl) ?_
                refine s1_do ?_
                refine wl_app sl_22 rfl rfl rfl hO88 ((hS6.ext hS (fun _ h => h)).cut (l := j) (h := D.length) (m := c6) (by omega) (by omega) (by omega) (by omega)) (fun r hr => eT_one D r (List.mem_of_mem_drop (List.mem_of_mem_take hr))) (by simp only [List.length_map, List.length_append, List.length_take, List.length_drop, List.length_cons, List.length_nil]; omega) (by simp only [List.length_map, List.length_append, List.length_take, List.length_drop, List.length_cons, List.length_nil, big]; omega) ?_; intro v92 w130 o92 hE130 hO92 hf92
                rw [ins_map] at hO92
                obtain ⟨a92, c92, hv92⟩ := id hO92.len; rw [List.length_map] at hv92; subst hv92
                replace hS := hS.mineF hE130 (fun i hi => .inr (by have := hm88 i hi; omega))
                have hN6 := hO92.sl (M := Non) (fun _ _ h => h)
                refine wl_nil ⟨fun _ => hS, ?_⟩
                refine wx_take 15 [] _ _ rfl (by kernel_rfl) hS (yd_do fun A hA => rn_assign (by conv => lhs; whnf)) ?_
                refine wx_done (by kernel_rfl) ?_ _
                replace hX := hX.tr hS
                replace hS6 := hS6.ext hS (fun _ h => h)
                replace hS7 := hS7.ext hS (fun _ h => h)
                refine W_drawX (fun j => false) mixed ?_; intro w131 hE131
                replace hX := hX.tr hE131
                replace hS6 := hS6.ext hE131 (fun _ h => h)
                replace hS7 := hS7.ext hE131 (fun _ h => h)
                replace hN6 := hN6.ext hE131 (fun _ h => h)
                have hS := Ext.refl Non w131
                obtain ⟨n1, hn1⟩ : ∃ n, n = (World.heap w131).size := ⟨_, rfl⟩
                refine wx_take 1 [3, 4, 10, 14, 15] _ _ rfl (by kernel_rfl) hS (yd_do fun A hA => rn_move (by conv => lhs; whnf)) ?_
                refine wx_take 2 [3, 4, 10, 14, 15] _ _ rfl (by kernel_rfl) hS (yd_do fun A hA => rn_move (by conv => lhs; whnf)) ?_
                refine wx_take 3 [4, 10, 14, 15] _ _ rfl (by kernel_rfl) hS (yd_do fun A hA => rn_slice0 sl_23 (h := j) (m := c7) rfl rfl ⟨_, rfl⟩ rfl (by simp) (by omega) (by omega)) ?_
                refine wx_take 5 [7, 8, 9, 10, 14, 15] _ _ rfl (by kernel_rfl) hS (yd_do fun A hA => rn_move (by conv => lhs; whnf)) ?_
                refine wx_take 6 [7, 8, 9, 10, 14, 15] _ _ rfl (by kernel_rfl) hS (yd_do fun A hA => rn_move (by conv => lhs; whnf)) ?_
                refine wx_take 7 [8, 9, 10, 14, 15] _ _ rfl (by kernel_rfl) hS (yd_do fun A hA => rn_indexAddr sl_23 rfl rfl (by omega)) ?_
                refine wx_take 8 [9, 10, 14, 15] _ _ rfl (by kernel_rfl) hS (yd_do fun A hA => rn_load p_3 rfl (((hv.ext hX (fun _ h => h)).ext hA (fun _ h => h.elim)).at0 (eI_at hj) rfl)) ?_
                refine wx_take 11 [13, 14, 15] _ _ rfl (by kernel_rfl) hS (yd_do fun A hA => rn_move (by conv => lhs; whnf)) ?_
                refine wx_take 12 [13, 14, 15] _ _ rfl (by kernel_rfl) hS (yd_do fun A hA => rn_move (by conv => lhs; whnf)) ?_
                refine wx_take 13 [14, 15] _ _ rfl (by kernel_rfl) hS (yd_do fun A hA => rn_slice sl_23 (l := j) (h := D.length) (m := c7) rfl ⟨_, rfl⟩ rfl rfl (by simp) (by omega) (by omega) (by omega)) ?_
                refine wx_two 0 9 _ _ rfl rfl (by kernel_rfl) ?_ ?_
                · refine s1_do ?_
                  refine wl_lit sl_23 (rows := []) rfl (by decide) (by decide) rfl rfl (by simp) (by simp) rfl ?_; intro v93 w132 b93 hb93 hE132 hO93
                  have hm93 : n1 ≤ b93 := by have := hS.size; omega
                  try have hd1 : b102 < b93 := Nat.lt_of_lt_of_le hO102.box.lt hb93
                  replace hS := hS.tr hE132
                  refine wl_nil ⟨fun _ => hS, ?_⟩
                  refine wx_two 4 9 _ _ rfl rfl (by kernel_rfl) ?_ ?_
                  · refine s1_do ?_
                    have hsz97 := hS.size
                    refine wl_app sl_23 rfl rfl rfl (show OwO _ _ (some b93) 1 [] from .inr ⟨b93, [], rfl, hO93⟩) ((hS7.ext hS (fun _ h => h)).cut0 (h := j) (m := c7) (by omega) (by omega) (by omega)) (fun r hr => eU_one D r (List.mem_of_mem_take hr)) (by simp only [List.length_map, List.length_append, List.length_take, List.length_drop, List.length_cons, List.length_nil]; omega) (by simp only [List.length_map, List.length_append, List.length_take, List.length_drop, List.length_cons, List.length_nil, big]; omega) ?_; intro v97 w133 o97 hE133 hO97 hf97
                    obtain ⟨a97, c97, hv97⟩ := id hO97.len; subst hv97
                    try have hdq : ∀ i, o97 = some i → i ≠ b102 := fun i hi e => by rcases hf97 i hi with h | h; cases h; omega; have := hO102.box.lt; omega
                    try replace hO102 := hO102.ext hE133 (fun e => by cases e; omega)
                    replace hS := hS.mineF hE133 (fun i hi => .inr (by cases hi; omega))
                    have hm97 : ∀ i, o97 = some i → n1 ≤ i := fun i hi => by rcases hf97 i hi with h | h; cases h; omega; omega
                    refine wl_nil ⟨fun _ => hS, ?_⟩
                    refine wx_only 9 _ rfl (by kernel_rfl) ?_
                    refine s1_do ?_
                    refine wl_lit1 (r := eU1 (x, s)) sl_23 rfl rfl rfl rfl (by decide) ?_; intro v102 w134 b102 hb102 hE134 hO102
                    have hm102 : n1 ≤ b102 := by have := hS.size; omega
                    try have hd2 : b93 < b102 := Nat.lt_of_lt_of_le hO93.box.lt hb102
                    try have hd3 : ∀ i, o97 = some i → i < b102 := fun i hi => Nat.lt_of_lt_of_le (hO97.lt hi) hb102
                    replace hS := hS.tr hE134
                    replace hO97 := hO97.ext hE134 (fun _ _ h => h)
                    refine wl_nil ⟨fun _ => hS, ?_⟩
                    refine wx_only 10 _ rfl (by kernel_rfl) ?_
                    refine s1_do ?_
                    have hsz103 := hS.size
                    refine wl_app sl_23 rfl rfl rfl hO97 (hO102.sl (M := Non) id) (fun r hr => by simp only [List.mem_singleton] at hr; subst hr; exact one1 rfl) (by simp only [List.length_map, List.length_append, List.length_take, List.length_drop, List.length_cons, List.length_nil]; omega) (by simp only [List.length_map, List.length_append, List.length_take, List.length_drop, List.length_cons, List.length_nil, big]; omega) ?_; intro v103 w135 o103 hE135 hO103 hf103
                    obtain ⟨a103, c103, hv103⟩ := id hO103.len; subst hv103
                    replace hS := hS.mineF hE135 (fun i hi => .inr (by have := hm97 i hi; omega))
                    have hm103 : ∀ i, o103 = some i → n1 ≤ i := fun i hi => by rcases hf103 i hi with h | h; exact hm97 i h; omega
                    refine wl_nil ⟨fun _ => hS, ?_⟩
                    refine wx_only 14 _ rfl (by kernel_rfl) ?_
                    refine s1_do ?_
                    refine wl_app sl_23 rfl rfl rfl hO103 ((hS7.ext hS (fun _ h => h)).cut (l := j) (h := D.length) (m := c7) (by omega) (by omega) (by omega) (by omega)) (fun r hr => eU_one D r (List.mem_of_mem_drop (List.mem_of_mem_take hr))) (by simp only [List.length_map, List.length_append, List.length_take, List.length_drop, List.length_cons, List.length_nil]; omega) (by simp only [List.length_map, List.length_append, List.length_take, List.length_drop, List.length_cons, List.length_nil, big]; omega) ?_; intro v107 w136 o107 hE136 hO107 hf107
                    rw [ins_map] at hO107
                    obtain ⟨a107, c107, hv107⟩ := id hO107.len; rw [List.length_map] at hv107; subst hv107
                    replace hS := hS.mineF hE136 (fun i hi => .inr (by have := hm103 i hi; omega))
                    have hN7 := hO107.sl (M := Non) (fun _ _ h => h)
                    refine wl_nil ⟨fun _ => hS, ?_⟩
                    refine wx_take 15 [] _ _ rfl (by kernel_rfl) hS (yd_do fun A hA => rn_assign (by conv => lhs; whnf)) ?_
                    refine wx_done (by kernel_rfl) ?_ _
                    replace hX := hX.tr hS
                    replace hS6 := hS6.ext hS (fun _ h => h)
                    replace hS7 := hS7.ext hS (fun _ h => h)
                    replace hN6 := hN6.ext hS (fun _ h => h)
                    refine W_region ?_
                    refine wl_val (rn_move (by conv => lhs; whnf)) ?_
                    refine wl_val (rn_add rfl rfl (by omega)) ?_
                    refine wl_val (rn_assign (by conv => lhs; whnf)) ?_
                    refine wl_nil ?_
                    exact ⟨rfl, (i + 1, D.take j ++ (x, s) :: D.drop j, _, _, _, _), ⟨rfl, rfl, rfl, rfl, rfl, trivial⟩, ⟨hX, ⟨hlt, hlt2, hD1.symm, hN6, hN7⟩⟩, by show ks.length - (i + 1) < ks.length - i; omega⟩
                  · refine s1_do ?_
                    refine wl_lit1 (r := eU1 (x, s)) sl_23 rfl rfl rfl rfl (by decide) ?_; intro v102 w137 b102 hb102 hE137 hO102
                    have hm102 : n1 ≤ b102 := by have := hS.size; omega
                    try have hd2 : b93 < b102 := Nat.lt_of_lt_of_le hO93.box.lt hb102
                    try have hd3 : ∀ i, o97 = some i → i < b102 := fun i hi => Nat.lt_of_lt_of_le (hO97.lt hi) hb102
                    replace hS := hS.tr hE137
                    replace hO93 := hO93.ext hE137 id
                    refine wl_nil ⟨fun _ => hS, ?_⟩
                    refine wx_only 4 _ rfl (by kernel_rfl) ?_
                    refine s1_do ?_
                    have hsz97 := hS.size
                    refine wl_app sl_23 rfl rfl rfl (show OwO _ _ (some b93) 1 [] from .inr ⟨b93, [], rfl, hO93⟩) ((hS7.ext hS (fun _ h => h)).cut0 (h := j) (m := c7) (by omega) (by omega) (by omega)) (fun r hr => eU_one D r (List.mem_of_mem_take hr)) (by simp only [List.length_map, List.length_append, List.length_take, List.length_drop, List.length_cons, List.length_nil]; omega) (by simp only [List.length_map, List.length_append, List.length_take, List.length_drop, List.length_cons, List.length_nil, big]; omega) ?_; intro v97 w138 o97 hE138 hO97 hf97
                    obtain ⟨a97, c97, hv97⟩ := id hO97.len; subst hv97
                    try have hdq : ∀ i, o97 = some i → i ≠ b102 := fun i hi e => by rcases hf97 i hi with h | h; cases h; omega; have := hO102.box.lt; omega
                    try replace hO102 := hO102.ext hE138 (fun e => by cases e; omega)
                    replace hS := hS.mineF hE138 (fun i hi => .inr (by cases hi; omega))
                    have hm97 : ∀ i, o97 = some i → n1 ≤ i := fun i hi => by rcases hf97 i hi with h | h; cases h; omega; omega
                    refine wl_nil ⟨fun _ => hS, ?_⟩
                    refine wx_only 10 _ rfl (by kernel_rfl) ?_
                    refine s1_do ?_
                    have hsz103 := hS.size
                    refine wl_app sl_23 rfl rfl rfl hO97 (hO102.sl (M := Non) id) (fun r hr => by simp only [List.mem_singleton] at hr; subst hr; exact one1 rfl) (by simp only [List.length_map, List.length_append, List.length_take, List.length_drop, List.length_cons, List.length_nil]; omega) (by simp only [List.length_map, List.length_append, List.length_take, List.length_drop, List.length_cons, List.length_nil, big]; omega) ?_; intro v103 w139 o103 hE139 hO103 hf103
                    obtain ⟨a103, c103, hv103⟩ := id hO103.len; subst hv103
                    replace hS := hS.mineF hE139 (fun i hi => .inr (by have := hm97 i hi; omega))
                    have hm103 : ∀ i, o103 = some i → n1 ≤ i := fun i hi => by rcases hf103 i hi with h | h; exact hm97 i h; omega
                    refine wl_nil ⟨fun _ => hS, ?_⟩
                    refine wx_only 14 _ rfl (by kernel_rfl) ?_
                    refine s1_do ?_
                    refine wl_app sl_23 rfl rfl rfl hO103 ((hS7.ext hS (fun _ h => h)).cut (l := j) (h := D.length) (m := c7) (by omega) (by omega) (by omega) (by omega)) (fun r hr => eU_one D r (List.mem_of_mem_drop (List.mem_of_mem_take hr))) (by simp only [List.length_map, List.length_append, List.length_take, List.length_drop, List.length_cons, List.length_nil]; omega) (by simp only [List.length_map, List.length_append, List.length_take, List.length_drop, List.length_cons, List.length_nil, big]; omega) ?_; intro v107 w140 o107 hE140 hO107 hf107
                    rw [ins_map] at hO107
                    obtain ⟨a107, c107, hv107⟩ := id hO107.len; rw [List.length_map] at hv107; subst hv107
                    replace hS := hS.mineF hE140 (fun i hi => .inr (by have := hm103 i hi; omega))
                    have hN7 := hO107.sl (M := Non) (fun _ _ h => h)
                    refine wl_nil ⟨fun _ => hS, ?_⟩
                    refine wx_take 15 [] _ _ rfl (by kernel_rfl) hS (yd_do fun A hA => rn_assign (by conv => lhs; whnf)) ?_
                    refine wx_done (by kernel_rfl) ?_ _
                    replace hX := hX.tr hS
                    replace hS6 := hS6.ext hS (fun _ h => h)
                    replace hS7 := hS7.ext hS (fun _ h => h)
                    replace hN6 := hN6.ext hS (fun _ h => h)
                    refine W_region ?_
                    refine wl_val (rn_move (by conv => lhs; whnf)) ?_
                    refine wl_val (rn_add rfl rfl (by omega)) ?_
                    refine wl_val (rn_assign (by conv => lhs; whnf)) ?_
                    refine wl_nil ?_
                    exact ⟨rfl, (i + 1, D.take j ++ (x, s) :: D.drop j, _, _, _, _), ⟨rfl, rfl, rfl, rfl, rfl, trivial⟩, ⟨hX, ⟨hlt, hlt2, hD1.symm, hN6, hN7⟩⟩, by show ks.length - (i + 1) < ks.length - i; omega⟩
                · refine s1_do ?_
                  refine wl_lit1 (r := eU1 (x, s)) sl_23 rfl rfl rfl rfl (by decide) ?_; intro v102 w141 b102 hb102 hE141 hO102
                  have hm102 : n1 ≤ b102 := by have := hS.size; omega
                  try have hd2 : b93 < b102 := Nat.lt_of_lt_of_le hO93.box.lt hb102
                  try have hd3 : ∀ i, o97 = some i → i < b102 := fun i hi => Nat.lt_of_lt_of_le (hO97.lt hi) hb102
                  replace hS := hS.tr hE141
                  refine wl_nil ⟨fun _ => hS, ?_⟩
                  refine wx_only 0 _ rfl (by kernel_rfl) ?_
                  refine s1_do ?_
                  refine wl_lit sl_23 (rows := []) rfl (by decide) (by decide) rfl rfl (by simp) (by simp) rfl ?_; intro v93 w142 b93 hb93 hE142 hO93
                  have hm93 : n1 ≤ b93 := by have := hS.size; omega
                  try have hd1 : b102 < b93 := Nat.lt_of_lt_of_le hO102.box.lt hb93
                  replace hS := hS.tr hE142
                  replace hO102 := hO102.ext hE142 id
                  refine wl_nil ⟨fun _ => hS, ?_⟩
                  refine wx_only 4 _ rfl (by kernel_rfl) ?_
                  refine s1_do ?_
                  have hsz97 := hS.size
                  refine wl_app sl_23 rfl rfl rfl (show OwO _ _ (some b93) 1 [] from .inr ⟨b93, [], rfl, hO93⟩) ((hS7.ext hS (fun _ h => h)).cut0 (h := j) (m := c7) (by omega) (by omega) (by omega)) (fun r hr => eU_one D r (List.mem_of_mem_take hr)) (by simp only [List.length_map, List.length_append, List.length_take, List.length_drop, List.length_cons, List.length_nil]; omega) (by simp only [List.length_map, List.length_append, List.length_take, List.length_drop, List.length_cons, List.length_nil, big]; omega) ?_; intro v97 w143 o97 hE143 hO97 hf97
                  obtain ⟨a97, c97, hv97⟩ := id hO97.len; subst hv97
                  try have hdq : ∀ i, o97 = some i → i ≠ b102 := fun i hi e => by rcases hf97 i hi with h | h; cases h; omega; have := hO102.box.lt; omega
                  try replace hO102 := hO102.ext hE143 (fun e => by cases e; omega)
                  replace hS := hS.mineF hE143 (fun i hi => .inr (by cases hi; omega))
                  have hm97 : ∀ i, o97 = some i → n1 ≤ i := fun i hi => by rcases hf97 i hi with h | h; cases h; omega; omega
                  refine wl_nil ⟨fun _ => hS, ?_⟩
                  refine wx_only 10 _ rfl (by kernel_rfl) ?_
                  refine s1_do ?_
                  have hsz103 := hS.size
                  refine wl_app sl_23 rfl rfl rfl hO97 (hO102.sl (M := Non) id) (fun r hr => by simp only [List.mem_singleton] at hr; subst hr; exact one1 rfl) (by simp only [List.length_map, List.length_append, List.length_take, List.length_drop, List.length_cons, List.length_nil]; omega) (by simp only [List.length_map, List.length_append, List.length_take, List.length_drop, List.length_cons, List.length_nil, big]; omega) ?_; intro v103 w144 o103 hE144 hO103 hf103
                  obtain ⟨a103, c103, hv103⟩ := id hO103.len; subst hv103
                  replace hS := hS.mineF hE144 (fun i hi => .inr (by have := hm97 i hi; omega))
                  have hm103 : ∀ i, o103 = some i → n1 ≤ i := fun i hi => by rcases hf103 i hi with h | h; exact hm97 i h; omega
                  refine wl_nil ⟨fun _ => hS, ?_⟩
                  refine wx_only 14 _ rfl (by kernel_rfl) ?_
                  refine s1_do ?_
                  refine wl_app sl_23 rfl rfl rfl hO103 ((hS7.ext hS (fun _ h => h)).cut (l := j) (h := D.length) (m := c7) (by omega) (by omega) (by omega) (by omega)) (fun r hr => eU_one D r (List.mem_of_mem_drop (List.mem_of_mem_take hr))) (by simp only [List.length_map, List.length_append, List.length_take, List.length_drop, List.length_cons, List.length_nil]; omega) (by simp only [List.length_map, List.length_append, List.length_take, List.length_drop, List.length_cons, List.length_nil, big]; omega) ?_; intro v107 w145 o107 hE145 hO107 hf107
                  rw [ins_map] at hO107
                  obtain ⟨a107, c107, hv107⟩ := id hO107.len; rw [List.length_map] at hv107; subst hv107
                  replace hS := hS.mineF hE145 (fun i hi => .inr (by have := hm103 i hi; omega))
                  have hN7 := hO107.sl (M := Non) (fun _ _ h => h)
                  refine wl_nil ⟨fun _ => hS, ?_⟩
                  refine wx_take 15 [] _ _ rfl (by kernel_rfl) hS (yd_do fun A hA => rn_assign (by conv => lhs; whnf)) ?_
                  refine wx_done (by kernel_rfl) ?_ _
                  replace hX := hX.tr hS
                  replace hS6 := hS6.ext hS (fun _ h => h)
                  replace hS7 := hS7.ext hS (fun _ h => h)
                  replace hN6 := hN6.ext hS (fun _ h => h)
                  refine W_region ?_
                  refine wl_val (rn_move (by conv => lhs; whnf)) ?_
                  refine wl_val (rn_add rfl rfl (by omega)) ?_
                  refine wl_val (rn_assign (by conv => lhs; whnf)) ?_
                  refine wl_nil ?_
                  exact ⟨rfl, (i + 1, D.take j ++ (x, s) :: D.drop j, _, _, _, _), ⟨rfl, rfl, rfl, rfl, rfl, trivial⟩, ⟨hX, ⟨hlt, hlt2, hD1.symm, hN6, hN7⟩⟩, by show ks.length - (i + 1) < ks.length - i; omega⟩
              · refine s1_do ?_
                refine wl_lit1 (r := eT1 (x, s)) sl_22 rfl rfl rfl rfl (by decide) ?_; intro v87 w146 b87 hb87 hE146 hO87
                have hm87 : n1 ≤ b87 := by have := hS.size; omega
                try have hd2 : b78 < b87 := Nat.lt_of_lt_of_le hO78.box.lt hb87
                try have hd3 : ∀ i, o82 = some i → i < b87 := fun i hi => Nat.lt_of_lt_of_le (hO82.lt hi) hb87
                replace hS := hS.tr hE146
                replace hO78 := hO78.ext hE146 id
                refine wl_nil ⟨fun _ => hS, ?_⟩
                refine wx_only 4 _ rfl (by kernel_rfl) ?_
                refine s1_do ?_
                have hsz82 := hS.size
                refine wl_app sl_22 rfl rfl rfl (show OwO _ _ (some b78) 1 [] from .inr ⟨b78, [], rfl, hO78⟩) ((hS6.ext hS (fun _ h => h)).cut0 (h := j) (m := c6) (by omega) (by omega) (by omega)) (fun r hr => eT_one D r (List.mem_of_mem_take hr)) (by simp only [List.length_map, List.length_append, List.length_take, List.length_drop, List.length_cons, List.length_nil]; omega) (by simp only [List.length_map, List.length_append, List.length_take, List.length_drop, List.length_cons, List.length_nil, big]; omega) ?_; intro v82 w147 o82 hE147 hO82 hf82
                obtain ⟨a82, c82, hv82⟩ := id hO82.len; subst hv82
                try have hdq : ∀ i, o82 = some i → i ≠ b87 := fun i hi e => by rcases hf82 i hi with h | h; cases h; omega; have := hO87.box.lt; omega
                try replace hO87 := hO87.ext hE147 (fun e => by cases e; omega)
                replace hS := hS.mineF hE147 (fun i hi => .inr (by cases hi; omega))
                have hm82 : ∀ i, o82 = some i → n1 ≤ i := fun i hi => by rcases hf82 i hi with h | h; cases h; omega; omega
                refine wl_nil ⟨fun _ => hS, ?_⟩
                refine wx_only 10 _ rfl (by kernel_rfl) ?_
                refine s1_do ?_
                have hsz88 := hS.size
                refine wl_app sl_22 rfl rfl rfl hO82 (hO87.sl (M := Non) id) (fun r hr => by simp only [List.mem_singleton] at hr; subst hr; exact one1 rfl) (by simp only [List.length_map, List.length_append, List.length_take, List.length_drop, List.length_cons, List.length_nil]; omega) (by simp only [List.length_map, List.length_append, List.length_take, List.length_drop, List.length_cons, List.length_nil, big]; omega) ?_; intro v88 w148 o88 hE148 hO88 hf88
                obtain ⟨a88, c88, hv88⟩ := id hO88.len; subst hv88
                replace hS := hS.mineF hE148 (fun i hi => .inr (by have := hm82 i hi; omega))
                have hm88 : ∀ i, o88 = some i → n1 ≤ i := fun i hi => by rcases hf88 i hi with h | h; exact hm82 i h; omega
                refine wl_nil ⟨fun _ => hS, ?_⟩
                refine wx_only 14 _ rfl (by kernel_rfl) ?_
                refine s1_do ?_
                refine wl_app sl_22 rfl rfl rfl hO88 ((hS6.ext hS (fun _ h => h)).cut (l := j) (h := D.length) (m := c6) (by omega) (by omega) (by omega) (by omega)) (fun r hr => eT_one D r (List.mem_of_mem_drop (List.mem_of_mem_take hr))) (by simp only [List.length_map, List.length_append, List.length_take, List.length_drop, List.length_cons, List.length_nil]; omega) (by simp only [List.length_map, List.length_append, List.length_take, List.length_drop, List.length_cons, List.length_nil, big]; omega) ?_; intro v92 w149 o92 hE149 hO92 hf92
                rw [ins_map] at hO92
                obtain ⟨a92, c92, hv92⟩ := id hO92.len; rw [List.length_map] at hv92; subst hv92
                replace hS := hS.mineF hE149 (fun i hi => .inr (by have := hm88 i hi; omega))
                have hN6 := hO92.sl (M := Non) (fun _ _ h => h)
                refine wl_nil ⟨fun _ => hS, ?_⟩
                refine wx_take 15 [] _ _ rfl (by kernel_rfl) hS (yd_do fun A hA => rn_assign (by conv => lhs; whnf)) ?_
                refine wx_done (by kernel_rfl) ?_ _
                replace hX := hX.tr hS
                replace hS6 := hS6.ext hS (fun _ h => h)
                replace hS7 := hS7.ext hS (fun _ h => h)
                refine W_drawX (fun j => false) mixed ?_; intro w150 hE150
                replace hX := hX.tr hE150
                replace hS6 := hS6.ext hE150 (fun _ h => h)
                replace hS7 := hS7.ext hE150 (fun _ h => h)
                replace hN6 := hN6.ext hE150 (fun _ h => h)
                have hS := Ext.refl Non w150
                obtain ⟨n1, hn1⟩ : ∃ n, n = (World.heap w150).size := ⟨_, rfl⟩
                refine wx_take 1 [3, 4, 10, 14, 15] _ _ rfl (by kernel_rfl) hS (yd_do fun A hA => rn_move (by conv => lhs; whnf)) ?_
                refine wx_take 2 [3, 4, 10, 14, 15] _ _ rfl (by kernel_rfl) hS (yd_do fun A hA => rn_move (by conv => lhs; whnf)) ?_
                refine wx_take 3 [4, 10, 14, 15] _ _ rfl (by kernel_rfl) hS (yd_do fun A hA => rn_slice0 sl_23 (h := j) (m := c7) rfl rfl ⟨_, rfl⟩ rfl (by simp) (by omega) (by omega)) ?_
                refine wx_take 5 [7, 8, 9, 10, 14, 15] _ _ rfl (by kernel_rfl) hS (yd_do fun A hA => rn_move (by conv => lhs; whnf)) ?_
                refine wx_take 6 [7, 8, 9, 10, 14, 15] _ _ rfl (by kernel_rfl) hS (yd_do fun A hA => rn_move (by conv => lhs; whnf)) ?_
                refine wx_take 7 [8, 9, 10, 14, 15] _ _ rfl (by kernel_rfl) hS (yd_do fun A hA => rn_indexAddr sl_23 rfl rfl (by omega)) ?_
                refine wx_take 8 [9, 10, 14, 15] _ _ rfl (by kernel_rfl) hS (yd_do fun A hA => rn_load p_3 rfl (((hv.ext hX (fun _ h => h)).ext hA (fun _ h => h.elim)).at0 (eI_at hj) rfl)) ?_
                refine wx_take 11 [13, 14, 15] _ _ rfl (by kernel_rfl) hS (yd_do fun A hA => rn_move (by conv => lhs; whnf)) ?_
                refine wx_take 12 [13, 14, 15] _ _ rfl (by kernel_rfl) hS (yd_do fun A hA => rn_move (by conv => lhs; whnf)) ?_
                refine wx_take 13 [14, 15] _ _ rfl (by kernel_rfl) hS (yd_do fun A hA => rn_slice sl_23 (l := j) (h := D.length) (m := c7) rfl ⟨_, rfl⟩ rfl rfl (by simp) (by omega) (by omega) (by omega)) ?_
                refine wx_two 0 9 _ _ rfl rfl (by kernel_rfl) ?_ ?_
                · refine s1_do ?_
                  refine wl_lit sl_23 (rows := []) rfl (by decide) (by decide) rfl rfl (by simp) (by simp) rfl ?_; intro v93 w151 b93 hb93 hE151 hO93
                  have hm93 : n1 ≤ b93 := by have := hS.size; omega
                  try have hd1 : b102 < b93 := Nat.lt_of_lt_of_le hO102.box.lt hb93
                  replace hS := hS.tr hE151
                  refine wl_nil ⟨fun _ => hS, ?_⟩
                  refine wx_two 4 9 _ _ rfl rfl (by kernel_rfl) ?_ ?_
                  · refine s1_do ?_
                    have hsz97 := hS.size
                    refine wl_app sl_23 rfl rfl rfl (show OwO _ _ (some b93) 1 [] from .inr ⟨b93, [], rfl, hO93⟩) ((hS7.ext hS (fun _ h => h)).cut0 (h := j) (m := c7) (by omega) (by omega) (by omega)) (fun r hr => eU_one D r (List.mem_of_mem_take hr)) (by simp only [List.length_map, List.length_append, List.length_take, List.length_drop, List.length_cons, List.length_nil]; omega) (by simp only [List.length_map, List.length_append, List.length_take, List.length_drop, List.length_cons, List.length_nil, big]; omega) ?_; intro v97 w152 o97 hE152 hO97 hf97
                    obtain ⟨a97, c97, hv97⟩ := id hO97.len; subst hv97
                    try have hdq : ∀ i, o97 = some i → i ≠ b102 := fun i hi e => by rcases hf97 i hi with h | h; cases h; omega; have := hO102.box.lt; omega
                    try replace hO102 := hO102.ext hE152 (fun e => by cases e; omega)
                    replace hS := hS.mineF hE152 (fun i hi => .inr (by cases hi; omega))
                    have hm97 : ∀ i, o97 = some i → n1 ≤ i := fun i hi => by rcases hf97 i hi with h | h; cases h; omega; omega
                    refine wl_nil ⟨fun _ => hS, ?_⟩
                    refine wx_only 9 _ rfl (by kernel_rfl) ?_
                    refine s1_do ?_
                    refine wl_lit1 (r := eU1 (x, s)) sl_23 rfl rfl rfl rfl (by decide) ?_; intro v102 w153 b102 hb102 hE153 hO102
                    have hm102 : n1 ≤ b102 := by have := hS.size; omega
                    try have hd2 : b93 < b102 := Nat.lt_of_lt_of_le hO93.box.lt hb102
                    try have hd3 : ∀ i, o97 = some i → i < b102 := fun i hi => Nat.lt_of_lt_of_le (hO97.lt hi) hb102
                    replace hS := hS.tr hE153
                    replace hO97 := hO97.ext hE153 (fun _ _ h => h)
                    refine wl_nil ⟨fun _ => hS, ?_⟩
                    refine wx_only 10 _ rfl (by kernel_rfl) ?_
                    refine s1_do ?_
                    have hsz103 := hS.size
                    refine wl_app sl_23 rfl rfl rfl hO97 (hO102.sl (M := Non) id) (fun r hr => by simp only [List.mem_singleton] at hr; subst hr; exact one1 rfl) (by simp only [List.length_map, List.length_append, List.length_take, List.length_drop, List.length_cons, List.length_nil]; omega) (by simp only [List.length_map, List.length_append, List.length_take, List.length_drop, List.length_cons, List.length_nil, big]; omega) ?_; intro v103 w154 o103 hE154 hO103 hf103
                    obtain ⟨a103, c103, hv103⟩ := id hO103.len; subst hv103
                    replace hS := hS.mineF hE154 (fun i hi => .inr (by have := hm97 i hi; omega))
                    have hm103 : ∀ i, o103 = some i → n1 ≤ i := fun i hi => by rcases hf103 i hi with h | h; exact hm97 i h; omega
                    refine wl_nil ⟨fun _ => hS, ?_⟩
                    refine wx_only 14 _ rfl (by kernel_rfl) ?_
                    refine s1_do ?_
                    refine wl_app sl_23 rfl rfl rfl hO103 ((hS7.ext hS (fun _ h => h)).cut (l := j) (h := D.length) (m := c7) (by omega) (by omega) (by omega) (by omega)) (fun r hr => eU_one D r (List.mem_of_mem_drop (List.mem_of_mem_take hr))) (by simp only [List.length_map, List.length_append, List.length_take, List.length_drop, List.length_cons, List.length_nil]; omega) (by simp only [List.length_map, List.length_append, List.length_take, List.length_drop, List.length_cons, List.length_nil, big]; omega) ?_; intro v107 w155 o107 hE155 hO107 hf107
                    rw [ins_map] at hO107
                    obtain ⟨a107, c107, hv107⟩ := id hO107.len; rw [List.length_map] at hv107; subst hv107
                    replace hS := hS.mineF hE155 (fun i hi => .inr (by have := hm103 i hi; omega))
                    have hN7 := hO107.sl (M := Non) (fun _ _ h => h)
                    refine wl_nil ⟨fun _ => hS, ?_⟩
                    refine wx_take 15 [] _ _ rfl (by kernel_rfl) hS (yd_do fun A hA => rn_assign (by conv => lhs; whnf)) ?_
                    refine wx_done (by kernel_rfl) ?_ _
                    replace hX := hX.tr hS
                    replace hS6 := hS6.ext hS (fun _ h => h)
                    replace hS7 := hS7.ext hS (fun _ h => h)
                    replace hN6 := hN6.ext hS (fun _ h => h)
                    refine W_region ?_
                    refine wl_val (rn_move (by conv => lhs; whnf)) ?_
                    refine wl_val (rn_add rfl rfl (by omega)) ?_
                    refine wl_val (rn_assign (by conv => lhs; whnf)) ?_
                    refine wl_nil ?_
                    exact ⟨rfl, (i + 1, D.take j ++ (x, s) :: D.drop j, _, _, _, _), ⟨rfl, rfl, rfl, rfl, rfl, trivial⟩, ⟨hX, ⟨hlt, hlt2, hD1.symm, hN6, hN7⟩⟩, by show ks.length - (i + 1) < ks.length - i; omega⟩
                  · refine s1_do ?_
                    refine wl_lit1 (r := eU1 (x, s)) sl_23 rfl rfl rfl rfl (by decide) ?_; intro v102 w156 b102 hb102 hE156 hO102
                    have hm102 : n1 ≤ b102 := by have := hS.size; omega
                    try have hd2 : b93 < b102 := Nat.lt_of_lt_of_le hO93.box.lt hb102
                    try have hd3 : ∀ i, o97 = some i → i < b102 := fun i hi => Nat.lt_of_lt_of_le (hO97.lt hi) hb102
                    replace hS := hS.tr hE156
                    replace hO93 := hO93.ext hE156 id
                    refine wl_nil ⟨fun _ => hS, ?_⟩
                    refine wx_only 4 _ rfl (by kernel_rfl) ?_
                    refine s1_do ?_
                    have hsz97 := hS.size
                    refine wl_app sl_23 rfl rfl rfl (show OwO _ _ (some b93) 1 [] from .inr ⟨b93, [], rfl, hO93⟩) ((hS7.ext hS (fun _ h => h)).cut0 (h := j) (m := c7) (by omega) (by omega) (by omega)) (fun r hr => eU_one D r (List.mem_of_mem_take hr)) (by simp only [List.length_map, List.length_append, List.length_take, List.length_drop, List.length_cons, List.length_nil]; omega) (by simp only [List.length_map, List.length_append, List.length_take, List.length_drop, List.length_cons, List.length_nil, big]; omega) ?_; intro v97 w157 o97 hE157 hO97 hf97
                    obtain ⟨a97, c97, hv97⟩ := id hO97.len; subst hv97
                    try have hdq : ∀ i, o97 = some i → i ≠ b102 := fun i hi e => by rcases hf97 i hi with h | h; cases h; omega; have := hO102.box.lt; omega
                    try replace hO102 := hO102.ext hE157 (fun e => by cases e; omega)
                    replace hS := hS.mineF hE157 (fun i hi => .inr (by cases hi; omega))
                    have hm97 : ∀ i, o97 = some i → n1 ≤ i := fun i hi => by rcases hf97 i hi with h | h; cases h; omega; omega
                    refine wl_nil ⟨fun _ => hS, ?_⟩
                    refine wx_only 10 _ rfl (by kernel_rfl) ?_
                    refine s1_do ?_
                    have hsz103 := hS.size
                    refine wl_app sl_23 rfl rfl rfl hO97 (hO102.sl (M := Non) id) (fun r hr => by simp only [List.mem_singleton] at hr; subst hr; exact one1 rfl) (by simp only [List.length_map, List.length_append, List.length_take, List.length_drop, List.length_cons, List.length_nil]; omega) (by simp only [List.length_map, List.length_append, List.length_take, List.length_drop, List.length_cons, List.length_nil, big]; omega) ?_; intro v103 w158 o103 hE158 hO103 hf103
                    obtain ⟨a103, c103, hv103⟩ := id hO103.len; subst hv103
                    replace hS := hS.mineF hE158 (fun i hi => .inr (by have := hm97 i hi; omega))
                    have hm103 : ∀ i, o103 = some i → n1 ≤ i := fun i hi => by rcases hf103 i hi with h | h; exact hm97 i h; omega
                    refine wl_nil ⟨fun _ => hS, ?_⟩
                    refine wx_only 14 _ rfl (by kernel_rfl) ?_
                    refine s1_do ?_
                    refine wl_app sl_23 rfl rfl rfl hO103 ((hS7.ext hS (fun _ h => h)).cut (l := j) (h := D.length) (m := c7) (by omega) (by omega) (by omega) (by omega)) (fun r hr => eU_one D r (List.mem_of_mem_drop (List.mem_of_mem_take hr))) (by simp only [List.length_map, List.length_append, List.length_take, List.length_drop, List.length_cons, List.length_nil]; omega) (by simp only [List.length_map, List.length_append, List.length_take, List.length_drop, List.length_cons, List.length_nil, big]; omega) ?_; intro v107 w159 o107 hE159 hO107 hf107
                    rw [ins_map] at hO107
                    obtain ⟨a107, c107, hv107⟩ := id hO107.len; rw [List.length_map] at hv107; subst hv107
                    replace hS := hS.mineF hE159 (fun i hi => .inr (by have := hm103 i hi; omega))
                    have hN7 := hO107.sl (M := Non) (fun _ _ h => h)
                    refine wl_nil ⟨fun _ => hS, ?_⟩
                    refine wx_take 15 [] _ _ rfl (by kernel_rfl) hS (yd_do fun A hA => rn_assign (by conv => lhs; whnf)) ?_
                    refine wx_done (by kernel_rfl) ?_ _
                    replace hX := hX.tr hS
                    replace hS6 := hS6.ext hS (fun _ h => h)
                    replace hS7 := hS7.ext hS (fun _ h => h)
                    replace hN6 := hN6.ext hS (fun _ h => h)
                    refine W_region ?_
                    refine wl_val (rn_move (by conv => lhs; whnf)) ?_
                    refine wl_val (rn_add rfl rfl (by omega)) ?_
                    refine wl_val (rn_assign (by conv => lhs; whnf)) ?_
                    refine wl_nil ?_
                    exact ⟨rfl, (i + 1, D.take j ++ (x, s) :: D.drop j, _, _, _, _), ⟨rfl, rfl, rfl, rfl, rfl, trivial⟩, ⟨hX, ⟨hlt, hlt2, hD1.symm, hN6, hN7⟩⟩, by show ks.length - (i + 1) < ks.length - i; omega⟩
                · refine s1_do ?_
                  refine wl_lit1 (r := eU1 (x, s)) sl_23 rfl rfl rfl rfl (by decide) ?_; intro v102 w160 b102 hb102 hE160 hO102
                  have hm102 : n1 ≤ b102 := by have := hS.size; omega
                  try have hd2 : b93 < b102 := Nat.lt_of_lt_of_le hO93.box.lt hb102
                  try have hd3 : ∀ i, o97 = some i → i < b102 := fun i hi => Nat.lt_of_lt_of_le (hO97.lt hi) hb102
                  replace hS := hS.tr hE160
                  refine wl_nil ⟨fun _ => hS, ?_⟩
                  refine wx_only 0 _ rfl (by kernel_rfl) ?_
                  refine s1_do ?_
                  refine wl_lit sl_23 (rows := []) rfl (by decide) (by decide) rfl rfl (by simp) (by simp) rfl ?_; intro v93 w161 b93 hb93 hE161 hO93
                  have hm93 : n1 ≤ b93 := by have := hS.size; omega
                  try have hd1 : b102 < b93 := Nat.lt_of_lt_of_le hO102.box.lt hb93
                  replace hS := hS.tr hE161
                  replace hO102 := hO102.ext hE161 id
                  refine wl_nil ⟨fun _ => hS, ?_⟩
                  refine wx_only 4 _ rfl (by kernel_rfl) ?_
                  refine s1_do ?_
                  have hsz97 := hS.size
                  refine wl_app sl_23 rfl rfl rfl (show OwO _ _ (some b93) 1 [] from .inr ⟨b93, [], rfl, hO93⟩) ((hS7.ext hS (fun _ h => h)).cut0 (h := j) (m := c7) (by omega) (by omega) (by omega)) (fun r hr => eU_one D r (List.mem_of_mem_take hr)) (by simp only [List.length_map, List.length_append, List.length_take, List.length_drop, List.length_cons, List.length_nil]; omega) (by simp only [List.length_map, List.length_append, List.length_take, List.length_drop, List.length_cons, List.length_nil, big]; omega) ?_; intro v97 w162 o97 hE162 hO97 hf97
                  obtain ⟨a97, c97, hv97⟩ := id hO97.len; subst hv97
                  try have hdq : ∀ i, o97 = some i → i ≠ b102 := fun i hi e => by rcases hf97 i hi with h | h; cases h; omega; have := hO102.box.lt; omega
                  try replace hO102 := hO102.ext hE162 (fun e => by cases e; omega)
                  replace hS := hS.mineF hE162 (fun i hi => .inr (by cases hi; omega))
                  have hm97 : ∀ i, o97 = some i → n1 ≤ i := fun i hi => by rcases hf97 i hi with h | h; cases h; omega; omega
                  refine wl_nil ⟨fun _ => hS, ?_⟩
                  refine wx_only 10 _ rfl (by kernel_rfl) ?_
                  refine s1_do ?_
                  have hsz103 := hS.size
                  refine wl_app sl_23 rfl rfl rfl hO97 (hO102.sl (M := Non) id) (fun r hr => by simp only [List.mem_singleton] at hr; subst hr; exact one1 rfl) (by simp only [List.length_map, List.length_append, List.length_take, List.length_drop, List.length_cons, List.length_nil]; omega) (by simp only [List.length_map, List.length_append, List.length_take, List.length_drop, List.length_cons, List.length_nil, big]; omega) ?_; intro v103 w163 o103 hE163 hO103 hf103
                  obtain ⟨a103, c103, hv103⟩ := id hO103.len; subst hv103
                  replace hS := hS.mineF hE163 (fun i hi => .inr (by have := hm97 i hi; omega))
                  have hm103 : ∀ i, o103 = some i → n1 ≤ i := fun i hi => by rcases hf103 i hi with h | h; exact hm97 i h; omega
                  refine wl_nil ⟨fun _ => hS, ?_⟩
                  refine wx_only 14 _ rfl (by kernel_rfl) ?_
                  refine s1_do ?_
                  refine wl_app sl_23 rfl rfl rfl hO103 ((hS7.ext hS (fun _ h => h)).cut (l := j) (h := D.length) (m := c7) (by omega) (by omega) (by omega) (by omega)) (fun r hr => eU_one D r (List.mem_of_mem_drop (List.mem_of_mem_take hr))) (by simp only [List.length_map, List.length_append, List.length_take, List.length_drop, List.length_cons, List.length_nil]; omega) (by simp only [List.length_map, List.length_append, List.length_take, List.length_drop, List.length_cons, List.length_nil, big]; omega) ?_; intro v107 w164 o107 hE164 hO107 hf107
                  rw [ins_map] at hO107
                  obtain ⟨a107, c107, hv107⟩ := id hO107.len; rw [List.length_map] at hv107; subst hv107
                  replace hS := hS.mineF hE164 (fun i hi => .inr (by have := hm103 i hi; omega))
                  have hN7 := hO107.sl (M := Non) (fun _ _ h => h)
                  refine wl_nil ⟨fun _ => hS, ?_⟩
                  refine wx_take 15 [] _ _ rfl (by kernel_rfl) hS (yd_do fun A hA => rn_assign (by conv => lhs; whnf)) ?_
                  refine wx_done (by kernel_rfl) ?_ _
                  replace hX := hX.tr hS
                  replace hS6 := hS6.ext hS (fun _ h => h)
                  replace hS7 := hS7.ext hS (fun _ h => h)
                  replace hN6 := hN6.ext hS (fun _ h => h)
                  refine W_region ?_
                  refine wl_val (rn_move (by conv => lhs; whnf)) ?_
                  refine wl_val (rn_add rfl rfl (by omega)) ?_
                  refine wl_val (rn_assign (by conv => lhs; whnf)) ?_
                  refine wl_nil ?_
                  exact ⟨rfl, (i + 1, D.take j ++ (x, s) :: D.drop j, _, _, _, _), ⟨rfl, rfl, rfl, rfl, rfl, trivial⟩, ⟨hX, ⟨hlt, hlt2, hD1.symm, hN6, hN7⟩⟩, by show ks.length - (i + 1) < ks.length - i; omega⟩
            · refine s1_do ?_
              refine wl_lit1 (r := eT1 (x, s)) sl_22 rfl rfl rfl rfl (by decide) ?_; intro v87 w165 b87 hb87 hE165 hO87
              have hm87 : n1 ≤ b87 := by have := hS.size; omega
              try have hd2 : b78 < b87 := Nat.lt_of_lt_of_le hO78.box.lt hb87
              try have hd3 : ∀ i, o82 = some i → i < b87 := fun i hi => Nat.lt_of_lt_of_le (hO82.lt hi) hb87
              replace hS := hS.tr hE165
              refine wl_nil ⟨fun _ => hS, ?_⟩
              refine wx_only 0 _ rfl (by kernel_rfl) ?_
              refine s1_do ?_
              refine wl_lit sl_22 (rows := []) rfl (by decide) (by decide) rfl rfl (by simp) (by simp) rfl ?_; intro v78 w166 b78 hb78 hE166 hO78
              have hm78 : n1 ≤ b78 := by have := hS.size; omega
              try have hd1 : b87 < b78 := Nat.lt_of_lt_of_le hO87.box.lt hb78
              replace hS := hS.tr hE166
              replace hO87 := hO87.ext hE166 id
              refine wl_nil ⟨fun _ => hS, ?_⟩
              refine wx_only 4 _ rfl (by kernel_rfl) ?_
              refine s1_do ?_
              have hsz82 := hS.size
              refine wl_app sl_22 rfl rfl rfl (show OwO _ _ (some b78) 1 [] from .inr ⟨b78, [], rfl, hO78⟩) ((hS6.ext hS (fun _ h => h)).cut0 (h := j) (m := c6) (by omega) (by omega) (by omega)) (fun r hr => eT_one D r (List.mem_of_mem_take hr)) (by simp only [List.length_map, List.length_append, List.length_take, List.length_drop, List.length_cons, List.length_nil]; omega) (by simp only [List.length_map, List.length_append, List.length_take, List.length_drop, List.length_cons, List.length_nil, big]; omega) ?_; intro v82 w167 o82 hE167 hO82 hf82
              obtain ⟨a82, c82, hv82⟩ := id hO82.len; subst hv82
              try have hdq : ∀ i, o82 = some i → i ≠ b87 := fun i hi e => by rcases hf82 i hi with h | h; cases h; omega; have := hO87.box.lt; omega
              try replace hO87 := hO87.ext hE167 (fun e => by cases e; omega)
              replace hS := hS.mineF hE167 (fun i hi => .inr (by cases hi; omega))
              have hm82 : ∀ i, o82 = some i → n1 ≤ i := fun i hi => by rcases hf82 i hi with h | h; cases h; omega; omega
              refine wl_nil ⟨fun _ => hS, ?_⟩
              refine wx_only 10 _ rfl (by kernel_rfl) ?_
              refine s1_do ?_
              have hsz88 := hS.size
              refine wl_app sl_22 rfl rfl rfl hO82 (hO87.sl (M := Non) id) (fun r hr => by simp only [List.mem_singleton] at hr; subst hr; exact one1 rfl) (by simp only [List.length_map, List.length_append, List.length_take, List.length_drop, List.length_cons, List.length_nil]; omega) (by simp only [List.length_map, List.length_append, List.length_take, List.length_drop, List.length_cons, List.length_nil, big]; omega) ?_; intro v88 w168 o88 hE168 hO88 hf88
              obtain ⟨a88, c88, hv88⟩ := id hO88.len; subst hv88
              replace hS := hS.mineF hE168 (fun i hi => .inr (by have := hm82 i hi; omega))
              have hm88 : ∀ i, o88 = some i → n1 ≤ i := fun i hi => by rcases hf88 i hi with h | h; exact hm82 i h; omega
              refine wl_nil ⟨fun _ => hS, ?_⟩
              refine wx_only 14 _ rfl (by kernel_rfl) ?_
              refine s1_do ?_
              refine wl_app sl_22 rfl rfl rfl hO88 ((hS6.ext hS (fun _ h => h)).cut (l := j) (h := D.length) (m := c6) (by omega) (by omega) (by omega) (by omega)) (fun r hr => eT_one D r (List.mem_of_mem_drop (List.mem_of_mem_take hr))) (by simp only [List.length_map, List.length_append, List.length_take, List.length_drop, List.length_cons, List.length_nil]; omega) (by simp only [List.length_map, List.length_append, List.length_take, List.length_drop, List.length_cons, List.length_nil, big]; omega) ?_; intro v92 w169 o92 hE169 hO92 hf92
              rw [ins_map] at hO92
              obtain ⟨a92, c92, hv92⟩ := id hO92.len; rw [List.length_map] at hv92; subst hv92
              replace hS := hS.mineF hE169 (fun i hi => .inr (by have := hm88 i hi; omega))
              have hN6 := hO92.sl (M := Non) (fun _ _ h => h)
              refine wl_nil ⟨fun _ => hS, ?_⟩
              refine wx_take 15 [] _ _ rfl (by kernel_rfl) hS (yd_do fun A hA => rn_assign (by conv => lhs; whnf)) ?_
              refine wx_done (by kernel_rfl) ?_ _
              replace hX := hX.tr hS
              replace hS6 := hS6.ext hS (fun _ h => h)
              replace hS7 := hS7.ext hS (fun _ h => h)
              refine W_drawX (fun j => false) mixed ?_; intro w170 hE170
              replace hX := hX.tr hE170
              replace hS6 := hS6.ext hE170 (fun _ h => h)
              replace hS7 := hS7.ext hE170 (fun _ h => h)
              replace hN6 := hN6.ext hE170 (fun _ h => h)
              have hS := Ext.refl Non w170
              obtain ⟨n1, hn1⟩ : ∃ n, n = (World.heap w170).size := ⟨_, rfl⟩
              refine wx_take 1 [3, 4, 10, 14, 15] _ _ rfl (by kernel_rfl) hS (yd_do fun A hA => rn_move (by conv => lhs; whnf)) ?_
              refine wx_take 2 [3, 4, 10, 14, 15] _ _ rfl (by kernel_rfl) hS (yd_do fun A hA => rn_move (by conv => lhs; whnf)) ?_
              refine wx_take 3 [4, 10, 14, 15] _ _ rfl (by kernel_rfl) hS (yd_do fun A hA => rn_slice0 sl_23 (h := j) (m := c7) rfl rfl ⟨_, rfl⟩ rfl (by simp) (by omega) (by omega)) ?_
              refine wx_take 5 [7, 8, 9, 10, 14, 15] _ _ rfl (by kernel_rfl) hS (yd_do fun A hA => rn_move (by conv => lhs; whnf)) ?_
              refine wx_take 6 [7, 8, 9, 10, 14, 15] _ _ rfl (by kernel_rfl) hS (yd_do fun A hA => rn_move (by conv => lhs; whnf)) ?_
              refine wx_take 7 [8, 9, 10, 14, 15] _ _ rfl (by kernel_rfl) hS (yd_do fun A hA => rn_indexAddr sl_23 rfl rfl (by omega)) ?_
              refine wx_take 8 [9, 10, 14, 15] _ _ rfl (by kernel_rfl) hS (yd_do fun A hA => rn_load p_3 rfl (((hv.ext hX (fun _ h => h)).ext hA (fun _ h => h.elim)).at0 (eI_at hj) rfl)) ?_
              refine wx_take 11 [13, 14, 15] _ _ rfl (by kernel_rfl) hS (yd_do fun A hA => rn_move (by conv => lhs; whnf)) ?_
              refine wx_take 12 [13, 14, 15] _ _ rfl (by kernel_rfl) hS (yd_do fun A hA => rn_move (by conv => lhs; whnf)) ?_
              refine wx_take 13 [14, 15] _ _ rfl (by kernel_rfl) hS (yd_do fun A hA => rn_slice sl_23 (l := j) (h := D.length) (m := c7) rfl ⟨_, rfl⟩ rfl rfl (by simp) (by omega) (by omega) (by omega)) ?_
              refine wx_two 0 9 _ _ rfl rfl (by kernel_rfl) ?_ ?_
              · refine s1_do ?_
                refine wl_lit sl_23 (rows := []) rfl (by decide) (by decide) rfl rfl (by simp) (by simp) rfl ?_; intro v93 w171 b93 hb93 hE171 hO93
                have hm93 : n1 ≤ b93 := by have := hS.size; omega
                try have hd1 : b102 < b93 := Nat.lt_of_lt_of_le hO102.box.lt hb93
                replace hS := hS.tr hE171
                refine wl_nil ⟨fun _ => hS, ?_⟩
                refine wx_two 4 9 _ _ rfl rfl (by kernel_rfl) ?_ ?_
                · refine s1_do ?_
                  have hsz97 := hS.size
                  refine wl_app sl_23 rfl rfl rfl (show OwO _ _ (some b93) 1 [] from .inr ⟨b93, [], rfl, hO93⟩) ((hS7.ext hS (fun _ h => h)).cut0 (h := j) (m := c7) (by omega) (by omega) (by omega)) (fun r hr => eU_one D r (List.mem_of_mem_take hr)) (by simp only [List.length_map, List.length_append, List.length_take, List.length_drop, List.length_cons, List.length_nil]; omega) (by simp only [List.length_map, List.length_append, List.length_take, List.length_drop, List.length_cons, List.length_nil, big]; omega) ?_; intro v97 w172 o97 hE172 hO97 hf97
                  obtain ⟨a97, c97, hv97⟩ := id hO97.len; subst hv97
                  try have hdq : ∀ i, o97 = some i → i ≠ b102 := fun i hi e => by rcases hf97 i hi with h | h; cases h; omega; have := hO102.box.lt; omega
                  try replace hO102 := hO102.ext hE172 (fun e => by cases e; omega)
                  replace hS := hS.mineF hE172 (fun i hi => .inr (by cases hi; omega))
                  have hm97 : ∀ i, o97 = some i → n1 ≤ i := fun i hi => by rcases hf97 i hi with h | h; cases h; omega; omega
                  refine wl_nil ⟨fun _ => hS, ?_⟩
                  refine wx_only 9 _ rfl (by kernel_rfl) ?_
                  refine s1_do ?_
                  refine wl_lit1 (r := eU1 (x, s)) sl_23 rfl rfl rfl rfl (by decide) ?_; intro v102 w173 b102 hb102 hE173 hO102
                  have hm102 : n1 ≤ b102 := by have := hS.size; omega
                  try have hd2 : b93 < b102 := Nat.lt_of_lt_of_le hO93.box.lt hb102
                  try have hd3 : ∀ i, o97 = some i → i < b102 := fun i hi => Nat.lt_of_lt_of_le (hO97.lt hi) hb102
                  replace hS := hS.tr hE173
                  replace hO97 := hO97.ext hE173 (fun _ _ h => h)
                  refine wl_nil ⟨fun _ => hS, ?_⟩
                  refine wx_only 10 _ rfl (by kernel_rfl) ?_
                  refine s1_do ?_
                  have hsz103 := hS.size
                  refine wl_app sl_23 rfl rfl rfl hO97 (hO102.sl (M := Non) id) (fun r hr => by simp only [List.mem_singleton] at hr; subst hr; exact one1 rfl) (by simp only [List.length_map, List.length_append, List.length_take, List.length_drop, List.length_cons, List.length_nil]; omega) (by simp only [List.length_map, List.length_append, List.length_take, List.length_drop, List.length_cons, List.length_nil, big]; omega) ?_; intro v103 w174 o103 hE174 hO103 hf103
                  obtain ⟨a103, c103, hv103⟩ := id hO103.len; subst hv103
                  replace hS := hS.mineF hE174 (fun i hi => .inr (by have := hm97 i hi; omega))
                  have hm103 : ∀ i, o103 = some i → n1 ≤ i := fun i hi => by rcases hf103 i hi with h | h; exact hm97 i h; omega
                  refine wl_nil ⟨fun _ => hS, ?_⟩
                  refine wx_only 14 _ rfl (by kernel_rfl) ?_
                  refine s1_do ?_
                  refine wl_app sl_23 rfl rfl rfl hO103 ((hS7.ext hS (fun _ h => h)).cut (l := j) (h := D.length) (m := c7) (by omega) (by omega) (by omega) (by omega)) (fun r hr => eU_one D r (List.mem_of_mem_drop (List.mem_of_mem_take hr))) (by simp only [List.length_map, List.length_append, List.length_take, List.length_drop, List.length_cons, List.length_nil]; omega) (by simp only [List.length_map, List.length_append, List.length_take, List.length_drop, List.length_cons, List.length_nil, big]; omega) ?_; intro v107 w175 o107 hE175 hO107 hf107
                  rw [ins_map] at hO107
                  obtain ⟨a107, c107, hv107⟩ := id hO107.len; rw [List.length_map] at hv107; subst hv107
                  replace hS := hS.mineF hE175 (fun i hi => .inr (by have := hm103 i hi; omega))
                  have hN7 := hO107.sl (M := Non) (fun _ _ h => h)
                  refine wl_nil ⟨fun _ => hS, ?_⟩
                  refine wx_take 15 [] _ _ rfl (by kernel_rfl) hS (yd_do fun A hA => rn_assign (by conv => lhs; whnf)) ?_
                  refine wx_done (by kernel_rfl) ?_ _
                  replace hX := hX.tr hS
                  replace hS6 := hS6.ext hS (fun _ h => h)
                  replace hS7 := hS7.ext hS (fun _ h => h)
                  replace hN6 := hN6.ext hS (fun _ h => h)
                  refine W_region ?_
                  refine wl_val (rn_move (by conv => lhs; whnf)) ?_
                  refine wl_val (rn_add rfl rfl (by omega)) ?_
                  refine wl_val (rn_assign (by conv => lhs; whnf)) ?_
                  refine wl_nil ?_
                  exact ⟨rfl, (i + 1, D.take j ++ (x, s) :: D.drop j, _, _, _, _), ⟨rfl, rfl, rfl, rfl, rfl, trivial⟩, ⟨hX, ⟨hlt, hlt2, hD1.symm, hN6, hN7⟩⟩, by show ks.length - (i + 1) < ks.length - i; omega⟩
                · refine s1_do ?_
                  refine wl_lit1 (r := eU1 (x, s)) sl_23 rfl rfl rfl rfl (by decide) ?_; intro v102 w176 b102 hb102 hE176 hO102
                  have hm102 : n1 ≤ b102 := by have := hS.size; omega
                  try have hd2 : b93 < b102 := Nat.lt_of_lt_of_le hO93.box.lt hb102
                  try have hd3 : ∀ i, o97 = some i → i < b102 := fun i hi => Nat.lt_of_lt_of_le (hO97.lt hi) hb102
                  replace hS := hS.tr hE176
                  replace hO93 := hO93.ext hE176 id
                  refine wl_nil ⟨fun _ => hS, ?_⟩
                  refine wx_only 4 _ rfl (by kernel_rfl) ?_
                  refine s1_do ?_
                  have hsz97 := hS.size
                  refine wl_app sl_23 rfl rfl rfl (show OwO _ _ (some b93) 1 [] from .inr ⟨b93, [], rfl, hO93⟩) ((hS7.ext hS (fun _ h => h)).cut0 (h := j) (m := c7) (by omega) (by omega) (by omega)) (fun r hr => eU_one D r (List.mem_of_mem_take hr)) (by simp only [List.length_map, List.length_append, List.length_take, List.length_drop, List.length_cons, List.length_nil]; omega) (by simp only [List.length_map, List.length_append, List.length_take, List.length_drop, List.length_cons, List.length_nil, big]; omega) ?_; intro v97 w177 o97 hE177 hO97 hf97
                  obtain ⟨a97, c97, hv97⟩ := id hO97.len; subst hv97
                  try have hdq : ∀ i, o97 = some i → i ≠ b102 := fun i hi e => by rcases hf97 i hi with h | h; cases h; omega; have := hO102.box.lt; omega
                  try replace hO102 := hO102.ext hE177 (fun e => by cases e; omega)
                  replace hS := hS.mineF hE177 (fun i hi => .inr (by cases hi; omega))
                  have hm97 : ∀ i, o97 = some i → n1 ≤ i := fun i hi => by rcases hf97 i hi with h | h; cases h; omega; omega
                  refine wl_nil ⟨fun _ => hS, ?_⟩
                  refine wx_only 10 _ rfl (by kernel_rfl) ?_
                  refine s1_do ?_
                  have hsz103 := hS.size
                  refine wl_app sl_23 rfl rfl rfl hO97 (hO102.sl (M := Non) id) (fun r hr => by simp only [List.mem_singleton] at hr; subst hr; exact one1 rfl) (by simp only [List.length_map, List.length_append, List.length_take, List.length_drop, List.length_cons, List.length_nil]; omega) (by simp only [List.length_map, List.length_append, List.length_take, List.length_drop, List.length_cons, List.length_nil, big]; omega) ?_; intro v103 w178 o103 hE178 hO103 hf103
                  obtain ⟨a103, c103, hv103⟩ := id hO103.len; subst hv103
                  replace hS := hS.mineF hE178 (fun i hi => .inr (by have := hm97 i hi; omega))
                  have hm103 : ∀ i, o103 = some i → n1 ≤ i := fun i hi => by rcases hf103 i hi with h | h; exact hm97 i h; omega
                  refine wl_nil ⟨fun _ => hS, ?_⟩
                  refine wx_only 14 _ rfl (by kernel_rfl) ?_
                  refine s1_do ?_
                  refine wl_app sl_23 rfl rfl rfl hO103 ((hS7.ext hS (fun _ h => h)).cut (l := j) (h := D.length) (m := c7) (by omega) (by omega) (by omega) (by omega)) (fun r hr => eU_one D r (List.mem_of_mem_drop (List.mem_of_mem_take hr))) (by simp only [List.length_map, List.length_append, List.length_take, List.length_drop, List.length_cons, List.length_nil]; omega) (by simp only [List.length_map, List.length_append, List.length_take, List.length_drop, List.length_cons, List.length_nil, big]; omega) ?_; intro v107 w179 o107 hE179 hO107 hf107
                  rw [ins_map] at hO107
                  obtain ⟨a107, c107, hv107⟩ := id hO107.len; rw [List.length_map] at hv107; subst hv107
                  replace hS := hS.mineF hE179 (fun i hi => .inr (by have := hm103 i hi; omega))
                  have hN7 := hO107.sl (M := Non) (fun _ _ h => h)
                  refine wl_nil ⟨fun _ => hS, ?_⟩
                  refine wx_take 15 [] _ _ rfl (by kernel_rfl) hS (yd_do fun A hA => rn_assign (by conv => lhs; whnf)) ?_
                  refine wx_done (by kernel_rfl) ?_ _
                  replace hX := hX.tr hS
                  replace hS6 := hS6.ext hS (fun _ h => h)
                  replace hS7 := hS7.ext hS (fun _ h => h)
                  replace hN6 := hN6.ext hS (fun _ h => h)
                  refine W_region ?_
                  refine wl_val (rn_move (by conv => lhs; whnf)) ?_
                  refine wl_val (rn_add rfl rfl (by omega)) ?_
                  refine wl_val (rn_assign (by conv => lhs; whnf)) ?_
                  refine wl_nil ?_
                  exact ⟨rfl, (i + 1, D.take j ++ (x, s) :: D.drop j, _, _, _, _), ⟨rfl, rfl, rfl, rfl, rfl, trivial⟩, ⟨hX, ⟨hlt, hlt2, hD1.symm, hN6, hN7⟩⟩, by show ks.length - (i + 1) < ks.length - i; omega⟩
              · refine s1_do ?_
                refine wl_lit1 (r := eU1 (x, s)) sl_23 rfl rfl rfl rfl (by decide) ?_; intro v102 w180 b102 hb102 hE180 hO102
                have hm102 : n1 ≤ b102 := by have := hS.size; omega
                try have hd2 : b93 < b102 := Nat.lt_of_lt_of_le hO93.box.lt hb102
                try have hd3 : ∀ i, o97 = some i → i < b102 := fun i hi => Nat.lt_of_lt_of_le (hO97.lt hi) hb102
                replace hS := hS.tr hE180
                refine wl_nil ⟨fun _ => hS, ?_⟩
                refine wx_only 0 _ rfl (by kernel_rfl) ?_
                refine s1_do ?_
                refine wl_lit sl_23 (rows := []) rfl (by decide) (by decide) rfl rfl (by simp) (by simp) rfl ?_; intro v93 w181 b93 hb93 hE181 hO93
                have hm93 : n1 ≤ b93 := by have := hS.size; omega
                try have hd1 : b102 < b93 := Nat.lt_of_lt_of_le hO102.box.lt hb93
                replace hS := hS.tr hE181
                replace hO102 := hO102.ext hE181 id
                refine wl_nil ⟨fun _ => hS, ?_⟩
                refine wx_only 4 _ rfl (by kernel_rfl) ?_
                refine s1_do ?_
                have hsz97 := hS.size
                refine wl_app sl_23 rfl rfl rfl (show OwO _ _ (some b93) 1 [] from .inr ⟨b93, [], rfl, hO93⟩) ((hS7.ext hS (fun _ h => h)).cut0 (h := j) (m := c7) (by omega) (by omega) (by omega)) (fun r hr => eU_one D r (List.mem_of_mem_take hr)) (by simp only [List.length_map, List.length_append, List.length_take, List.length_drop, List.length_cons, List.length_nil]; omega) (by simp only [List.length_map, List.length_append, List.length_take, List.length_drop, List.length_cons, List.length_nil, big]; omega) ?_; intro v97 w182 o97 hE182 hO97 hf97
                obtain ⟨a97, c97, hv97⟩ := id hO97.len; subst hv97
                try have hdq : ∀ i, o97 = some i → i ≠ b102 := fun i hi e => by rcases hf97 i hi with h | h; cases h; omega; have := hO102.box.lt; omega
                try replace hO102 := hO102.ext hE182 (fun e => by cases e; omega)
                replace hS := hS.mineF hE182 (fun i hi => .inr (by cases hi; omega))
                have hm97 : ∀ i, o97 = some i → n1 ≤ i := fun i hi => by rcases hf97 i hi with h | h; cases h; omega; omega
                refine wl_nil ⟨fun _ => hS, ?_⟩
                refine wx_only 10 _ rfl (by kernel_rfl) ?_
                refine s1_do ?_
                have hsz103 := hS.size
                refine wl_app sl_23 rfl rfl rfl hO97 (hO102.sl (M := Non) id) (fun r hr => by simp only [List.mem_singleton] at hr; subst hr; exact one1 rfl) (by simp only [List.length_map, List.length_append, List.length_take, List.length_drop, List.length_cons, List.length_nil]; omega) (by simp only [List.length_map, List.length_append, List.length_take, List.length_drop, List.length_cons, List.length_nil, big]; omega) ?_; intro v103 w183 o103 hE183 hO103 hf103
                obtain ⟨a103, c103, hv103⟩ := id hO103.len; subst hv103
                replace hS := hS.mineF hE183 (fun i hi => .inr (by have := hm97 i hi; omega))
                have hm103 : ∀ i, o103 = some i → n1 ≤ i := fun i hi => by rcases hf103 i hi with h | h; exact hm97 i h; omega
                refine wl_nil ⟨fun _ => hS, ?_⟩
                refine wx_only 14 _ rfl (by kernel_rfl) ?_
                refine s1_do ?_
                refine wl_app sl_23 rfl rfl rfl hO103 ((hS7.ext hS (fun _ h => h)).cut (l := j) (h := D.length) (m := c7) (by omega) (by omega) (by omega) (by omega)) (fun r hr => eU_one D r (List.mem_of_mem_drop (List.mem_of_mem_take hr))) (by simp only [List.length_map, List.length_append, List.length_take, List.length_drop, List.length_cons, List.length_nil]; omega) (by simp only [List.length_map, List.length_append, List.length_take, List.length_drop, List.length_cons, List.length_nil, big]; omega) ?_; intro v107 w184 o107 hE184 hO107 hf107
                rw [ins_map] at hO107
                obtain ⟨a107, c107, hv107⟩ := id hO107.len; rw [List.length_map] at hv107; subst hv107
                replace hS := hS.mineF hE184 (fun i hi => .inr (by have := hm103 i hi; omega))
                have hN7 := hO107.sl (M := Non) (fun _ _ h => h)
                refine wl_nil ⟨fun _ => hS, ?_⟩
                refine wx_take 15 [] _ _ rfl (by kernel_rfl) hS (yd_do fun A hA => rn_assign (by conv => lhs; whnf)) ?_
                refine wx_done (by kernel_rfl) ?_ _
                replace hX := hX.tr hS
                replace hS6 := hS6.ext hS (fun _ h => h)
                replace hS7 := hS7.ext hS (fun _ h => h)
                replace hN6 := hN6.ext hS (fun _ h => h)
                refine W_region ?_
                refine wl_val (rn_move (by conv => lhs; whnf)) ?_
                refine wl_val (rn_add rfl rfl (by omega)) ?_
                refine wl_val (rn_assign (by conv => lhs; whnf)) ?_
                refine wl_nil ?_
                exact ⟨rfl, (i + 1, D.take j ++ (x, s) :: D.drop j, _, _, _, _), ⟨rfl, rfl, rfl, rfl, rfl, trivial⟩, ⟨hX, ⟨hlt, hlt2, hD1.symm, hN6, hN7⟩⟩, by show ks.length - (i + 1) < ks.length - i; omega⟩
    · have hzn : (ks.zip ys).length ≤ i := by have := of_decide_eq_false hc0; rw [List.length_zip]; omega
      refine W_exit ?_   -- exit 0
      refine W_seq ?_
      refine W_region ?_
      refine wl_val (rn_move (by conv => lhs; whnf)) ?_
      refine wl_val (rn_move (by conv => lhs; whnf)) ?_
      refine wl_val (rn_assign (by conv => lhs; whnf)) ?_
      refine wl_val (rn_assign (by conv => lhs; whnf)) ?_
      refine wl_nil ?_
      refine W_ret ?_
      have hDz : docOf (ks.zip ys) = D := by rw [hD, List.take_of_length_le hzn]
      exact ⟨_, resR2 (res1_tmp rfl) (res1_tmp rfl), hX, ⟨_, _, rfl, by rw [hDz]; exact hS6, by rw [hDz]; exact hS7⟩⟩
  · have hzn : (ks.zip ys).length ≤ i := by have := of_decide_eq_false hg14; rw [List.length_zip]; omega
    refine wl_no rfl (congrArg Value.bool hg14) ?_
    refine wl_no rfl (congrArg Value.bool hg14) ?_
    refine wl_no rfl (congrArg Value.bool hg14) ?_
    refine wl_no rfl (congrArg Value.bool hg14) ?_
    refine wl_val (rn_pickF (congrArg Value.bool hg14) (by conv => lhs; whnf)) ?_
    refine wl_nil ?_
    refine W_condF rfl ?_
    refine W_exit ?_   -- exit 0
    refine W_seq ?_
    refine W_region ?_
    refine wl_val (rn_move (by conv => lhs; whnf)) ?_
    refine wl_val (rn_move (by conv => lhs; whnf)) ?_
    refine wl_val (rn_assign (by conv => lhs; whnf)) ?_
    refine wl_val (rn_assign (by conv => lhs; whnf)) ?_
    refine wl_nil ?_
    refine W_ret ?_
    have hDz : docOf (ks.zip ys) = D := by rw [hD, List.take_of_length_le hzn]
    exact ⟨_, resR2 (res1_tmp rfl) (res1_tmp rfl), hX, ⟨_, _, rfl, by rw [hDz]; exact hS6, by rw [hDz]; exact hS7⟩⟩
end Go.Proofs.YtaddeakfojpdoaaGreatDoorC
