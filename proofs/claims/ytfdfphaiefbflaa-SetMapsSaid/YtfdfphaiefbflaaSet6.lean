/- The laws SetOrder and SetJoins. -/
import Derived.Test.YtfdfphaiefbflaaSet5
set_option linter.unusedVariables false
set_option linter.unusedSimpArgs false
set_option maxRecDepth 100000
namespace Go.Proofs.YtfdfphaiefbflaaC
open Go.RowKit
-- bellman/bellmanlaw03.awake
theorem awake03_ok (w : World)  : Fn Try.prog 24 #[] w fun u w' => u = .bool true := by
  have hX := Ext.refl Non w
  refine fn_of_W (args := []) Try.func24 rfl (by kernel_rfl) rfl ?_
  refine W_seq ?_
  refine W_region ?_
  refine wl_val (rn_assign (by conv => lhs; whnf)) ?_
  refine wl_nil ?_
  refine W_seq ?_
  refine W_region ?_
  refine wl_lit sl_36 (rows := [3, 1, 3].map eI1) rfl (by decide) (by decide) rfl rfl (by intro r hr; obtain ⟨x, _, rfl⟩ := List.mem_map.1 hr; rfl) (by intro p hp; simp at hp; rcases hp with rfl | rfl | rfl <;> exact ⟨rfl, Nat.le_of_ble_eq_true rfl⟩) rfl ?_; intro v1 w1 b1 hb1 hE1 hO1
  replace hX := hX.tr hE1
  refine wl_call e_25 rfl (of_ok w1 [3, 1, 3] (hO1.sl (M := Non) id) (by decide)) ?_; intro v2 w2 hE2 hR2
  replace hX := hX.tr hE2
  have hS2 := hR2
  refine wl_call e_26 rfl (list_ok w2 (ofL [3, 1, 3]) (hS2.sub (M' := Non) (fun _ h _ => h.elim)) (by decide)) ?_; intro v3 w3 hE3 hR3
  replace hX := hX.tr hE3
  have hL := hR3
  refine wl_lit sl_36 (rows := [1, 3].map eI1) rfl (by decide) (by decide) rfl rfl (by intro r hr; obtain ⟨x, _, rfl⟩ := List.mem_map.1 hr; rfl) (by intro p hp; simp at hp; rcases hp with rfl | rfl <;> exact ⟨rfl, Nat.le_of_ble_eq_true rfl⟩) rfl ?_; intro v4 w4 b4 hb4 hE4 hO4
  replace hX := hX.tr hE4
  replace hL := hL.ext hE4 (fun _ h => h)
  refine wl_call e_30 rfl (ints_ok w4 (ofL [3, 1, 3]) [1, 3] hL (hO4.sl (M := Non) id) (by decide)) ?_; intro v5 w5 hE5 hR5
  replace hX := hX.tr hE5
  replace hL := hL.ext hE5 (fun _ h => h)
  subst hR5
  refine wl_val (rn_assign (by conv => lhs; whnf)) ?_
  refine wl_nil ?_
  refine W_ret ?_
  exact ⟨_, resR1 (res1_tmp rfl), hX, by show Value.bool (decide (ofL [3, 1, 3] = [1, 3])) = _; rw [decide_eq_true (by decide)]⟩
-- bellman/bellmanlaw03.SetOrder
set_option maxHeartbeats 1000000 in
theorem setOrder_ok (w : World) (l : List Int) {v : Value} (hs : Sl Non w v 1 (l.map eI1)) : Fn Try.prog 5 #[v] w fun u w' => u = .bool true := by
  obtain ⟨a, c, rfl, hbig0⟩ := hs.len
  simp only [List.length_map] at hs hbig0 ⊢
  have hbig2 : big = 9223372036854775807 := rfl
  have hol := ofL_len l
  have hso := ofL_sorted l
  have hX := Ext.refl Non w
  refine fn_of_W (args := [_]) Try.func5 rfl (by kernel_rfl) rfl ?_
  refine W_seq ?_
  refine W_region ?_
  refine wl_val (rn_assign (by conv => lhs; whnf)) ?_
  refine wl_nil ?_
  refine W_seq ?_
  refine W_seq ?_
  refine W_region ?_
  refine wl_call e_24 rfl (awake03_ok w) ?_; intro v7 w1 hE1 hR1
  replace hX := hX.tr hE1
  subst hR1
  refine wl_val (rn_not rfl) ?_
  refine wl_nil ?_
  refine W_cond rfl (fun hc0 => ?_) (fun hc0 => ?_)
  · exact absurd hc0 (by decide)
  · refine W_skip ?_
    refine W_seq ?_
    refine W_seq ?_
    refine W_region ?_
    refine wl_val (rn_move (by conv => lhs; whnf)) ?_
    refine wl_val (rn_len sl_36 rfl) ?_
    refine wl_val (rn_gtr rfl rfl) ?_
    refine wl_nil ?_
    refine W_cond rfl (fun hc1 => ?_) (fun hc1 => ?_)
    · refine W_seq ?_
      refine W_region ?_
      refine wl_val (rn_assign (by conv => lhs; whnf)) ?_
      refine wl_nil ?_
      refine W_ret ?_
      exact ⟨_, resR1 (res1_tmp rfl), hX, rfl⟩
    · have h300 : l.length ≤ 300 := by have := of_decide_eq_false hc1; omega
      refine W_skip ?_
      refine W_seq ?_
      refine W_region ?_
      refine wl_val (rn_move (by conv => lhs; whnf)) ?_
      refine wl_call e_25 rfl (of_ok w1 l (hs.ext hX (fun _ h => h)) (by omega)) ?_; intro v13 w2 hE2 hR2
      replace hX := hX.tr hE2
      obtain ⟨u1, u2, vs, rfl, hMm⟩ := hR2
      obtain ⟨a1, l1, c1, rfl⟩ := id hMm.keys.shape; obtain ⟨a2, l2, c2, rfl⟩ := id hMm.vals.shape
      have hM : SetR Non w2 _ (ofL l) := ⟨_, _, vs, rfl, hMm.sub (M' := Non) (fun _ h _ => h.elim)⟩
      have hV := Ext.refl Non w2
      refine wl_alloc z_43 ?_; intro b3 w3 hb3 hE3 hB3
      have hq3 : w.heap.size ≤ b3 := Nat.le_trans hX.size hb3
      have hl3 : Mine Non w b3 := .inr hq3
      have hv3 := Nat.le_trans hV.size hb3
      replace hX := hX.tr hE3
      replace hV := hV.tr hE3
      have hBo := hB3
      refine wl_storeB s_43 rfl rfl rfl (two1 rfl rfl) hB3 rfl ?_; intro w4 hE4 hB3 hz4
      replace hX := hX.mine hE4 hl3
      replace hV := hV.mine hE4 (.inr hv3)
      refine wl_nil ?_
      refine W_seq ?_
      refine W_region ?_
      refine wl_val (rn_loadB s_43 rfl rfl hB3) ?_
      refine wl_call e_26 rfl (list_ok w4 (ofL l) (hM.ext hV (fun _ h => h)) (by omega)) ?_; intro v15 w5 hE5 hR5
      replace hX := hX.tr hE5
      replace hB3 := hB3.ext hE5 id
      replace hV := hV.tr hE5
      have hL := hR5; obtain ⟨aL, cL, hvL, _⟩ := id hL.len; rw [List.length_map] at hvL; subst hvL
      have hVL := Ext.refl Non w5
      refine wl_val (rn_assign (by conv => lhs; whnf)) ?_
      refine wl_nil ?_
      refine W_seq ?_
      refine W_seq ?_
      refine W_region ?_
      refine wl_val (rn_assign (by conv => lhs; whnf)) ?_
      refine wl_nil ?_
      refine W_block ?_   -- block 0
      refine W_loopS (S := Nat) [0, 3, 4, 5] (fun i => [.slice a l.length c, .pointer (some ⟨b3, 0, none⟩), .slice aL (ofL l).length cL, .int .i64 (i : Nat)]) (fun i A => (Ext Non w A) ∧ (IsBox A b3 [.slice a1 l1 c1, .slice a2 l2 c2]) ∧ (Mine Non w b3) ∧ (Ext Non w2 A ∧ Ext Non w5 A ∧ 1 ≤ i ∧ i ≤ (ofL l).length + 1)) (fun i => (ofL l).length + 1 - i) 1 ⟨rfl, rfl, rfl, rfl, trivial⟩ ⟨hX, hB3, hl3, ⟨hV, hVL, by omega, by omega⟩⟩ ?_
      rintro τ0 i A0 ⟨hX, hB3, hl3, hI0⟩
      obtain ⟨hV, hVL, hi1n, hi2n⟩ := hI0
      refine W_seq ?_
      refine W_seq ?_
      refine W_region ?_
      refine wl_val (rn_move (by conv => lhs; whnf)) ?_
      refine wl_val (rn_move (by conv => lhs; whnf)) ?_
      refine wl_val (rn_len sl_36 rfl) ?_
      refine wl_val (rn_lss rfl rfl) ?_
      refine wl_nil ?_
      refine W_cond rfl (fun hc2 => ?_) (fun hc2 => ?_)
      · have hlt := of_decide_eq_true hc2; simp only [Int.ofNat_lt] at hlt
        obtain ⟨x1, hi1⟩ : ∃ x, (ofL l)[i - 1]? = some x := ⟨_, List.getElem?_eq_getElem (by omega)⟩
        obtain ⟨x2, hi2⟩ : ∃ x, (ofL l)[i]? = some x := ⟨_, List.getElem?_eq_getElem hlt⟩
        have he1 : ((i : Int) - 1).toNat = i - 1 := by omega
        obtain ⟨bL, oL, eaL⟩ := hL.base (by intro e; have := congrArg List.length e; simp only [List.length_map, List.length_nil] at this; omega); subst eaL
        refine W_skip ?_
        refine W_seq ?_
        refine W_block ?_   -- block 1
        refine W_seq ?_
        refine W_drawE mixed ?_; intro w6 hE6
        replace hX := hX.tr hE6
        replace hB3 := hB3.ext hE6 id
        replace hV := hV.tr hE6
        replace hVL := hVL.tr hE6
        have hS := Ext.refl Non w6
        refine wd_take 0 _ _ rfl (by kernel_rfl) hS (yd_do fun A hA => rn_move (by conv => lhs; whnf)) ?_
        refine wd_take 1 _ _ rfl (by kernel_rfl) hS (yd_do fun A hA => rn_move (by conv => lhs; whnf)) ?_
        refine wd_take 2 _ _ rfl (by kernel_rfl) hS (yd_do fun A hA => rn_sub rfl rfl (by omega)) ?_
        refine wd_take 3 _ _ rfl (by kernel_rfl) hS (yd_do fun A hA => rn_indexAddr sl_36 rfl rfl (by omega)) ?_
        refine wd_take 4 _ _ rfl (by kernel_rfl) hS (yd_do fun A hA => rn_load p_3 rfl (((hL.ext hVL (fun _ h => h)).ext hA (fun _ h => h.elim)).at0 (eI_at (i := ((i : Int) - 1).toNat) (by rw [he1]; exact hi1)) rfl)) ?_
        refine wd_take 5 _ _ rfl (by kernel_rfl) hS (yd_do fun A hA => rn_move (by conv => lhs; whnf)) ?_
        refine wd_take 6 _ _ rfl (by kernel_rfl) hS (yd_do fun A hA => rn_move (by conv => lhs; whnf)) ?_
        refine wd_take 7 _ _ rfl (by kernel_rfl) hS (yd_do fun A hA => rn_indexAddr sl_36 rfl rfl (by omega)) ?_
        refine wd_take 8 _ _ rfl (by kernel_rfl) hS (yd_do fun A hA => rn_load p_3 rfl (((hL.ext hVL (fun _ h => h)).ext hA (fun _ h => h.elim)).at0 (eI_at hi2) rfl)) ?_
        refine wd_take 9 _ _ rfl (by kernel_rfl) hS (yd_do fun A hA => rn_geq rfl rfl) ?_
        refine wd_done (by kernel_rfl) ?_ _
        replace hX := hX.tr hS
        replace hB3 := hB3.ext hS id
        replace hV := hV.tr hS
        replace hVL := hVL.tr hS
        refine W_cond rfl (fun hc3 => ?_) (fun hc3 => ?_)
        · exact absurd (of_decide_eq_true hc3) (by have h := hso.get hi1 hi2 (by omega); simp only [ltI, decide_eq_true_eq] at h; omega)
        · refine W_skip ?_
          refine W_region ?_
          refine wl_val (rn_move (by conv => lhs; whnf)) ?_
          refine wl_val (rn_add rfl rfl (by omega)) ?_
          refine wl_val (rn_assign (by conv => lhs; whnf)) ?_
          refine wl_nil ?_
          exact ⟨rfl, i + 1, ⟨rfl, rfl, rfl, rfl, trivial⟩, ⟨hX, hB3, hl3, ⟨hV, hVL, by omega, by omega⟩⟩, by omega⟩
      · refine W_exit ?_   -- exit 0
        refine W_seq ?_
        refine W_seq ?_
        refine W_region ?_
        refine wl_val (rn_assign (by conv => lhs; whnf)) ?_
        refine wl_nil ?_
        refine W_block ?_   -- block 2
        refine W_loopS (S := Nat) [0, 3, 4, 6] (fun i => [.slice a l.length c, .pointer (some ⟨b3, 0, none⟩), .slice aL (ofL l).length cL, .int .i64 (i : Nat)]) (fun i A => (Ext Non w A) ∧ (IsBox A b3 [.slice a1 l1 c1, .slice a2 l2 c2]) ∧ (Mine Non w b3) ∧ (Ext Non w2 A ∧ Ext Non w5 A ∧ i ≤ l.length)) (fun i => l.length - i) 0 ⟨rfl, rfl, rfl, rfl, trivial⟩ ⟨hX, hB3, hl3, ⟨hV, hVL, by omega⟩⟩ ?_
        rintro τ1 i A1 ⟨hX, hB3, hl3, hI1⟩
        obtain ⟨hV, hVL, hi1n⟩ := hI1
        refine W_seq ?_
        refine W_seq ?_
        refine W_region ?_
        refine wl_val (rn_move (by conv => lhs; whnf)) ?_
        refine wl_val (rn_move (by conv => lhs; whnf)) ?_
        refine wl_val (rn_len sl_36 rfl) ?_
        refine wl_val (rn_lss rfl rfl) ?_
        refine wl_nil ?_
        refine W_cond rfl (fun hc4 => ?_) (fun hc4 => ?_)
        · have hlt := of_decide_eq_true hc4; simp only [Int.ofNat_lt] at hlt
          obtain ⟨x, hi⟩ : ∃ x, l[i]? = some x := ⟨_, List.getElem?_eq_getElem hlt⟩
          obtain ⟨b, o, ea⟩ := hs.base (by intro e; simp at e; subst e; simp at hlt); subst ea
          have hat : isAt ltI (ofL l) x = true := (isAt_iff lo_int hso x).2 ((ofL_mem l x).2 (List.mem_of_getElem? hi))
          refine W_skip ?_
          refine W_seq ?_
          refine W_block ?_   -- block 3
          refine W_seq ?_
          refine W_drawE mixed ?_; intro w7 hE7
          replace hX := hX.tr hE7
          replace hB3 := hB3.ext hE7 id
          replace hV := hV.tr hE7
          replace hVL := hVL.tr hE7
          have hS := Ext.refl Non w7
          refine wd_take 0 _ _ rfl (by kernel_rfl) hS (yd_do fun A hA => rn_loadB s_43 rfl rfl (hB3.ext hA id)) ?_
          refine wd_take 1 _ _ rfl (by kernel_rfl) hS (yd_do fun A hA => rn_move (by conv => lhs; whnf)) ?_
          refine wd_take 2 _ _ rfl (by kernel_rfl) hS (yd_do fun A hA => rn_move (by conv => lhs; whnf)) ?_
          refine wd_take 3 _ _ rfl (by kernel_rfl) hS (yd_do fun A hA => rn_indexAddr sl_36 rfl rfl (by omega)) ?_
          refine wd_take 4 _ _ rfl (by kernel_rfl) hS (yd_do fun A hA => rn_load p_3 rfl (((hs.ext hX (fun _ h => h)).ext hA (fun _ h => h.elim)).at0 (eI_at hi) rfl)) ?_
          refine wd_only 5 _ rfl (by kernel_rfl) ?_
          refine s1_do ?_
          refine wl_call e_27 rfl (has_ok w7 (ofL l) (hM.ext (hV.trans hS) (fun _ h => h)) x hso (by omega)) ?_; intro v43 w8 hE8 hR8
          replace hS := hS.tr hE8
          subst hR8
          refine wl_nil ⟨hS, ?_⟩
          refine wd_take 6 _ _ rfl (by kernel_rfl) hS (yd_do fun A hA => rn_not rfl) ?_
          refine wd_done (by kernel_rfl) ?_ _
          replace hX := hX.tr hS
          replace hB3 := hB3.ext hS id
          replace hV := hV.tr hS
          replace hVL := hVL.tr hS
          refine W_cond rfl (fun hc5 => ?_) (fun hc5 => ?_)
          · exact absurd hc5 (by rw [hat]; simp)
          · refine W_skip ?_
            refine W_region ?_
            refine wl_val (rn_move (by conv => lhs; whnf)) ?_
            refine wl_val (rn_add rfl rfl (by omega)) ?_
            refine wl_val (rn_assign (by conv => lhs; whnf)) ?_
            refine wl_nil ?_
            exact ⟨rfl, i + 1, ⟨rfl, rfl, rfl, rfl, trivial⟩, ⟨hX, hB3, hl3, ⟨hV, hVL, hlt⟩⟩, by omega⟩
        · refine W_exit ?_   -- exit 2
          refine W_seq ?_
          refine W_region ?_
          refine wl_val (rn_move (by conv => lhs; whnf)) ?_
          refine wl_val (rn_len sl_36 rfl) ?_
          refine wl_val (rn_move (by conv => lhs; whnf)) ?_
          refine wl_val (rn_len sl_36 rfl) ?_
          refine wl_val (rn_leq rfl rfl) ?_
          have hg50 : decide (((ofL l).length : Int) ≤ (l.length : Int)) = true := decide_eq_true (by omega)
          refine wl_val (rn_move (by conv => lhs; whnf)) ?_
          refine wl_yes rfl (congrArg Value.bool hg50) ?_
          refine wl_val (rn_loadB s_43 rfl rfl hB3) ?_
          refine wl_yes rfl (congrArg Value.bool hg50) ?_
          refine wl_call e_28 rfl (len_ok A1 (ofL l) (hM.ext hV (fun _ h => h)) (by omega)) ?_; intro v52 w9 hE9 hR9
          replace hX := hX.tr hE9
          replace hB3 := hB3.ext hE9 id
          replace hV := hV.tr hE9
          replace hVL := hVL.tr hE9
          subst hR9
          refine wl_yes rfl (congrArg Value.bool hg50) ?_
          refine wl_val (rn_move (by conv => lhs; whnf)) ?_
          refine wl_yes rfl (congrArg Value.bool hg50) ?_
          refine wl_val (rn_len sl_36 rfl) ?_
          refine wl_yes rfl (congrArg Value.bool hg50) ?_
          refine wl_val (rn_eql rfl rfl) ?_
          refine wl_val (rn_pickT (congrArg Value.bool hg50) (by conv => lhs; whnf)) ?_
          refine wl_val (rn_assign (by conv => lhs; whnf)) ?_
          refine wl_nil ?_
          refine W_ret ?_
          exact ⟨_, resR1 (res1_tmp rfl), hX, by show Value.bool (decide (((ofL l).length : Int) = ((ofL l).length : Int))) = _; rw [decide_eq_true rfl]⟩
end Go.Proofs.YtfdfphaiefbflaaC
