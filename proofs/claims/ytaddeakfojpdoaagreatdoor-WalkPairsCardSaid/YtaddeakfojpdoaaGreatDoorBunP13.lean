/- The document's covering; the laws MatchTells, MatchCovers, MatchLevels. -/
import Derived.Test.YtaddeakfojpdoaaGreatDoorBunP9
import Derived.Test.YtaddeakfojpdoaaGreatDoorBunP10
import Derived.Test.YtaddeakfojpdoaaGreatDoorBunP12
import Derived.Test.YtaddeakfojpdoaaGreatDoorBunP2
import Derived.LaidMore
import Derived.Lay
import Derived.OpenShut
import Derived.Stop.Joined
import Derived.Test.YtaddeakfojpdoaaGreatDoorBunP5
import Derived.Test.YtaddeakfojpdoaaGreatDoorBunP4
import Derived.Test.YtaddeakfojpdoaaGreatDoorRows
set_option linter.unusedVariables false
set_option linter.unusedSimpArgs false
set_option maxRecDepth 100000
namespace Go.Proofs.YtaddeakfojpdoaaGreatDoorC
open Go.RowKit
/-! ### plain laws -/
-- bellman/bellmanref02.Covers
set_option maxHeartbeats 2000000 in
theorem rcovers_ok (w : World) (f g : Str) (hnf : f.length ≤ 1000000) (hng : g.length ≤ 1000000) : Fn Tryz.prog 16 #[Sv f, Sv g] w fun u w' => u = .bool (coversB f g) := by
  have hX := Ext.refl Non w
  refine fn_of_W (args := [_, _]) Tryz.func16 rfl (by kernel_rfl) rfl ?_
  refine W_seq ?_
  refine W_region ?_
  refine wl_val (rn_assign (by conv => lhs; whnf)) ?_
  refine wl_nil ?_
  refine W_seq ?_
  refine W_seq ?_
  refine W_region ?_
  refine wl_val (rn_move (by conv => lhs; whnf)) ?_
  refine wl_call e_28 rfl (rfilter_ok w f hnf) ?_; intro v9 w1 hE1 hR1
  replace hX := hX.tr hE1
  subst hR1
  refine wl_val (rn_not rfl) ?_
  refine wl_val (rn_move (by conv => lhs; whnf)) ?_
  refine wl_split (d := 11) rfl (fun hg11 => ?_) (fun hg11 => ?_)
  · have hR : coversB f g = false := covers_no1 (by simpa using hg11)
    refine wl_no rfl (congrArg Value.bool hg11) ?_
    refine wl_no rfl (congrArg Value.bool hg11) ?_
    refine wl_no rfl (congrArg Value.bool hg11) ?_
    refine wl_val (rn_pickT (congrArg Value.bool hg11) (by conv => lhs; whnf)) ?_
    refine wl_val (rn_move (by conv => lhs; whnf)) ?_
    refine wl_no rfl rfl ?_
    refine wl_no rfl rfl ?_
    refine wl_no rfl rfl ?_
    refine wl_nou rfl rfl ?_
    refine wl_nou rfl rfl ?_
    refine wl_nou rfl rfl ?_
    refine wl_no rfl rfl ?_
    refine wl_val (rn_pickT rfl (by conv => lhs; whnf)) ?_
    refine wl_nil ?_
    refine W_condT rfl ?_
    refine W_seq ?_
    refine W_region ?_
    refine wl_val (rn_assign (by conv => lhs; whnf)) ?_
    refine wl_nil ?_
    refine W_ret ?_
    exact ⟨_, resR1 (res1_tmp rfl), hX, by rw [hR]; rfl⟩
  · have hF : filterB f = true := by simpa using hg11
    refine wl_yes rfl (congrArg Value.bool hg11) ?_
    refine wl_val (rn_move (by conv => lhs; whnf)) ?_
    refine wl_yes rfl (congrArg Value.bool hg11) ?_
    refine wl_call e_28 rfl (rfilter_ok w1 g hng) ?_; intro v13 w2 hE2 hR2
    replace hX := hX.tr hE2
    subst hR2
    refine wl_yes rfl (congrArg Value.bool hg11) ?_
    refine wl_val (rn_not rfl) ?_
    refine wl_val (rn_pickF (congrArg Value.bool hg11) (by conv => lhs; whnf)) ?_
    refine wl_val (rn_move (by conv => lhs; whnf)) ?_
    refine wl_split (d := 16) rfl (fun hg16 => ?_) (fun hg16 => ?_)
    · have hR : coversB f g = false := covers_no2 (by simpa using hg16)
      refine wl_no rfl (congrArg Value.bool hg16) ?_
      refine wl_no rfl (congrArg Value.bool hg16) ?_
      refine wl_no rfl (congrArg Value.bool hg16) ?_
      refine wl_nou rfl rfl ?_
      refine wl_nou rfl rfl ?_
      refine wl_nou rfl rfl ?_
      refine wl_no rfl (congrArg Value.bool hg16) ?_
      refine wl_val (rn_pickT (congrArg Value.bool hg16) (by conv => lhs; whnf)) ?_
      refine wl_nil ?_
      refine W_condT rfl ?_
      refine W_seq ?_
      refine W_region ?_
      refine wl_val (rn_assign (by conv => lhs; whnf)) ?_
      refine wl_nil ?_
      refine W_ret ?_
      exact ⟨_, resR1 (res1_tmp rfl), hX, by rw [hR]; rfl⟩
    · have hP : filterB g = true := by simpa using hg16
      obtain ⟨c, hc36⟩ := filter_ne hP
      have hh : headIs 36 g = decide (c = 36) := headIs_at hc36
      refine wl_yes rfl (congrArg Value.bool hg16) ?_
      refine wl_val (rn_move (by conv => lhs; whnf)) ?_
      refine wl_yes rfl (congrArg Value.bool hg16) ?_
      refine wl_call e_29 rfl (rwild_ok w2 f hnf) ?_; intro v18 w3 hE3 hR3
      replace hX := hX.tr hE3
      subst hR3
      refine wl_yes rfl (congrArg Value.bool hg16) ?_
      refine wl_val (rn_move (by conv => lhs; whnf)) ?_
      refine wl_split (d := 19) rfl (fun hg19 => ?_) (fun hg19 => ?_)
      · refine wl_yes rfl (congrArg Value.bool hg19) ?_
        refine wl_val (rn_move (by conv => lhs; whnf)) ?_
        refine wl_yes rfl (congrArg Value.bool hg19) ?_
        refine wl_val (rn_sindex us_9 rfl rfl (by omega) hc36) ?_
        refine wl_yes rfl (congrArg Value.bool hg19) ?_
        refine wl_val (rn_eql rfl rfl) ?_
        refine wl_yes rfl (congrArg Value.bool hg16) ?_
        refine wl_val (rn_pickT (congrArg Value.bool hg19) (by conv => lhs; whnf)) ?_
        refine wl_val (rn_pickF (congrArg Value.bool hg16) (by conv => lhs; whnf)) ?_
        refine wl_nil ?_
        refine W_cond rfl (fun hc0 => ?_) (fun hc0 => ?_)
        · have hR : coversB f g = false := by first | assumption | exact covers_no3 (by rw [hg19, hh, ← u8_dec]; exact hc0)
          refine W_seq ?_
          refine W_region ?_
          refine wl_val (rn_assign (by conv => lhs; whnf)) ?_
          refine wl_nil ?_
          refine W_ret ?_
          exact ⟨_, resR1 (res1_tmp rfl), hX, by rw [hR]; rfl⟩
        · have hw : (wildB f && headIs 36 g) = false := by first | (rw [hg19]; rfl) | (rw [hg19, hh, ← u8_dec]; exact hc0)
          refine W_skip ?_
          refine W_seq ?_
          refine W_region ?_
          refine wl_val (rn_move (by conv => lhs; whnf)) ?_
          refine wl_call e_30 rfl (rlevels_ok w3 f hnf) ?_; intro v26 w4 hE4 hR4
          replace hX := hX.tr hE4
          have hL := hR4; obtain ⟨a5, c5, hv5_, _⟩ := id hL.len; rw [List.length_map] at hv5_; subst hv5_
          obtain ⟨wL, hwL⟩ : ∃ x, x = w4 := ⟨_, rfl⟩
          rw [← hwL] at hL
          have hV : Ext Non wL w4 := by rw [hwL]; exact Ext.refl _ _
          have hsl := spl_len_le 47 f
          refine wl_val (rn_move (by conv => lhs; whnf)) ?_
          refine wl_call e_30 rfl (rlevels_ok w4 g hng) ?_; intro v28 w5 hE5 hR5
          replace hX := hX.tr hE5
          replace hV := hV.tr hE5
          have hT := hR5; obtain ⟨a6, c6, hv6_, _⟩ := id hT.len; rw [List.length_map] at hv6_; subst hv6_
          obtain ⟨wT, hwT⟩ : ∃ x, x = w5 := ⟨_, rfl⟩
          rw [← hwT] at hT
          have hU : Ext Non wT w5 := by rw [hwT]; exact Ext.refl _ _
          have hsg := spl_len_le 47 g
          have hq := covers_eq hF hP hw
          refine wl_val (rn_assign (by conv => lhs; whnf)) ?_
          refine wl_val (rn_assign (by conv => lhs; whnf)) ?_
          refine wl_nil ?_
          refine W_seq ?_
          refine W_seq ?_
          refine W_region ?_
          refine wl_val (rn_assign (by conv => lhs; whnf)) ?_
          refine wl_nil ?_
          refine W_block ?_   -- block 0
          refine W_loopS (S := Nat) [5, 6, 7] (fun i => [.slice a5 (spl 47 f).length c5, .slice a6 (spl 47 g).length c6, .int .i64 (i : Nat)]) (fun i A => (Ext Non w A) ∧ (Ext Non wL A ∧ Ext Non wT A ∧ i ≤ (spl 47 f).length ∧ i ≤ (spl 47 g).length ∧ ∀ j, j < i → okAt notRest (spl 47 f) (spl 47 g) j ∧ (spl 47 f)[j]? ≠ some [35])) (fun i => (spl 47 f).length - i) 0 ⟨rfl, rfl, rfl, trivial⟩ ⟨hX, ⟨hV, hU, Nat.zero_le _, Nat.zero_le _, fun j h => absurd h (Nat.not_lt_zero _)⟩⟩ ?_
          rintro τ0 i A0 ⟨hX, hI0⟩
          obtain ⟨hV, hU, hil, hil2, hall⟩ := hI0
          refine W_seq ?_
          refine W_seq ?_
          refine W_region ?_
          refine wl_val (rn_move (by conv => lhs; whnf)) ?_
          refine wl_val (rn_move (by conv => lhs; whnf)) ?_
          refine wl_val (rn_len sl_22 rfl) ?_
          refine wl_val (rn_lss rfl rfl) ?_
          refine wl_nil ?_
          refine W_cond rfl (fun hc1 => ?_) (fun hc1 => ?_)
          · have hlt := of_decide_eq_true hc1; simp only [Int.ofNat_lt] at hlt
            obtain ⟨l, hxl⟩ : ∃ l, ((spl 47 f))[i]? = some l := ⟨_, List.getElem?_eq_getElem hlt⟩
            obtain ⟨bb, oo, ea⟩ := hL.base (by intro e; have := congrArg List.length e; simp only [List.length_map, List.length_nil] at this; omega); subst ea
            refine W_skip ?_
            refine W_seq ?_
            refine W_block ?_   -- block 1
            refine W_seq ?_
            refine W_seq ?_
            refine W_region ?_
            refine wl_val (rn_move (by conv => lhs; whnf)) ?_
            refine wl_val (rn_move (by conv => lhs; whnf)) ?_
            refine wl_val (rn_indexAddr sl_22 rfl rfl (by omega)) ?_
            refine wl_val (rn_load p_9 rfl ((hL.ext hV (fun _ h => h)).at0 (eS_at hxl) rfl)) ?_
            refine wl_val (rn_seql rfl rfl) ?_
            refine wl_nil ?_
            refine W_cond rfl (fun hc2 => ?_) (fun hc2 => ?_)
            · have hR : coversB f g = true := by rw [hq]; exact like_yes (by rw [hxl, of_decide_eq_true hc2]) hil2 hall
              refine W_seq ?_
              refine W_region ?_
              refine wl_val (rn_assign (by conv => lhs; whnf)) ?_
              refine wl_nil ?_
              refine W_ret ?_
              exact ⟨_, resR1 (res1_tmp rfl), hX, by rw [hR]; rfl⟩
            · have q35 : ¬ l = [35] := of_decide_eq_false hc2
              refine W_skip ?_
              refine W_seq ?_
              refine W_drawE mixed ?_; intro w6 hE6
              replace hX := hX.tr hE6
              replace hV := hV.tr hE6
              replace hU := hU.tr hE6
              have hS := Ext.refl Non w6
              refine wd_take 0 _ _ rfl (by kernel_rfl) hS (yd_do fun A hA => rn_move (by conv => lhs; whnf)) ?_
              refine wd_take 1 _ _ rfl (by kernel_rfl) hS (yd_do fun A hA => rn_move (by conv => lhs; whnf)) ?_
              refine wd_take 2 _ _ rfl (by kernel_rfl) hS (yd_do fun A hA => rn_len sl_22 rfl) ?_
              refine wd_take 3 _ _ rfl (by kernel_rfl) hS (yd_do fun A hA => rn_geq rfl rfl) ?_
              refine wd_take 4 _ _ rfl (by kernel_rfl) hS (yd_do fun A hA => rn_move (by conv => lhs; whnf)) ?_
              refine wd_split (d := 44) rfl (fun hg44 => ?_) (fun hg44 => ?_)
              · have hR : coversB f g = false := by rw [hq]; exact like_no hxl q35 hall (not_okAt2 (by have := of_decide_eq_true hg44; omega))
                refine wd_take 5 _ _ rfl (by kernel_rfl) hS (yd_no rfl (congrArg Value.bool hg44)) ?_
                refine wd_take 6 _ _ rfl (by kernel_rfl) hS (yd_no rfl (congrArg Value.bool hg44)) ?_
                refine wd_take 7 _ _ rfl (by kernel_rfl) hS (yd_no rfl (congrArg Value.bool hg44)) ?_
                refine wd_take 8 _ _ rfl (by kernel_rfl) hS (yd_no rfl (congrArg Value.bool hg44)) ?_
                refine wd_take 9 _ _ rfl (by kernel_rfl) hS (yd_no rfl (congrArg Value.bool hg44)) ?_
                refine wd_take 10 _ _ rfl (by kernel_rfl) hS (yd_no rfl (congrArg Value.bool hg44)) ?_
                refine wd_take 11 _ _ rfl (by kernel_rfl) hS (yd_no rfl (congrArg Value.bool hg44)) ?_
                refine wd_take 12 _ _ rfl (by kernel_rfl) hS (yd_no rfl (congrArg Value.bool hg44)) ?_
                refine wd_take 13 _ _ rfl (by kernel_rfl) hS (yd_no rfl (congrArg Value.bool hg44)) ?_
                refine wd_take 14 _ _ rfl (by kernel_rfl) hS (yd_no rfl (congrArg Value.bool hg44)) ?_
                refine wd_take 15 _ _ rfl (by kernel_rfl) hS (yd_nou rfl rfl) ?_
                refine wd_take 16 _ _ rfl (by kernel_rfl) hS (yd_nou rfl rfl) ?_
                refine wd_take 17 _ _ rfl (by kernel_rfl) hS (yd_nou rfl rfl) ?_
                refine wd_take 18 _ _ rfl (by kernel_rfl) hS (yd_nou rfl rfl) ?_
                refine wd_take 19 _ _ rfl (by kernel_rfl) hS (yd_nou rfl rfl) ?_
                refine wd_take 20 _ _ rfl (by kernel_rfl) hS (yd_nou rfl rfl) ?_
                refine wd_take 21 _ _ rfl (by kernel_rfl) hS (yd_nou rfl rfl) ?_
                refine wd_take 22 _ _ rfl (by kernel_rfl) hS (yd_nou rfl rfl) ?_
                refine wd_take 23 _ _ rfl (by kernel_rfl) hS (yd_nou rfl rfl) ?_
                refine wd_take 24 _ _ rfl (by kernel_rfl) hS (yd_nou rfl rfl) ?_
                refine wd_take 25 _ _ rfl (by kernel_rfl) hS (yd_nou rfl rfl) ?_
                refine wd_take 26 _ _ rfl (by kernel_rfl) hS (yd_nou rfl rfl) ?_
                refine wd_take 27 _ _ rfl (by kernel_rfl) hS (yd_no rfl (congrArg Value.bool hg44)) ?_
                refine wd_take 28 _ _ rfl (by kernel_rfl) hS (yd_do fun A hA => rn_pickT (congrArg Value.bool hg44) (by conv => lhs; whnf)) ?_
                refine wd_done (by kernel_rfl) ?_ _
                replace hX := hX.tr hS
                replace hV := hV.tr hS
                replace hU := hU.tr hS
                refine W_condT rfl ?_
                refine W_seq ?_
                refine W_region ?_
                refine wl_val (rn_assign (by conv => lhs; whnf)) ?_
                refine wl_nil ?_
                refine W_ret ?_
                exact ⟨_, resR1 (res1_tmp rfl), hX, by rw [hR]; rfl⟩
              · have hxT : i < (spl 47 g).length := by have := of_decide_eq_false hg44; omega
                obtain ⟨y, hy⟩ : ∃ y, (spl 47 g)[i]? = some y := ⟨_, List.getElem?_eq_getElem hxT⟩
                obtain ⟨bb2, oo2, ea2⟩ := hT.base (by intro e; have := congrArg List.length e; simp only [List.length_map, List.length_nil] at this; omega); subst ea2
                refine wd_take 5 _ _ rfl (by kernel_rfl) hS (yd_yes rfl (congrArg Value.bool hg44) fun A hA => rn_move (by conv => lhs; whnf)) ?_
                refine wd_take 6 _ _ rfl (by kernel_rfl) hS (yd_yes rfl (congrArg Value.bool hg44) fun A hA => rn_move (by conv => lhs; whnf)) ?_
                refine wd_take 7 _ _ rfl (by kernel_rfl) hS (yd_yes rfl (congrArg Value.bool hg44) fun A hA => rn_indexAddr sl_22 rfl rfl (by omega)) ?_
                refine wd_take 8 _ _ rfl (by kernel_rfl) hS (yd_yes rfl (congrArg Value.bool hg44) fun A hA => rn_load p_9 rfl (((hL.ext hV (fun _ h => h)).ext hA (fun _ h => h.elim)).at0 (eS_at hxl) rfl)) ?_
                refine wd_take 9 _ _ rfl (by kernel_rfl) hS (yd_yes rfl (congrArg Value.bool hg44) fun A hA => rn_move (by conv => lhs; whnf)) ?_
                refine wd_take 10 _ _ rfl (by kernel_rfl) hS (yd_yes rfl (congrArg Value.bool hg44) fun A hA => rn_move (by conv => lhs; whnf)) ?_
                refine wd_take 11 _ _ rfl (by kernel_rfl) hS (yd_yes rfl (congrArg Value.bool hg44) fun A hA => rn_indexAddr sl_22 rfl rfl (by omega)) ?_
                refine wd_take 12 _ _ rfl (by kernel_rfl) hS (yd_yes rfl (congrArg Value.bool hg44) fun A hA => rn_load p_9 rfl (((hT.ext hU (fun _ h => h)).ext hA (fun _ h => h.elim)).at0 (eS_at hy) rfl)) ?_
                refine wd_take 13 _ _ rfl (by kernel_rfl) hS (yd_yes rfl (congrArg Value.bool hg44) fun A hA => rn_sneq rfl rfl) ?_
                refine wd_take 14 _ _ rfl (by kernel_rfl) hS (yd_yes rfl (congrArg Value.bool hg44) fun A hA => rn_move (by conv => lhs; whnf)) ?_
                refine wd_split (d := 54) rfl (fun hg54 => ?_) (fun hg54 => ?_)
                · have q1 : ¬ l = y := by simpa using of_decide_eq_true hg54
                  refine wd_take 15 _ _ rfl (by kernel_rfl) hS (yd_yes rfl (congrArg Value.bool hg54) fun A hA => rn_move (by conv => lhs; whnf)) ?_
                  refine wd_take 16 _ _ rfl (by kernel_rfl) hS (yd_yes rfl (congrArg Value.bool hg54) fun A hA => rn_move (by conv => lhs; whnf)) ?_
                  refine wd_take 17 _ _ rfl (by kernel_rfl) hS (yd_yes rfl (congrArg Value.bool hg54) fun A hA => rn_indexAddr sl_22 rfl rfl (by omega)) ?_
                  refine wd_take 18 _ _ rfl (by kernel_rfl) hS (yd_yes rfl (congrArg Value.bool hg54) fun A hA => rn_load p_9 rfl (((hL.ext hV (fun _ h => h)).ext hA (fun _ h => h.elim)).at0 (eS_at hxl) rfl)) ?_
                  refine wd_take 19 _ _ rfl (by kernel_rfl) hS (yd_yes rfl (congrArg Value.bool hg54) fun A hA => rn_sneq rfl rfl) ?_
                  refine wd_take 20 _ _ rfl (by kernel_rfl) hS (yd_yes rfl (congrArg Value.bool hg54) fun A hA => rn_move (by conv => lhs; whnf)) ?_
                  refine wd_split (d := 60) rfl (fun hg60 => ?_) (fun hg60 => ?_)
                  · have hR : coversB f g = false := by rw [hq]; exact like_no hxl q35 hall (not_okAt hxl hy q1 (fun e => absurd e (by simpa using of_decide_eq_true hg60)))
                    refine wd_take 21 _ _ rfl (by kernel_rfl) hS (yd_no rfl (congrArg Value.bool hg60)) ?_
                    refine wd_take 22 _ _ rfl (by kernel_rfl) hS (yd_no rfl (congrArg Value.bool hg60)) ?_
                    refine wd_take 23 _ _ rfl (by kernel_rfl) hS (yd_no rfl (congrArg Value.bool hg60)) ?_
                    refine wd_take 24 _ _ rfl (by kernel_rfl) hS (yd_no rfl (congrArg Value.bool hg60)) ?_
                    refine wd_take 25 _ _ rfl (by kernel_rfl) hS (yd_no rfl (congrArg Value.bool hg60)) ?_
                    refine wd_take 26 _ _ rfl (by kernel_rfl) hS (yd_yes rfl (congrArg Value.bool hg54) fun A hA => rn_pickT (congrArg Value.bool hg60) (by conv => lhs; whnf)) ?_
                    refine wd_take 27 _ _ rfl (by kernel_rfl) hS (yd_yes rfl (congrArg Value.bool hg44) fun A hA => rn_pickT (congrArg Value.bool hg54) (by conv => lhs; whnf)) ?_
                    refine wd_take 28 _ _ rfl (by kernel_rfl) hS (yd_do fun A hA => rn_pickF (congrArg Value.bool hg44) (by conv => lhs; whnf)) ?_
                    refine wd_done (by kernel_rfl) ?_ _
                    replace hX := hX.tr hS
                    replace hV := hV.tr hS
                    replace hU := hU.tr hS
                    refine W_condT rfl ?_
                    refine W_seq ?_
                    refine W_region ?_
                    refine wl_val (rn_assign (by conv => lhs; whnf)) ?_
                    refine wl_nil ?_
                    refine W_ret ?_
                    exact ⟨_, resR1 (res1_tmp rfl), hX, by rw [hR]; rfl⟩
                  · have q2 : l = [43] := by simpa using of_decide_eq_false hg60
                    refine wd_take 21 _ _ rfl (by kernel_rfl) hS (yd_yes rfl (congrArg Value.bool hg60) fun A hA => rn_move (by conv => lhs; whnf)) ?_
                    refine wd_take 22 _ _ rfl (by kernel_rfl) hS (yd_yes rfl (congrArg Value.bool hg60) fun A hA => rn_move (by conv => lhs; whnf)) ?_
                    refine wd_take 23 _ _ rfl (by kernel_rfl) hS (yd_yes rfl (congrArg Value.bool hg60) fun A hA => rn_indexAddr sl_22 rfl rfl (by omega)) ?_
                    refine wd_take 24 _ _ rfl (by kernel_rfl) hS (yd_yes rfl (congrArg Value.bool hg60) fun A hA => rn_load p_9 rfl (((hT.ext hU (fun _ h => h)).ext hA (fun _ h => h.elim)).at0 (eS_at hy) rfl)) ?_
                    refine wd_take 25 _ _ rfl (by kernel_rfl) hS (yd_yes rfl (congrArg Value.bool hg60) fun A hA => rn_seql rfl rfl) ?_
                    refine wd_take 26 _ _ rfl (by kernel_rfl) hS (yd_yes rfl (congrArg Value.bool hg54) fun A hA => rn_pickF (congrArg Value.bool hg60) (by conv => lhs; whnf)) ?_
                    refine wd_take 27 _ _ rfl (by kernel_rfl) hS (yd_yes rfl (congrArg Value.bool hg44) fun A hA => rn_pickT (congrArg Value.bool hg54) (by conv => lhs; whnf)) ?_
                    refine wd_take 28 _ _ rfl (by kernel_rfl) hS (yd_do fun A hA => rn_pickF (congrArg Value.bool hg44) (by conv => lhs; whnf)) ?_
                    refine wd_done (by kernel_rfl) ?_ _
                    replace hX := hX.tr hS
                    replace hV := hV.tr hS
                    replace hU := hU.tr hS
                    refine W_cond rfl (fun hc3 => ?_) (fun hc3 => ?_)
                    · have hR : coversB f g = false := by first | assumption | (rw [hq]; exact like_no hxl q35 hall (not_okAt hxl hy q1 (fun _ => by have := of_decide_eq_true hc3; simp [notRest, this])))
                      refine W_seq ?_
                      refine W_region ?_
                      refine wl_val (rn_assign (by conv => lhs; whnf)) ?_
                      refine wl_nil ?_
                      refine W_ret ?_
                      exact ⟨_, resR1 (res1_tmp rfl), hX, by rw [hR]; rfl⟩
                    · have hok : okAt notRest (spl 47 f) (spl 47 g) i := by first | assumption | exact ⟨l, y, hxl, hy, .inr ⟨q2, by have := of_decide_eq_false hc3; simp [notRest, this]⟩⟩
                      refine W_skip ?_
                      refine W_region ?_
                      refine wl_val (rn_move (by conv => lhs; whnf)) ?_
                      refine wl_val (rn_add rfl rfl (by omega)) ?_
                      refine wl_val (rn_assign (by conv => lhs; whnf)) ?_
                      refine wl_nil ?_
                      exact ⟨rfl, i + 1, ⟨rfl, rfl, rfl, trivial⟩, ⟨hX, ⟨hV, hU, hlt, hxT, fun j hj => by rcases Nat.lt_or_ge j i with h | h; exact hall j h; (obtain rfl : j = i := by omega); exact ⟨hok, by rw [hxl]; exact fun e => q35 (Option.some.inj e)⟩⟩⟩, by omega⟩
                · have hok : okAt notRest (spl 47 f) (spl 47 g) i := ⟨l, y, hxl, hy, .inl (by simpa using of_decide_eq_false hg54)⟩
                  refine wd_take 15 _ _ rfl (by kernel_rfl) hS (yd_no rfl (congrArg Value.bool hg54)) ?_
                  refine wd_take 16 _ _ rfl (by kernel_rfl) hS (yd_no rfl (congrArg Value.bool hg54)) ?_
                  refine wd_take 17 _ _ rfl (by kernel_rfl) hS (yd_no rfl (congrArg Value.bool hg54)) ?_
                  refine wd_take 18 _ _ rfl (by kernel_rfl) hS (yd_no rfl (congrArg Value.bool hg54)) ?_
                  refine wd_take 19 _ _ rfl (by kernel_rfl) hS (yd_no rfl (congrArg Value.bool hg54)) ?_
                  refine wd_take 20 _ _ rfl (by kernel_rfl) hS (yd_no rfl (congrArg Value.bool hg54)) ?_
                  refine wd_take 21 _ _ rfl (by kernel_rfl) hS (yd_nou rfl rfl) ?_
                  refine wd_take 22 _ _ rfl (by kernel_rfl) hS (yd_nou rfl rfl) ?_
                  refine wd_take 23 _ _ rfl (by kernel_rfl) hS (yd_nou rfl rfl) ?_
                  refine wd_take 24 _ _ rfl (by kernel_rfl) hS (yd_nou rfl rfl) ?_
                  refine wd_take 25 _ _ rfl (by kernel_rfl) hS (yd_nou rfl rfl) ?_
                  refine wd_take 26 _ _ rfl (by kernel_rfl) hS (yd_no rfl (congrArg Value.bool hg54)) ?_
                  refine wd_take 27 _ _ rfl (by kernel_rfl) hS (yd_yes rfl (congrArg Value.bool hg44) fun A hA => rn_pickF (congrArg Value.bool hg54) (by conv => lhs; whnf)) ?_
                  refine wd_take 28 _ _ rfl (by kernel_rfl) hS (yd_do fun A hA => rn_pickF (congrArg Value.bool hg44) (by conv => lhs; whnf)) ?_
                  refine wd_done (by kernel_rfl) ?_ _
                  replace hX := hX.tr hS
                  replace hV := hV.tr hS
                  replace hU := hU.tr hS
                  refine W_condF rfl ?_
                  refine W_skip ?_
                  refine W_region ?_
                  refine wl_val (rn_move (by conv => lhs; whnf)) ?_
                  refine wl_val (rn_add rfl rfl (by omega)) ?_
                  refine wl_val (rn_assign (by conv => lhs; whnf)) ?_
                  refine wl_nil ?_
                  exact ⟨rfl, i + 1, ⟨rfl, rfl, rfl, trivial⟩, ⟨hX, ⟨hV, hU, hlt, hxT, fun j hj => by rcases Nat.lt_or_ge j i with h | h; exact hall j h; (obtain rfl : j = i := by omega); exact ⟨hok, by rw [hxl]; exact fun e => q35 (Option.some.inj e)⟩⟩⟩, by omega⟩
          · have hge := of_decide_eq_false hc1; simp only [Int.ofNat_lt, Nat.not_lt] at hge
            have hR : coversB f g = decide (((spl 47 f).length : Int) = ((spl 47 g).length : Int)) := by rw [hq]; exact like_end (fun j hj => hall j (by omega))
            refine W_exit ?_   -- exit 0
            refine W_seq ?_
            refine W_region ?_
            refine wl_val (rn_move (by conv => lhs; whnf)) ?_
            refine wl_val (rn_len sl_22 rfl) ?_
            refine wl_val (rn_move (by conv => lhs; whnf)) ?_
            refine wl_val (rn_len sl_22 rfl) ?_
            refine wl_val (rn_eql rfl rfl) ?_
            refine wl_val (rn_assign (by conv => lhs; whnf)) ?_
            refine wl_nil ?_
            refine W_ret ?_
            exact ⟨_, resR1 (res1_tmp rfl), hX, by rw [hR]; rfl⟩
      · have hw : (wildB f && headIs 36 g) = false := by rw [hg19]; rfl
        refine wl_no rfl (congrArg Value.bool hg19) ?_
        refine wl_no rfl (congrArg Value.bool hg19) ?_
        refine wl_no rfl (congrArg Value.bool hg19) ?_
        refine wl_yes rfl (congrArg Value.bool hg16) ?_
        refine wl_val (rn_pickF (congrArg Value.bool hg19) (by conv => lhs; whnf)) ?_
        refine wl_val (rn_pickF (congrArg Value.bool hg16) (by conv => lhs; whnf)) ?_
        refine wl_nil ?_
        refine W_condF rfl ?_
        refine W_skip ?_
        refine W_seq ?_
        refine W_region ?_
        refine wl_val (rn_move (by conv => lhs; whnf)) ?_
        refine wl_call e_30 rfl (rlevels_ok w3 f hnf) ?_; intro v26 w7 hE7 hR7
        replace hX := hX.tr hE7
        have hL := hR7; obtain ⟨a5, c5, hv5_, _⟩ := id hL.len; rw [List.length_map] at hv5_; subst hv5_
        obtain ⟨wL, hwL⟩ : ∃ x, x = w7 := ⟨_, rfl⟩
        rw [← hwL] at hL
        have hV : Ext Non wL w7 := by rw [hwL]; exact Ext.refl _ _
        have hsl := spl_len_le 47 f
        refine wl_val (rn_move (by conv => lhs; whnf)) ?_
        refine wl_call e_30 rfl (rlevels_ok w7 g hng) ?_; intro v28 w8 hE8 hR8
        replace hX := hX.tr hE8
        replace hV := hV.tr hE8
        have hT := hR8; obtain ⟨a6, c6, hv6_, _⟩ := id hT.len; rw [List.length_map] at hv6_; subst hv6_
        obtain ⟨wT, hwT⟩ : ∃ x, x = w8 := ⟨_, rfl⟩
        rw [← hwT] at hT
        have hU : Ext Non wT w8 := by rw [hwT]; exact Ext.refl _ _
        have hsg := spl_len_le 47 g
        have hq := covers_eq hF hP hw
        refine wl_val (rn_assign (by conv => lhs; whnf)) ?_
        refine wl_val (rn_assign (by conv => lhs; whnf)) ?_
        refine wl_nil ?_
        refine W_seq ?_
        refine W_seq ?_
        refine W_region ?_
        refine wl_val (rn_assign (by conv => lhs; whnf)) ?_
        refine wl_nil ?_
        refine W_block ?_   -- block 0
        refine W_loopS (S := Nat) [5, 6, 7] (fun i => [.slice a5 (spl 47 f).length c5, .slice a6 (spl 47 g).length c6, .int .i64 (i : Nat)]) (fun i A => (Ext Non w A) ∧ (Ext Non wL A ∧ Ext Non wT A ∧ i ≤ (spl 47 f).length ∧ i ≤ (spl 47 g).length ∧ ∀ j, j < i → okAt notRest (spl 47 f) (spl 47 g) j ∧ (spl 47 f)[j]? ≠ some [35])) (fun i => (spl 47 f).length - i) 0 ⟨rfl, rfl, rfl, trivial⟩ ⟨hX, ⟨hV, hU, Nat.zero_le _, Nat.zero_le _, fun j h => absurd h (Nat.not_lt_zero _)⟩⟩ ?_
        rintro τ0 i A0 ⟨hX, hI0⟩
        obtain ⟨hV, hU, hil, hil2, hall⟩ := hI0
        refine W_seq ?_
        refine W_seq ?_
        refine W_region ?_
        refine wl_val (rn_move (by conv => lhs; whnf)) ?_
        refine wl_val (rn_move (by conv => lhs; whnf)) ?_
        refine wl_val (rn_len sl_22 rfl) ?_
        refine wl_val (rn_lss rfl rfl) ?_
        refine wl_nil ?_
        refine W_cond rfl (fun hc1 => ?_) (fun hc1 => ?_)
        · have hlt := of_decide_eq_true hc1; simp only [Int.ofNat_lt] at hlt
          obtain ⟨l, hxl⟩ : ∃ l, ((spl 47 f))[i]? = some l := ⟨_, List.getElem?_eq_getElem hlt⟩
          obtain ⟨bb, oo, ea⟩ := hL.base (by intro e; have := congrArg List.length e; simp only [List.length_map, List.length_nil] at this; omega); subst ea
          refine W_skip ?_
          refine W_seq ?_
          refine W_block ?_   -- block 1
          refine W_seq ?_
          refine W_seq ?_
          refine W_region ?_
          refine wl_val (rn_move (by conv => lhs; whnf)) ?_
          refine wl_val (rn_move (by conv => lhs; whnf)) ?_
          refine wl_val (rn_indexAddr sl_22 rfl rfl (by omega)) ?_
          refine wl_val (rn_load p_9 rfl ((hL.ext hV (fun _ h => h)).at0 (eS_at hxl) rfl)) ?_
          refine wl_val (rn_seql rfl rfl) ?_
          refine wl_nil ?_
          refine W_cond rfl (fun hc2 => ?_) (fun hc2 => ?_)
          · have hR : coversB f g = true := by rw [hq]; exact like_yes (by rw [hxl, of_decide_eq_true hc2]) hil2 hall
            refine W_seq ?_
            refine W_region ?_
            refine wl_val (rn_assign (by conv => lhs; whnf)) ?_
            refine wl_nil ?_
            refine W_ret ?_
            exact ⟨_, resR1 (res1_tmp rfl), hX, by rw [hR]; rfl⟩
          · have q35 : ¬ l = [35] := of_decide_eq_false hc2
            refine W_skip ?_
            refine W_seq ?_
            refine W_drawE mixed ?_; intro w9 hE9
            replace hX := hX.tr hE9
            replace hV := hV.tr hE9
            replace hU := hU.tr hE9
            have hS := Ext.refl Non w9
            refine wd_take 0 _ _ rfl (by kernel_rfl) hS (yd_do fun A hA => rn_move (by conv => lhs; whnf)) ?_
            refine wd_take 1 _ _ rfl (by kernel_rfl) hS (yd_do fun A hA => rn_move (by conv => lhs; whnf)) ?_
            refine wd_take 2 _ _ rfl (by kernel_rfl) hS (yd_do fun A hA => rn_len sl_22 rfl) ?_
            refine wd_take 3 _ _ rfl (by kernel_rfl) hS (yd_do fun A hA => rn_geq rfl rfl) ?_
            refine wd_take 4 _ _ rfl (by kernel_rfl) hS (yd_do fun A hA => rn_move (by conv => lhs; whnf)) ?_
            refine wd_split (d := 44) rfl (fun hg44 => ?_) (fun hg44 => ?_)
            · have hR : coversB f g = false := by rw [hq]; exact like_no hxl q35 hall (not_okAt2 (by have := of_decide_eq_true hg44; omega))
              refine wd_take 5 _ _ rfl (by kernel_rfl) hS (yd_no rfl (congrArg Value.bool hg44)) ?_
              refine wd_take 6 _ _ rfl (by kernel_rfl) hS (yd_no rfl (congrArg Value.bool hg44)) ?_
              refine wd_take 7 _ _ rfl (by kernel_rfl) hS (yd_no rfl (congrArg Value.bool hg44)) ?_
              refine wd_take 8 _ _ rfl (by kernel_rfl) hS (yd_no rfl (congrArg Value.bool hg44)) ?_
              refine wd_take 9 _ _ rfl (by kernel_rfl) hS (yd_no rfl (congrArg Value.bool hg44)) ?_
              refine wd_take 10 _ _ rfl (by kernel_rfl) hS (yd_no rfl (congrArg Value.bool hg44)) ?_
              refine wd_take 11 _ _ rfl (by kernel_rfl) hS (yd_no rfl (congrArg Value.bool hg44)) ?_
              refine wd_take 12 _ _ rfl (by kernel_rfl) hS (yd_no rfl (congrArg Value.bool hg44)) ?_
              refine wd_take 13 _ _ rfl (by kernel_rfl) hS (yd_no rfl (congrArg Value.bool hg44)) ?_
              refine wd_take 14 _ _ rfl (by kernel_rfl) hS (yd_no rfl (congrArg Value.bool hg44)) ?_
              refine wd_take 15 _ _ rfl (by kernel_rfl) hS (yd_nou rfl rfl) ?_
              refine wd_take 16 _ _ rfl (by kernel_rfl) hS (yd_nou rfl rfl) ?_
              refine wd_take 17 _ _ rfl (by kernel_rfl) hS (yd_nou rfl rfl) ?_
              refine wd_take 18 _ _ rfl (by kernel_rfl) hS (yd_nou rfl rfl) ?_
              refine wd_take 19 _ _ rfl (by kernel_rfl) hS (yd_nou rfl rfl) ?_
              refine wd_take 20 _ _ rfl (by kernel_rfl) hS (yd_nou rfl rfl) ?_
              refine wd_take 21 _ _ rfl (by kernel_rfl) hS (yd_nou rfl rfl) ?_
              refine wd_take 22 _ _ rfl (by kernel_rfl) hS (yd_nou rfl rfl) ?_
              refine wd_take 23 _ _ rfl (by kernel_rfl) hS (yd_nou rfl rfl) ?_
              refine wd_take 24 _ _ rfl (by kernel_rfl) hS (yd_nou rfl rfl) ?_
              refine wd_take 25 _ _ rfl (by kernel_rfl) hS (yd_nou rfl rfl) ?_
              refine wd_take 26 _ _ rfl (by kernel_rfl) hS (yd_nou rfl rfl) ?_
              refine wd_take 27 _ _ rfl (by kernel_rfl) hS (yd_no rfl (congrArg Value.bool hg44)) ?_
              refine wd_take 28 _ _ rfl (by kernel_rfl) hS (yd_do fun A hA => rn_pickT (congrArg Value.bool hg44) (by conv => lhs; whnf)) ?_
              refine wd_done (by kernel_rfl) ?_ _
              replace hX := hX.tr hS
              replace hV := hV.tr hS
              replace hU := hU.tr hS
              refine W_condT rfl ?_
              refine W_seq ?_
              refine W_region ?_
              refine wl_val (rn_assign (by conv => lhs; whnf)) ?_
              refine wl_nil ?_
              refine W_ret ?_
              exact ⟨_, resR1 (res1_tmp rfl), hX, by rw [hR]; rfl⟩
            · have hxT : i < (spl 47 g).length := by have := of_decide_eq_false hg44; omega
              obtain ⟨y, hy⟩ : ∃ y, (spl 47 g)[i]? = some y := ⟨_, List.getElem?_eq_getElem hxT⟩
              obtain ⟨bb2, oo2, ea2⟩ := hT.base (by intro e; have := congrArg List.length e; simp only [List.length_map, List.length_nil] at this; omega); subst ea2
              refine wd_take 5 _ _ rfl (by kernel_rfl) hS (yd_yes rfl (congrArg Value.bool hg44) fun A hA => rn_move (by conv => lhs; whnf)) ?_
              refine wd_take 6 _ _ rfl (by kernel_rfl) hS (yd_yes rfl (congrArg Value.bool hg44) fun A hA => rn_move (by conv => lhs; whnf)) ?_
              refine wd_take 7 _ _ rfl (by kernel_rfl) hS (yd_yes rfl (congrArg Value.bool hg44) fun A hA => rn_indexAddr sl_22 rfl rfl (by omega)) ?_
              refine wd_take 8 _ _ rfl (by kernel_rfl) hS (yd_yes rfl (congrArg Value.bool hg44) fun A hA => rn_load p_9 rfl (((hL.ext hV (fun _ h => h)).ext hA (fun _ h => h.elim)).at0 (eS_at hxl) rfl)) ?_
              refine wd_take 9 _ _ rfl (by kernel_rfl) hS (yd_yes rfl (congrArg Value.bool hg44) fun A hA => rn_move (by conv => lhs; whnf)) ?_
              refine wd_take 10 _ _ rfl (by kernel_rfl) hS (yd_yes rfl (congrArg Value.bool hg44) fun A hA => rn_move (by conv => lhs; whnf)) ?_
              refine wd_take 11 _ _ rfl (by kernel_rfl) hS (yd_yes rfl (congrArg Value.bool hg44) fun A hA => rn_indexAddr sl_22 rfl rfl (by omega)) ?_
              refine wd_take 12 _ _ rfl (by kernel_rfl) hS (yd_yes rfl (congrArg Value.bool hg44) fun A hA => rn_load p_9 rfl (((hT.ext hU (fun _ h => h)).ext hA (fun _ h => h.elim)).at0 (eS_at hy) rfl)) ?_
              refine wd_take 13 _ _ rfl (by kernel_rfl) hS (yd_yes rfl (congrArg Value.bool hg44) fun A hA => rn_sneq rfl rfl) ?_
              refine wd_take 14 _ _ rfl (by kernel_rfl) hS (yd_yes rfl (congrArg Value.bool hg44) fun A hA => rn_move (by conv => lhs; whnf)) ?_
              refine wd_split (d := 54) rfl (fun hg54 => ?_) (fun hg54 => ?_)
              · have q1 : ¬ l = y := by simpa using of_decide_eq_true hg54
                refine wd_take 15 _ _ rfl (by kernel_rfl) hS (yd_yes rfl (congrArg Value.bool hg54) fun A hA => rn_move (by conv => lhs; whnf)) ?_
                refine wd_take 16 _ _ rfl (by kernel_rfl) hS (yd_yes rfl (congrArg Value.bool hg54) fun A hA => rn_move (by conv => lhs; whnf)) ?_
                refine wd_take 17 _ _ rfl (by kernel_rfl) hS (yd_yes rfl (congrArg Value.bool hg54) fun A hA => rn_indexAddr sl_22 rfl rfl (by omega)) ?_
                refine wd_take 18 _ _ rfl (by kernel_rfl) hS (yd_yes rfl (congrArg Value.bool hg54) fun A hA => rn_load p_9 rfl (((hL.ext hV (fun _ h => h)).ext hA (fun _ h => h.elim)).at0 (eS_at hxl) rfl)) ?_
                refine wd_take 19 _ _ rfl (by kernel_rfl) hS (yd_yes rfl (congrArg Value.bool hg54) fun A hA => rn_sneq rfl rfl) ?_
                refine wd_take 20 _ _ rfl (by kernel_rfl) hS (yd_yes rfl (congrArg Value.bool hg54) fun A hA => rn_move (by conv => lhs; whnf)) ?_
                refine wd_split (d := 60) rfl (fun hg60 => ?_) (fun hg60 => ?_)
                · have hR : coversB f g = false := by rw [hq]; exact like_no hxl q35 hall (not_okAt hxl hy q1 (fun e => absurd e (by simpa using of_decide_eq_true hg60)))
                  refine wd_take 21 _ _ rfl (by kernel_rfl) hS (yd_no rfl (congrArg Value.bool hg60)) ?_
                  refine wd_take 22 _ _ rfl (by kernel_rfl) hS (yd_no rfl (congrArg Value.bool hg60)) ?_
                  refine wd_take 23 _ _ rfl (by kernel_rfl) hS (yd_no rfl (congrArg Value.bool hg60)) ?_
                  refine wd_take 24 _ _ rfl (by kernel_rfl) hS (yd_no rfl (congrArg Value.bool hg60)) ?_
                  refine wd_take 25 _ _ rfl (by kernel_rfl) hS (yd_no rfl (congrArg Value.bool hg60)) ?_
                  refine wd_take 26 _ _ rfl (by kernel_rfl) hS (yd_yes rfl (congrArg Value.bool hg54) fun A hA => rn_pickT (congrArg Value.bool hg60) (by conv => lhs; whnf)) ?_
                  refine wd_take 27 _ _ rfl (by kernel_rfl) hS (yd_yes rfl (congrArg Value.bool hg44) fun A hA => rn_pickT (congrArg Value.bool hg54) (by conv => lhs; whnf)) ?_
                  refine wd_take 28 _ _ rfl (by kernel_rfl) hS (yd_do fun A hA => rn_pickF (congrArg Value.bool hg44) (by conv => lhs; whnf)) ?_
                  refine wd_done (by kernel_rfl) ?_ _
                  replace hX := hX.tr hS
                  replace hV := hV.tr hS
                  replace hU := hU.tr hS
                  refine W_condT rfl ?_
                  refine W_seq ?_
                  refine W_region ?_
                  refine wl_val (rn_assign (by conv => lhs; whnf)) ?_
                  refine wl_nil ?_
                  refine W_ret ?_
                  exact ⟨_, resR1 (res1_tmp rfl), hX, by rw [hR]; rfl⟩
                · have q2 : l = [43] := by simpa using of_decide_eq_false hg60
                  refine wd_take 21 _ _ rfl (by kernel_rfl) hS (yd_yes rfl (congrArg Value.bool hg60) fun A hA => rn_move (by conv => lhs; whnf)) ?_
                  refine wd_take 22 _ _ rfl (by kernel_rfl) hS (yd_yes rfl (congrArg Value.bool hg60) fun A hA => rn_move (by conv => lhs; whnf)) ?_
                  refine wd_take 23 _ _ rfl (by kernel_rfl) hS (yd_yes rfl (congrArg Value.bool hg60) fun A hA => rn_indexAddr sl_22 rfl rfl (by omega)) ?_
                  refine wd_take 24 _ _ rfl (by kernel_rfl) hS (yd_yes rfl (congrArg Value.bool hg60) fun A hA => rn_load p_9 rfl (((hT.ext hU (fun _ h => h)).ext hA (fun _ h => h.elim)).at0 (eS_at hy) rfl)) ?_
                  refine wd_take 25 _ _ rfl (by kernel_rfl) hS (yd_yes rfl (congrArg Value.bool hg60) fun A hA => rn_seql rfl rfl) ?_
                  refine wd_take 26 _ _ rfl (by kernel_rfl) hS (yd_yes rfl (congrArg Value.bool hg54) fun A hA => rn_pickF (congrArg Value.bool hg60) (by conv => lhs; whnf)) ?_
                  refine wd_take 27 _ _ rfl (by kernel_rfl) hS (yd_yes rfl (congrArg Value.bool hg44) fun A hA => rn_pickT (congrArg Value.bool hg54) (by conv => lhs; whnf)) ?_
                  refine wd_take 28 _ _ rfl (by kernel_rfl) hS (yd_do fun A hA => rn_pickF (congrArg Value.bool hg44) (by conv => lhs; whnf)) ?_
                  refine wd_done (by kernel_rfl) ?_ _
                  replace hX := hX.tr hS
                  replace hV := hV.tr hS
                  replace hU := hU.tr hS
                  refine W_cond rfl (fun hc3 => ?_) (fun hc3 => ?_)
                  · have hR : coversB f g = false := by first | assumption | (rw [hq]; exact like_no hxl q35 hall (not_okAt hxl hy q1 (fun _ => by have := of_decide_eq_true hc3; simp [notRest, this])))
                    refine W_seq ?_
                    refine W_region ?_
                    refine wl_val (rn_assign (by conv => lhs; whnf)) ?_
                    refine wl_nil ?_
                    refine W_ret ?_
                    exact ⟨_, resR1 (res1_tmp rfl), hX, by rw [hR]; rfl⟩
                  · have hok : okAt notRest (spl 47 f) (spl 47 g) i := by first | assumption | exact ⟨l, y, hxl, hy, .inr ⟨q2, by have := of_decide_eq_false hc3; simp [notRest, this]⟩⟩
                    refine W_skip ?_
                    refine W_region ?_
                    refine wl_val (rn_move (by conv => lhs; whnf)) ?_
                    refine wl_val (rn_add rfl rfl (by omega)) ?_
                    refine wl_val (rn_assign (by conv => lhs; whnf)) ?_
                    refine wl_nil ?_
                    exact ⟨rfl, i + 1, ⟨rfl, rfl, rfl, trivial⟩, ⟨hX, ⟨hV, hU, hlt, hxT, fun j hj => by rcases Nat.lt_or_ge j i with h | h; exact hall j h; (obtain rfl : j = i := by omega); exact ⟨hok, by rw [hxl]; exact fun e => q35 (Option.some.inj e)⟩⟩⟩, by omega⟩
              · have hok : okAt notRest (spl 47 f) (spl 47 g) i := ⟨l, y, hxl, hy, .inl (by simpa using of_decide_eq_false hg54)⟩
                refine wd_take 15 _ _ rfl (by kernel_rfl) hS (yd_no rfl (congrArg Value.bool hg54)) ?_
                refine wd_take 16 _ _ rfl (by kernel_rfl) hS (yd_no rfl (congrArg Value.bool hg54)) ?_
                refine wd_take 17 _ _ rfl (by kernel_rfl) hS (yd_no rfl (congrArg Value.bool hg54)) ?_
                refine wd_take 18 _ _ rfl (by kernel_rfl) hS (yd_no rfl (congrArg Value.bool hg54)) ?_
                refine wd_take 19 _ _ rfl (by kernel_rfl) hS (yd_no rfl (congrArg Value.bool hg54)) ?_
                refine wd_take 20 _ _ rfl (by kernel_rfl) hS (yd_no rfl (congrArg Value.bool hg54)) ?_
                refine wd_take 21 _ _ rfl (by kernel_rfl) hS (yd_nou rfl rfl) ?_
                refine wd_take 22 _ _ rfl (by kernel_rfl) hS (yd_nou rfl rfl) ?_
                refine wd_take 23 _ _ rfl (by kernel_rfl) hS (yd_nou rfl rfl) ?_
                refine wd_take 24 _ _ rfl (by kernel_rfl) hS (yd_nou rfl rfl) ?_
                refine wd_take 25 _ _ rfl (by kernel_rfl) hS (yd_nou rfl rfl) ?_
                refine wd_take 26 _ _ rfl (by kernel_rfl) hS (yd_no rfl (congrArg Value.bool hg54)) ?_
                refine wd_take 27 _ _ rfl (by kernel_rfl) hS (yd_yes rfl (congrArg Value.bool hg44) fun A hA => rn_pickF (congrArg Value.bool hg54) (by conv => lhs; whnf)) ?_
                refine wd_take 28 _ _ rfl (by kernel_rfl) hS (yd_do fun A hA => rn_pickF (congrArg Value.bool hg44) (by conv => lhs; whnf)) ?_
                refine wd_done (by kernel_rfl) ?_ _
                replace hX := hX.tr hS
                replace hV := hV.tr hS
                replace hU := hU.tr hS
                refine W_condF rfl ?_
                refine W_skip ?_
                refine W_region ?_
                refine wl_val (rn_move (by conv => lhs; whnf)) ?_
                refine wl_val (rn_add rfl rfl (by omega)) ?_
                refine wl_val (rn_assign (by conv => lhs; whnf)) ?_
                refine wl_nil ?_
                exact ⟨rfl, i + 1, ⟨rfl, rfl, rfl, trivial⟩, ⟨hX, ⟨hV, hU, hlt, hxT, fun j hj => by rcases Nat.lt_or_ge j i with h | h; exact hall j h; (obtain rfl : j = i := by omega); exact ⟨hok, by rw [hxl]; exact fun e => q35 (Option.some.inj e)⟩⟩⟩, by omega⟩
        · have hge := of_decide_eq_false hc1; simp only [Int.ofNat_lt, Nat.not_lt] at hge
          have hR : coversB f g = decide (((spl 47 f).length : Int) = ((spl 47 g).length : Int)) := by rw [hq]; exact like_end (fun j hj => hall j (by omega))
          refine W_exit ?_   -- exit 0
          refine W_seq ?_
          refine W_region ?_
          refine wl_val (rn_move (by conv => lhs; whnf)) ?_
          refine wl_val (rn_len sl_22 rfl) ?_
          refine wl_val (rn_move (by conv => lhs; whnf)) ?_
          refine wl_val (rn_len sl_22 rfl) ?_
          refine wl_val (rn_eql rfl rfl) ?_
          refine wl_val (rn_assign (by conv => lhs; whnf)) ?_
          refine wl_nil ?_
          refine W_ret ?_
          exact ⟨_, resR1 (res1_tmp rfl), hX, by rw [hR]; rfl⟩
end Go.Proofs.YtaddeakfojpdoaaGreatDoorC

/- Tries: of any pairs the node that has them tells them in order, each once. -/
set_option linter.unusedVariables false
set_option linter.unusedSimpArgs false
set_option maxRecDepth 100000
namespace Go.Proofs.YtaddeakfojpdoaaGreatDoorC
open Go.RowKit
theorem Mild.under {xs : List (Str × Int)} (h : Mild xs) (f : Str) : toldU true f (ofT xs) = (tsOf xs).filter fun q => coversB f q.1 := by unfold toldU; rw [if_pos rfl, h.told]
theorem filt_yes {α : Type} {L : List α} {p : α → Bool} {i : Nat} {x : α} (hx : L[i]? = some x) (h : p x = true) : (L.take (i + 1)).filter p = (L.take i).filter p ++ [x] := by
  rw [List.take_add_one, hx]; simp [h]
theorem filt_no {α : Type} {L : List α} {p : α → Bool} {i : Nat} {x : α} (hx : L[i]? = some x) (h : p x = false) : (L.take (i + 1)).filter p = (L.take i).filter p := by
  rw [List.take_add_one, hx]; simp [h]
-- bellman/bellmanlaw14.WalkPairs
set_option maxHeartbeats 3200000 in
theorem walkPairs_ok (w : World) (ks : List Str) (ys : List Int) (sub : Int) (f : Str) {v1 v2 : Value} (hk : Sl Non w v1 1 (ks.map eS1)) (hv : Sl Non w v2 1 (ys.map eI1)) : Fn Tryz.prog 4 #[v1, v2, .int .i64 sub, Sv f] w fun u w' => u = .bool true := by
  obtain ⟨p1, n1, k1, rfl⟩ := hk.shape; obtain ⟨p2, n2, k2, rfl⟩ := hv.shape
  have hX := Ext.refl Non w
  refine fn_of_W (args := [_, _, _, _]) Tryz.func4 rfl (by kernel_rfl) rfl ?_
  refine W_seq ?_
  refine W_region ?_
  refine wl_val (rn_assign (by conv => lhs; whnf)) ?_
  refine wl_nil ?_
  refine W_seq ?_
  refine W_seq ?_
  refine W_region ?_
  refine wl_call e_6 rfl (awake14_ok w) ?_; intro v22 w1 hE1 hR1
  replace hX := hX.tr hE1
  subst hR1
  refine wl_val (rn_not rfl) ?_
  refine wl_nil ?_
  refine W_cond rfl (fun hc0 => ?_) (fun hc0 => ?_)
  · exact absurd hc0 (by simp)
  · refine W_skip ?_
    refine W_seq ?_
    refine W_seq ?_
    refine W_region ?_
    refine wl_val (rn_move (by conv => lhs; whnf)) ?_
    refine wl_call e_7 rfl (great14_ok w1 ks (hk.ext hX (fun _ h => h))) ?_; intro v25 w2 hE2 hR2
    replace hX := hX.tr hE2
    subst hR2
    refine wl_val (rn_move (by conv => lhs; whnf)) ?_
    refine wl_split (d := 26) rfl (fun hg26 => ?_) (fun hg26 => ?_)
    · refine wl_no rfl (congrArg Value.bool hg26) ?_
      refine wl_no rfl (congrArg Value.bool hg26) ?_
      refine wl_val (rn_pickT (congrArg Value.bool hg26) (by conv => lhs; whnf)) ?_
      refine wl_nil ?_
      refine W_condT rfl ?_
      refine W_seq ?_
      refine W_region ?_
      refine wl_val (rn_assign (by conv => lhs; whnf)) ?_
      refine wl_nil ?_
      refine W_ret ?_
      exact ⟨_, resR1 (res1_tmp rfl), hX, rfl⟩
    · obtain ⟨hkl, hkn⟩ := great14_no hg26
      have hMi : Mild (ks.zip ys) := Mild.zip hkl hkn
      have hLn := hMi.again.len
      refine wl_yes rfl (congrArg Value.bool hg26) ?_
      refine wl_val (rn_move (by conv => lhs; whnf)) ?_
      refine wl_yes rfl (congrArg Value.bool hg26) ?_
      refine wl_call e_14 rfl (long2_ok w2 f) ?_; intro v28 w3 hE3 hR3
      replace hX := hX.tr hE3
      subst hR3
      refine wl_val (rn_pickF (congrArg Value.bool hg26) (by conv => lhs; whnf)) ?_
      refine wl_nil ?_
      refine W_cond rfl (fun hc1 => ?_) (fun hc1 => ?_)
      · refine W_seq ?_
        refine W_region ?_
        refine wl_val (rn_assign (by conv => lhs; whnf)) ?_
        refine wl_nil ?_
        refine W_ret ?_
        exact ⟨_, resR1 (res1_tmp rfl), hX, rfl⟩
      · have hfn : f.length ≤ 300 := by have := of_decide_eq_false hc1; omega
        refine W_skip ?_
        refine W_seq ?_
        refine W_region ?_
        refine wl_val (rn_move (by conv => lhs; whnf)) ?_
        refine wl_val (rn_move (by conv => lhs; whnf)) ?_
        refine wl_call e_8 rfl (lof_ok w3 ks ys (hk.ext hX (fun _ h => h)) (hv.ext hX (fun _ h => h)) (fun k h => by have := hkl k h; omega) (by omega)) ?_; intro v32 w4 hE4 hR4
        replace hX := hX.tr hE4
        have hTr := hR4; obtain ⟨pt, rfl⟩ := hTr.ptr
        refine wl_val (rn_assign (by conv => lhs; whnf)) ?_
        refine wl_nil ?_
        refine W_seq ?_
        refine W_region ?_
        refine wl_val (rn_move (by conv => lhs; whnf)) ?_
        refine wl_val (rn_move (by conv => lhs; whnf)) ?_
        refine wl_call e_15 rfl (rpairs14_ok w4 ks ys (hk.ext hX (fun _ h => h)) (hv.ext hX (fun _ h => h)) (fun k h => by have := hkl k h; omega) (by omega)) ?_; intro v36 w5 hE5 hR5
        replace hX := hX.tr hE5
        replace hTr := hTr.ext hE5 (fun _ h => h)
        obtain ⟨va, vb, rfl, hDa, hDb⟩ := hR5
        rw [docOf_ts, eT_map] at hDa; rw [docOf_ts, eU_map] at hDb
        obtain ⟨aA, cA, hvA, _⟩ := id hDa.len; rw [List.length_map, List.length_map] at hvA; subst hvA
        obtain ⟨aB, cB, hvB, _⟩ := id hDb.len; rw [List.length_map, List.length_map] at hvB; subst hvB
        refine wl_val (rn_move (by conv => lhs; whnf)) ?_
        refine wl_val (rn_extract rfl rfl) ?_
        refine wl_val (rn_extract rfl rfl) ?_
        refine wl_val (rn_assign (by conv => lhs; whnf)) ?_
        refine wl_val (rn_assign (by conv => lhs; whnf)) ?_
        refine wl_nil ?_
        refine W_seq ?_
        refine W_region ?_
        refine wl_val (rn_move (by conv => lhs; whnf)) ?_
        refine wl_call e_9 rfl (lpairs_ok w5 _ hMi.ok (by decide) [] (by decide) (fun q hq => by rw [hMi.told] at hq; have := hMi.again.txt q hq; omega) false (by rw [hMi.told]; have := hMi.again.len; omega) hTr) ?_; intro v41 w6 hE6 hR6
        replace hX := hX.tr hE6
        replace hTr := hTr.ext hE6 (fun _ h => h)
        replace hDa := hDa.ext hE6 (fun _ h => h)
        replace hDb := hDb.ext hE6 (fun _ h => h)
        obtain ⟨vc, vd, rfl, hSa, hSb⟩ := hR6
        rw [hMi.all] at hSa hSb
        refine wl_val (rn_move (by conv => lhs; whnf)) ?_
        refine wl_val (rn_extract rfl rfl) ?_
        refine wl_val (rn_extract rfl rfl) ?_
        refine wl_val (rn_extract rfl rfl) ?_
        refine wl_val (rn_assign (by conv => lhs; whnf)) ?_
        refine wl_val (rn_assign (by conv => lhs; whnf)) ?_
        refine wl_val (rn_assign (by conv => lhs; whnf)) ?_
        refine wl_nil ?_
        refine W_seq ?_
        refine W_region ?_
        refine wl_val (rn_move (by conv => lhs; whnf)) ?_
        refine wl_val (rn_move (by conv => lhs; whnf)) ?_
        refine wl_call e_9 rfl (lpairs_ok w6 _ hMi.ok (by decide) f (by omega) (fun q hq => by rw [hMi.told] at hq; have := hMi.again.txt q hq; omega) true (by rw [hMi.told]; have := hMi.again.len; omega) hTr) ?_; intro v48 w7 hE7 hR7
        replace hX := hX.tr hE7
        replace hTr := hTr.ext hE7 (fun _ h => h)
        replace hDa := hDa.ext hE7 (fun _ h => h)
        replace hDb := hDb.ext hE7 (fun _ h => h)
        replace hSa := hSa.ext hE7 (fun _ h => h)
        replace hSb := hSb.ext hE7 (fun _ h => h)
        obtain ⟨ve, vf, rfl, hSc, hSd⟩ := hR7
        rw [hMi.under] at hSc hSd
        refine wl_val (rn_move (by conv => lhs; whnf)) ?_
        refine wl_val (rn_extract rfl rfl) ?_
        refine wl_val (rn_extract rfl rfl) ?_
        refine wl_val (rn_extract rfl rfl) ?_
        refine wl_val (rn_assign (by conv => lhs; whnf)) ?_
        refine wl_val (rn_assign (by conv => lhs; whnf)) ?_
        refine wl_val (rn_assign (by conv => lhs; whnf)) ?_
        refine wl_nil ?_
        refine W_seq ?_
        refine W_region ?_
        obtain ⟨wB, hwB⟩ : ∃ x, x = w7 := ⟨_, rfl⟩
        have hBw : w.heap.size ≤ wB.heap.size := by rw [hwB]; exact hX.size
        have hzB : wB.heap.size ≤ (World.heap w7).size := by rw [hwB]; exact Nat.le_refl _
        have hTrB := hTr.sub (M' := fun i => wB.heap.size ≤ i) (fun i h hlt => by rw [hwB] at h; omega)
        have hDaB := hDa.sub (M' := fun i => wB.heap.size ≤ i) (fun i h hlt => by rw [hwB] at h; omega)
        have hDbB := hDb.sub (M' := fun i => wB.heap.size ≤ i) (fun i h hlt => by rw [hwB] at h; omega)
        have hSaB := hSa.sub (M' := fun i => wB.heap.size ≤ i) (fun i h hlt => by rw [hwB] at h; omega)
        have hSbB := hSb.sub (M' := fun i => wB.heap.size ≤ i) (fun i h hlt => by rw [hwB] at h; omega)
        have hScB := hSc.sub (M' := fun i => wB.heap.size ≤ i) (fun i h hlt => by rw [hwB] at h; omega)
        have hSdB := hSd.sub (M' := fun i => wB.heap.size ≤ i) (fun i h hlt => by rw [hwB] at h; omega)
        rw [← hwB] at hTrB hDaB hDbB hSaB hSbB hScB hSdB
        have hVB := Ext.refl (fun i => wB.heap.size ≤ i) w7
        conv at hVB => arg 2; rw [← hwB]
        refine wl_val (rn_assign (by conv => lhs; whnf)) ?_
        refine wl_val (rn_assign (by conv => lhs; whnf)) ?_
        refine wl_nil ?_
        refine W_seq ?_
        refine W_region ?_
        refine wl_val (rn_assign (by conv => lhs; whnf)) ?_
        refine wl_nil ?_
        refine W_seq ?_
        refine W_seq ?_
        refine W_region ?_
        refine wl_val (rn_assign (by conv => lhs; whnf)) ?_
        refine wl_nil ?_
        refine W_block ?_   -- block 0
        refine W_loopS (S := Nat × Value × Value × Value × Option Nat × Option Nat × Option Nat) [2, 3, 9, 10, 11, 12, 13, 14, 15, 16, 17, 18, 19, 20, 21] (fun ⟨i, xv, mv, wv, ox, om, ow⟩ => [.int .i64 sub, Sv f, .pointer pt, .slice aA (tsOf (ks.zip ys)).length cA, .slice aB (tsOf (ks.zip ys)).length cB, vc, vd, .bool true, ve, vf, .bool true, xv, mv, wv, .int .i64 (i : Nat)]) (fun ⟨i, xv, mv, wv, ox, om, ow⟩ A => (Ext Non w A) ∧ (i ≤ (tsOf (ks.zip ys)).length ∧ wB.heap.size ≤ A.heap.size ∧ Ext (fun i => wB.heap.size ≤ i) wB A ∧ OwO A xv ox 1 ((((tsOf (ks.zip ys)).take i).filter fun q : Str × Int => coversB f q.1).map eT1) ∧ OwO A mv om 1 ((((tsOf (ks.zip ys)).take i).filter fun q : Str × Int => decide (q.2 = sub)).map eT1) ∧ OwO A wv ow 1 ((((tsOf (ks.zip ys)).take i).filter fun q : Str × Int => coversB f q.1).map eU1) ∧ (∀ j, ox = some j → wB.heap.size ≤ j) ∧ (∀ j, om = some j → wB.heap.size ≤ j) ∧ (∀ j, ow = some j → wB.heap.size ≤ j) ∧ (∀ j, ox = some j → om ≠ some j) ∧ (∀ j, ox = some j → ow ≠ some j) ∧ (∀ j, om = some j → ow ≠ some j))) (fun ⟨i, xv, mv, wv, ox, om, ow⟩ => (tsOf (ks.zip ys)).length - i) (0, .slice none 0 0, .slice none 0 0, .slice none 0 0, none, none, none) ⟨rfl, rfl, rfl, rfl, rfl, rfl, rfl, rfl, rfl, rfl, rfl, rfl, rfl, rfl, rfl, trivial⟩ ⟨hX, ⟨Nat.zero_le _, hzB, hVB, OwO.nil, OwO.nil, OwO.nil, by simp, by simp, by simp, by simp, by simp, by simp⟩⟩ ?_
        rintro τ0 ⟨i, xv, mv, wv, ox, om, ow⟩ A0 ⟨hX, hI0⟩
        obtain ⟨hil, hzB, hVB, hO, hM, hW, hoX, hoM, hoW, dXM, dXW, dMW⟩ := hI0
        obtain ⟨a18, c18, h18⟩ := id hO.len; subst h18; obtain ⟨a19, c19, h19⟩ := id hM.len; subst h19; obtain ⟨a20, c20, h20⟩ := id hW.len; subst h20
        refine W_seq ?_
        refine W_seq ?_
        refine W_region ?_
        refine wl_val (rn_move (by conv => lhs; whnf)) ?_
        refine wl_val (rn_move (by conv => lhs; whnf)) ?_
        refine wl_val (rn_len sl_22 rfl) ?_
        refine wl_val (rn_lss rfl rfl) ?_
        refine wl_nil ?_
        refine W_cond rfl (fun hc2 => ?_) (fun hc2 => ?_)
        · have hlt := of_decide_eq_true hc2; simp only [Int.ofNat_lt] at hlt
          obtain ⟨x, hLx⟩ : ∃ x, (tsOf (ks.zip ys))[i]? = some x := ⟨_, List.getElem?_eq_getElem hlt⟩
          have hi : ((tsOf (ks.zip ys)).map Prod.fst)[i]? = some x.1 := by simp [hLx]
          have hj : ((tsOf (ks.zip ys)).map Prod.snd)[i]? = some x.2 := by simp [hLx]
          obtain ⟨bbA, ooA, eaA⟩ := hDaB.base (by intro e; have := congrArg List.length e; simp only [List.length_map, List.length_nil] at this; omega); subst eaA
          obtain ⟨bbB, ooB, eaB⟩ := hDbB.base (by intro e; have := congrArg List.length e; simp only [List.length_map, List.length_nil] at this; omega); subst eaB
          have hxl := hMi.again.txt x (List.mem_of_getElem? hLx)
          have hul : (((tsOf (ks.zip ys)).take i).filter fun q : Str × Int => coversB f q.1).length ≤ i := Nat.le_trans (List.length_filter_le _ _) (by rw [List.length_take]; omega)
          have hml : (((tsOf (ks.zip ys)).take i).filter fun q : Str × Int => decide (q.2 = sub)).length ≤ i := Nat.le_trans (List.length_filter_le _ _) (by rw [List.length_take]; omega)
          refine W_skip ?_
          refine W_seq ?_
          refine W_block ?_   -- block 1
          refine W_seq ?_
          refine W_seq ?_
          refine W_region ?_
          refine wl_val (rn_move (by conv => lhs; whnf)) ?_
          refine wl_val (rn_move (by conv => lhs; whnf)) ?_
          refine wl_val (rn_move (by conv => lhs; whnf)) ?_
          refine wl_val (rn_indexAddr sl_22 rfl rfl (by omega)) ?_
          refine wl_val (rn_load p_9 rfl ((hDaB.ext hVB (fun i h => h)).at0 (eS_at hi) rfl)) ?_
          refine wl_call e_16 rfl (rcovers_ok A0 f x.1 (by omega) (by omega)) ?_; intro v63 w8 hE8 hR8
          replace hX := hX.tr hE8
          replace hO := hO.ext hE8 (fun _ _ h => h)
          replace hM := hM.ext hE8 (fun _ _ h => h)
          replace hW := hW.ext hE8 (fun _ _ h => h)
          replace hzB := Nat.le_trans hzB hE8.size
          replace hVB := hVB.tr hE8
          subst hR8
          refine wl_nil ?_
          refine W_cond rfl (fun hc3 => ?_) (fun hc3 => ?_)
          · have hU1 := filt_yes (p := fun q : Str × Int => coversB f q.1) hLx hc3
            refine W_seq ?_
            refine W_region ?_
            refine wl_val (rn_move (by conv => lhs; whnf)) ?_
            refine wl_val (rn_move (by conv => lhs; whnf)) ?_
            refine wl_val (rn_move (by conv => lhs; whnf)) ?_
            refine wl_val (rn_indexAddr sl_22 rfl rfl (by omega)) ?_
            refine wl_val (rn_load p_9 rfl ((hDaB.ext hVB (fun i h => h)).at0 (eS_at hi) rfl)) ?_
            refine wl_lit1 (r := eT1 x) sl_22 rfl rfl rfl rfl (by decide) ?_; intro v69 w9 b69 hb69 hE9 hO69
            replace hX := hX.tr hE9
            replace hO := hO.ext hE9 (fun _ _ h => h)
            replace hM := hM.ext hE9 (fun _ _ h => h)
            replace hW := hW.ext hE9 (fun _ _ h => h)
            replace hzB := Nat.le_trans hzB hE9.size
            replace hVB := hVB.tr hE9
            have hUo0 := hM
            have hUo1 := hW
            refine wl_app sl_22 rfl rfl rfl hO (hO69.sl (M := Non) id) (fun r hr => by simp only [List.mem_singleton] at hr; subst hr; exact one1 rfl) (by simp only [List.length_map, List.length_append, List.length_cons, List.length_nil]; omega) (by simp only [List.length_map, List.length_append, List.length_cons, List.length_nil, big]; omega) ?_; intro v70 w10 o70 hE10 hO70 hf70
            obtain ⟨a70, c70, hv70⟩ := id hO70.len; subst hv70
            have ho70 : ∀ i, o70 = some i → wB.heap.size ≤ i := fun j hj => by rcases hf70 j hj with h | h; exact hoX j h; omega
            have dXM70 : ∀ j, o70 = some j → om ≠ some j := fun j hj e => by rcases hf70 j hj with h | h; exact dXM j h e; have := hUo0.lt e; omega
            have dXW70 : ∀ j, o70 = some j → ow ≠ some j := fun j hj e => by rcases hf70 j hj with h | h; exact dXW j h e; have := hUo1.lt e; omega
            replace hX := hX.mineO hE10 (fun i hi => .inr (Nat.le_trans hBw (hoX i hi)))
            replace hzB := Nat.le_trans hzB hE10.size
            replace hM := hM.ext hE10 (fun i hi e => dXM i e hi)
            replace hW := hW.ext hE10 (fun i hi e => dXW i e hi)
            replace hVB := hVB.mineO hE10 (fun i hi => .inl (hoX i hi))
            refine wl_val (rn_assign (by conv => lhs; whnf)) ?_
            refine wl_nil ?_
            refine W_region ?_
            refine wl_val (rn_move (by conv => lhs; whnf)) ?_
            refine wl_val (rn_move (by conv => lhs; whnf)) ?_
            refine wl_val (rn_move (by conv => lhs; whnf)) ?_
            refine wl_val (rn_indexAddr sl_23 rfl rfl (by omega)) ?_
            refine wl_val (rn_load p_3 rfl ((hDbB.ext hVB (fun i h => h)).at0 (eI_at hj) rfl)) ?_
            refine wl_lit1 (r := eU1 x) sl_23 rfl rfl rfl rfl (by decide) ?_; intro v76 w11 b76 hb76 hE11 hO76
            replace hX := hX.tr hE11
            replace hM := hM.ext hE11 (fun _ _ h => h)
            replace hW := hW.ext hE11 (fun _ _ h => h)
            replace hzB := Nat.le_trans hzB hE11.size
            replace hVB := hVB.tr hE11
            replace hO70 := hO70.ext hE11 (fun _ _ h => h)
            have hUo0 := hO70
            have hUo1 := hM
            refine wl_app sl_23 rfl rfl rfl hW (hO76.sl (M := Non) id) (fun r hr => by simp only [List.mem_singleton] at hr; subst hr; exact one1 rfl) (by simp only [List.length_map, List.length_append, List.length_cons, List.length_nil]; omega) (by simp only [List.length_map, List.length_append, List.length_cons, List.length_nil, big]; omega) ?_; intro v77 w12 o77 hE12 hO77 hf77
            obtain ⟨a77, c77, hv77⟩ := id hO77.len; subst hv77
            have ho77 : ∀ i, o77 = some i → wB.heap.size ≤ i := fun j hj => by rcases hf77 j hj with h | h; exact hoW j h; omega
            have dXW77 : ∀ j, o70 = some j → o77 ≠ some j := fun j hj e => by rcases hf77 j e with h | h; exact dXW70 j hj h; have := hUo0.lt hj; omega
            have dMW77 : ∀ j, om = some j → o77 ≠ some j := fun j hj e => by rcases hf77 j e with h | h; exact dMW j hj h; have := hUo1.lt hj; omega
            replace hX := hX.mineO hE12 (fun i hi => .inr (Nat.le_trans hBw (hoW i hi)))
            replace hzB := Nat.le_trans hzB hE12.size
            replace hO70 := hO70.ext hE12 (fun i hi e => dXW70 i hi e)
            replace hM := hM.ext hE12 (fun i hi e => dMW i hi e)
            replace hVB := hVB.mineO hE12 (fun i hi => .inl (hoW i hi))
            refine wl_val (rn_assign (by conv => lhs; whnf)) ?_
            refine wl_nil ?_
            refine W_seq ?_
            refine W_region ?_
            refine wl_val (rn_move (by conv => lhs; whnf)) ?_
            refine wl_val (rn_move (by conv => lhs; whnf)) ?_
            refine wl_val (rn_indexAddr sl_23 rfl rfl (by omega)) ?_
            refine wl_val (rn_load p_3 rfl ((hDbB.ext hVB (fun i h => h)).at0 (eI_at hj) rfl)) ?_
            refine wl_val (rn_move (by conv => lhs; whnf)) ?_
            refine wl_val (rn_eql rfl rfl) ?_
            refine wl_nil ?_
            refine W_cond rfl (fun hc4 => ?_) (fun hc4 => ?_)
            · have hM1 := filt_yes (p := fun q : Str × Int => decide (q.2 = sub)) hLx hc4
              refine W_region ?_
              refine wl_val (rn_move (by conv => lhs; whnf)) ?_
              refine wl_val (rn_move (by conv => lhs; whnf)) ?_
              refine wl_val (rn_move (by conv => lhs; whnf)) ?_
              refine wl_val (rn_indexAddr sl_22 rfl rfl (by omega)) ?_
              refine wl_val (rn_load p_9 rfl ((hDaB.ext hVB (fun i h => h)).at0 (eS_at hi) rfl)) ?_
              refine wl_lit1 (r := eT1 x) sl_22 rfl rfl rfl rfl (by decide) ?_; intro v89 w13 b89 hb89 hE13 hO89
              replace hX := hX.tr hE13
              replace hM := hM.ext hE13 (fun _ _ h => h)
              replace hzB := Nat.le_trans hzB hE13.size
              replace hVB := hVB.tr hE13
              replace hO70 := hO70.ext hE13 (fun _ _ h => h)
              replace hO77 := hO77.ext hE13 (fun _ _ h => h)
              have hUo0 := hO70
              have hUo1 := hO77
              refine wl_app sl_22 rfl rfl rfl hM (hO89.sl (M := Non) id) (fun r hr => by simp only [List.mem_singleton] at hr; subst hr; exact one1 rfl) (by simp only [List.length_map, List.length_append, List.length_cons, List.length_nil]; omega) (by simp only [List.length_map, List.length_append, List.length_cons, List.length_nil, big]; omega) ?_; intro v90 w14 o90 hE14 hO90 hf90
              obtain ⟨a90, c90, hv90⟩ := id hO90.len; subst hv90
              have ho90 : ∀ i, o90 = some i → wB.heap.size ≤ i := fun j hj => by rcases hf90 j hj with h | h; exact hoM j h; omega
              have dXM90 : ∀ j, o70 = some j → o90 ≠ some j := fun j hj e => by rcases hf90 j e with h | h; exact dXM70 j hj h; have := hUo0.lt hj; omega
              have dMW90 : ∀ j, o90 = some j → o77 ≠ some j := fun j hj e => by rcases hf90 j hj with h | h; exact dMW77 j h e; have := hUo1.lt e; omega
              replace hX := hX.mineO hE14 (fun i hi => .inr (Nat.le_trans hBw (hoM i hi)))
              replace hzB := Nat.le_trans hzB hE14.size
              replace hO70 := hO70.ext hE14 (fun i hi e => dXM70 i hi e)
              replace hO77 := hO77.ext hE14 (fun i hi e => dMW77 i e hi)
              replace hVB := hVB.mineO hE14 (fun i hi => .inl (hoM i hi))
              refine wl_val (rn_assign (by conv => lhs; whnf)) ?_
              refine wl_nil ?_
              refine W_region ?_
              refine wl_val (rn_move (by conv => lhs; whnf)) ?_
              refine wl_val (rn_add rfl rfl (by omega)) ?_
              refine wl_val (rn_assign (by conv => lhs; whnf)) ?_
              refine wl_nil ?_
              exact ⟨rfl, (i + 1, _, _, _, o70, o90, o77), ⟨rfl, rfl, rfl, rfl, rfl, rfl, rfl, rfl, rfl, rfl, rfl, rfl, rfl, rfl, rfl, trivial⟩, ⟨hX, ⟨hlt, hzB, hVB, by rw [hU1, List.map_append]; exact hO70, by rw [hM1, List.map_append]; exact hO90, by rw [hU1, List.map_append]; exact hO77, ho70, ho90, ho77, dXM90, dXW77, dMW90⟩⟩, by show (tsOf (ks.zip ys)).length - (i + 1) < (tsOf (ks.zip ys)).length - i; omega⟩
            · have hM1 := filt_no (p := fun q : Str × Int => decide (q.2 = sub)) hLx hc4
              refine W_skip ?_
              refine W_region ?_
              refine wl_val (rn_move (by conv => lhs; whnf)) ?_
              refine wl_val (rn_add rfl rfl (by omega)) ?_
              refine wl_val (rn_assign (by conv => lhs; whnf)) ?_
              refine wl_nil ?_
              exact ⟨rfl, (i + 1, _, _, _, o70, om, o77), ⟨rfl, rfl, rfl, rfl, rfl, rfl, rfl, rfl, rfl, rfl, rfl, rfl, rfl, rfl, rfl, trivial⟩, ⟨hX, ⟨hlt, hzB, hVB, by rw [hU1, List.map_append]; exact hO70, by rw [hM1]; exact hM, by rw [hU1, List.map_append]; exact hO77, ho70, hoM, ho77, dXM70, dXW77, dMW77⟩⟩, by show (tsOf (ks.zip ys)).length - (i + 1) < (tsOf (ks.zip ys)).length - i; omega⟩
          · have hU1 := filt_no (p := fun q : Str × Int => coversB f q.1) hLx hc3
            refine W_skip ?_
            refine W_seq ?_
            refine W_region ?_
            refine wl_val (rn_move (by conv => lhs; whnf)) ?_
            refine wl_val (rn_move (by conv => lhs; whnf)) ?_
            refine wl_val (rn_indexAddr sl_23 rfl rfl (by omega)) ?_
            refine wl_val (rn_load p_3 rfl ((hDbB.ext hVB (fun i h => h)).at0 (eI_at hj) rfl)) ?_
            refine wl_val (rn_move (by conv => lhs; whnf)) ?_
            refine wl_val (rn_eql rfl rfl) ?_
            refine wl_nil ?_
            refine W_cond rfl (fun hc4 => ?_) (fun hc4 => ?_)
            · have hM1 := filt_yes (p := fun q : Str × Int => decide (q.2 = sub)) hLx hc4
              refine W_region ?_
              refine wl_val (rn_move (by conv => lhs; whnf)) ?_
              refine wl_val (rn_move (by conv => lhs; whnf)) ?_
              refine wl_val (rn_move (by conv => lhs; whnf)) ?_
              refine wl_val (rn_indexAddr sl_22 rfl rfl (by omega)) ?_
              refine wl_val (rn_load p_9 rfl ((hDaB.ext hVB (fun i h => h)).at0 (eS_at hi) rfl)) ?_
              refine wl_lit1 (r := eT1 x) sl_22 rfl rfl rfl rfl (by decide) ?_; intro v89 w15 b89 hb89 hE15 hO89
              replace hX := hX.tr hE15
              replace hO := hO.ext hE15 (fun _ _ h => h)
              replace hM := hM.ext hE15 (fun _ _ h => h)
              replace hW := hW.ext hE15 (fun _ _ h => h)
              replace hzB := Nat.le_trans hzB hE15.size
              replace hVB := hVB.tr hE15
              have hUo0 := hO
              have hUo1 := hW
              refine wl_app sl_22 rfl rfl rfl hM (hO89.sl (M := Non) id) (fun r hr => by simp only [List.mem_singleton] at hr; subst hr; exact one1 rfl) (by simp only [List.length_map, List.length_append, List.length_cons, List.length_nil]; omega) (by simp only [List.length_map, List.length_append, List.length_cons, List.length_nil, big]; omega) ?_; intro v90 w16 o90 hE16 hO90 hf90
              obtain ⟨a90, c90, hv90⟩ := id hO90.len; subst hv90
              have ho90 : ∀ i, o90 = some i → wB.heap.size ≤ i := fun j hj => by rcases hf90 j hj with h | h; exact hoM j h; omega
              have dXM90 : ∀ j, ox = some j → o90 ≠ some j := fun j hj e => by rcases hf90 j e with h | h; exact dXM j hj h; have := hUo0.lt hj; omega
              have dMW90 : ∀ j, o90 = some j → ow ≠ some j := fun j hj e => by rcases hf90 j hj with h | h; exact dMW j h e; have := hUo1.lt e; omega
              replace hX := hX.mineO hE16 (fun i hi => .inr (Nat.le_trans hBw (hoM i hi)))
              replace hzB := Nat.le_trans hzB hE16.size
              replace hO := hO.ext hE16 (fun i hi e => dXM i hi e)
              replace hW := hW.ext hE16 (fun i hi e => dMW i e hi)
              replace hVB := hVB.mineO hE16 (fun i hi => .inl (hoM i hi))
              refine wl_val (rn_assign (by conv => lhs; whnf)) ?_
              refine wl_nil ?_
              refine W_region ?_
              refine wl_val (rn_move (by conv => lhs; whnf)) ?_
              refine wl_val (rn_add rfl rfl (by omega)) ?_
              refine wl_val (rn_assign (by conv => lhs; whnf)) ?_
              refine wl_nil ?_
              exact ⟨rfl, (i + 1, _, _, _, ox, o90, ow), ⟨rfl, rfl, rfl, rfl, rfl, rfl, rfl, rfl, rfl, rfl, rfl, rfl, rfl, rfl, rfl, trivial⟩, ⟨hX, ⟨hlt, hzB, hVB, by rw [hU1]; exact hO, by rw [hM1, List.map_append]; exact hO90, by rw [hU1]; exact hW, hoX, ho90, hoW, dXM90, dXW, dMW90⟩⟩, by show (tsOf (ks.zip ys)).length - (i + 1) < (tsOf (ks.zip ys)).length - i; omega⟩
            · have hM1 := filt_no (p := fun q : Str × Int => decide (q.2 = sub)) hLx hc4
              refine W_skip ?_
              refine W_region ?_
              refine wl_val (rn_move (by conv => lhs; whnf)) ?_
              refine wl_val (rn_add rfl rfl (by omega)) ?_
              refine wl_val (rn_assign (by conv => lhs; whnf)) ?_
              refine wl_nil ?_
              exact ⟨rfl, (i + 1, _, _, _, ox, om, ow), ⟨rfl, rfl, rfl, rfl, rfl, rfl, rfl, rfl, rfl, rfl, rfl, rfl, rfl, rfl, rfl, trivial⟩, ⟨hX, ⟨hlt, hzB, hVB, by rw [hU1]; exact hO, by rw [hM1]; exact hM, by rw [hU1]; exact hW, hoX, hoM, hoW, dXM, dXW, dMW⟩⟩, by show (tsOf (ks.zip ys)).length - (i + 1) < (tsOf (ks.zip ys)).length - i; omega⟩
        · have hge := of_decide_eq_false hc2; simp only [Int.ofNat_lt, Nat.not_lt] at hge
          have hUL : (((tsOf (ks.zip ys)).take i).filter fun q : Str × Int => coversB f q.1) = ((tsOf (ks.zip ys)).filter fun q : Str × Int => coversB f q.1) := by rw [List.take_of_length_le hge]
          have hML : (((tsOf (ks.zip ys)).take i).filter fun q : Str × Int => decide (q.2 = sub)) = ((tsOf (ks.zip ys)).filter fun q : Str × Int => decide (q.2 = sub)) := by rw [List.take_of_length_le hge]
          have hUn : ((tsOf (ks.zip ys)).filter fun q : Str × Int => coversB f q.1).length ≤ 100 := Nat.le_trans (List.length_filter_le _ _) hLn
          have hMn : ((tsOf (ks.zip ys)).filter fun q : Str × Int => decide (q.2 = sub)).length ≤ 100 := Nat.le_trans (List.length_filter_le _ _) hLn
          refine W_exit ?_   -- exit 0
          refine W_seq ?_
          refine W_region ?_
          refine wl_val (rn_move (by conv => lhs; whnf)) ?_
          refine wl_val (rn_move (by conv => lhs; whnf)) ?_
          refine wl_yes rfl rfl ?_
          refine wl_val (rn_move (by conv => lhs; whnf)) ?_
          refine wl_val (rn_pickT rfl (by conv => lhs; whnf)) ?_
          refine wl_val (rn_move (by conv => lhs; whnf)) ?_
          refine wl_yes rfl rfl ?_
          refine wl_val (rn_move (by conv => lhs; whnf)) ?_
          refine wl_yes rfl rfl ?_
          refine wl_val (rn_move (by conv => lhs; whnf)) ?_
          refine wl_yes rfl rfl ?_
          refine wl_call e_12 rfl (texts_ok A0 ((tsOf (ks.zip ys)).map Prod.fst) ((tsOf (ks.zip ys)).map Prod.fst) ((hSaB.ext hVB (fun i h => h)).sub (M' := Non) (fun _ h _ => h.elim)) ((hDaB.ext hVB (fun i h => h)).sub (M' := Non) (fun _ h _ => h.elim)) (by rw [List.length_map]; omega)) ?_; intro v98 w17 hE17 hR17
          replace hX := hX.tr hE17
          replace hO := hO.ext hE17 (fun _ _ h => h)
          replace hM := hM.ext hE17 (fun _ _ h => h)
          replace hW := hW.ext hE17 (fun _ _ h => h)
          replace hzB := Nat.le_trans hzB hE17.size
          replace hVB := hVB.tr hE17
          subst hR17
          refine wl_val (rn_pickT rfl (by conv => lhs; whnf)) ?_
          refine wl_val (rn_move (by conv => lhs; whnf)) ?_
          refine wl_yes rfl (congrArg Value.bool (decide_eq_true rfl)) ?_
          refine wl_val (rn_move (by conv => lhs; whnf)) ?_
          refine wl_yes rfl (congrArg Value.bool (decide_eq_true rfl)) ?_
          refine wl_val (rn_move (by conv => lhs; whnf)) ?_
          refine wl_yes rfl (congrArg Value.bool (decide_eq_true rfl)) ?_
          refine wl_call e_13 rfl (ints_ok w17 ((tsOf (ks.zip ys)).map Prod.snd) ((tsOf (ks.zip ys)).map Prod.snd) ((hSbB.ext hVB (fun i h => h)).sub (M' := Non) (fun _ h _ => h.elim)) ((hDbB.ext hVB (fun i h => h)).sub (M' := Non) (fun _ h _ => h.elim)) (by rw [List.length_map]; omega)) ?_; intro v103 w18 hE18 hR18
          replace hX := hX.tr hE18
          replace hO := hO.ext hE18 (fun _ _ h => h)
          replace hM := hM.ext hE18 (fun _ _ h => h)
          replace hW := hW.ext hE18 (fun _ _ h => h)
          replace hzB := Nat.le_trans hzB hE18.size
          replace hVB := hVB.tr hE18
          subst hR18
          refine wl_val (rn_pickT (congrArg Value.bool (decide_eq_true rfl)) (by conv => lhs; whnf)) ?_
          refine wl_val (rn_move (by conv => lhs; whnf)) ?_
          refine wl_yes rfl (congrArg Value.bool (decide_eq_true rfl)) ?_
          refine wl_val (rn_move (by conv => lhs; whnf)) ?_
          refine wl_yes rfl (congrArg Value.bool (decide_eq_true rfl)) ?_
          refine wl_val (rn_move (by conv => lhs; whnf)) ?_
          refine wl_yes rfl (congrArg Value.bool (decide_eq_true rfl)) ?_
          refine wl_call e_12 rfl (texts_ok w18 (((tsOf (ks.zip ys)).filter fun q : Str × Int => coversB f q.1).map Prod.fst) (((tsOf (ks.zip ys)).filter fun q : Str × Int => coversB f q.1).map Prod.fst) ((hScB.ext hVB (fun i h => h)).sub (M' := Non) (fun _ h _ => h.elim)) (by rw [← eT_map, ← hUL]; exact hO.sl (M := Non) (fun _ _ h => h)) (by rw [List.length_map]; omega)) ?_; intro v108 w19 hE19 hR19
          replace hX := hX.tr hE19
          replace hO := hO.ext hE19 (fun _ _ h => h)
          replace hM := hM.ext hE19 (fun _ _ h => h)
          replace hW := hW.ext hE19 (fun _ _ h => h)
          replace hzB := Nat.le_trans hzB hE19.size
          replace hVB := hVB.tr hE19
          subst hR19
          refine wl_val (rn_pickT (congrArg Value.bool (decide_eq_true rfl)) (by conv => lhs; whnf)) ?_
          refine wl_val (rn_move (by conv => lhs; whnf)) ?_
          refine wl_yes rfl (congrArg Value.bool (decide_eq_true rfl)) ?_
          refine wl_val (rn_move (by conv => lhs; whnf)) ?_
          refine wl_yes rfl (congrArg Value.bool (decide_eq_true rfl)) ?_
          refine wl_val (rn_move (by conv => lhs; whnf)) ?_
          refine wl_yes rfl (congrArg Value.bool (decide_eq_true rfl)) ?_
          refine wl_call e_13 rfl (ints_ok w19 (((tsOf (ks.zip ys)).filter fun q : Str × Int => coversB f q.1).map Prod.snd) (((tsOf (ks.zip ys)).filter fun q : Str × Int => coversB f q.1).map Prod.snd) ((hSdB.ext hVB (fun i h => h)).sub (M' := Non) (fun _ h _ => h.elim)) (by rw [← eU_map, ← hUL]; exact hW.sl (M := Non) (fun _ _ h => h)) (by rw [List.length_map]; omega)) ?_; intro v113 w20 hE20 hR20
          replace hX := hX.tr hE20
          replace hO := hO.ext hE20 (fun _ _ h => h)
          replace hM := hM.ext hE20 (fun _ _ h => h)
          replace hW := hW.ext hE20 (fun _ _ h => h)
          replace hzB := Nat.le_trans hzB hE20.size
          replace hVB := hVB.tr hE20
          subst hR20
          refine wl_val (rn_pickT (congrArg Value.bool (decide_eq_true rfl)) (by conv => lhs; whnf)) ?_
          refine wl_val (rn_move (by conv => lhs; whnf)) ?_
          refine wl_yes rfl (congrArg Value.bool (decide_eq_true rfl)) ?_
          refine wl_val (rn_move (by conv => lhs; whnf)) ?_
          refine wl_yes rfl (congrArg Value.bool (decide_eq_true rfl)) ?_
          refine wl_val (rn_move (by conv => lhs; whnf)) ?_
          refine wl_yes rfl (congrArg Value.bool (decide_eq_true rfl)) ?_
          refine wl_call e_17 rfl (filters_ok w20 _ hMi.ok (by decide) (by rw [hMi.told]; omega) sub ((hTrB.ext hVB (fun i h => h)).sub (M' := Non) (fun _ h _ => h.elim))) ?_; intro v118 w21 hE21 hR21
          replace hX := hX.tr hE21
          replace hO := hO.ext hE21 (fun _ _ h => h)
          replace hM := hM.ext hE21 (fun _ _ h => h)
          replace hW := hW.ext hE21 (fun _ _ h => h)
          replace hzB := Nat.le_trans hzB hE21.size
          replace hVB := hVB.tr hE21
          have hF := hR21
          rw [hMi.told] at hF
          refine wl_yes rfl (congrArg Value.bool (decide_eq_true rfl)) ?_
          refine wl_val (rn_move (by conv => lhs; whnf)) ?_
          refine wl_yes rfl (congrArg Value.bool (decide_eq_true rfl)) ?_
          refine wl_call e_12 rfl (texts_ok w21 (((tsOf (ks.zip ys)).filter fun q : Str × Int => decide (q.2 = sub)).map Prod.fst) (((tsOf (ks.zip ys)).filter fun q : Str × Int => decide (q.2 = sub)).map Prod.fst) hF (by rw [← eT_map, ← hML]; exact hM.sl (M := Non) (fun _ _ h => h)) (by rw [List.length_map]; omega)) ?_; intro v120 w22 hE22 hR22
          replace hX := hX.tr hE22
          replace hO := hO.ext hE22 (fun _ _ h => h)
          replace hM := hM.ext hE22 (fun _ _ h => h)
          replace hW := hW.ext hE22 (fun _ _ h => h)
          replace hzB := Nat.le_trans hzB hE22.size
          replace hVB := hVB.tr hE22
          replace hF := hF.ext hE22 (fun _ h => h)
          subst hR22
          refine wl_val (rn_pickT (congrArg Value.bool (decide_eq_true rfl)) (by conv => lhs; whnf)) ?_
          refine wl_val (rn_assign (by conv => lhs; whnf)) ?_
          refine wl_nil ?_
          refine W_ret ?_
          exact ⟨_, resR1 (res1_tmp rfl), hX, congrArg Value.bool (decide_eq_true rfl)⟩
end Go.Proofs.YtaddeakfojpdoaaGreatDoorC

/- The row of a law that lists variables; each rule holds of whatever program. -/
set_option linter.unusedVariables false
set_option linter.unusedSimpArgs false
namespace Go.Proofs.YtaddeakfojpdoaaGreatDoorC
open Go.ChangeShapes Go.WideShapes Go.ChangeAt Go.RowKit
/-- A law that returns true, and leaves what was as it was: its row, where variables are laid. -/
theorem law_liftedL {laidL : List (String × DataW Unit)} {a : Assume} {C : Checked} {os : Os} {f : FuncId} {fn : Func} {s : ChangeSpec} {conds : List PathCond} {apart fresh handsOn : Bool} {H : Type} {enc : TypeId × Value → H} {tb : TypeId}
    (own : ownKnob C.prog.godebug = none) (started : os.Started) (noInit : C.prog.inits.idxOf? f = none) (hfn : C.prog.funcs[f]? = some fn)
    (witness : ∃ (w : World) (tape : Tape) (i : Input), w.os = os ∧ (w.forCall tape i).Shaped C.prog ∧ i.vars = [] ∧ Input.okWide C.prog (w.forCall tape i) .any w.heap.size f i ∧
      ((s.pre enc C.prog fn conds apart (w.forCall tape i).memory i.args ∧ laidMetH C.prog laidL (w.forCall tape i).memory) ∧ sizedMet enc C.prog fn (OpenSpec.ofChange s) apart (w.forCall tape i).memory i.args) ∧ a.holds C.prog (lone (Frame.enter C.prog f i.args .normal) [] (w.forCall tape i)))
    (laid : laidOutB C.prog = true) (hts : (fn.params.toList.all fun t => C.prog.readableRec t && decide (t < C.prog.types.size)) = true) (hres : fn.resultTypes.toList = [tb]) (htb : C.prog.underlying tb = some .bool) (hvars : s.vars = [])
    (hs : ∀ ds : List (DataW H), ds.length = fn.params.toList.length → s.fn H ds = { results := [.lit (.bool true)], args := ds })
    (contract : ∀ (W : World) (base : Nat) (args : Array Value) (ds : List (DataW H)) (ps : List MemPlace), (∀ (j : Nat) t v, fn.params[j]? = some t → args[j]? = some v → Value.okWide C.prog W .any base t v) →
      DataW.TrodAll enc C.prog W 0 (fun _ => true) true fn.params.toList args.toList ds ps → laidMetH C.prog laidL W → Fn C.prog f args W fun v _ => v = .bool true) :
    ReturnsInHanded a C os f .any (fun w args => (s.pre enc C.prog fn conds apart w args ∧ laidMetH C.prog laidL w) ∧ sizedMet enc C.prog fn (OpenSpec.ofChange s) apart w args) (s.post enc C.prog fn apart fresh handsOn false) := by
  refine returnsInHanded_of_change_and (X := fun w _ => laidMetH C.prog laidL w) (fun _ _ _ hh h => h.of_heap hh) own started noInit hfn witness ?_
  intro W base args ds gs before hval hW _ _ hL _
  have hW' := hW
  obtain ⟨p, q, hA, hV, rfl, _, _⟩ := hW
  rw [hvars] at hV
  obtain ⟨rfl, rfl⟩ := trodVars_none hV
  refine Calls.mono (contract W base args ds p hval hA hL) fun e W' ⟨v, he, hE, hv⟩ => ?_
  subst hv
  refine ⟨_, he, ?_⟩
  have hlen : ∀ (ts : List TypeId) (vs : List Value) (ds : List (DataW H)) (ps : List MemPlace), DataW.TrodAll enc C.prog W 0 (fun _ => true) true ts vs ds ps → ds.length = ts.length := by
    intro ts
    induction ts with
    | nil => intro vs ds ps h; cases vs <;> cases ds <;> first | rfl | exact h.elim
    | cons t ts ih =>
      intro vs ds ps h
      cases vs with
      | nil => exact h.elim
      | cons v vs =>
        cases ds with
        | nil => exact h.elim
        | cons d ds => obtain ⟨p, q, _, h2, _⟩ := h; simp [ih _ _ _ h2]
  have hfn' : s.fn H (ds ++ []) = { results := [.lit (.bool true)], args := ds } := by rw [List.append_nil]; exact hs ds (hlen _ _ _ _ hA)
  refine ⟨ds, [], p ++ [], [], p, [], hW', ?_, ?_, ?_, hE.below.frame _, fun h => by cases h⟩
  · rw [hfn', hres]
    have : fn.resultTypes.size = 1 := by rw [← Array.length_toList, hres]; rfl
    rw [this]
    exact trodAll_mk1 (shut_bool htb true)
  · rw [hfn']
    exact trodAll_stays laid hE.below _ _ _ _ hts hA (fun x hx => by simpa using hW'.lt x (by simp [hx]))
  · rw [hfn', hvars]; rfl
end Go.Proofs.YtaddeakfojpdoaaGreatDoorC

/- What the rows of the laws on texts share: how their arguments read. -/
set_option linter.unusedVariables false
set_option linter.unusedSimpArgs false
namespace Go.Proofs.YtaddeakfojpdoaaGreatDoor
open Go.RowKit Go.Proofs.YtaddeakfojpdoaaGreatDoorC Go.ChangeShapes
theorem own3 : ownKnob Tryz.prog.godebug = none := by kernel_rfl
theorem laidOut3 : laidOutB Tryz.prog = true := by kernel_rfl
end Go.Proofs.YtaddeakfojpdoaaGreatDoor

/- How arguments of many texts, numbers, signs read. -/
set_option linter.unusedVariables false
set_option linter.unusedSimpArgs false
namespace Go.Proofs.YtaddeakfojpdoaaGreatDoor
open Go.RowKit Go.Proofs.YtaddeakfojpdoaaGreatDoorC Go.ChangeShapes
theorem str_flat : flatT Tryz.prog 1 9 = some [.str] := by kernel_rfl
theorem strs_of : ∀ (rows : List (List Value)), (∀ r ∈ rows, flatOk [.str] r) → ∃ l : List Str, rows = l.map eS1 ∧ ∀ x ∈ l, x.length ≤ maxLen
  | [], _ => ⟨[], rfl, by simp⟩
  | r :: rows, h => by
    obtain ⟨l, hl, hm⟩ := strs_of rows (fun x hx => h x (by simp [hx]))
    obtain ⟨_, r1, e1, ⟨a1, rfl, ha⟩, h1⟩ := (h r (by simp)).cons
    have e2 := h1.nil
    exact ⟨a1 :: l, by rw [hl, e1, e2]; rfl, fun x hx => by rcases List.mem_cons.1 hx with rfl | hx; exact ha; exact hm x hx⟩
end Go.Proofs.YtaddeakfojpdoaaGreatDoor

/- How arguments of many numbers read. -/
set_option linter.unusedVariables false
set_option linter.unusedSimpArgs false
namespace Go.Proofs.YtaddeakfojpdoaaGreatDoor
open Go.RowKit Go.Proofs.YtaddeakfojpdoaaGreatDoorC Go.ChangeShapes
theorem int_flat : flatT Tryz.prog 1 3 = some [.int .i64] := by kernel_rfl
theorem ints_of : ∀ (rows : List (List Value)), (∀ r ∈ rows, flatOk [.int .i64] r) → ∃ l : List Int, rows = l.map eI1
  | [], _ => ⟨[], rfl⟩
  | r :: rows, h => by
    obtain ⟨l, hl⟩ := ints_of rows (fun x hx => h x (by simp [hx]))
    obtain ⟨_, r1, e1, ⟨a1, rfl, _⟩, h1⟩ := (h r (by simp)).cons
    have e2 := h1.nil
    exact ⟨a1 :: l, by rw [hl, e1, e2]; rfl⟩
end Go.Proofs.YtaddeakfojpdoaaGreatDoor
