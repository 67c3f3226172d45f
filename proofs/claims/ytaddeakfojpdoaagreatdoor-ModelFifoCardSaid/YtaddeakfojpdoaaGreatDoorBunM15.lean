/- The model: what one of all polls. -/
import Derived.Test.YtaddeakfojpdoaaGreatDoorBunM14
import Derived.Test.YtaddeakfojpdoaaGreatDoorBunM2
import Derived.LaidMore
import Derived.Lay
import Derived.OpenShut
import Derived.Stop.Joined
import Derived.Test.YtaddeakfojpdoaaGreatDoorBunM7
import Derived.Test.YtaddeakfojpdoaaGreatDoorBunM5
import Derived.Test.YtaddeakfojpdoaaGreatDoorRows
set_option linter.unusedVariables false
set_option linter.unusedSimpArgs false
set_option maxRecDepth 100000
namespace Go.Proofs.YtaddeakfojpdoaaGreatDoorC
open Go.RowKit
theorem dq_pub2 (q : Option (List MsgD)) (t : Str) (hq : (q.getD []).length < 16) : ∃ (q' : Option (List MsgD)) (a : AnsD), (Dq q).publish (pubO t) = (Dq q', a) ∧ (decide (a.err = 0) = true → decide (a.a = 1) = true → q'.getD [] = q.getD [] ++ [⟨t, [], false⟩]) ∧ (decide (a.a = 1) = false → q' = q) ∧ (decide (a.err = 0) = false → q' = q) := by
  rw [dq_pub q t hq]
  split
  · exact ⟨_, _, rfl, fun _ _ => rfl, fun h => absurd h (by decide), fun h => absurd h (by decide)⟩
  · exact ⟨_, _, rfl, fun _ h => absurd h (by show ¬ decide ((0 : Int) = 1) = true; decide), fun _ => rfl, fun _ => rfl⟩
theorem qOf_drop {L : List Str} {j : Nat} {x : Str} (h : L[j]? = some x) : qOf (L.drop j) = ⟨x, [], false⟩ :: qOf (L.drop (j + 1)) := by
  obtain ⟨hl, rfl⟩ := List.getElem?_eq_some_iff.1 h
  rw [List.drop_eq_getElem_cons hl]; rfl
theorem poll_dq1 {q : Option (List MsgD)} {m : MsgD} {r : List MsgD} (h : q.getD [] = m :: r) (hq : (q.getD []).length ≤ 16) : StepOK 20 (.agg (⟨4, 2, [], [], false⟩ : OpD).enc.toArray) (Dq q) (Dq (some r), ⟨0, 0, 0, m⟩) := by rw [← dq_poll1 h]; exact poll_dq q hq
theorem poll_dq0 {q : Option (List MsgD)} (h : q.getD [] = []) : StepOK 20 (.agg (⟨4, 2, [], [], false⟩ : OpD).enc.toArray) (Dq q) (Dq q, ⟨7, 0, 0, zeroMsg⟩) := by rw [← dq_poll0 h]; exact poll_dq q (by rw [h]; decide)
-- bellman/bellmanlaw18.ModelFifo
set_option maxHeartbeats 16000000 in
theorem modelFifo_ok (w : World) (ts : List Str) {v0 : Value} (hs : Sl Non w v0 1 (ts.map eS1)) : Fn Tryz.prog 5 #[v0] w fun u w' => u = .bool true := by
  obtain ⟨a0, c0, rfl, _⟩ := hs.len
  simp only [List.length_map] at hs ⊢
  have hX := Ext.refl Non w
  refine fn_of_W (args := [_]) Tryz.func5 rfl (by kernel_rfl) rfl ?_
  refine W_seq ?_
  refine W_region ?_
  refine wl_val (rn_assign (by conv => lhs; whnf)) ?_
  refine wl_nil ?_
  refine W_seq ?_
  refine W_seq ?_
  refine W_region ?_
  refine wl_call e_18 rfl (awake18_ok w) ?_; intro v8 w1 hE1 hR1
  replace hX := hX.tr hE1
  subst hR1
  refine wl_val (rn_not rfl) ?_
  refine wl_nil ?_
  refine W_cond rfl (fun hc0 => ?_) (fun hc0 => ?_)
  · exact absurd hc0 (by simp)
  · refine W_skip ?_
    refine W_seq ?_
    refine W_seq ?_
    refine W_region ?_
    refine wl_val (rn_move (by conv => lhs; whnf)) ?_
    refine wl_val (rn_len sl_22 rfl) ?_
    refine wl_val (rn_gtr rfl rfl) ?_
    refine wl_nil ?_
    refine W_cond rfl (fun hc1 => ?_) (fun hc1 => ?_)
    · refine W_seq ?_
      refine W_region ?_
      refine wl_val (rn_assign (by conv => lhs; whnf)) ?_
      refine wl_nil ?_
      refine W_ret ?_
      exact ⟨_, resR1 (res1_tmp rfl), hX, rfl⟩
    · have hn16 : ts.length ≤ 16 := by have := of_decide_eq_false hc1; omega
      refine W_skip ?_
      refine W_seq ?_
      refine W_region ?_
      refine wl_call e_19 rfl (mnew_ok w1 2 16 (by decide) (by decide) (by decide) (by decide)) ?_; intro v14 w2 hE2 hR2
      replace hX := hX.tr hE2
      obtain ⟨cs14, rfl, hd⟩ := hR2
      obtain ⟨pz, z1, zl1, zc1, z2, zl2, zc2, z3, zl3, zc3, z4, zl4, zc4, z5, zl5, zc5, z6, zl6, zc6, nvz, bvz, rfl, _⟩ := id hd
      refine wl_val (rn_build' b_69 rfl rfl (cs := (⟨3, 0, [97], [120], false⟩ : OpD).enc) rfl) ?_
      refine wl_call e_20 rfl (first_pub Non w2 _ (fun _ h => h.elim) hd) ?_; intro v16 w3 hE3 hR3
      replace hX := hX.tr hE3
      replace hd := hd.ext hE3 (fun _ h => h)
      obtain ⟨cs16, rfl, hd16⟩ := hR3
      obtain ⟨pz, z1, zl1, zc1, z2, zl2, zc2, z3, zl3, zc3, z4, zl4, zc4, z5, zl5, zc5, z6, zl6, zc6, nvz, bvz, rfl, _⟩ := id hd16
      obtain ⟨n16, hn16e⟩ : ∃ n, n = (World.heap w3).size := ⟨_, rfl⟩
      replace hd16 := hd16.sub (M' := fun j => n16 ≤ j) (fun j h hlt => by omega)
      refine wl_val (rn_move (by conv => lhs; whnf)) ?_
      refine wl_val (rn_extract rfl rfl) ?_
      refine wl_val (rn_extract rfl rfl) ?_
      refine wl_alloc z_59 ?_; intro b3 w4 hb3 hE4 hB3
      have hq3 : w.heap.size ≤ b3 := Nat.le_trans hX.size hb3
      have hl3 : Mine Non w b3 := .inr hq3
      have hg3 : n16 ≤ b3 := by omega
      replace hX := hX.tr hE4
      replace hd16 := hd16.ext hE4 (fun _ h => h.elim)
      refine wl_alloc z_64 ?_; intro b4 w5 hb4 hE5 hB4
      have hn3_4 : b3 < b4 := Nat.lt_of_lt_of_le hB3.lt hb4
      have hq4 : w.heap.size ≤ b4 := Nat.le_trans hX.size hb4
      have hl4 : Mine Non w b4 := .inr hq4
      have hg4 : n16 ≤ b4 := by have := hB3.lt; omega
      replace hX := hX.tr hE5
      replace hB3 := hB3.ext hE5 id
      replace hd16 := hd16.ext hE5 (fun _ h => h.elim)
      have hBo := hB3
      refine wl_storeB s_59 rfl rfl rfl (elev1 rfl rfl rfl rfl rfl rfl rfl rfl rfl rfl rfl) hB3 rfl ?_; intro w6 hE6 hB3 hz6
      replace hX := hX.mine hE6 hl3
      replace hB4 := hB4.ext hE6 (fun h => by omega)
      replace hd16 := hd16.ext hE6 (fun i e => by first | (rw [e]; exact hg3) | (rw [e]; exact hg4))
      have hBo := hB4
      refine wl_storeB s_64 rfl rfl rfl (AnsD.one _) hB4 rfl ?_; intro w7 hE7 hB4 hz7
      replace hX := hX.mine hE7 hl4
      replace hB3 := hB3.ext hE7 (fun h => by omega)
      replace hd16 := hd16.ext hE7 (fun i e => by first | (rw [e]; exact hg3) | (rw [e]; exact hg4))
      refine wl_nil ?_
      refine W_seq ?_
      refine W_seq ?_
      refine W_region ?_
      refine wl_val (rn_loadB s_64 rfl rfl hB4) ?_
      refine wl_val (rn_build' b_64 rfl rfl (cs := (⟨0, 0, 0, zeroMsg⟩ : AnsD).enc) rfl) ?_
      refine wl_val (rn_neqS rfl rfl eg_64 (by decide) (ansM_eqs _ _)) ?_
      refine wl_nil ?_
      refine W_cond rfl (fun hc2 => ?_) (fun hc2 => ?_)
      · exact absurd hc2 (by simp)
      · refine W_skip ?_
        refine W_seq ?_
        refine W_region ?_
        refine wl_val (rn_loadB s_59 rfl rfl hB3) ?_
        refine wl_val (rn_build' b_69 rfl rfl (cs := (⟨1, 2, [35], [], false⟩ : OpD).enc) rfl) ?_
        refine wl_call e_20 rfl (sub_dq (fun j => j = b3 ∨ j = b4) w7 _ (fun j h => by rcases h with h | h; rw [h]; exact hB3.lt; rw [h]; exact hB4.lt) (hd16.sub (M' := fun j => j = b3 ∨ j = b4) (fun j h _ => by rcases h with h | h; rw [h]; exact hg3; rw [h]; exact hg4))) ?_; intro v25 w8 hE8 hR8
        replace hX := hX.tr hE8
        replace hB3 := hB3.ext hE8 id; replace hB4 := hB4.ext hE8 id
        replace hd16 := hd16.ext hE8 (fun _ h => h.elim)
        obtain ⟨cs25, rfl, hd25⟩ := hR8
        obtain ⟨pz, z1, zl1, zc1, z2, zl2, zc2, z3, zl3, zc3, z4, zl4, zc4, z5, zl5, zc5, z6, zl6, zc6, nvz, bvz, rfl, _⟩ := id hd25
        refine wl_val (rn_move (by conv => lhs; whnf)) ?_
        refine wl_val (rn_extract rfl rfl) ?_
        refine wl_val (rn_extract rfl rfl) ?_
        have hBo := hB3
        refine wl_storeB s_59 rfl rfl rfl (elev1 rfl rfl rfl rfl rfl rfl rfl rfl rfl rfl rfl) hB3 rfl ?_; intro w9 hE9 hB3 hz9
        replace hX := hX.mine hE9 hl3
        replace hB4 := hB4.ext hE9 (fun h => by omega)
        replace hd25 := hd25.ext hE9 (fun i e => by first | exact .inl e | exact .inr e)
        refine wl_nil ?_
        refine W_seq ?_
        refine W_region ?_
        refine wl_val (rn_assign (by conv => lhs; whnf)) ?_
        refine wl_nil ?_
        refine W_seq ?_
        refine W_seq ?_
        refine W_region ?_
        refine wl_val (rn_assign (by conv => lhs; whnf)) ?_
        refine wl_nil ?_
        refine W_block ?_   -- block 0
        refine W_loopS (S := Nat × Option (List MsgD) × List Str × AnsD × List Value × Value × Option Nat) [0, 3, 4, 5, 6] (fun ⟨i, q, L, an, cs, v5, o5⟩ => [.slice a0 ts.length c0, .pointer (some ⟨b3, 0, none⟩), .pointer (some ⟨b4, 0, none⟩), v5, .int .i64 (i : Nat)]) (fun ⟨i, q, L, an, cs, v5, o5⟩ A => (Ext Non w A) ∧ (IsBox A b3 cs) ∧ (IsBox A b4 an.enc) ∧ (Mine Non w b3) ∧ (Mine Non w b4) ∧ (b3 < b4) ∧ (i ≤ ts.length ∧ q.getD [] = qOf L ∧ L.length ≤ i ∧ MdM (fun j => j = b3 ∨ j = b4 ∨ o5 = some j) A (Dq q) cs ∧ OwO A v5 o5 1 (L.map eS1) ∧ (∀ j, o5 = some j → w.heap.size ≤ j ∧ j ≠ b3 ∧ j ≠ b4))) (fun ⟨i, q, L, an, cs, v5, o5⟩ => ts.length - i) (0, none, [], ⟨0, 0, 0, zeroMsg⟩, _, .slice none 0 0, none) ⟨rfl, rfl, rfl, rfl, rfl, trivial⟩ ⟨hX, hB3, hB4, hl3, hl4, hn3_4, ⟨Nat.zero_le _, rfl, Nat.le_refl _, hd25.sub (fun j h _ => by rcases h with h | h | h; exact .inl h; exact .inr h; cases h), OwO.nil, fun j h => by cases h⟩⟩ ?_
        rintro τ0 ⟨i, q, L, an, cs, v5, o5⟩ A0 ⟨hX, hB3, hB4, hl3, hl4, hn3_4, hI0⟩
        obtain ⟨hil, hq, hL, hd0, hO, ho⟩ := hI0
        obtain ⟨pz, z1, zl1, zc1, z2, zl2, zc2, z3, zl3, zc3, z4, zl4, zc4, z5, zl5, zc5, z6, zl6, zc6, nvz, bvz, rfl, _⟩ := id hd0
        obtain ⟨a5, c5, h5⟩ := id hO.len; rw [List.length_map] at h5; subst h5
        refine W_seq ?_
        refine W_seq ?_
        refine W_region ?_
        refine wl_val (rn_move (by conv => lhs; whnf)) ?_
        refine wl_val (rn_move (by conv => lhs; whnf)) ?_
        refine wl_val (rn_len sl_22 rfl) ?_
        refine wl_val (rn_lss rfl rfl) ?_
        refine wl_nil ?_
        refine W_cond rfl (fun hc3 => ?_) (fun hc3 => ?_)
        · have hlt := of_decide_eq_true hc3; simp only [Int.ofNat_lt] at hlt
          obtain ⟨t, hi⟩ : ∃ t, (ts)[i]? = some t := ⟨_, List.getElem?_eq_getElem hlt⟩
          obtain ⟨bb, oo, ea⟩ := hs.base (by intro e; have := congrArg List.length e; simp only [List.length_map, List.length_nil] at this; omega); subst ea
          refine W_skip ?_
          refine W_seq ?_
          refine W_block ?_   -- block 1
          refine W_seq ?_
          refine W_seq ?_
          refine W_region ?_
          refine wl_val (rn_move (by conv => lhs; whnf)) ?_
          refine wl_val (rn_move (by conv => lhs; whnf)) ?_
          refine wl_val (rn_indexAddr sl_22 rfl rfl (by omega)) ?_
          refine wl_val (rn_load p_9 rfl ((hs.ext hX (fun _ h => h)).at0 (eS_at hi) rfl)) ?_
          refine wl_call e_14 rfl (long2_ok A0 t) ?_; intro v38 w10 hE10 hR10
          replace hX := hX.tr hE10
          replace hB3 := hB3.ext hE10 id; replace hB4 := hB4.ext hE10 id
          replace hd0 := hd0.ext hE10 (fun _ h => h.elim)
          replace hO := hO.ext hE10 (fun _ _ h => h)
          subst hR10
          refine wl_nil ?_
          refine W_cond rfl (fun hc4 => ?_) (fun hc4 => ?_)
          · refine W_seq ?_
            refine W_region ?_
            refine wl_val (rn_assign (by conv => lhs; whnf)) ?_
            refine wl_nil ?_
            refine W_ret ?_
            exact ⟨_, resR1 (res1_tmp rfl), hX, rfl⟩
          · have htl : t.length ≤ 300 := by have := of_decide_eq_false hc4; omega
            refine W_skip ?_
            refine W_seq ?_
            refine W_drawX (fun j => j == 8 || j == 9 || j == 10 || j == 11) mixed ?_; intro w11 hE11
            replace hX := hX.tr hE11
            replace hB3 := hB3.ext hE11 id; replace hB4 := hB4.ext hE11 id
            replace hd0 := hd0.ext hE11 (fun _ h => h.elim)
            replace hO := hO.ext hE11 (fun _ _ h => h)
            have hS := Ext.refl Non w11
            refine wx_take 0 [6, 7, 8, 9, 10, 11] _ _ rfl (by kernel_rfl) hS (yd_do fun A hA => rn_loadB s_59 rfl rfl (hB3.ext hA id)) ?_
            refine wx_take 1 [3, 4, 5, 6, 7, 8, 9, 10, 11] _ _ rfl (by kernel_rfl) hS (yd_do fun A hA => rn_move (by conv => lhs; whnf)) ?_
            refine wx_take 2 [3, 4, 5, 6, 7, 8, 9, 10, 11] _ _ rfl (by kernel_rfl) hS (yd_do fun A hA => rn_move (by conv => lhs; whnf)) ?_
            refine wx_take 3 [4, 5, 6, 7, 8, 9, 10, 11] _ _ rfl (by kernel_rfl) hS (yd_do fun A hA => rn_indexAddr sl_22 rfl rfl (by omega)) ?_
            refine wx_take 4 [5, 6, 7, 8, 9, 10, 11] _ _ rfl (by kernel_rfl) hS (yd_do fun A hA => rn_load p_9 rfl (((hs.ext hX (fun _ h => h)).ext hA (fun _ h => h.elim)).at0 (eS_at hi) rfl)) ?_
            refine wx_take 5 [6, 7, 8, 9, 10, 11] _ _ rfl (by kernel_rfl) hS (yd_do fun A hA => rn_build' b_69 rfl rfl (cs := (pubO t).enc) rfl) ?_
            refine wx_only 6 _ rfl (by kernel_rfl) ?_
            refine s1_do ?_
            refine wl_call e_20 rfl (pub_dq q t (by rw [hq]; unfold qOf; rw [List.length_map]; omega) htl (fun j => j = b3 ∨ j = b4 ∨ o5 = some j) w11 _ (fun j h => by rcases h with h | h | h; rw [h]; exact Nat.lt_of_lt_of_le hB3.lt hS.size; rw [h]; exact Nat.lt_of_lt_of_le hB4.lt hS.size; exact Nat.lt_of_lt_of_le (hO.lt h) hS.size) (hd0.ext hS (fun _ h => h.elim))) ?_; intro v46 w12 hE12 hR12
            replace hS := hS.tr hE12
            obtain ⟨cs46, hu46, hMz⟩ := hR12
            obtain ⟨q', a, he46, hq1, hq2, hq3⟩ := dq_pub2 q t (by rw [hq]; unfold qOf; rw [List.length_map]; omega)
            rw [he46] at hu46 hMz
            subst hu46
            obtain ⟨pz, z1, zl1, zc1, z2, zl2, zc2, z3, zl3, zc3, z4, zl4, zc4, z5, zl5, zc5, z6, zl6, zc6, nvz, bvz, rfl, _⟩ := id hMz
            obtain ⟨n46, hn46e⟩ : ∃ n, n = (World.heap w12).size := ⟨_, rfl⟩
            have hn46 : n46 ≤ (World.heap w12).size := by omega
            replace hMz := hMz.sub (M' := (fun j => (j = b3 ∨ j = b4 ∨ o5 = some j) ∨ n46 ≤ j)) (fun j h hlt => by rcases h with h | h; exact h; omega)
            refine wl_nil ⟨fun _ => hS, ?_⟩
            refine wx_take 7 [8, 9, 10, 11] _ _ rfl (by kernel_rfl) hS (yd_do fun A hA => rn_move (by conv => lhs; whnf)) ?_
            refine wx_takeP 8 _ _ rfl rfl (by kernel_rfl) (yd_do fun A _ => rn_extract rfl rfl) ?_
            refine wx_takeP 9 _ _ rfl rfl (by kernel_rfl) (yd_do fun A _ => rn_extract rfl rfl) ?_
            replace hX := hX.tr hS
            replace hB3 := hB3.ext hS id; replace hB4 := hB4.ext hS id
            replace hO := hO.ext hS (fun _ _ h => h)
            refine wx_only 10 _ rfl (by kernel_rfl) ?_
            refine s1_do ?_
            have hBo := hB3
            refine wl_storeB s_59 rfl rfl rfl (elev1 rfl rfl rfl rfl rfl rfl rfl rfl rfl rfl rfl) hB3 rfl ?_; intro w13 hE13 hB3 hz13
            replace hX := hX.mine hE13 hl3
            replace hB4 := hB4.ext hE13 (fun h => by omega)
            replace hO := hO.ext hE13 (fun j hj e => by have := ho j hj; omega)
            replace hMz := hMz.ext hE13 (fun i e => by first | exact .inl (.inl e) | exact .inl (.inr (.inl e)))
            replace hn46 := Nat.le_trans hn46 hE13.size
            refine wl_nil ⟨fun h => absurd h (by decide), ?_⟩
            refine wx_only 11 _ rfl (by kernel_rfl) ?_
            refine s1_do ?_
            have hBo := hB4
            refine wl_storeB s_64 rfl rfl rfl (AnsD.one _) hB4 rfl ?_; intro w14 hE14 hB4 hz14
            replace hX := hX.mine hE14 hl4
            replace hB3 := hB3.ext hE14 (fun h => by omega)
            replace hO := hO.ext hE14 (fun j hj e => by have := ho j hj; omega)
            replace hMz := hMz.ext hE14 (fun i e => by first | exact .inl (.inl e) | exact .inl (.inr (.inl e)))
            replace hn46 := Nat.le_trans hn46 hE14.size
            refine wl_nil ⟨fun h => absurd h (by decide), ?_⟩
            refine wx_done (by kernel_rfl) ?_ _
            refine W_seq ?_
            refine W_region ?_
            refine wl_val (rn_fieldAddr f_64_0 (by decide) rfl) ?_
            refine wl_val (rn_load1 p_60 rfl hB4 rfl) ?_
            refine wl_val (rn_eql rfl rfl) ?_
            refine wl_val (rn_move (by conv => lhs; whnf)) ?_
            refine wl_split (d := 52) rfl (fun hg52 => ?_) (fun hg52 => ?_)
            · refine wl_yes rfl (congrArg Value.bool hg52) ?_
              refine wl_val (rn_fieldAddr f_64_1 (by decide) rfl) ?_
              refine wl_yes rfl (congrArg Value.bool hg52) ?_
              refine wl_val (rn_load1 p_3 rfl hB4 rfl) ?_
              refine wl_yes rfl (congrArg Value.bool hg52) ?_
              refine wl_val (rn_eql rfl rfl) ?_
              refine wl_val (rn_pickT (congrArg Value.bool hg52) (by conv => lhs; whnf)) ?_
              refine wl_nil ?_
              refine W_cond rfl (fun hc5 => ?_) (fun hc5 => ?_)
              · refine W_region ?_
                refine wl_val (rn_move (by conv => lhs; whnf)) ?_
                refine wl_val (rn_move (by conv => lhs; whnf)) ?_
                refine wl_val (rn_move (by conv => lhs; whnf)) ?_
                refine wl_val (rn_indexAddr sl_22 rfl rfl (by omega)) ?_
                refine wl_val (rn_load p_9 rfl ((hs.ext hX (fun _ h => h)).at0 (eS_at hi) rfl)) ?_
                refine wl_lit1 (r := eS1 t) sl_22 rfl rfl rfl rfl (by decide) ?_; intro v62 w15 b62 hb62 hE15 hO62
                replace hX := hX.tr hE15
                replace hB3 := hB3.ext hE15 id; replace hB4 := hB4.ext hE15 id
                replace hO := hO.ext hE15 (fun _ _ h => h)
                replace hMz := hMz.ext hE15 (fun _ h => h.elim)
                replace hn46 := Nat.le_trans hn46 hE15.size
                have hXo := hX
                refine wl_app sl_22 rfl rfl rfl hO (hO62.sl (M := Non) id) (fun r hr => by simp only [List.mem_singleton] at hr; subst hr; exact one1 rfl) (by simp only [List.length_map, List.length_cons, List.length_nil]; omega) (by simp only [List.length_map, List.length_cons, List.length_nil, big]; omega) ?_; intro v63 w16 o63 hE16 hO63 hf63
                replace hX := hX.mineO hE16 (fun j hj => .inr (ho j hj).1); have ho63 : ∀ j, o63 = some j → w.heap.size ≤ j ∧ j ≠ b3 ∧ j ≠ b4 := fun j hj => by rcases hf63 j hj with h | h; exact ho j h; exact ⟨Nat.le_trans hXo.size h, by have := hB3.lt; omega, by have := hB4.lt; omega⟩
                have hn63 : ∀ j, o63 = some j → o5 = some j ∨ n46 ≤ j := fun j hj => by rcases hf63 j hj with h | h; exact .inl h; exact .inr (Nat.le_trans hn46 h)
                replace hMz := hMz.ext hE16 (fun j e => .inl (.inr (.inr e))); replace hB3 := hB3.ext hE16 (fun e => (ho _ e).2.1 rfl); replace hB4 := hB4.ext hE16 (fun e => (ho _ e).2.2 rfl)
                obtain ⟨a63, c63, hv63⟩ := id hO63.len; subst hv63
                refine wl_val (rn_assign (by conv => lhs; whnf)) ?_
                refine wl_nil ?_
                refine W_region ?_
                refine wl_val (rn_move (by conv => lhs; whnf)) ?_
                refine wl_val (rn_add rfl rfl (by omega)) ?_
                refine wl_val (rn_assign (by conv => lhs; whnf)) ?_
                refine wl_nil ?_
                exact ⟨rfl, (i + 1, q', L ++ [t], a, _, _, o63), ⟨rfl, rfl, rfl, rfl, rfl, trivial⟩, ⟨hX, hB3, hB4, hl3, hl4, hn3_4, ⟨hlt, by rw [hq1 (by assumption) (by assumption), hq]; unfold qOf; rw [List.map_append]; rfl, by rw [List.length_append]; simp; omega, hMz.sub (fun j h hlt => by rcases h with h | h | h; exact .inl (.inl h); exact .inl (.inr (.inl h)); rcases hn63 j h with h | h; exact .inl (.inr (.inr h)); exact .inr h), by rw [List.map_append]; exact hO63, ho63⟩⟩, by show ts.length - (i + 1) < ts.length - i; omega⟩
              · refine W_skip ?_
                refine W_region ?_
                refine wl_val (rn_move (by conv => lhs; whnf)) ?_
                refine wl_val (rn_add rfl rfl (by omega)) ?_
                refine wl_val (rn_assign (by conv => lhs; whnf)) ?_
                refine wl_nil ?_
                exact ⟨rfl, (i + 1, q', L, a, _, _, o5), ⟨rfl, rfl, rfl, rfl, rfl, trivial⟩, ⟨hX, hB3, hB4, hl3, hl4, hn3_4, ⟨hlt, by rw [hq2 (by assumption)]; exact hq, by omega, hMz.sub (fun j h _ => .inl h), hO, ho⟩⟩, by show ts.length - (i + 1) < ts.length - i; omega⟩
            · refine wl_no rfl (congrArg Value.bool hg52) ?_
              refine wl_no rfl (congrArg Value.bool hg52) ?_
              refine wl_no rfl (congrArg Value.bool hg52) ?_
              refine wl_val (rn_pickF (congrArg Value.bool hg52) (by conv => lhs; whnf)) ?_
              refine wl_nil ?_
              refine W_condF rfl ?_
              refine W_skip ?_
              refine W_region ?_
              refine wl_val (rn_move (by conv => lhs; whnf)) ?_
              refine wl_val (rn_add rfl rfl (by omega)) ?_
              refine wl_val (rn_assign (by conv => lhs; whnf)) ?_
              refine wl_nil ?_
              exact ⟨rfl, (i + 1, q', L, a, _, _, o5), ⟨rfl, rfl, rfl, rfl, rfl, trivial⟩, ⟨hX, hB3, hB4, hl3, hl4, hn3_4, ⟨hlt, by rw [hq3 (by assumption)]; exact hq, by omega, hMz.sub (fun j h _ => .inl h), hO, ho⟩⟩, by show ts.length - (i + 1) < ts.length - i; omega⟩
        · refine W_exit ?_   -- exit 0
          refine W_seq ?_
          refine W_seq ?_
          refine W_region ?_
          refine wl_val (rn_assign (by conv => lhs; whnf)) ?_
          refine wl_nil ?_
          refine W_block ?_   -- block 2
          refine W_loopS (S := Nat × Option (List MsgD) × AnsD × List Value) [3, 4, 5, 7] (fun ⟨j, q, an, cs⟩ => [.pointer (some ⟨b3, 0, none⟩), .pointer (some ⟨b4, 0, none⟩), .slice a5 L.length c5, .int .i64 (j : Nat)]) (fun ⟨j, q, an, cs⟩ A => (Ext Non w A) ∧ (IsBox A b3 cs) ∧ (IsBox A b4 an.enc) ∧ (Mine Non w b3) ∧ (Mine Non w b4) ∧ (b3 < b4) ∧ (j ≤ L.length ∧ q.getD [] = qOf (L.drop j) ∧ MdM (fun j => j = b3 ∨ j = b4 ∨ o5 = some j) A (Dq q) cs ∧ OwO A (.slice a5 L.length c5) o5 1 (L.map eS1))) (fun ⟨j, q, an, cs⟩ => L.length - j) (0, q, an, _) ⟨rfl, rfl, rfl, rfl, trivial⟩ ⟨hX, hB3, hB4, hl3, hl4, hn3_4, ⟨Nat.zero_le _, hq, hd0, hO⟩⟩ ?_
          rintro τ1 ⟨j, q, an, cs⟩ A1 ⟨hX, hB3, hB4, hl3, hl4, hn3_4, hI1⟩
          obtain ⟨hjl, hq, hd1, hO⟩ := hI1
          obtain ⟨pz, z1, zl1, zc1, z2, zl2, zc2, z3, zl3, zc3, z4, zl4, zc4, z5, zl5, zc5, z6, zl6, zc6, nvz, bvz, rfl, _⟩ := id hd1
          refine W_seq ?_
          refine W_seq ?_
          refine W_region ?_
          refine wl_val (rn_move (by conv => lhs; whnf)) ?_
          refine wl_val (rn_move (by conv => lhs; whnf)) ?_
          refine wl_val (rn_len sl_22 rfl) ?_
          refine wl_val (rn_lss rfl rfl) ?_
          refine wl_nil ?_
          refine W_cond rfl (fun hc6 => ?_) (fun hc6 => ?_)
          · have hltj := of_decide_eq_true hc6; simp only [Int.ofNat_lt] at hltj
            obtain ⟨x, hj⟩ : ∃ x, (L)[j]? = some x := ⟨_, List.getElem?_eq_getElem hltj⟩
            obtain ⟨bbj, ooj, eaj⟩ := (hO.sl (M := Non) (fun _ _ h => h)).base (by intro e; have := congrArg List.length e; simp only [List.length_map, List.length_nil] at this; omega); subst eaj
            refine W_skip ?_
            refine W_seq ?_
            refine W_block ?_   -- block 3
            refine W_seq ?_
            refine W_region ?_
            refine wl_val (rn_loadB s_59 rfl rfl hB3) ?_
            refine wl_val (rn_build' b_69 rfl rfl (cs := (⟨4, 2, [], [], false⟩ : OpD).enc) rfl) ?_
            refine wl_call e_20 rfl (poll_dq1 (m := ⟨x, [], false⟩) (r := qOf (L.drop (j + 1))) (by rw [hq]; exact qOf_drop hj) (by rw [hq]; unfold qOf; rw [List.length_map, List.length_drop]; omega) (fun j => j = b3 ∨ j = b4 ∨ o5 = some j) A1 _ (fun j h => by rcases h with h | h | h; rw [h]; exact hB3.lt; rw [h]; exact hB4.lt; exact hO.lt h) hd1) ?_; intro v73 w17 hE17 hR17
            replace hX := hX.tr hE17
            replace hB3 := hB3.ext hE17 id; replace hB4 := hB4.ext hE17 id
            replace hd1 := hd1.ext hE17 (fun _ h => h.elim)
            replace hO := hO.ext hE17 (fun _ _ h => h)
            obtain ⟨cs73, rfl, hMy⟩ := hR17
            obtain ⟨pz, z1, zl1, zc1, z2, zl2, zc2, z3, zl3, zc3, z4, zl4, zc4, z5, zl5, zc5, z6, zl6, zc6, nvz, bvz, rfl, _⟩ := id hMy
            refine wl_val (rn_move (by conv => lhs; whnf)) ?_
            refine wl_val (rn_extract rfl rfl) ?_
            refine wl_val (rn_extract rfl rfl) ?_
            have hBo := hB3
            refine wl_storeB s_59 rfl rfl rfl (elev1 rfl rfl rfl rfl rfl rfl rfl rfl rfl rfl rfl) hB3 rfl ?_; intro w18 hE18 hB3 hz18
            replace hX := hX.mine hE18 hl3
            replace hB4 := hB4.ext hE18 (fun h => by omega)
            replace hO := hO.ext hE18 (fun j hj e => by have := ho j hj; omega)
            replace hMy := hMy.ext hE18 (fun i e => by first | exact .inl e | exact .inr (.inl e))
            have hBo := hB4
            refine wl_storeB s_64 rfl rfl rfl (AnsD.one _) hB4 rfl ?_; intro w19 hE19 hB4 hz19
            replace hX := hX.mine hE19 hl4
            replace hB3 := hB3.ext hE19 (fun h => by omega)
            replace hO := hO.ext hE19 (fun j hj e => by have := ho j hj; omega)
            replace hMy := hMy.ext hE19 (fun i e => by first | exact .inl e | exact .inr (.inl e))
            refine wl_nil ?_
            refine W_seq ?_
            refine W_drawX (fun j => false) mixed ?_; intro w20 hE20
            replace hX := hX.tr hE20
            replace hB3 := hB3.ext hE20 id; replace hB4 := hB4.ext hE20 id
            replace hO := hO.ext hE20 (fun _ _ h => h)
            replace hMy := hMy.ext hE20 (fun _ h => h.elim)
            have hS := Ext.refl Non w20
            refine wx_take 0 [1, 2, 3, 4, 5, 6, 7, 8, 9, 10, 11, 12] _ _ rfl (by kernel_rfl) hS (yd_do fun A hA => rn_fieldAddr f_64_0 (by decide) rfl) ?_
            refine wx_take 1 [2, 3, 4, 5, 6, 7, 8, 9, 10, 11, 12] _ _ rfl (by kernel_rfl) hS (yd_do fun A hA => rn_load1 p_60 rfl (hB4.ext hA id) rfl) ?_
            refine wx_take 2 [3, 4, 5, 6, 7, 8, 9, 10, 11, 12] _ _ rfl (by kernel_rfl) hS (yd_do fun A hA => rn_neq rfl rfl) ?_
            refine wx_take 3 [4, 5, 6, 7, 8, 9, 10, 11, 12] _ _ rfl (by kernel_rfl) hS (yd_do fun A hA => rn_move (by conv => lhs; whnf)) ?_
            refine wx_split (d := 79) rfl (fun hg79 => ?_) (fun hg79 => ?_)
            · first | exact absurd (of_decide_eq_true hg79) (by simp) | exact absurd hg79 (by simp)
            · refine wx_take 4 [5, 11, 12] _ _ rfl (by kernel_rfl) hS (yd_yes rfl (congrArg Value.bool hg79) fun A hA => rn_fieldAddr f_64_3 (by decide) rfl) ?_
              refine wx_take 5 [11, 12] _ _ rfl (by kernel_rfl) hS (yd_yes rfl (congrArg Value.bool hg79) fun A hA => rn_loadS s_62 (vs := (⟨x, [], false⟩ : MsgD).enc) rfl rfl ((hB4.ext hA id).part rfl (Nat.le_of_ble_eq_true rfl))) ?_
              refine wx_take 6 [8, 9, 10, 11, 12] _ _ rfl (by kernel_rfl) hS (yd_yes rfl (congrArg Value.bool hg79) fun A hA => rn_move (by conv => lhs; whnf)) ?_
              refine wx_take 7 [8, 9, 10, 11, 12] _ _ rfl (by kernel_rfl) hS (yd_yes rfl (congrArg Value.bool hg79) fun A hA => rn_move (by conv => lhs; whnf)) ?_
              refine wx_take 8 [9, 10, 11, 12] _ _ rfl (by kernel_rfl) hS (yd_yes rfl (congrArg Value.bool hg79) fun A hA => rn_indexAddr sl_22 rfl rfl (by omega)) ?_
              refine wx_take 9 [10, 11, 12] _ _ rfl (by kernel_rfl) hS (yd_yes rfl (congrArg Value.bool hg79) fun A hA => rn_load p_9 rfl (((hO.sl (M := Non) (fun _ _ h => h)).ext hA (fun _ h => h.elim)).at0 (eS_at hj) rfl)) ?_
              refine wx_take 10 [11, 12] _ _ rfl (by kernel_rfl) hS (yd_yes rfl (congrArg Value.bool hg79) fun A hA => rn_build' b_62 rfl rfl (cs := (⟨x, [], false⟩ : MsgD).enc) rfl) ?_
              refine wx_take 11 [12] _ _ rfl (by kernel_rfl) hS (yd_yes rfl (congrArg Value.bool hg79) fun A hA => rn_neqS rfl rfl eg_62 (by decide) (msg_eqs _ _)) ?_
              refine wx_take 12 [] _ _ rfl (by kernel_rfl) hS (yd_do fun A hA => rn_pickF (congrArg Value.bool hg79) (by conv => lhs; whnf)) ?_
              refine wx_done (by kernel_rfl) ?_ _
              replace hX := hX.tr hS
              replace hB3 := hB3.ext hS id; replace hB4 := hB4.ext hS id
              replace hO := hO.ext hS (fun _ _ h => h)
              replace hMy := hMy.ext hS (fun _ h => h.elim)
              refine W_cond rfl (fun hc7 => ?_) (fun hc7 => ?_)
              · exact absurd hc7 (by simp)
              · refine W_skip ?_
                refine W_region ?_
                refine wl_val (rn_move (by conv => lhs; whnf)) ?_
                refine wl_val (rn_add rfl rfl (by omega)) ?_
                refine wl_val (rn_assign (by conv => lhs; whnf)) ?_
                refine wl_nil ?_
                exact ⟨rfl, (j + 1, _, _, _), ⟨rfl, rfl, rfl, rfl, trivial⟩, ⟨hX, hB3, hB4, hl3, hl4, hn3_4, ⟨hltj, rfl, hMy, hO⟩⟩, by show L.length - (j + 1) < L.length - j; omega⟩
          · have hge := of_decide_eq_false hc6; simp only [Int.ofNat_lt, Nat.not_lt] at hge
            obtain rfl : j = L.length := by omega
            refine W_exit ?_   -- exit 2
            refine W_seq ?_
            refine W_region ?_
            refine wl_val (rn_loadB s_59 rfl rfl hB3) ?_
            refine wl_val (rn_build' b_69 rfl rfl (cs := (⟨4, 2, [], [], false⟩ : OpD).enc) rfl) ?_
            refine wl_call e_20 rfl (poll_dq0 (by rw [hq, List.drop_length]; rfl) (fun j => j = b3 ∨ j = b4 ∨ o5 = some j) A1 _ (fun j h => by rcases h with h | h | h; rw [h]; exact hB3.lt; rw [h]; exact hB4.lt; exact hO.lt h) hd1) ?_; intro v92 w21 hE21 hR21
            replace hX := hX.tr hE21
            replace hB3 := hB3.ext hE21 id; replace hB4 := hB4.ext hE21 id
            replace hd1 := hd1.ext hE21 (fun _ h => h.elim)
            replace hO := hO.ext hE21 (fun _ _ h => h)
            obtain ⟨cs92, rfl, hMw⟩ := hR21
            obtain ⟨pz, z1, zl1, zc1, z2, zl2, zc2, z3, zl3, zc3, z4, zl4, zc4, z5, zl5, zc5, z6, zl6, zc6, nvz, bvz, rfl, _⟩ := id hMw
            refine wl_val (rn_move (by conv => lhs; whnf)) ?_
            refine wl_val (rn_extract rfl rfl) ?_
            refine wl_val (rn_extract rfl rfl) ?_
            have hBo := hB4
            refine wl_storeB s_64 rfl rfl rfl (AnsD.one _) hB4 rfl ?_; intro w22 hE22 hB4 hz22
            replace hX := hX.mine hE22 hl4
            replace hB3 := hB3.ext hE22 (fun h => by omega)
            replace hO := hO.ext hE22 (fun j hj e => by have := ho j hj; omega)
            refine wl_nil ?_
            refine W_seq ?_
            refine W_region ?_
            refine wl_val (rn_fieldAddr f_64_0 (by decide) rfl) ?_
            refine wl_val (rn_load1 p_60 rfl hB4 rfl) ?_
            refine wl_val (rn_eql rfl rfl) ?_
            refine wl_val (rn_assign (by conv => lhs; whnf)) ?_
            refine wl_nil ?_
            refine W_ret ?_
            exact ⟨_, resR1 (res1_tmp rfl), hX, rfl⟩
end Go.Proofs.YtaddeakfojpdoaaGreatDoorC

/- The row of a law that lists variables; each rule holds of whatever program. -/
set_option linter.unusedVariables false
set_option linter.unusedSimpArgs false
namespace Go.Proofs.YtaddeakfojpdoaaGreatDoorC
open Go.ChangeShapes Go.WideShapes Go.ChangeAt Go.RowKit
/-- A law that returns true, and leaves what was as it was: its row, where variables are laid. -/
theorem law_liftedL {laidL : List (String × DataW Unit)} {a : Assume} {C : Checked} {os : Os} {f : FuncId} {fn : Func} {s : ChangeSpec} {conds : List PathCond} {apart fresh handsOn : Bool} {H : Type} {enc : TypeId × Value → H} {tb : TypeId}
    (own : ownKnob C.prog.godebug = none) (started : os.Started) (noInit : C.prog.inits.idxOf? f = none) (hfn : C.prog.funcs[f]? = some fn)
    (witness : ∃ (w : World) (tape : Tape) (i : Input), w.os = os ∧ (w.forCall tape i).Shaped C.prog ∧ i.vars = [] ∧ Input.okWide C.prog (w.forCall tape i) .any w.heap.size f i ∧
      ((s.pre enc C.prog fn conds apart (w.forCall tape i).memory i.args ∧ laidMetH C.prog laidL (w.forCall tape i).memory) ∧ sizedMet enc C.prog fn (OpenSpec.ofChange s) apart (w.forCall tape i).memory i.args) ∧ a.holds C.prog (lone (Frame.enter C.prog f i.args .normal) [] (w.forCall tape i)))
    (laid : laidOutB C.prog = true) (hts : (fn.params.toList.all fun t => C.prog.readableRec t && decide (t < C.prog.types.size)) = true) (hres : fn.resultTypes.toList = [tb]) (htb : C.prog.underlying tb = some .bool) (hvars : s.vars = [])
    (hs : ∀ ds : List (DataW H), ds.length = fn.params.toList.length → s.fn H ds = { results := [.lit (.bool true)], args := ds })
    (contract : ∀ (W : World) (base : Nat) (args : Array Value) (ds : List (DataW H)) (ps : List MemPlace), (∀ (j : Nat) t v, fn.params[j]? = some t → args[j]? = some v → Value.okWide C.prog W .any base t v) →
      DataW.TrodAll enc C.prog W 0 (fun _ => true) true fn.params.toList args.toList ds ps → laidMetH C.prog laidL W → Fn C.prog f args W fun v _ => v = .bool true) :
    ReturnsInHanded a C os f .any (fun w args => (s.pre enc C.prog fn conds apart w args ∧ laidMetH C.prog laidL w) ∧ sizedMet enc C.prog fn (OpenSpec.ofChange s) apart w args) (s.post enc C.prog fn apart fresh handsOn false) := by
  refine returnsInHanded_of_change_and (X := fun w _ => laidMetH C.prog laidL w) (fun _ _ _ hh h => h.of_heap hh) own started noInit hfn witness ?_
  intro W base args ds gs before hval hW _ _ hL _
  have hW' := hW
  obtain ⟨p, q, hA, hV, rfl, _, _⟩ := hW
  rw [hvars] at hV
  obtain ⟨rfl, rfl⟩ := trodVars_none hV
  refine Calls.mono (contract W base args ds p hval hA hL) fun e W' ⟨v, he, hE, hv⟩ => ?_
  subst hv
  refine ⟨_, he, ?_⟩
  have hlen : ∀ (ts : List TypeId) (vs : List Value) (ds : List (DataW H)) (ps : List MemPlace), DataW.TrodAll enc C.prog W 0 (fun _ => true) true ts vs ds ps → ds.length = ts.length := by
    intro ts
    induction ts with
    | nil => intro vs ds ps h; cases vs <;> cases ds <;> first | rfl | exact h.elim
    | cons t ts ih =>
      intro vs ds ps h
      cases vs with
      | nil => exact h.elim
      | cons v vs =>
        cases ds with
        | nil => exact h.elim
        | cons d ds => obtain ⟨p, q, _, h2, _⟩ := h; simp [ih _ _ _ h2]
  have hfn' : s.fn H (ds ++ []) = { results := [.lit (.bool true)], args := ds } := by rw [List.append_nil]; exact hs ds (hlen _ _ _ _ hA)
  refine ⟨ds, [], p ++ [], [], p, [], hW', ?_, ?_, ?_, hE.below.frame _, fun h => by cases h⟩
  · rw [hfn', hres]
    have : fn.resultTypes.size = 1 := by rw [← Array.length_toList, hres]; rfl
    rw [this]
    exact trodAll_mk1 (shut_bool htb true)
  · rw [hfn']
    exact trodAll_stays laid hE.below _ _ _ _ hts hA (fun x hx => by simpa using hW'.lt x (by simp [hx]))
  · rw [hfn', hvars]; rfl
end Go.Proofs.YtaddeakfojpdoaaGreatDoorC

/- What the rows of the laws on texts share: how their arguments read. -/
set_option linter.unusedVariables false
set_option linter.unusedSimpArgs false
namespace Go.Proofs.YtaddeakfojpdoaaGreatDoor
open Go.RowKit Go.Proofs.YtaddeakfojpdoaaGreatDoorC Go.ChangeShapes
theorem own3 : ownKnob Tryz.prog.godebug = none := by kernel_rfl
theorem laidOut3 : laidOutB Tryz.prog = true := by kernel_rfl
end Go.Proofs.YtaddeakfojpdoaaGreatDoor

/- How arguments of many texts, numbers, signs read. -/
set_option linter.unusedVariables false
set_option linter.unusedSimpArgs false
namespace Go.Proofs.YtaddeakfojpdoaaGreatDoor
open Go.RowKit Go.Proofs.YtaddeakfojpdoaaGreatDoorC Go.ChangeShapes
theorem str_flat : flatT Tryz.prog 1 9 = some [.str] := by kernel_rfl
theorem strs_of : ∀ (rows : List (List Value)), (∀ r ∈ rows, flatOk [.str] r) → ∃ l : List Str, rows = l.map eS1 ∧ ∀ x ∈ l, x.length ≤ maxLen
  | [], _ => ⟨[], rfl, by simp⟩
  | r :: rows, h => by
    obtain ⟨l, hl, hm⟩ := strs_of rows (fun x hx => h x (by simp [hx]))
    obtain ⟨_, r1, e1, ⟨a1, rfl, ha⟩, h1⟩ := (h r (by simp)).cons
    have e2 := h1.nil
    exact ⟨a1 :: l, by rw [hl, e1, e2]; rfl, fun x hx => by rcases List.mem_cons.1 hx with rfl | hx; exact ha; exact hm x hx⟩
end Go.Proofs.YtaddeakfojpdoaaGreatDoor
