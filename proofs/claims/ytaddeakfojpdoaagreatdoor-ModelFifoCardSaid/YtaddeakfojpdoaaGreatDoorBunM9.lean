/- Filters of the program; the law TopicEach. -/
import Derived.Test.YtaddeakfojpdoaaGreatDoorBunM8
import Derived.Test.YtaddeakfojpdoaaGreatDoorBunM6
import Derived.Scope
import Derived.Laws.RangeAny
import Derived.Laws.Runes
import Derived.Shelf.Strings.IndexAnyAll
set_option linter.unusedVariables false
set_option linter.unusedSimpArgs false
set_option maxRecDepth 100000
namespace Go.Proofs.YtaddeakfojpdoaaGreatDoorC
open Go.RowKit
theorem cs_name : (Tryz.f165.name == "runtime.NumGoroutine") = false := by kernel_rfl
theorem cs_body : Tryz.f165.body.isNone = true := by kernel_rfl
theorem cs_next : Extern.findNext Tryz.f165 = none := by kernel_rfl
theorem cs_find : Extern.find Tryz.f165 = some Extern.BytealgCount.count := by kernel_rfl
theorem cbs : CB Tryz.prog 165 := ⟨_, Tryz.func165, cs_name, cs_body, cs_next, cs_find⟩
theorem sized_eq (s : Str) : sizedB s = (decide (s ≠ []) && (decide ((s.length : Int) ≤ 32) && decide (fi s 0 < 0))) := by
  unfold sizedB
  have h1 : decide ((s.length : Int) ≤ 32) = decide (s.length ≤ 32) := decide_eq_decide.2 (by omega)
  have h2 : decide (fi s 0 < 0) = decide (¬ (0 : UInt8) ∈ s) := decide_eq_decide.2 (by rw [← fi_ge s 0]; omega)
  rw [h1, h2, Bool.and_assoc]
-- bellman/topic.sized
theorem tsized_ok (w : World) (s : Str) : Fn Tryz.prog 98 #[Sv s] w fun u w' => u = .bool (sizedB s) := by
  have hX := Ext.refl Non w
  refine fn_of_W (args := [_]) Tryz.func98 rfl (by kernel_rfl) rfl ?_
  refine W_seq ?_
  refine W_region ?_
  refine wl_val (rn_assign (by conv => lhs; whnf)) ?_
  refine wl_nil ?_
  refine W_seq ?_
  refine W_region ?_
  refine wl_val (rn_move (by conv => lhs; whnf)) ?_
  refine wl_val (rn_sneq rfl rfl) ?_
  refine wl_val (rn_move (by conv => lhs; whnf)) ?_
  refine wl_split (d := 5) rfl (fun hg5 => ?_) (fun hg5 => ?_)
  · refine wl_yes rfl (congrArg Value.bool hg5) ?_
    refine wl_val (rn_move (by conv => lhs; whnf)) ?_
    refine wl_yes rfl (congrArg Value.bool hg5) ?_
    refine wl_val (rn_slen us_9 rfl) ?_
    refine wl_yes rfl (congrArg Value.bool hg5) ?_
    refine wl_val (rn_leq rfl rfl) ?_
    refine wl_val (rn_pickT (congrArg Value.bool hg5) (by conv => lhs; whnf)) ?_
    refine wl_val (rn_move (by conv => lhs; whnf)) ?_
    refine wl_split (d := 10) rfl (fun hg10 => ?_) (fun hg10 => ?_)
    · refine wl_yes rfl (congrArg Value.bool hg10) ?_
      refine wl_val (rn_move (by conv => lhs; whnf)) ?_
      refine wl_yes rfl (congrArg Value.bool hg10) ?_
      refine wl_call e_138 rfl (sindexByte_ok w s 0) ?_; intro v12 w1 hE1 hR1
      replace hX := hX.tr hE1
      subst hR1
      refine wl_yes rfl (congrArg Value.bool hg10) ?_
      refine wl_val (rn_lss rfl rfl) ?_
      refine wl_val (rn_pickT (congrArg Value.bool hg10) (by conv => lhs; whnf)) ?_
      refine wl_val (rn_assign (by conv => lhs; whnf)) ?_
      refine wl_nil ?_
      refine W_ret ?_
      exact ⟨_, resR1 (res1_tmp rfl), hX, by rw [sized_eq, hg5, hg10]; rfl⟩
    · refine wl_no rfl (congrArg Value.bool hg10) ?_
      refine wl_no rfl (congrArg Value.bool hg10) ?_
      refine wl_no rfl (congrArg Value.bool hg10) ?_
      refine wl_val (rn_pickF (congrArg Value.bool hg10) (by conv => lhs; whnf)) ?_
      refine wl_val (rn_assign (by conv => lhs; whnf)) ?_
      refine wl_nil ?_
      refine W_ret ?_
      exact ⟨_, resR1 (res1_tmp rfl), hX, by rw [sized_eq, hg5, hg10]; rfl⟩
  · refine wl_no rfl (congrArg Value.bool hg5) ?_
    refine wl_no rfl (congrArg Value.bool hg5) ?_
    refine wl_no rfl (congrArg Value.bool hg5) ?_
    refine wl_val (rn_pickF (congrArg Value.bool hg5) (by conv => lhs; whnf)) ?_
    refine wl_val (rn_move (by conv => lhs; whnf)) ?_
    refine wl_no rfl rfl ?_
    refine wl_no rfl rfl ?_
    refine wl_no rfl rfl ?_
    refine wl_val (rn_pickF rfl (by conv => lhs; whnf)) ?_
    refine wl_val (rn_assign (by conv => lhs; whnf)) ?_
    refine wl_nil ?_
    refine W_ret ?_
    exact ⟨_, resR1 (res1_tmp rfl), hX, by rw [sized_eq, hg5]; rfl⟩
-- strings.Count
set_option maxHeartbeats 1000000 in
theorem scount_ok (w : World) (s : Str) (c : UInt8) : Fn Tryz.prog 139 #[Sv s, Sv [c]] w fun u w' => u = .int .i64 (s.count c : Nat) := by
  have hX := Ext.refl Non w
  refine fn_of_W (args := [_, _]) Tryz.func139 rfl (by kernel_rfl) rfl ?_
  refine W_seq ?_
  refine W_region ?_
  refine wl_val (rn_assign (by conv => lhs; whnf)) ?_
  refine wl_nil ?_
  refine W_seq ?_
  refine W_seq ?_
  refine W_region ?_
  refine wl_val (rn_move (by conv => lhs; whnf)) ?_
  refine wl_val (rn_slen us_9 rfl) ?_
  refine wl_val (rn_eql rfl rfl) ?_
  refine wl_nil ?_
  refine W_cond rfl (fun hc0 => ?_) (fun hc0 => ?_)
  · exact absurd (of_decide_eq_true hc0) (by simp)
  · refine W_skip ?_
    refine W_seq ?_
    refine W_seq ?_
    refine W_region ?_
    refine wl_val (rn_move (by conv => lhs; whnf)) ?_
    refine wl_val (rn_slen us_9 rfl) ?_
    refine wl_val (rn_eql rfl rfl) ?_
    refine wl_nil ?_
    refine W_cond rfl (fun hc1 => ?_) (fun hc1 => ?_)
    · refine W_seq ?_
      refine W_region ?_
      refine wl_val (rn_move (by conv => lhs; whnf)) ?_
      refine wl_val (rn_move (by conv => lhs; whnf)) ?_
      refine wl_val (rn_sindex us_9 rfl rfl (by omega) rfl) ?_
      refine wl_val (P := Tryz.prog) (op := .call ⟨.value (.func 165), #[.tmp 16, .tmp 18], #[9, 5]⟩) (v := .int .i64 (s.count c : Nat)) (rn_countString (s := s) (c := c) cbs rfl rfl) ?_
      refine wl_val (rn_assign (by conv => lhs; whnf)) ?_
      refine wl_nil ?_
      refine W_ret ?_
      exact ⟨_, resR1 (res1_tmp rfl), hX, rfl⟩
    · exact absurd (of_decide_eq_false hc1) (by simp)
-- bellman/topic.Depth
theorem tdepth_ok (w : World) (s : Str) (hn : s.length ≤ 1000000) : Fn Tryz.prog 99 #[Sv s] w fun u w' => u = .int .i64 ((spl 47 s).length : Nat) := by
  have hcl := List.count_le_length (a := (47 : UInt8)) (l := s)
  have hX := Ext.refl Non w
  refine fn_of_W (args := [_]) Tryz.func99 rfl (by kernel_rfl) rfl ?_
  refine W_seq ?_
  refine W_region ?_
  refine wl_val (rn_assign (by conv => lhs; whnf)) ?_
  refine wl_nil ?_
  refine W_seq ?_
  refine W_region ?_
  refine wl_val (rn_move (by conv => lhs; whnf)) ?_
  refine wl_call e_139 rfl (scount_ok w s 47) ?_; intro v4 w1 hE1 hR1
  replace hX := hX.tr hE1
  subst hR1
  refine wl_val (rn_add rfl rfl (by omega)) ?_
  refine wl_val (rn_assign (by conv => lhs; whnf)) ?_
  refine wl_nil ?_
  refine W_ret ?_
  exact ⟨_, resR1 (res1_tmp rfl), hX, by rw [spl_len]; rfl⟩
-- bellman/topic.Filter
set_option maxHeartbeats 1600000 in
theorem tfilter_ok (w : World) (s : Str) (hn : s.length ≤ 1000000) : Fn Tryz.prog 64 #[Sv s] w fun u w' => u = .bool (filterB s) := by
  have hsl := spl_len_le 47 s
  have hX := Ext.refl Non w
  refine fn_of_W (args := [_]) Tryz.func64 rfl (by kernel_rfl) rfl ?_
  refine W_seq ?_
  refine W_region ?_
  refine wl_alloc z_4 ?_; intro b2 w1 hb2 hE1 hB2
  have hq2 : w.heap.size ≤ b2 := Nat.le_trans hX.size hb2
  have hl2 : Mine Non w b2 := .inr hq2
  replace hX := hX.tr hE1
  refine wl_nil ?_
  refine W_seq ?_
  refine W_seq ?_
  refine W_region ?_
  refine wl_val (rn_move (by conv => lhs; whnf)) ?_
  refine wl_call e_98 rfl (tsized_ok w1 s) ?_; intro v7 w2 hE2 hR2
  replace hX := hX.tr hE2
  replace hB2 := hB2.ext hE2 id
  subst hR2
  refine wl_val (rn_not rfl) ?_
  refine wl_nil ?_
  refine W_cond rfl (fun hc0 => ?_) (fun hc0 => ?_)
  · have hz : sizedB s = false := by simpa using hc0
    refine W_seq ?_
    refine W_region ?_
    refine wl_store1 (b := b2) p_4 rfl (by conv => lhs; whnf) rfl rfl hB2 (Nat.le_of_ble_eq_true rfl) ?_; intro w3 hE3 hB2 hz3
    replace hX := hX.mine hE3 hl2
    refine wl_nil ?_
    refine W_ret ?_
    exact ⟨_, resR1 (res1_cell p_4 rfl hB2), hX, by rw [filter_small hz]⟩
  · have hz : sizedB s = true := by simpa using hc0
    refine W_skip ?_
    refine W_seq ?_
    refine W_region ?_
    refine wl_val (rn_move (by conv => lhs; whnf)) ?_
    refine wl_call e_99 rfl (tdepth_ok w2 s hn) ?_; intro v10 w4 hE4 hR4
    replace hX := hX.tr hE4
    replace hB2 := hB2.ext hE4 id
    subst hR4
    refine wl_val (rn_sub rfl rfl (by omega)) ?_
    refine wl_alloc z_3 ?_; intro b3 w5 hb3 hE5 hB3
    have hn2_3 : b2 < b3 := Nat.lt_of_lt_of_le hB2.lt hb3
    have hq3 : w.heap.size ≤ b3 := Nat.le_trans hX.size hb3
    have hl3 : Mine Non w b3 := .inr hq3
    replace hX := hX.tr hE5
    replace hB2 := hB2.ext hE5 id
    refine wl_store1 (b := b3) p_3 rfl (by conv => lhs; whnf) rfl rfl hB3 (Nat.le_of_ble_eq_true rfl) ?_; intro w6 hE6 hB3 hz6
    replace hX := hX.mine hE6 hl3
    replace hB2 := hB2.ext hE6 (fun h => by omega)
    refine wl_nil ?_
    refine W_seq ?_
    refine W_seq ?_
    refine W_region ?_
    refine wl_val (rn_move (by conv => lhs; whnf)) ?_
    refine wl_call e_47 rfl (each_ok w6 s (fun i => i = b2) (fun i e => by rw [e]; exact hB2.lt) hn) ?_; intro v13 w7 hE7 hR7
    replace hX := hX.tr hE7
    replace hB2 := hB2.ext hE7 id; replace hB3 := hB3.ext hE7 id
    have hIt := hR7; obtain ⟨fk, ck, hfk, _⟩ := id hIt; subst hfk
    obtain ⟨wa, hwa⟩ : ∃ x, x = w7 := ⟨_, rfl⟩
    have hW : Ext (fun i => i = b2) wa w7 := by rw [hwa]; exact Ext.refl _ _
    have hIt2 := hIt; rw [← hwa] at hIt2; have hz2 : b2 < wa.heap.size := by rw [hwa]; exact hB2.lt
    refine wl_nil ?_
    refine W_block ?_   -- block 0
    have hszr := hX.size
    have hsz_hW := hW.size
    have ho2 : w.heap.size ≤ b2 := by rcases hl2 with h | h; exact h.elim; exact h
    have ho3 : w.heap.size ≤ b3 := by rcases hl3 with h | h; exact h.elim; exact h
    refine W_rangeFunc (M := fun i => i = b2) (w0 := wa) (I := fun pre N A => Box N A b2 [.bool false] ∧ Box N A b3 [.int .i64 (((spl 47 s).length : Int) - 1)] ∧ Ext Non w A ∧ Ext (fun i => i = b2) wa A ∧ MkN w [] N A ∧ (∀ (j : Nat) l, j < pre.length → (spl 47 s)[j]? = some l → levOk (decide (j + 1 = (spl 47 s).length)) l = true)) (X := fun c N A => c = .ret ∧ Box N A b2 [.bool false] ∧ Ext Non w A ∧ Ext (fun i => i = b2) wa A ∧ MkN w [] N A ∧ (filterB s = false)) (encs := fun p : Nat × Str => [.int .i64 (p.1 : Nat), Sv p.2]) (xs := numb (spl 47 s)) rfl (hIt2) (hW) (fun _ => rfl) (fun pre => (Stab.box _ _).and ((Stab.box _ _).and ((Stab.old hX.size).and ((Stab.oldM hW.size).and ((Stab.mk _ _).and ((Stab.pure _))))))) (fun c => (Stab.pure _).and ((Stab.box _ _).and ((Stab.old hX.size).and ((Stab.oldM hW.size).and ((Stab.mk _ _).and ((Stab.pure _))))))) ⟨⟨hB2, id⟩, ⟨hB3, id⟩, hX, hW, (Mk.nil : Mk w [] _).toN, fun j l h => absurd h (Nat.not_lt_zero _)⟩ ?_ ?_ ?_
    · rintro l N pre x A hl hN hA hst ⟨hK2, hK3, hXo, hW, hDk, hIr⟩ ⟨post, hpre⟩
      have hB2 := hK2.1; have hl2 : Mine (Yc (fun i => i = b2) wa N) A b2 := .inl ⟨hK2.2, .inl rfl⟩
      have hB3 := hK3.1
      have hX := Ext.refl (Yc (fun i => i = b2) wa N) A
      refine W_seq ?_
      refine W_region ?_
      refine wl_val (rn_assign (by conv => lhs; whnf)) ?_
      refine wl_nil ?_
      refine W_region ?_
      refine wl_val (rn_assign (by conv => lhs; whnf)) ?_
      refine wl_nil ?_
      refine ⟨rfl, hX, fun A2 hE2r hz2r hst2 => ?_⟩
      have hNl := (hN l hl).2
      replace hB2 := hB2.ext hE2r (fun e => hK2.2 (by rw [e]; exact hl))
      replace hB3 := hB3.ext hE2r (fun e => hK3.2 (by rw [e]; exact hl))
      replace hXo := hXo.mine hE2r (.inr (Nat.le_trans hszr (hN l hl).1)); replace hDk := hDk.lp hE2r hl
      replace hW := hW.mine hE2r (.inr (Nat.le_trans hsz_hW (hN l hl).1))
      have hl2 : Mine (Yc (fun i => i = b2) wa N) A2 b2 := .inl ⟨hK2.2, .inl rfl⟩
      have hX := Ext.refl (Yc (fun i => i = b2) wa N) A2
      obtain ⟨hxi, hxl, hxp⟩ := numb_at (i := x.1) (x := x.2) (post := post) (pre := pre) (by rw [hpre])
      have hxlt := (List.getElem?_eq_some_iff.1 hxl).1
      refine W_block ?_   -- block 1
      refine W_block ?_   -- block 2
      refine W_seq ?_
      refine W_region ?_
      refine wl_val (rn_move (by conv => lhs; whnf)) ?_
      refine wl_call e_100 rfl (scontains_ok A2 x.2 35) ?_; intro v18 w8 hE8 hR8
      replace hX := hX.tr hE8
      replace hB2 := hB2.ext hE8 id; replace hB3 := hB3.ext hE8 id
      replace hXo := hXo.tr hE8
      replace hDk := hDk.non hE8
      replace hW := hW.tr hE8
      subst hR8
      refine wl_val (rn_assign (by conv => lhs; whnf)) ?_
      refine wl_nil ?_
      refine W_cond rfl (fun hc1 => ?_) (fun hc1 => ?_)
      · have q35 : (35 : UInt8) ∈ x.2 := of_decide_eq_true hc1
        refine W_seq ?_
        refine W_region ?_
        refine wl_val (rn_move (by conv => lhs; whnf)) ?_
        refine wl_val (rn_sneq rfl rfl) ?_
        refine wl_val (rn_move (by conv => lhs; whnf)) ?_
        refine wl_split (d := 21) rfl (fun hg21 => ?_) (fun hg21 => ?_)
        · have hR : filterB s = false := filter_no hxl (levOk_b q35 (by simpa using of_decide_eq_true hg21))
          refine wl_no rfl (congrArg Value.bool hg21) ?_
          refine wl_no rfl (congrArg Value.bool hg21) ?_
          refine wl_no rfl (congrArg Value.bool hg21) ?_
          refine wl_val (rn_pickT (congrArg Value.bool hg21) (by conv => lhs; whnf)) ?_
          refine wl_nil ?_
          refine W_condT rfl ?_
          refine W_seq ?_
          refine W_region ?_
          have hBo := hB2
          refine wl_store1 (b := b2) p_4 rfl (by conv => lhs; whnf) rfl rfl hB2 (Nat.le_of_ble_eq_true rfl) ?_; intro w9 hE9 hB2 hz9
          replace hX := hX.mine hE9 hl2
          replace hB3 := hB3.ext hE9 (fun h => by omega)
          replace hXo := hXo.mine hE9 (.inr ho2)
          replace hDk := hDk.box hE9 hBo
          replace hW := hW.mine hE9 (.inl rfl)
          refine wl_nil ?_
          refine W_ret ?_
          exact ⟨hX, rfl, ⟨hB2, hK2.2⟩, hXo, hW, hDk, hR⟩
        · have qh : x.2 = [35] := by simpa using of_decide_eq_false hg21
          refine wl_yes rfl (congrArg Value.bool hg21) ?_
          refine wl_val (rn_move (by conv => lhs; whnf)) ?_
          refine wl_yes rfl (congrArg Value.bool hg21) ?_
          refine wl_val (rn_load1 p_3 rfl hB3 rfl) ?_
          refine wl_yes rfl (congrArg Value.bool hg21) ?_
          refine wl_val (rn_neq rfl rfl) ?_
          refine wl_val (rn_pickF (congrArg Value.bool hg21) (by conv => lhs; whnf)) ?_
          refine wl_nil ?_
          refine W_cond rfl (fun hc2 => ?_) (fun hc2 => ?_)
          · have hR : filterB s = false := filter_no hxl (by rw [levOk_c qh]; have := of_decide_eq_true hc2; exact decide_eq_false (by omega))
            refine W_seq ?_
            refine W_region ?_
            have hBo := hB2
            refine wl_store1 (b := b2) p_4 rfl (by conv => lhs; whnf) rfl rfl hB2 (Nat.le_of_ble_eq_true rfl) ?_; intro w10 hE10 hB2 hz10
            replace hX := hX.mine hE10 hl2
            replace hB3 := hB3.ext hE10 (fun h => by omega)
            replace hXo := hXo.mine hE10 (.inr ho2)
            replace hDk := hDk.box hE10 hBo
            replace hW := hW.mine hE10 (.inl rfl)
            refine wl_nil ?_
            refine W_ret ?_
            exact ⟨hX, rfl, ⟨hB2, hK2.2⟩, hXo, hW, hDk, hR⟩
          · have hok : levOk (decide (x.1 + 1 = (spl 47 s).length)) x.2 = true := by rw [levOk_c qh]; have := of_decide_eq_false hc2; exact decide_eq_true (by omega)
            refine W_skip ?_
            exact ⟨hX, ⟨hB2, hK2.2⟩, ⟨hB3, hK3.2⟩, hXo, hW, hDk, (fun j l hj h2 => by rw [List.length_append, List.length_singleton] at hj; rcases Nat.lt_or_ge j pre.length with h | h; exact hIr j l h h2; (have e : j = x.1 := by omega); subst e; rw [hxl] at h2; cases h2; exact hok)⟩
      · have q35 : ¬ (35 : UInt8) ∈ x.2 := of_decide_eq_false hc1
        refine W_seq ?_
        refine W_region ?_
        refine wl_val (rn_move (by conv => lhs; whnf)) ?_
        refine wl_call e_100 rfl (scontains_ok w8 x.2 43) ?_; intro v28 w11 hE11 hR11
        replace hX := hX.tr hE11
        replace hB2 := hB2.ext hE11 id; replace hB3 := hB3.ext hE11 id
        replace hXo := hXo.tr hE11
        replace hDk := hDk.non hE11
        replace hW := hW.tr hE11
        subst hR11
        refine wl_val (rn_move (by conv => lhs; whnf)) ?_
        refine wl_split (d := 29) rfl (fun hg29 => ?_) (fun hg29 => ?_)
        · have q43 : (43 : UInt8) ∈ x.2 := of_decide_eq_true hg29
          refine wl_yes rfl (congrArg Value.bool hg29) ?_
          refine wl_val (rn_move (by conv => lhs; whnf)) ?_
          refine wl_yes rfl (congrArg Value.bool hg29) ?_
          refine wl_val (rn_sneq rfl rfl) ?_
          refine wl_val (rn_pickT (congrArg Value.bool hg29) (by conv => lhs; whnf)) ?_
          refine wl_val (rn_assign (by conv => lhs; whnf)) ?_
          refine wl_nil ?_
          refine W_cond rfl (fun hc3 => ?_) (fun hc3 => ?_)
          · have hR : filterB s = false := filter_no hxl (levOk_a q43 (by simpa using of_decide_eq_true hc3))
            refine W_seq ?_
            refine W_region ?_
            have hBo := hB2
            refine wl_store1 (b := b2) p_4 rfl (by conv => lhs; whnf) rfl rfl hB2 (Nat.le_of_ble_eq_true rfl) ?_; intro w12 hE12 hB2 hz12
            replace hX := hX.mine hE12 hl2
            replace hB3 := hB3.ext hE12 (fun h => by omega)
            replace hXo := hXo.mine hE12 (.inr ho2)
            replace hDk := hDk.box hE12 hBo
            replace hW := hW.mine hE12 (.inl rfl)
            refine wl_nil ?_
            refine W_ret ?_
            exact ⟨hX, rfl, ⟨hB2, hK2.2⟩, hXo, hW, hDk, hR⟩
          · have hok : levOk (decide (x.1 + 1 = (spl 47 s).length)) x.2 = true := levOk_d q35 (fun _ => by simpa using of_decide_eq_false hc3)
            refine W_skip ?_
            exact ⟨hX, ⟨hB2, hK2.2⟩, ⟨hB3, hK3.2⟩, hXo, hW, hDk, (fun j l hj h2 => by rw [List.length_append, List.length_singleton] at hj; rcases Nat.lt_or_ge j pre.length with h | h; exact hIr j l h h2; (have e : j = x.1 := by omega); subst e; rw [hxl] at h2; cases h2; exact hok)⟩
        · have hok : levOk (decide (x.1 + 1 = (spl 47 s).length)) x.2 = true := levOk_d q35 (fun h => absurd h (of_decide_eq_false hg29))
          refine wl_no rfl (congrArg Value.bool hg29) ?_
          refine wl_no rfl (congrArg Value.bool hg29) ?_
          refine wl_val (rn_pickF (congrArg Value.bool hg29) (by conv => lhs; whnf)) ?_
          refine wl_val (rn_assign (by conv => lhs; whnf)) ?_
          refine wl_nil ?_
          refine W_condF rfl ?_
          refine W_skip ?_
          exact ⟨hX, ⟨hB2, hK2.2⟩, ⟨hB3, hK3.2⟩, hXo, hW, hDk, (fun j l hj h2 => by rw [List.length_append, List.length_singleton] at hj; rcases Nat.lt_or_ge j pre.length with h | h; exact hIr j l h h2; (have e : j = x.1 := by omega); subst e; rw [hxl] at h2; cases h2; exact hok)⟩
    · rintro N rk w' ⟨hK2, hK3, hXo, hW, hDk, hIr⟩ hN hA hr hrd
      have hB2 := hK2.1
      have hB3 := hK3.1
      have hX := hXo; have hD := hDk.add hrd (Nat.le_trans hszr (hN rk hr).1) hr
      refine W_seq ?_
      refine W_region ?_
      have hBo := hB2
      refine wl_store1 (b := b2) p_4 rfl (by conv => lhs; whnf) rfl rfl hB2 (Nat.le_of_ble_eq_true rfl) ?_; intro w13 hE13 hB2 hz13
      replace hX := hX.mine hE13 hl2
      replace hB3 := hB3.ext hE13 (fun h => by omega)
      replace hD := hD.box hE13 hBo
      refine wl_nil ?_
      refine W_ret ?_
      refine hD.leave fun B hB => ?_
      have hB2 := hB2.ext hB (hD.ne hB2)
      have hB3 := hB3.ext hB (hD.ne hB3)
      have hX := hD.out hX hB
      exact ⟨_, resR1 (res1_cell p_4 rfl hB2), hX, by rw [filter_yes hz (fun j l h2 => hIr j l (by rw [numb_len]; exact (List.getElem?_eq_some_iff.1 h2).1) h2)]⟩
    · rintro c N rk w' ⟨rfl, hK2, hXo, hW, hDk, hIr⟩ hN hA hr hrd
      have hB2 := hK2.1
      have hX := hXo; have hD := hDk.add hrd (Nat.le_trans hszr (hN rk hr).1) hr
      refine W_ret ?_
      refine hD.leave fun B hB => ?_
      have hB2 := hB2.ext hB (hD.ne hB2)
      have hX := hD.out hX hB
      exact ⟨_, resR1 (res1_cell p_4 rfl hB2), hX, by rw [hIr]⟩
-- bellman/bellmanref01.Long
theorem long2_ok (w : World) (s : Str) : Fn Tryz.prog 14 #[Sv s] w fun u w' => u = .bool (decide ((s.length : Int) > 300)) := by
  have hX := Ext.refl Non w
  refine fn_of_W (args := [_]) Tryz.func14 rfl (by kernel_rfl) rfl ?_
  refine W_seq ?_
  refine W_region ?_
  refine wl_val (rn_assign (by conv => lhs; whnf)) ?_
  refine wl_nil ?_
  refine W_seq ?_
  refine W_region ?_
  refine wl_val (rn_move (by conv => lhs; whnf)) ?_
  refine wl_val (rn_slen us_9 rfl) ?_
  refine wl_val (rn_gtr rfl rfl) ?_
  refine wl_val (rn_assign (by conv => lhs; whnf)) ?_
  refine wl_nil ?_
  refine W_ret ?_
  exact ⟨_, resR1 (res1_tmp rfl), hX, rfl⟩
end Go.Proofs.YtaddeakfojpdoaaGreatDoorC

/- Texts gone through rune by rune; scopes; a rune's text; each rule holds of whatever program. -/
set_option linter.unusedVariables false
set_option linter.unusedSimpArgs false
namespace Go.Proofs.YtaddeakfojpdoaaGreatDoorC
open Go.RowKit
variable {P : Program} {n : Nat} {Q : Post} {σ : Env} {D : List Deferred} {w : World} {dst : Option Nat} {ty : TypeId} {pos : String} {af : Array Edge} {g : Option (Nat × Bool)}
variable {ops rest : List Oper} {K : Ops}
def NoGo (Q : Post) : Post
  | .goto _ => fun _ _ _ => False
  | e => Q e
/-- A scope that no jump leaves. -/
theorem W_scope {c : Code} (h : W none P n c (NoGo Q) σ D w) : W none P n (.scope c) Q σ D w := by
  intro hk a hs hd
  have h1 := h hk a hs hd
  refine wpIn_wide.2 (wp_scope_straight ?_)
  refine (wpIn_wide.1 (wpIn_mono h1 ?_))
  rintro e a' w' ⟨σ', h2, h3⟩
  cases e with
  | goto t => exact h3.elim
  | _ => exact ⟨σ', h2, h3⟩
theorem size_str (s : Str) : (ByteArray.mk s.toArray).size = s.length := by simp [ByteArray.size]
theorem get_str (s : Str) (i : Nat) (h : i < (ByteArray.mk s.toArray).size) : (ByteArray.mk s.toArray)[i]'h = s[i]'(by rw [size_str] at h; exact h) := rfl
/-- Block b goes through s, and stands at i. -/
def IsIt (w : World) (b : Nat) (s : Str) (i : Nat) : Prop := w.heap[b]? = some (.stringIter ⟨s.toArray⟩ i)
theorem IsIt.ext {M : Nat → Prop} {w w' : World} {b : Nat} {s : Str} {i : Nat} (h : IsIt w b s i) (hE : Ext M w w') (hm : ¬ M b) : IsIt w' b s i := hE.obj h hm
theorem IsIt.lt {w : World} {b : Nat} {s : Str} {i : Nat} (h : IsIt w b s i) : b < w.heap.size := (Array.getElem?_eq_some_iff.1 h).1
theorem wl_rangeS {t : TypeId} (hu : P.underlying t = some .string) {x : Operand} {s : Str} {d : Nat} (hx : ev σ x = Sv s)
    (kk : ∀ b w', w.heap.size ≤ b → Ext Non w w' → IsIt w' b s 0 → wl P ops rest K (upd σ d (.pointer (some ⟨b, 0, none⟩))) w') : wl P ops (⟨some d, .range t x, ty, pos, af, none⟩ :: rest) K σ w := by
  refine wl_new (P := P) (w' := w.iter ⟨s.toArray⟩ 0) (v := .pointer (some ⟨w.heap.size, 0, none⟩)) ?_ (kk _ _ (Nat.le_refl _) (Ext.alloc w _) (World.iter_heap w _ 0))
  show (execOp (ev σ) _).run P w = _
  simp [execOp, hx, run_range_string w t _ hu]
def dec (s : Str) (i : Nat) : Nat × Nat := Utf8.decode ⟨s.toArray⟩ i
def nxA (s : Str) (i : Nat) : Array Value := if i < s.length then #[.bool true, .int .i64 (i : Nat), .int .i32 ((dec s i).1 : Nat)] else #[.bool false]
def nxP (s : Str) (i : Nat) : Nat := if i < s.length then i + (dec s i).2 else i
theorem nx0 (s : Str) (i : Nat) : (nxA s i)[0]? = some (.bool (decide (i < s.length))) := by unfold nxA; split <;> simp_all
theorem nx1 {s : Str} {i : Nat} (h : i < s.length) : (nxA s i)[1]? = some (.int .i64 (i : Nat)) := by unfold nxA; rw [if_pos h]; rfl
theorem nx2 {s : Str} {i : Nat} (h : i < s.length) : (nxA s i)[2]? = some (.int .i32 ((dec s i).1 : Nat)) := by unfold nxA; rw [if_pos h]; rfl
theorem wl_nextS {x : Operand} {s : Str} {b i d : Nat} (hx : ev σ x = .pointer (some ⟨b, 0, none⟩)) (hI : IsIt w b s i)
    (kk : ∀ w', Ext (fun j => j = b) w w' → w'.heap.size = w.heap.size → IsIt w' b s (nxP s i) → wl P ops rest K (upd σ d (.tuple (nxA s i))) w') : wl P ops (⟨some d, .next x true, ty, pos, af, none⟩ :: rest) K σ w := by
  have hlt := hI.lt
  unfold IsIt at hI
  by_cases h : i < s.length
  · have h2 : i < (ByteArray.mk s.toArray).size := by rw [size_str]; exact h
    refine wl_new (P := P) (w' := w.putObj b (.stringIter ⟨s.toArray⟩ (i + (dec s i).2))) (v := .tuple (nxA s i)) ?_ (kk _ (Ext.putObj _ _ _ _ rfl) (by simp [World.putObj]) ?_)
    · show (execOp (ev σ) _).run P w = _
      unfold nxA dec
      simp only [execOp, hx, Instr.next, getObj, setObj, Sem.run_bind, Sem.run, hI, Result.andThen, h2, h, if_true]
      simp [goInt, World.putObj, Sem.run, hI, hlt]
    · unfold IsIt nxP; rw [if_pos h]; exact World.putObj_heap_same hlt
  · have h2 : ¬ i < (ByteArray.mk s.toArray).size := by rw [size_str]; exact h
    refine wl_new (P := P) (w' := w) (v := .tuple (nxA s i)) ?_ (kk _ (Ext.refl _ _) rfl ?_)
    · show (execOp (ev σ) _).run P w = _
      unfold nxA
      simp [execOp, hx, Instr.next, getObj, Sem.run, hI, h2, h]
    · unfold IsIt nxP; rw [if_neg h]; exact hI
theorem rn_runeText {s t : TypeId} {x : Operand} {k : IntKind} {r : Int} (hs : (P.underlying s).isSome = true) (ht : P.underlying t = some .string) (hx : ev σ x = .int k r) : Rn P σ w ⟨dst, .convert s t x, ty, pos, af, g⟩ (.string (Utf8.encode r)) := by
  show (execOp (ev σ) _).run P w = _
  simp [execOp, hx, run_convert_int_string w s t k r hs ht]
/-- What stands at a place, rune by rune. -/
theorem dec_low {s : Str} {i : Nat} {c : UInt8} (h : s[i]? = some c) (hc : c.toNat < 128) : dec s i = (c.toNat, 1) := by
  obtain ⟨hlt, e⟩ := List.getElem?_eq_some_iff.1 h
  have h2 : i < (ByteArray.mk s.toArray).size := by rw [size_str]; exact hlt
  have := decode_ascii ⟨s.toArray⟩ i h2 (by rw [get_str, e]; exact hc)
  unfold dec; rw [this, get_str, e]
theorem getb (s : Str) (i : Nat) (h : i < s.length) : (ByteArray.mk s.toArray).get! i = s[i] := by
  have h2 : i < (ByteArray.mk s.toArray).size := by rw [size_str]; exact h
  have := get_at ⟨s.toArray⟩ i h2
  rw [Nat.add_zero] at this
  rw [this]; rfl
theorem dec_high {s : Str} {i : Nat} {c : UInt8} (h : s[i]? = some c) (hc : 128 ≤ c.toNat) :
    128 ≤ (dec s i).1 ∧ 1 ≤ (dec s i).2 ∧ Utf8.valid ((dec s i).1 : Nat) = true ∧ ∀ j, i ≤ j → j < i + (dec s i).2 → ∃ x, s[j]? = some x ∧ 128 ≤ x.toNat := by
  obtain ⟨hlt, e⟩ := List.getElem?_eq_some_iff.1 h
  have h2 : i < (ByteArray.mk s.toArray).size := by rw [size_str]; exact hlt
  have hh := decode_high ⟨s.toArray⟩ i h2 (by rw [get_str, e]; exact hc)
  refine ⟨hh.1, hh.2, ?_⟩
  have hb0 : ((ByteArray.mk s.toArray).get! (i + 0)).toNat = c.toNat := by rw [Nat.add_zero, getb s i hlt, e]
  have hn : ¬ c.toNat < 128 := by omega
  have hsz : (ByteArray.mk s.toArray).size = s.length := size_str s
  have one : ∀ j, i ≤ j → j < i + 1 → ∃ x, s[j]? = some x ∧ 128 ≤ x.toNat := fun j h1 h2 => by
    obtain rfl : j = i := by omega
    exact ⟨c, h, hc⟩
  have ct : ∀ k, (decide (i + k < (ByteArray.mk s.toArray).size) && ((ByteArray.mk s.toArray).get! (i + k)).toNat / 64 == 2) = true → ∃ x, s[i + k]? = some x ∧ 128 ≤ x.toNat := fun k hk => by
    rw [Bool.and_eq_true, decide_eq_true_eq, hsz] at hk
    refine ⟨s[i + k]'hk.1, List.getElem?_eq_getElem hk.1, ?_⟩
    have := hk.2
    rw [getb s (i + k) hk.1] at this
    have := eq_of_beq this
    omega
  have hc8 := UInt8.toNat_lt c
  have hv : ∀ r : Nat, r = Utf8.runeError → Utf8.valid (r : Nat) = true := fun r hr => by subst hr; decide
  unfold dec
  unfold Utf8.decode
  simp only [hb0, hn, if_false]
  split
  · rename_i hq
    rw [Bool.and_eq_true] at hq
    split
    · refine ⟨?_, fun j h1 h2 => ?_⟩
      · unfold Utf8.valid; simp; omega
      · rcases Nat.lt_or_ge j (i + 1) with h3 | h3
        · exact one j h1 h3
        · obtain rfl : j = i + 1 := by simp at h2; omega
          exact ct 1 hq.2
    · exact ⟨hv _ rfl, one⟩
  · split
    · rename_i hq
      simp only [Bool.and_eq_true] at hq
      split
      · rename_i hr
        simp only [Bool.and_eq_true] at hr
        refine ⟨hr.2, fun j h1 h2 => ?_⟩
        have h2 : j < i + 3 := h2
        rcases Nat.lt_or_ge j (i + 1) with h3 | h3
        · exact one j h1 h3
        · rcases Nat.lt_or_ge j (i + 2) with h4 | h4
          · obtain rfl : j = i + 1 := by omega
            exact ct 1 (by simpa using hq.1.2)
          · obtain rfl : j = i + 2 := by omega
            exact ct 2 (by simpa using hq.2)
      · exact ⟨hv _ rfl, one⟩
    · split
      · rename_i hq
        simp only [Bool.and_eq_true] at hq
        split
        · rename_i hr
          simp only [Bool.and_eq_true] at hr
          refine ⟨hr.2, fun j h1 h2 => ?_⟩
          have h2 : j < i + 4 := h2
          rcases Nat.lt_or_ge j (i + 1) with h3 | h3
          · exact one j h1 h3
          · rcases Nat.lt_or_ge j (i + 2) with h4 | h4
            · obtain rfl : j = i + 1 := by omega
              exact ct 1 (by simpa using hq.1.1.2)
            · rcases Nat.lt_or_ge j (i + 3) with h5 | h5
              · obtain rfl : j = i + 2 := by omega
                exact ct 2 (by simpa using hq.1.2)
              · obtain rfl : j = i + 3 := by omega
                exact ct 3 (by simpa using hq.2)
        · exact ⟨hv _ rfl, one⟩
      · exact ⟨hv _ rfl, one⟩
end Go.Proofs.YtaddeakfojpdoaaGreatDoorC

/- Whether a text has one of two bytes: the library's search; the program's topics. -/
set_option linter.unusedVariables false
set_option linter.unusedSimpArgs false
set_option maxRecDepth 100000
namespace Go.Proofs.YtaddeakfojpdoaaGreatDoorC
open Go.RowKit Go.Shelf
def Tryz.lays153_ren : Go.Shelf.Ren := ⟨fun | 153 => 159 | 152 => 179 | 226 => 180 | 227 => 181 | 228 => 182 | 137 => 138 | 119 => 196 | 224 => 188 | 225 => 187 | 217 => 163 | 266 => 186 | n => n, fun | 9 => 9 | 3 => 3 | 4 => 4 | 5 => 5 | 21 => 21 | 117 => 224 | 116 => 223 | 0 => 0 | 46 => 183 | 124 => 239 | n => n, fun | n => n⟩
theorem Tryz.lays153 : Go.Proofs.Lays.n153 Tryz.prog Tryz.lays153_ren := {
  mixed := by kernel_rfl
  f119 := Tryz.func196.trans (congrArg some (by kernel_rfl))
  f137 := Tryz.func138.trans (congrArg some (by kernel_rfl))
  f152 := Tryz.func179.trans (congrArg some (by kernel_rfl))
  f153 := Tryz.func159.trans (congrArg some (by kernel_rfl))
  f217 := Tryz.func163.trans (congrArg some (by kernel_rfl))
  f224 := Tryz.func188.trans (congrArg some (by kernel_rfl))
  f225 := Tryz.func187.trans (congrArg some (by kernel_rfl))
  f226 := Tryz.func180.trans (congrArg some (by kernel_rfl))
  f227 := Tryz.func181.trans (congrArg some (by kernel_rfl))
  f228 := Tryz.func182.trans (congrArg some (by kernel_rfl))
  f266 := Tryz.func186.trans (congrArg some (by kernel_rfl))
  t0 := Tryz.underlying0
  a0 := Tryz.isAgg0
  z0 := Tryz.sizeOf0
  v0 := Tryz.zeroValue0
  t3 := Tryz.underlying3
  a3 := Tryz.isAgg3
  z3 := Tryz.sizeOf3
  v3 := Tryz.zeroValue3
  t4 := Tryz.underlying4
  a4 := Tryz.isAgg4
  z4 := Tryz.sizeOf4
  v4 := Tryz.zeroValue4
  t5 := Tryz.underlying5
  a5 := Tryz.isAgg5
  z5 := Tryz.sizeOf5
  v5 := Tryz.zeroValue5
  t9 := Tryz.underlying9
  a9 := Tryz.isAgg9
  z9 := Tryz.sizeOf9
  v9 := Tryz.zeroValue9
  t21 := Tryz.underlying21
  a21 := Tryz.isAgg21
  z21 := Tryz.sizeOf21
  v21 := Tryz.zeroValue21
  t46 := Tryz.underlying183
  a46 := Tryz.isAgg183
  z46 := Tryz.sizeOf183
  v46 := Tryz.zeroValue183
  t116 := Tryz.underlying223
  a116 := Tryz.isAgg223
  z116 := Tryz.sizeOf223
  t117 := Tryz.underlying224
  a117 := Tryz.isAgg224
  z117 := Tryz.sizeOf224
  v117 := Tryz.zeroValue224
  t124 := Tryz.underlying239
  a124 := Tryz.isAgg239
  z124 := Tryz.sizeOf239
  v124 := Tryz.zeroValue239 }

theorem wrap_u8 {a : Int} (h : 0 ≤ a ∧ a ≤ 255) : IntKind.u8.wrap a = a := by
  have hm : a % 256 = a := by omega
  unfold IntKind.wrap; simp [IntKind.bits, IntKind.signed, hm]
theorem valid_iff (r : Int) : Utf8.valid r = true ↔ (0 ≤ r ∧ r < 55296) ∨ (57344 ≤ r ∧ r ≤ 1114111) := by
  unfold Utf8.valid
  rw [Bool.or_eq_true, Bool.and_eq_true, Bool.and_eq_true, decide_eq_true_eq, decide_eq_true_eq, decide_eq_true_eq, decide_eq_true_eq]
theorem runeText (r : Int) (h128 : 128 ≤ r) (hv : Utf8.valid r = true) : ∃ e : Str, Utf8.encode r = ⟨e.toArray⟩ ∧ 2 ≤ e.length ∧ e.length ≤ 4 ∧ ∃ x, e[e.length - 1]? = some x ∧ 128 ≤ x.toNat := by
  obtain ⟨h1, h2, h3⟩ := encode_facts r hv h128
  have hs : (Utf8.encode r).size = (Utf8.encode r).data.toList.length := (Array.length_toList (xs := (Utf8.encode r).data)).symm
  have hlt : (Utf8.encode r).size - 1 < (Utf8.encode r).size := by omega
  refine ⟨(Utf8.encode r).data.toList, rfl, by rw [← hs]; exact h1, by rw [← hs]; exact h2, (Utf8.encode r)[(Utf8.encode r).size - 1]'hlt, ?_, h3 hlt⟩
  rw [← hs, List.getElem?_eq_getElem (by rw [← hs]; exact hlt)]; rfl
/-- Has a text one of the two signs? -/
def anyB (s : Str) : Bool := decide ((43 : UInt8) ∈ s) || decide ((35 : UInt8) ∈ s)
theorem indexAny_eq : ∀ s : Str, decide (0 ≤ Lib.indexAny s [43, 35]) = anyB s
  | [] => rfl
  | b :: l => by
    have ih := indexAny_eq l
    have hge := Lib.indexAny_ge [43, 35] l
    unfold Lib.indexAny
    by_cases hb : ([43, 35] : Str).contains b = true
    · rw [if_pos hb]
      have : b = 43 ∨ b = 35 := by simpa using hb
      unfold anyB
      rcases this with rfl | rfl <;> simp
    · rw [if_neg hb]
      have hne : ¬ (43 : UInt8) = b ∧ ¬ (35 : UInt8) = b := by
        refine ⟨fun e => hb (by rw [← e]; decide), fun e => hb (by rw [← e]; decide)⟩
      have e2 : anyB (b :: l) = anyB l := by unfold anyB; simp [hne.1, hne.2]
      rw [e2, ← ih]
      by_cases h1 : (Lib.indexAny l [43, 35] == -1) = true
      · rw [if_pos h1]
        have := eq_of_beq h1
        rw [this]
      · rw [if_neg h1]
        have h2 : ¬ Lib.indexAny l [43, 35] = -1 := fun e => h1 (by rw [e]; rfl)
        exact decide_eq_decide.2 (by omega)
theorem anyB_yes {s : Str} {i : Nat} {c : UInt8} (h : s[i]? = some c) (hc : c = 43 ∨ c = 35) : anyB s = true := by
  have := List.mem_of_getElem? h
  unfold anyB
  rcases hc with rfl | rfl <;> simp [this]
theorem anyB_no {s : Str} (h1 : ¬ (43 : UInt8) ∈ s) (h2 : ¬ (35 : UInt8) ∈ s) : anyB s = false := by unfold anyB; simp [h1, h2]
/-- Nothing of what was gone over is x. -/
theorem gone_over {s : Str} {i k : Nat} {x : UInt8} (h : ¬ x ∈ s.take i) (hn : ∀ j c, i ≤ j → j < k → s[j]? = some c → c ≠ x) : ¬ x ∈ s.take k := by
  intro hm
  obtain ⟨j, hj⟩ := List.getElem?_of_mem hm
  rw [List.getElem?_take] at hj
  split at hj
  · rename_i hjk
    rcases Nat.lt_or_ge j i with h1 | h1
    · exact h (List.mem_of_getElem? (i := j) (by rw [List.getElem?_take, if_pos h1]; exact hj))
    · exact hn j x h1 hjk hj rfl
  · cases hj
theorem fi_two (c : UInt8) : 0 ≤ fi [43, 35] c ↔ c = 43 ∨ c = 35 := by rw [fi_ge]; simp
-- unicode/utf8.ValidRune
theorem validRune_ok (w : World) (r : Nat) (hv : Utf8.valid (r : Int) = true) : Fn Tryz.prog 196 #[.int .i32 (r : Nat)] w fun u w' => u = .bool true := by
  have hv2 := (valid_iff r).1 hv
  have hX := Ext.refl Non w
  refine fn_of_W (args := [_]) Tryz.func196 rfl (by kernel_rfl) rfl ?_
  refine W_seq ?_
  refine W_region ?_
  refine wl_val (rn_assign (by conv => lhs; whnf)) ?_
  refine wl_nil ?_
  refine W_seq ?_
  refine W_block ?_   -- block 0
  refine W_seq ?_
  refine W_region ?_
  refine wl_val (rn_move (by conv => lhs; whnf)) ?_
  refine wl_val (rn_leq rfl rfl) ?_
  refine wl_val (rn_move (by conv => lhs; whnf)) ?_
  refine wl_split (d := 6) rfl (fun hg6 => ?_) (fun hg6 => ?_)
  · have q1 := of_decide_eq_true hg6
    refine wl_yes rfl (congrArg Value.bool hg6) ?_
    refine wl_val (rn_move (by conv => lhs; whnf)) ?_
    refine wl_yes rfl (congrArg Value.bool hg6) ?_
    refine wl_val (rn_lss rfl rfl) ?_
    refine wl_val (rn_pickT (congrArg Value.bool hg6) (by conv => lhs; whnf)) ?_
    refine wl_val (rn_assign (by conv => lhs; whnf)) ?_
    refine wl_nil ?_
    refine W_cond rfl (fun hc0 => ?_) (fun hc0 => ?_)
    · refine W_seq ?_
      refine W_region ?_
      refine wl_val (rn_assign (by conv => lhs; whnf)) ?_
      refine wl_nil ?_
      refine W_ret ?_
      first | exact ⟨_, resR1 (res1_tmp rfl), hX, rfl⟩ | exact ⟨_, resR1 (res1_tmp rfl), hX, (by omega : False).elim⟩
    · have q2 := of_decide_eq_false hc0
      refine W_seq ?_
      refine W_region ?_
      refine wl_val (rn_move (by conv => lhs; whnf)) ?_
      refine wl_val (rn_lss rfl rfl) ?_
      refine wl_val (rn_move (by conv => lhs; whnf)) ?_
      refine wl_split (d := 13) rfl (fun hg13 => ?_) (fun hg13 => ?_)
      · have q3 := of_decide_eq_true hg13
        refine wl_yes rfl (congrArg Value.bool hg13) ?_
        refine wl_val (rn_move (by conv => lhs; whnf)) ?_
        refine wl_yes rfl (congrArg Value.bool hg13) ?_
        refine wl_val (rn_leq rfl rfl) ?_
        refine wl_val (rn_pickT (congrArg Value.bool hg13) (by conv => lhs; whnf)) ?_
        refine wl_val (rn_assign (by conv => lhs; whnf)) ?_
        refine wl_nil ?_
        refine W_cond rfl (fun hc1 => ?_) (fun hc1 => ?_)
        · refine W_seq ?_
          refine W_region ?_
          refine wl_val (rn_assign (by conv => lhs; whnf)) ?_
          refine wl_nil ?_
          refine W_ret ?_
          first | exact ⟨_, resR1 (res1_tmp rfl), hX, rfl⟩ | exact ⟨_, resR1 (res1_tmp rfl), hX, (by omega : False).elim⟩
        · have q4 := of_decide_eq_false hc1
          refine W_skip ?_
          refine W_seq ?_
          refine W_region ?_
          refine wl_val (rn_assign (by conv => lhs; whnf)) ?_
          refine wl_nil ?_
          refine W_ret ?_
          first | exact ⟨_, resR1 (res1_tmp rfl), hX, rfl⟩ | exact ⟨_, resR1 (res1_tmp rfl), hX, (by omega : False).elim⟩
      · have q3 := of_decide_eq_false hg13
        refine wl_no rfl (congrArg Value.bool hg13) ?_
        refine wl_no rfl (congrArg Value.bool hg13) ?_
        refine wl_val (rn_pickF (congrArg Value.bool hg13) (by conv => lhs; whnf)) ?_
        refine wl_val (rn_assign (by conv => lhs; whnf)) ?_
        refine wl_nil ?_
        refine W_condF rfl ?_
        refine W_skip ?_
        refine W_seq ?_
        refine W_region ?_
        refine wl_val (rn_assign (by conv => lhs; whnf)) ?_
        refine wl_nil ?_
        refine W_ret ?_
        first | exact ⟨_, resR1 (res1_tmp rfl), hX, rfl⟩ | exact ⟨_, resR1 (res1_tmp rfl), hX, (by omega : False).elim⟩
  · have q1 := of_decide_eq_false hg6
    refine wl_no rfl (congrArg Value.bool hg6) ?_
    refine wl_no rfl (congrArg Value.bool hg6) ?_
    refine wl_val (rn_pickF (congrArg Value.bool hg6) (by conv => lhs; whnf)) ?_
    refine wl_val (rn_assign (by conv => lhs; whnf)) ?_
    refine wl_nil ?_
    refine W_condF rfl ?_
    refine W_seq ?_
    refine W_region ?_
    refine wl_val (rn_move (by conv => lhs; whnf)) ?_
    refine wl_val (rn_lss rfl rfl) ?_
    refine wl_val (rn_move (by conv => lhs; whnf)) ?_
    refine wl_split (d := 13) rfl (fun hg13 => ?_) (fun hg13 => ?_)
    · have q3 := of_decide_eq_true hg13
      refine wl_yes rfl (congrArg Value.bool hg13) ?_
      refine wl_val (rn_move (by conv => lhs; whnf)) ?_
      refine wl_yes rfl (congrArg Value.bool hg13) ?_
      refine wl_val (rn_leq rfl rfl) ?_
      refine wl_val (rn_pickT (congrArg Value.bool hg13) (by conv => lhs; whnf)) ?_
      refine wl_val (rn_assign (by conv => lhs; whnf)) ?_
      refine wl_nil ?_
      refine W_cond rfl (fun hc1 => ?_) (fun hc1 => ?_)
      · refine W_seq ?_
        refine W_region ?_
        refine wl_val (rn_assign (by conv => lhs; whnf)) ?_
        refine wl_nil ?_
        refine W_ret ?_
        first | exact ⟨_, resR1 (res1_tmp rfl), hX, rfl⟩ | exact ⟨_, resR1 (res1_tmp rfl), hX, (by omega : False).elim⟩
      · have q4 := of_decide_eq_false hc1
        refine W_skip ?_
        refine W_seq ?_
        refine W_region ?_
        refine wl_val (rn_assign (by conv => lhs; whnf)) ?_
        refine wl_nil ?_
        refine W_ret ?_
        first | exact ⟨_, resR1 (res1_tmp rfl), hX, rfl⟩ | exact ⟨_, resR1 (res1_tmp rfl), hX, (by omega : False).elim⟩
    · have q3 := of_decide_eq_false hg13
      refine wl_no rfl (congrArg Value.bool hg13) ?_
      refine wl_no rfl (congrArg Value.bool hg13) ?_
      refine wl_val (rn_pickF (congrArg Value.bool hg13) (by conv => lhs; whnf)) ?_
      refine wl_val (rn_assign (by conv => lhs; whnf)) ?_
      refine wl_nil ?_
      refine W_condF rfl ?_
      refine W_skip ?_
      refine W_seq ?_
      refine W_region ?_
      refine wl_val (rn_assign (by conv => lhs; whnf)) ?_
      refine wl_nil ?_
      refine W_ret ?_
      first | exact ⟨_, resR1 (res1_tmp rfl), hX, rfl⟩ | exact ⟨_, resR1 (res1_tmp rfl), hX, (by omega : False).elim⟩
-- strings.shouldUseASCIISet
theorem shouldUse_ok (w : World) (n : Int) : Fn Tryz.prog 180 #[.int .i64 n] w fun u w' => u = .bool (decide (n > 8)) := by
  have hX := Ext.refl Non w
  refine fn_of_W (args := [_]) Tryz.func180 rfl (by kernel_rfl) rfl ?_
  refine W_seq ?_
  refine W_region ?_
  refine wl_val (rn_assign (by conv => lhs; whnf)) ?_
  refine wl_nil ?_
  refine W_seq ?_
  refine W_region ?_
  refine wl_val (rn_move (by conv => lhs; whnf)) ?_
  refine wl_val (rn_gtr rfl rfl) ?_
  refine wl_val (rn_assign (by conv => lhs; whnf)) ?_
  refine wl_nil ?_
  refine W_ret ?_
  exact ⟨_, resR1 (res1_tmp rfl), hX, rfl⟩
-- strings.IndexRune
set_option maxHeartbeats 800000 in
theorem idxRuneA_ok (w : World) (s : Str) (c : UInt8) (hc : c.toNat < 128) : Fn Tryz.prog 179 #[Sv s, .int .i32 (c.toNat : Nat)] w fun u w' => u = .int .i64 (fi s c) := by
  have hX := Ext.refl Non w
  refine fn_of_W (args := [_, _]) Tryz.func179 rfl (by kernel_rfl) rfl ?_
  refine W_seq ?_
  refine W_region ?_
  refine wl_val (rn_assign (by conv => lhs; whnf)) ?_
  refine wl_nil ?_
  refine W_block ?_   -- block 0
  refine W_seq ?_
  refine W_region ?_
  refine wl_val (rn_move (by conv => lhs; whnf)) ?_
  refine wl_val (rn_leq rfl rfl) ?_
  refine wl_val (rn_move (by conv => lhs; whnf)) ?_
  refine wl_split (d := 163) rfl (fun hg163 => ?_) (fun hg163 => ?_)
  · refine wl_yes rfl (congrArg Value.bool hg163) ?_
    refine wl_val (rn_move (by conv => lhs; whnf)) ?_
    refine wl_yes rfl (congrArg Value.bool hg163) ?_
    refine wl_val (rn_lss rfl rfl) ?_
    refine wl_val (rn_pickT (congrArg Value.bool hg163) (by conv => lhs; whnf)) ?_
    refine wl_val (rn_assign (by conv => lhs; whnf)) ?_
    refine wl_nil ?_
    refine W_cond rfl (fun hc0 => ?_) (fun hc0 => ?_)
    · refine W_seq ?_
      refine W_region ?_
      refine wl_val (rn_move (by conv => lhs; whnf)) ?_
      refine wl_val (rn_move (by conv => lhs; whnf)) ?_
      refine wl_val (rn_convert ui_21 ui_5 rfl (wrap_u8 (by omega))) ?_
      refine wl_call e_138 rfl (sindexByte_ok w s c) ?_; intro v170 w1 hE1 hR1
      replace hX := hX.tr hE1
      subst hR1
      refine wl_val (rn_assign (by conv => lhs; whnf)) ?_
      refine wl_nil ?_
      refine W_ret ?_
      exact ⟨_, resR1 (res1_tmp rfl), hX, rfl⟩
    · exact absurd (of_decide_eq_false hc0) (by omega)
  · exact absurd (of_decide_eq_false hg163) (by omega)
-- strings.IndexRune
set_option maxHeartbeats 1600000 in
theorem idxRuneH_ok (w : World) (r : Nat) (h128 : 128 ≤ r) (hv : Utf8.valid (r : Int) = true) : Fn Tryz.prog 179 #[Sv [43, 35], .int .i32 (r : Nat)] w fun u w' => u = .int .i64 (-1) := by
  obtain ⟨e, he, he2, he4, x, hx, hx8⟩ := runeText r (by omega) hv
  have hX := Ext.refl Non w
  refine fn_of_W (args := [_, _]) Tryz.func179 rfl (by kernel_rfl) rfl ?_
  refine W_seq ?_
  refine W_region ?_
  refine wl_val (rn_assign (by conv => lhs; whnf)) ?_
  refine wl_nil ?_
  refine W_block ?_   -- block 0
  refine W_seq ?_
  refine W_region ?_
  refine wl_val (rn_move (by conv => lhs; whnf)) ?_
  refine wl_val (rn_leq rfl rfl) ?_
  refine wl_val (rn_move (by conv => lhs; whnf)) ?_
  refine wl_split (d := 163) rfl (fun hg163 => ?_) (fun hg163 => ?_)
  · refine wl_yes rfl (congrArg Value.bool hg163) ?_
    refine wl_val (rn_move (by conv => lhs; whnf)) ?_
    refine wl_yes rfl (congrArg Value.bool hg163) ?_
    refine wl_val (rn_lss rfl rfl) ?_
    refine wl_val (rn_pickT (congrArg Value.bool hg163) (by conv => lhs; whnf)) ?_
    refine wl_val (rn_assign (by conv => lhs; whnf)) ?_
    refine wl_nil ?_
    refine W_cond rfl (fun hc0 => ?_) (fun hc0 => ?_)
    · exact absurd (of_decide_eq_true hc0) (by omega)
    · refine W_seq ?_
      refine W_region ?_
      refine wl_val (rn_move (by conv => lhs; whnf)) ?_
      refine wl_val (rn_eql rfl rfl) ?_
      refine wl_val (rn_assign (by conv => lhs; whnf)) ?_
      refine wl_nil ?_
      refine W_cond rfl (fun hc1 => ?_) (fun hc1 => ?_)
      · refine W_seq ?_
        refine W_seq ?_
        refine W_region ?_
        refine wl_val (rn_move (by conv => lhs; whnf)) ?_
        refine wl_rangeS us_9 rfl ?_; intro b175 w1 hb175 hE1 hI175
        have hq175 : w.heap.size ≤ b175 := Nat.le_trans hX.size hb175
        replace hX := hX.tr hE1
        refine wl_nil ?_
        refine W_block ?_   -- block 9
        refine W_loopS (S := Nat) [175] (fun pos => [.pointer (some ⟨b175, 0, none⟩)]) (fun pos A => (Ext Non w A) ∧ (IsIt A b175 [43, 35] pos ∧ pos ≤ 2)) (fun pos => 2 - pos) 0 ⟨rfl, trivial⟩ ⟨hX, ⟨hI175, by omega⟩⟩ ?_
        rintro τ0 pos A0 ⟨hX, hI0⟩
        obtain ⟨hI175, hp2⟩ := hI0
        refine W_seq ?_
        refine W_region ?_
        refine wl_nextS rfl hI175 ?_; intro w2 hE2 hz2 hI176
        replace hX := hX.mine hE2 (.inr hq175)
        refine wl_val (rn_extract rfl (nx0 _ _)) ?_
        refine wl_nil ?_
        refine W_seq ?_
        refine W_cond rfl (fun hc2 => ?_) (fun hc2 => ?_)
        · have hlt : pos < ([43, 35] : Str).length := of_decide_eq_true hc2
          have hd : (dec [43, 35] pos).1 < 65533 ∧ (dec [43, 35] pos).2 = 1 := by (have h01 : pos = 0 ∨ pos = 1 := by simp at hlt; omega); rcases h01 with rfl | rfl; exact (by rw [dec_low (c := 43) rfl (by decide)]; decide); exact (by rw [dec_low (c := 35) rfl (by decide)]; decide)
          have hnx : nxP [43, 35] pos = pos + 1 := by unfold nxP; rw [if_pos hlt, hd.2]
          rw [hnx] at hI176
          refine W_skip ?_
          refine W_block ?_   -- block 10
          refine W_seq ?_
          refine W_region ?_
          refine wl_val (rn_extract rfl (nx1 hlt)) ?_
          refine wl_val (rn_extract rfl (nx2 hlt)) ?_
          refine wl_val (rn_assign (by conv => lhs; whnf)) ?_
          refine wl_val (rn_assign (by conv => lhs; whnf)) ?_
          refine wl_nil ?_
          refine W_seq ?_
          refine W_region ?_
          refine wl_val (rn_move (by conv => lhs; whnf)) ?_
          refine wl_val (rn_eql rfl rfl) ?_
          refine wl_nil ?_
          refine W_cond rfl (fun hc3 => ?_) (fun hc3 => ?_)
          · exact absurd (of_decide_eq_true hc3) (by omega)
          · refine W_skip ?_
            exact ⟨rfl, pos + 1, ⟨rfl, trivial⟩, ⟨hX, ⟨hI176, by simp at hlt; omega⟩⟩, by simp at hlt; omega⟩
        · refine W_exit ?_   -- exit 9
          refine W_seq ?_
          refine W_region ?_
          refine wl_val (rn_assign (by conv => lhs; whnf)) ?_
          refine wl_nil ?_
          refine W_ret ?_
          exact ⟨_, resR1 (res1_tmp rfl), hX, rfl⟩
      · refine W_seq ?_
        refine W_region ?_
        refine wl_val (rn_move (by conv => lhs; whnf)) ?_
        refine wl_call e_196 rfl (validRune_ok w r hv) ?_; intro v185 w3 hE3 hR3
        replace hX := hX.tr hE3
        subst hR3
        refine wl_val (rn_not rfl) ?_
        refine wl_val (rn_assign (by conv => lhs; whnf)) ?_
        refine wl_nil ?_
        refine W_cond rfl (fun hc4 => ?_) (fun hc4 => ?_)
        · exact absurd hc4 (by simp)
        · refine W_scope ?_
          refine W_seq ?_
          refine W_region ?_
          refine wl_val (rn_move (by conv => lhs; whnf)) ?_
          refine wl_val (Rn.cast (rn_runeText (by kernel_rfl) us_9 rfl) (congrArg Value.string he)) ?_
          refine wl_val (rn_assign (by conv => lhs; whnf)) ?_
          refine wl_nil ?_
          refine W_seq ?_
          refine W_region ?_
          refine wl_val (rn_move (by conv => lhs; whnf)) ?_
          refine wl_val (rn_slen us_9 rfl) ?_
          refine wl_val (rn_sub rfl rfl (by omega)) ?_
          refine wl_val (rn_assign (by conv => lhs; whnf)) ?_
          refine wl_nil ?_
          refine W_seq ?_
          refine W_region ?_
          refine wl_val (rn_move (by conv => lhs; whnf)) ?_
          refine wl_val (rn_assign (by conv => lhs; whnf)) ?_
          refine wl_nil ?_
          refine W_seq ?_
          refine W_region ?_
          refine wl_val (rn_assign (by conv => lhs; whnf)) ?_
          refine wl_nil ?_
          refine W_seq ?_
          refine W_block ?_   -- block 1
          refine W_loopS (S := Unit) [0, 7, 8, 9] (fun _ => [Sv [43, 35], Sv e, .int .i64 ((e.length : Int) - 1), .int .i64 ((e.length : Int) - 1)]) (fun _ A => (Ext Non w A) ∧ (True)) (fun _ => 0) () ⟨rfl, rfl, rfl, rfl, trivial⟩ ⟨hX, trivial⟩ ?_
          rintro τ1 _ A1 ⟨hX, hI1⟩
          refine W_seq ?_
          refine W_seq ?_
          refine W_region ?_
          refine wl_val (rn_move (by conv => lhs; whnf)) ?_
          refine wl_val (rn_move (by conv => lhs; whnf)) ?_
          refine wl_val (rn_slen us_9 rfl) ?_
          refine wl_val (rn_lss rfl rfl) ?_
          refine wl_nil ?_
          refine W_cond rfl (fun hc5 => ?_) (fun hc5 => ?_)
          · have hlt2 := of_decide_eq_true hc5
            have hel : e.length = 2 := by simp at hlt2; omega
            have hto : ((e.length : Int) - 1).toNat = e.length - 1 := by omega
            have hto1 : ((e.length : Int) - 1).toNat = 1 := by omega
            refine W_skip ?_
            refine W_block ?_   -- block 2
            refine W_scope ?_
            refine W_seq ?_
            refine W_seq ?_
            refine W_drawE mixed ?_; intro w4 hE4
            replace hX := hX.tr hE4
            have hS := Ext.refl Non w4
            refine wd_take 0 _ _ rfl (by kernel_rfl) hS (yd_do fun A hA => rn_move (by conv => lhs; whnf)) ?_
            refine wd_take 1 _ _ rfl (by kernel_rfl) hS (yd_do fun A hA => rn_move (by conv => lhs; whnf)) ?_
            refine wd_take 2 _ _ rfl (by kernel_rfl) hS (yd_do fun A hA => rn_sindex us_9 rfl rfl (by omega) (show ([43, 35] : Str)[((e.length : Int) - 1).toNat]? = some 35 by rw [hto1]; rfl)) ?_
            refine wd_take 3 _ _ rfl (by kernel_rfl) hS (yd_do fun A hA => rn_move (by conv => lhs; whnf)) ?_
            refine wd_take 4 _ _ rfl (by kernel_rfl) hS (yd_do fun A hA => rn_move (by conv => lhs; whnf)) ?_
            refine wd_take 5 _ _ rfl (by kernel_rfl) hS (yd_do fun A hA => rn_sindex us_9 rfl rfl (by omega) (by rw [hto]; exact hx)) ?_
            refine wd_take 6 _ _ rfl (by kernel_rfl) hS (yd_do fun A hA => rn_neq rfl rfl) ?_
            refine wd_done (by kernel_rfl) ?_ _
            replace hX := hX.tr hS
            refine W_cond rfl (fun hc6 => ?_) (fun hc6 => ?_)
            · refine W_seq ?_
              refine W_drawE mixed ?_; intro w5 hE5
              replace hX := hX.tr hE5
              have hS := Ext.refl Non w5
              refine wd_take 0 _ _ rfl (by kernel_rfl) hS (yd_do fun A hA => rn_move (by conv => lhs; whnf)) ?_
              refine wd_take 1 _ _ rfl (by kernel_rfl) hS (yd_do fun A hA => rn_move (by conv => lhs; whnf)) ?_
              refine wd_take 2 _ _ rfl (by kernel_rfl) hS (yd_do fun A hA => Rn.cast (rn_add rfl rfl (by omega)) (v' := .int .i64 ((2 : Nat) : Int)) (congrArg (Value.int .i64) (show (e.length : Int) - 1 + 1 = 2 by omega))) ?_
              refine wd_take 3 _ _ rfl (by kernel_rfl) hS (yd_do fun A hA => rn_sslice us_9 (l := 2) (h := 2) rfl ⟨_, rfl⟩ rfl (by omega) (by first | omega | (simp only [List.length_cons, List.length_nil, List.length_append]; omega))) ?_
              refine wd_take 4 _ _ rfl (by kernel_rfl) hS (yd_do fun A hA => rn_move (by conv => lhs; whnf)) ?_
              refine wd_take 5 _ _ rfl (by kernel_rfl) hS (yd_do fun A hA => rn_move (by conv => lhs; whnf)) ?_
              refine wd_take 6 _ _ rfl (by kernel_rfl) hS (yd_do fun A hA => rn_sindex us_9 rfl rfl (by omega) (by rw [hto]; exact hx)) ?_
              refine wd_only 7 _ rfl (by kernel_rfl) ?_
              refine s1_do ?_
              refine wl_call e_138 rfl (sindexByte_ok w5 ((([43, 35] : Str).drop 2).take (2 - 2)) x) ?_; intro v41 w6 hE6 hR6
              replace hS := hS.tr hE6
              subst hR6
              refine wl_nil ⟨hS, ?_⟩
              refine wd_take 8 _ _ rfl (by kernel_rfl) hS (yd_do fun A hA => rn_assign (by conv => lhs; whnf)) ?_
              refine wd_done (by kernel_rfl) ?_ _
              replace hX := hX.tr hS
              refine W_seq ?_
              refine W_seq ?_
              refine W_region ?_
              refine wl_val (rn_move (by conv => lhs; whnf)) ?_
              refine wl_val (rn_lss rfl rfl) ?_
              refine wl_nil ?_
              refine W_cond rfl (fun hc7 => ?_) (fun hc7 => ?_)
              · refine W_seq ?_
                refine W_region ?_
                refine wl_val (rn_assign (by conv => lhs; whnf)) ?_
                refine wl_nil ?_
                refine W_ret ?_
                exact ⟨_, resR1 (res1_tmp rfl), hX, rfl⟩
              · exact absurd (of_decide_eq_false hc7) (by simp [fi])
            · exact absurd (of_decide_eq_false hc6) (by simp only [ne_eq, Classical.not_not]; intro e; have e2 : (35 : Int) = x.toNat := e; omega)
          · refine W_exit ?_   -- exit 1
            refine W_seq ?_
            refine W_seq ?_
            refine W_region ?_
            refine wl_val (rn_assign (by conv => lhs; whnf)) ?_
            refine wl_nil ?_
            refine W_ret ?_
            exact ⟨_, resR1 (res1_tmp rfl), hX, rfl⟩
  · exact absurd (of_decide_eq_false hg163) (by omega)
theorem idxRune_ok (w : World) (s : Str) (i : Nat) (c : UInt8) (h : s[i]? = some c) : Fn Tryz.prog 179 #[Sv [43, 35], .int .i32 ((dec s i).1 : Nat)] w fun u w' => ∃ k : Int, u = .int .i64 k ∧ (0 ≤ k ↔ c = 43 ∨ c = 35) := by
  by_cases hc : c.toNat < 128
  · rw [dec_low h hc]
    exact (idxRuneA_ok w [43, 35] c hc).mono fun v w' _ hv => ⟨_, hv, fi_two c⟩
  · have hd := dec_high h (by omega)
    exact (idxRuneH_ok w (dec s i).1 hd.1 hd.2.2.1).mono fun v w' _ hv => ⟨_, hv, ⟨fun h => absurd h (by decide), fun h => by rcases h with rfl | rfl <;> exact absurd hc (by decide)⟩⟩
theorem step_over {s : Str} {i : Nat} {c x : UInt8} (h : s[i]? = some c) (hx : x = 43 ∨ x = 35) (hc : c ≠ x) (hno : ¬ x ∈ s.take i) : nxP s i ≤ s.length ∧ i < nxP s i ∧ ¬ x ∈ s.take (nxP s i) := by
  have hlt := (List.getElem?_eq_some_iff.1 h).1
  have e : nxP s i = i + (dec s i).2 := if_pos hlt
  rw [e]
  by_cases h8 : c.toNat < 128
  · have hd : (dec s i).2 = 1 := by rw [dec_low h h8]
    rw [hd]
    refine ⟨by omega, by omega, gone_over hno fun j y h1 h2 hy => ?_⟩
    obtain rfl : j = i := by omega
    rw [h] at hy; cases hy; exact hc
  · have hd := dec_high h (by omega)
    have hx8 : x.toNat < 128 := by rcases hx with rfl | rfl <;> decide
    refine ⟨?_, by have := hd.2.1; omega, gone_over hno fun j y h1 h2 hy => ?_⟩
    · obtain ⟨y, hy, _⟩ := hd.2.2.2 (i + (dec s i).2 - 1) (by have := hd.2.1; omega) (by have := hd.2.1; omega)
      have := (List.getElem?_eq_some_iff.1 hy).1; have := hd.2.1; omega
    · obtain ⟨z, hz, h3⟩ := hd.2.2.2 j h1 h2
      rw [hz] at hy; cases hy
      intro e; subst e; omega
-- strings.IndexAny
set_option maxHeartbeats 1600000 in
theorem indexAnyS_ok (w : World) (s : Str) (hn : s.length ≤ 8) : Fn Tryz.prog 159 #[Sv s, Sv [43, 35]] w fun u w' => ∃ k : Int, u = .int .i64 k ∧ decide (k ≥ 0) = anyB s := by
  have hX := Ext.refl Non w
  refine fn_of_W (args := [_, _]) Tryz.func159 rfl (by kernel_rfl) rfl ?_
  refine W_seq ?_
  refine W_region ?_
  refine wl_val (rn_assign (by conv => lhs; whnf)) ?_
  refine wl_nil ?_
  refine W_seq ?_
  refine W_seq ?_
  refine W_region ?_
  refine wl_val (rn_move (by conv => lhs; whnf)) ?_
  refine wl_val (rn_seql rfl rfl) ?_
  refine wl_nil ?_
  refine W_cond rfl (fun hc0 => ?_) (fun hc0 => ?_)
  · exact absurd (of_decide_eq_true hc0) (by simp)
  · refine W_skip ?_
    refine W_seq ?_
    refine W_seq ?_
    refine W_region ?_
    refine wl_val (rn_move (by conv => lhs; whnf)) ?_
    refine wl_val (rn_slen us_9 rfl) ?_
    refine wl_val (rn_eql rfl rfl) ?_
    refine wl_nil ?_
    refine W_cond rfl (fun hc1 => ?_) (fun hc1 => ?_)
    · exact absurd (of_decide_eq_true hc1) (by simp)
    · refine W_skip ?_
      refine W_seq ?_
      refine W_seq ?_
      refine W_region ?_
      refine wl_val (rn_move (by conv => lhs; whnf)) ?_
      refine wl_val (rn_slen us_9 rfl) ?_
      refine wl_call e_180 rfl (shouldUse_ok w (s.length : Nat)) ?_; intro v26 w1 hE1 hR1
      replace hX := hX.tr hE1
      subst hR1
      refine wl_nil ?_
      refine W_cond rfl (fun hc2 => ?_) (fun hc2 => ?_)
      · exact absurd (of_decide_eq_true hc2) (by omega)
      · refine W_skip ?_
        refine W_seq ?_
        refine W_seq ?_
        refine W_region ?_
        refine wl_val (rn_move (by conv => lhs; whnf)) ?_
        refine wl_rangeS us_9 rfl ?_; intro b45 w2 hb45 hE2 hI45
        have hq45 : w.heap.size ≤ b45 := Nat.le_trans hX.size hb45
        replace hX := hX.tr hE2
        refine wl_nil ?_
        refine W_block ?_   -- block 2
        refine W_loopS (S := Nat) [1, 45] (fun pos => [Sv [43, 35], .pointer (some ⟨b45, 0, none⟩)]) (fun pos A => (Ext Non w A) ∧ (IsIt A b45 s pos ∧ pos ≤ s.length ∧ (¬ (43 : UInt8) ∈ s.take pos) ∧ ¬ (35 : UInt8) ∈ s.take pos)) (fun pos => s.length - pos) 0 ⟨rfl, rfl, trivial⟩ ⟨hX, ⟨hI45, Nat.zero_le _, by simp, by simp⟩⟩ ?_
        rintro τ0 pos A0 ⟨hX, hI0⟩
        obtain ⟨hI45, hpl, h43, h35⟩ := hI0
        refine W_seq ?_
        refine W_region ?_
        refine wl_nextS rfl hI45 ?_; intro w3 hE3 hz3 hI46
        replace hX := hX.mine hE3 (.inr hq45)
        refine wl_val (rn_extract rfl (nx0 _ _)) ?_
        refine wl_nil ?_
        refine W_seq ?_
        refine W_cond rfl (fun hc3 => ?_) (fun hc3 => ?_)
        · have hlt : pos < s.length := of_decide_eq_true hc3
          obtain ⟨c, hcc⟩ : ∃ c, s[pos]? = some c := ⟨_, List.getElem?_eq_getElem hlt⟩
          refine W_skip ?_
          refine W_block ?_   -- block 3
          refine W_seq ?_
          refine W_region ?_
          refine wl_val (rn_extract rfl (nx1 hlt)) ?_
          refine wl_val (rn_extract rfl (nx2 hlt)) ?_
          refine wl_val (rn_assign (by conv => lhs; whnf)) ?_
          refine wl_val (rn_assign (by conv => lhs; whnf)) ?_
          refine wl_nil ?_
          refine W_seq ?_
          refine W_region ?_
          refine wl_val (rn_move (by conv => lhs; whnf)) ?_
          refine wl_val (rn_move (by conv => lhs; whnf)) ?_
          refine wl_call e_179 rfl (idxRune_ok w3 s pos c hcc) ?_; intro v52 w4 hE4 hR4
          replace hX := hX.tr hE4
          obtain ⟨k, rfl, hk⟩ := hR4
          replace hI46 := hI46.ext hE4 id
          refine wl_val (rn_geq rfl rfl) ?_
          refine wl_nil ?_
          refine W_cond rfl (fun hc4 => ?_) (fun hc4 => ?_)
          · have hR := anyB_yes hcc (hk.1 (of_decide_eq_true hc4))
            refine W_seq ?_
            refine W_region ?_
            refine wl_val (rn_move (by conv => lhs; whnf)) ?_
            refine wl_val (rn_assign (by conv => lhs; whnf)) ?_
            refine wl_nil ?_
            refine W_ret ?_
            exact ⟨_, resR1 (res1_tmp rfl), hX, ⟨_, rfl, by rw [hR]; exact decide_eq_true (by omega)⟩⟩
          · have hno : ¬ (c = 43 ∨ c = 35) := fun h => of_decide_eq_false hc4 (hk.2 h)
            have hs1 := step_over hcc (.inl rfl) (fun e => hno (.inl e)) h43
            have hs2 := step_over hcc (.inr rfl) (fun e => hno (.inr e)) h35
            refine W_skip ?_
            exact ⟨rfl, nxP s pos, ⟨rfl, rfl, trivial⟩, ⟨hX, ⟨hI46, hs1.1, hs1.2.2, hs2.2.2⟩⟩, by have := hs1.1; have := hs1.2.1; omega⟩
        · have hge := of_decide_eq_false hc3
          rw [List.take_of_length_le (by omega)] at h43 h35
          have hR := anyB_no h43 h35
          refine W_exit ?_   -- exit 2
          refine W_seq ?_
          refine W_region ?_
          refine wl_val (rn_assign (by conv => lhs; whnf)) ?_
          refine wl_nil ?_
          refine W_ret ?_
          exact ⟨_, resR1 (res1_tmp rfl), hX, ⟨_, rfl, by rw [hR]; rfl⟩⟩
theorem indexAny_ok (w : World) (s : Str) (hn : s.length ≤ 1000000) : Fn Tryz.prog 159 #[Sv s, Sv [43, 35]] w fun u w' => ∃ k : Int, u = .int .i64 k ∧ decide (k ≥ 0) = anyB s := by
  by_cases h8 : s.length ≤ 8
  · exact indexAnyS_ok w s h8
  · have hz116 := zero_of_info (P := Tryz.prog) (t := Tryz.lays153_ren.t 116) (v := .agg (Array.replicate 256 (.bool false))) (n := 256) (by kernel_rfl)
    have h := Any.strings_IndexAny_long Tryz.lays153 hz116.1 hz116.2 ⟨s.toArray⟩ ⟨([43, 35] : Str).toArray⟩ w (by rw [size_str]; decide) (by rw [size_str]; omega) (by rw [size_str]; omega) (by rw [size_str]; decide) (by intro j b hb; have := List.mem_of_getElem? hb; simp at this; rcases this with rfl | rfl <;> decide)
    refine Calls.mono h fun e w' ⟨he, hw⟩ => ⟨_, he, ?_, _, rfl, ?_⟩
    · rw [hw]; exact (Ext.alloc _ _).trans (Ext.alloc _ _)
    · exact indexAny_eq s
-- strings.ContainsAny
theorem containsAny_ok (w : World) (s : Str) (hn : s.length ≤ 1000000) : Fn Tryz.prog 130 #[Sv s, Sv [43, 35]] w fun u w' => u = .bool (anyB s) := by
  have hX := Ext.refl Non w
  refine fn_of_W (args := [_, _]) Tryz.func130 rfl (by kernel_rfl) rfl ?_
  refine W_seq ?_
  refine W_region ?_
  refine wl_val (rn_assign (by conv => lhs; whnf)) ?_
  refine wl_nil ?_
  refine W_seq ?_
  refine W_region ?_
  refine wl_val (rn_move (by conv => lhs; whnf)) ?_
  refine wl_val (rn_move (by conv => lhs; whnf)) ?_
  refine wl_call e_159 rfl (indexAny_ok w s hn) ?_; intro v7 w1 hE1 hR1
  replace hX := hX.tr hE1
  obtain ⟨k, rfl, hk⟩ := hR1
  refine wl_val (rn_geq rfl rfl) ?_
  refine wl_val (rn_assign (by conv => lhs; whnf)) ?_
  refine wl_nil ?_
  refine W_ret ?_
  exact ⟨_, resR1 (res1_tmp rfl), hX, by rw [← hk]; rfl⟩
theorem topicB_eq (s : Str) : topicB s = (sizedB s && !anyB s) := by
  unfold topicB anyB
  by_cases h1 : (43 : UInt8) ∈ s <;> by_cases h2 : (35 : UInt8) ∈ s <;> simp [h1, h2]
-- bellman/topic.Topic
theorem ttopic_ok (w : World) (s : Str) (hn : s.length ≤ 1000000) : Fn Tryz.prog 92 #[Sv s] w fun u w' => u = .bool (topicB s) := by
  have hX := Ext.refl Non w
  refine fn_of_W (args := [_]) Tryz.func92 rfl (by kernel_rfl) rfl ?_
  refine W_seq ?_
  refine W_region ?_
  refine wl_val (rn_assign (by conv => lhs; whnf)) ?_
  refine wl_nil ?_
  refine W_seq ?_
  refine W_region ?_
  refine wl_val (rn_move (by conv => lhs; whnf)) ?_
  refine wl_call e_98 rfl (tsized_ok w s) ?_; intro v4 w1 hE1 hR1
  replace hX := hX.tr hE1
  subst hR1
  refine wl_val (rn_move (by conv => lhs; whnf)) ?_
  refine wl_split (d := 5) rfl (fun hg5 => ?_) (fun hg5 => ?_)
  · refine wl_yes rfl (congrArg Value.bool hg5) ?_
    refine wl_val (rn_move (by conv => lhs; whnf)) ?_
    refine wl_yes rfl (congrArg Value.bool hg5) ?_
    refine wl_call e_130 rfl (containsAny_ok w1 s hn) ?_; intro v7 w2 hE2 hR2
    replace hX := hX.tr hE2
    subst hR2
    refine wl_yes rfl (congrArg Value.bool hg5) ?_
    refine wl_val (rn_not rfl) ?_
    refine wl_val (rn_pickT (congrArg Value.bool hg5) (by conv => lhs; whnf)) ?_
    refine wl_val (rn_assign (by conv => lhs; whnf)) ?_
    refine wl_nil ?_
    refine W_ret ?_
    exact ⟨_, resR1 (res1_tmp rfl), hX, by rw [topicB_eq, hg5]; rfl⟩
  · refine wl_no rfl (congrArg Value.bool hg5) ?_
    refine wl_no rfl (congrArg Value.bool hg5) ?_
    refine wl_no rfl (congrArg Value.bool hg5) ?_
    refine wl_val (rn_pickF (congrArg Value.bool hg5) (by conv => lhs; whnf)) ?_
    refine wl_val (rn_assign (by conv => lhs; whnf)) ?_
    refine wl_nil ?_
    refine W_ret ?_
    exact ⟨_, resR1 (res1_tmp rfl), hX, by rw [topicB_eq, hg5]; rfl⟩
end Go.Proofs.YtaddeakfojpdoaaGreatDoorC
