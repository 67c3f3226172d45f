/- Filters of the program; the law TopicEach. -/
import Derived.Test.YtfdfphaiefbflaaDoorTop1
set_option linter.unusedVariables false
set_option linter.unusedSimpArgs false
set_option maxRecDepth 100000
namespace Go.Proofs.YtfdfphaiefbflaaDoorC
open Go.RowKit
theorem cs_name : (Tryd.f108.name == "runtime.NumGoroutine") = false := by kernel_rfl
theorem cs_body : Tryd.f108.body.isNone = true := by kernel_rfl
theorem cs_next : Extern.findNext Tryd.f108 = none := by kernel_rfl
theorem cs_find : Extern.find Tryd.f108 = some Extern.BytealgCount.count := by kernel_rfl
theorem cbs : CB Tryd.prog 108 := ⟨_, Tryd.func108, cs_name, cs_body, cs_next, cs_find⟩
theorem sized_eq (s : Str) : sizedB s = (decide (s ≠ []) && (decide ((s.length : Int) ≤ 32) && decide (fi s 0 < 0))) := by
  unfold sizedB
  have h1 : decide ((s.length : Int) ≤ 32) = decide (s.length ≤ 32) := decide_eq_decide.2 (by omega)
  have h2 : decide (fi s 0 < 0) = decide (¬ (0 : UInt8) ∈ s) := decide_eq_decide.2 (by rw [← fi_ge s 0]; omega)
  rw [h1, h2, Bool.and_assoc]
-- bellman/topic.sized
theorem tsized_ok (w : World) (s : Str) : Fn Tryd.prog 72 #[Sv s] w fun u w' => u = .bool (sizedB s) := by
  have hX := Ext.refl Non w
  refine fn_of_W (args := [_]) Tryd.func72 rfl (by kernel_rfl) rfl ?_
  refine W_seq ?_
  refine W_region ?_
  refine wl_val (rn_assign (by conv => lhs; whnf)) ?_
  refine wl_nil ?_
  refine W_seq ?_
  refine W_region ?_
  refine wl_val (rn_move (by conv => lhs; whnf)) ?_
  refine wl_val (rn_sneq rfl rfl) ?_
  refine wl_val (rn_move (by conv => lhs; whnf)) ?_
  refine wl_split (d := 5) rfl (fun hg5 => ?_) (fun hg5 => ?_)
  · refine wl_yes rfl (congrArg Value.bool hg5) ?_
    refine wl_val (rn_move (by conv => lhs; whnf)) ?_
    refine wl_yes rfl (congrArg Value.bool hg5) ?_
    refine wl_val (rn_slen us_9 rfl) ?_
    refine wl_yes rfl (congrArg Value.bool hg5) ?_
    refine wl_val (rn_leq rfl rfl) ?_
    refine wl_val (rn_pickT (congrArg Value.bool hg5) (by conv => lhs; whnf)) ?_
    refine wl_val (rn_move (by conv => lhs; whnf)) ?_
    refine wl_split (d := 10) rfl (fun hg10 => ?_) (fun hg10 => ?_)
    · refine wl_yes rfl (congrArg Value.bool hg10) ?_
      refine wl_val (rn_move (by conv => lhs; whnf)) ?_
      refine wl_yes rfl (congrArg Value.bool hg10) ?_
      refine wl_call e_103 rfl (sindexByte_ok w s 0) ?_; intro v12 w1 hE1 hR1
      replace hX := hX.tr hE1
      subst hR1
      refine wl_yes rfl (congrArg Value.bool hg10) ?_
      refine wl_val (rn_lss rfl rfl) ?_
      refine wl_val (rn_pickT (congrArg Value.bool hg10) (by conv => lhs; whnf)) ?_
      refine wl_val (rn_assign (by conv => lhs; whnf)) ?_
      refine wl_nil ?_
      refine W_ret ?_
      exact ⟨_, resR1 (res1_tmp rfl), hX, by rw [sized_eq, hg5, hg10]; rfl⟩
    · refine wl_no rfl (congrArg Value.bool hg10) ?_
      refine wl_no rfl (congrArg Value.bool hg10) ?_
      refine wl_no rfl (congrArg Value.bool hg10) ?_
      refine wl_val (rn_pickF (congrArg Value.bool hg10) (by conv => lhs; whnf)) ?_
      refine wl_val (rn_assign (by conv => lhs; whnf)) ?_
      refine wl_nil ?_
      refine W_ret ?_
      exact ⟨_, resR1 (res1_tmp rfl), hX, by rw [sized_eq, hg5, hg10]; rfl⟩
  · refine wl_no rfl (congrArg Value.bool hg5) ?_
    refine wl_no rfl (congrArg Value.bool hg5) ?_
    refine wl_no rfl (congrArg Value.bool hg5) ?_
    refine wl_val (rn_pickF (congrArg Value.bool hg5) (by conv => lhs; whnf)) ?_
    refine wl_val (rn_move (by conv => lhs; whnf)) ?_
    refine wl_no rfl rfl ?_
    refine wl_no rfl rfl ?_
    refine wl_no rfl rfl ?_
    refine wl_val (rn_pickF rfl (by conv => lhs; whnf)) ?_
    refine wl_val (rn_assign (by conv => lhs; whnf)) ?_
    refine wl_nil ?_
    refine W_ret ?_
    exact ⟨_, resR1 (res1_tmp rfl), hX, by rw [sized_eq, hg5]; rfl⟩
-- strings.Count
set_option maxHeartbeats 1000000 in
theorem scount_ok (w : World) (s : Str) (c : UInt8) : Fn Tryd.prog 77 #[Sv s, Sv [c]] w fun u w' => u = .int .i64 (s.count c : Nat) := by
  have hX := Ext.refl Non w
  refine fn_of_W (args := [_, _]) Tryd.func77 rfl (by kernel_rfl) rfl ?_
  refine W_seq ?_
  refine W_region ?_
  refine wl_val (rn_assign (by conv => lhs; whnf)) ?_
  refine wl_nil ?_
  refine W_seq ?_
  refine W_seq ?_
  refine W_region ?_
  refine wl_val (rn_move (by conv => lhs; whnf)) ?_
  refine wl_val (rn_slen us_9 rfl) ?_
  refine wl_val (rn_eql rfl rfl) ?_
  refine wl_nil ?_
  refine W_cond rfl (fun hc0 => ?_) (fun hc0 => ?_)
  · exact absurd (of_decide_eq_true hc0) (by simp)
  · refine W_skip ?_
    refine W_seq ?_
    refine W_seq ?_
    refine W_region ?_
    refine wl_val (rn_move (by conv => lhs; whnf)) ?_
    refine wl_val (rn_slen us_9 rfl) ?_
    refine wl_val (rn_eql rfl rfl) ?_
    refine wl_nil ?_
    refine W_cond rfl (fun hc1 => ?_) (fun hc1 => ?_)
    · refine W_seq ?_
      refine W_region ?_
      refine wl_val (rn_move (by conv => lhs; whnf)) ?_
      refine wl_val (rn_move (by conv => lhs; whnf)) ?_
      refine wl_val (rn_sindex us_9 rfl rfl (by omega) rfl) ?_
      refine wl_val (P := Tryd.prog) (op := .call ⟨.value (.func 108), #[.tmp 16, .tmp 18], #[9, 5]⟩) (v := .int .i64 (s.count c : Nat)) (rn_countString (s := s) (c := c) cbs rfl rfl) ?_
      refine wl_val (rn_assign (by conv => lhs; whnf)) ?_
      refine wl_nil ?_
      refine W_ret ?_
      exact ⟨_, resR1 (res1_tmp rfl), hX, rfl⟩
    · exact absurd (of_decide_eq_false hc1) (by simp)
-- bellman/topic.Depth
theorem tdepth_ok (w : World) (s : Str) (hn : s.length ≤ 1000000) : Fn Tryd.prog 37 #[Sv s] w fun u w' => u = .int .i64 ((spl 47 s).length : Nat) := by
  have hcl := List.count_le_length (a := (47 : UInt8)) (l := s)
  have hX := Ext.refl Non w
  refine fn_of_W (args := [_]) Tryd.func37 rfl (by kernel_rfl) rfl ?_
  refine W_seq ?_
  refine W_region ?_
  refine wl_val (rn_assign (by conv => lhs; whnf)) ?_
  refine wl_nil ?_
  refine W_seq ?_
  refine W_region ?_
  refine wl_val (rn_move (by conv => lhs; whnf)) ?_
  refine wl_call e_77 rfl (scount_ok w s 47) ?_; intro v4 w1 hE1 hR1
  replace hX := hX.tr hE1
  subst hR1
  refine wl_val (rn_add rfl rfl (by omega)) ?_
  refine wl_val (rn_assign (by conv => lhs; whnf)) ?_
  refine wl_nil ?_
  refine W_ret ?_
  exact ⟨_, resR1 (res1_tmp rfl), hX, by rw [spl_len]; rfl⟩
-- bellman/topic.Filter
set_option maxHeartbeats 1600000 in
theorem tfilter_ok (w : World) (s : Str) (hn : s.length ≤ 1000000) : Fn Tryd.prog 33 #[Sv s] w fun u w' => u = .bool (filterB s) := by
  have hsl := spl_len_le 47 s
  have hX := Ext.refl Non w
  refine fn_of_W (args := [_]) Tryd.func33 rfl (by kernel_rfl) rfl ?_
  refine W_seq ?_
  refine W_region ?_
  refine wl_alloc z_4 ?_; intro b2 w1 hb2 hE1 hB2
  have hq2 : w.heap.size ≤ b2 := Nat.le_trans hX.size hb2
  have hl2 : Mine Non w b2 := .inr hq2
  replace hX := hX.tr hE1
  refine wl_nil ?_
  refine W_seq ?_
  refine W_seq ?_
  refine W_region ?_
  refine wl_val (rn_move (by conv => lhs; whnf)) ?_
  refine wl_call e_72 rfl (tsized_ok w1 s) ?_; intro v7 w2 hE2 hR2
  replace hX := hX.tr hE2
  replace hB2 := hB2.ext hE2 id
  subst hR2
  refine wl_val (rn_not rfl) ?_
  refine wl_nil ?_
  refine W_cond rfl (fun hc0 => ?_) (fun hc0 => ?_)
  · have hz : sizedB s = false := by simpa using hc0
    refine W_seq ?_
    refine W_region ?_
    refine wl_store1 p_4 rfl (by conv => lhs; whnf) rfl rfl hB2 (Nat.le_of_ble_eq_true rfl) ?_; intro w3 hE3 hB2 hz3
    replace hX := hX.mine hE3 hl2
    refine wl_nil ?_
    refine W_ret ?_
    exact ⟨_, resR1 (res1_cell p_4 rfl hB2), hX, by rw [filter_small hz]⟩
  · have hz : sizedB s = true := by simpa using hc0
    refine W_skip ?_
    refine W_seq ?_
    refine W_region ?_
    refine wl_val (rn_move (by conv => lhs; whnf)) ?_
    refine wl_call e_37 rfl (tdepth_ok w2 s hn) ?_; intro v10 w4 hE4 hR4
    replace hX := hX.tr hE4
    replace hB2 := hB2.ext hE4 id
    subst hR4
    refine wl_val (rn_sub rfl rfl (by omega)) ?_
    refine wl_alloc z_3 ?_; intro b3 w5 hb3 hE5 hB3
    have hn2_3 : b2 < b3 := Nat.lt_of_lt_of_le hB2.lt hb3
    have hq3 : w.heap.size ≤ b3 := Nat.le_trans hX.size hb3
    have hl3 : Mine Non w b3 := .inr hq3
    replace hX := hX.tr hE5
    replace hB2 := hB2.ext hE5 id
    refine wl_store1 p_3 rfl (by conv => lhs; whnf) rfl rfl hB3 (Nat.le_of_ble_eq_true rfl) ?_; intro w6 hE6 hB3 hz6
    replace hX := hX.mine hE6 hl3
    replace hB2 := hB2.ext hE6 (fun h => by omega)
    refine wl_nil ?_
    refine W_seq ?_
    refine W_seq ?_
    refine W_region ?_
    refine wl_val (rn_move (by conv => lhs; whnf)) ?_
    refine wl_call e_17 rfl (each_ok w6 s (fun i => i = b2) (fun i e => by rw [e]; exact hB2.lt) hn) ?_; intro v13 w7 hE7 hR7
    replace hX := hX.tr hE7
    replace hB2 := hB2.ext hE7 id; replace hB3 := hB3.ext hE7 id
    have hIt := hR7; obtain ⟨fk, ck, hfk, _⟩ := id hIt; subst hfk
    obtain ⟨wa, hwa⟩ : ∃ x, x = w7 := ⟨_, rfl⟩
    have hW : Ext (fun i => i = b2) wa w7 := by rw [hwa]; exact Ext.refl _ _
    have hIt2 := hIt; rw [← hwa] at hIt2; have hz2 : b2 < wa.heap.size := by rw [hwa]; exact hB2.lt
    refine wl_nil ?_
    refine W_block ?_   -- block 0
    have hszr := hX.size
    have hsz_hW := hW.size
    have ho2 : w.heap.size ≤ b2 := by rcases hl2 with h | h; exact h.elim; exact h
    have ho3 : w.heap.size ≤ b3 := by rcases hl3 with h | h; exact h.elim; exact h
    refine W_rangeFunc (M := fun i => i = b2) (w0 := wa) (I := fun pre N A => Box N A b2 [.bool false] ∧ Box N A b3 [.int .i64 (((spl 47 s).length : Int) - 1)] ∧ Ext Non w A ∧ Ext (fun i => i = b2) wa A ∧ MkN w [] N A ∧ (∀ (j : Nat) l, j < pre.length → (spl 47 s)[j]? = some l → levOk (decide (j + 1 = (spl 47 s).length)) l = true)) (X := fun c N A => c = .ret ∧ Box N A b2 [.bool false] ∧ Ext Non w A ∧ Ext (fun i => i = b2) wa A ∧ MkN w [] N A ∧ (filterB s = false)) (encs := fun p : Nat × Str => [.int .i64 (p.1 : Nat), Sv p.2]) (xs := numb (spl 47 s)) rfl (hIt2) (hW) (fun _ => rfl) (fun pre => (Stab.box _ _).and ((Stab.box _ _).and ((Stab.old hX.size).and ((Stab.oldM hW.size).and ((Stab.mk _ _).and ((Stab.pure _))))))) (fun c => (Stab.pure _).and ((Stab.box _ _).and ((Stab.old hX.size).and ((Stab.oldM hW.size).and ((Stab.mk _ _).and ((Stab.pure _))))))) ⟨⟨hB2, id⟩, ⟨hB3, id⟩, hX, hW, (Mk.nil : Mk w [] _).toN, fun j l h => absurd h (Nat.not_lt_zero _)⟩ ?_ ?_ ?_
    · rintro l N pre x A hl hN hA hst ⟨hK2, hK3, hXo, hW, hDk, hIr⟩ ⟨post, hpre⟩
      have hB2 := hK2.1; have hl2 : Mine (Yc (fun i => i = b2) wa N) A b2 := .inl ⟨hK2.2, .inl rfl⟩
      have hB3 := hK3.1
      have hX := Ext.refl (Yc (fun i => i = b2) wa N) A
      refine W_seq ?_
      refine W_region ?_
      refine wl_val (rn_assign (by conv => lhs; whnf)) ?_
      refine wl_nil ?_
      refine W_region ?_
      refine wl_val (rn_assign (by conv => lhs; whnf)) ?_
      refine wl_nil ?_
      refine ⟨rfl, hX, fun A2 hE2r hz2r hst2 => ?_⟩
      have hNl := (hN l hl).2
      replace hB2 := hB2.ext hE2r (fun e => hK2.2 (by rw [e]; exact hl))
      replace hB3 := hB3.ext hE2r (fun e => hK3.2 (by rw [e]; exact hl))
      replace hXo := hXo.mine hE2r (.inr (Nat.le_trans hszr (hN l hl).1)); replace hDk := hDk.lp hE2r hl
      replace hW := hW.mine hE2r (.inr (Nat.le_trans hsz_hW (hN l hl).1))
      have hl2 : Mine (Yc (fun i => i = b2) wa N) A2 b2 := .inl ⟨hK2.2, .inl rfl⟩
      have hX := Ext.refl (Yc (fun i => i = b2) wa N) A2
      obtain ⟨hxi, hxl, hxp⟩ := numb_at (i := x.1) (x := x.2) (post := post) (pre := pre) (by rw [hpre])
      have hxlt := (List.getElem?_eq_some_iff.1 hxl).1
      refine W_block ?_   -- block 1
      refine W_block ?_   -- block 2
      refine W_seq ?_
      refine W_region ?_
      refine wl_val (rn_move (by conv => lhs; whnf)) ?_
      refine wl_call e_75 rfl (scontains_ok A2 x.2 35) ?_; intro v18 w8 hE8 hR8
      replace hX := hX.tr hE8
      replace hB2 := hB2.ext hE8 id; replace hB3 := hB3.ext hE8 id
      replace hXo := hXo.tr hE8
      replace hDk := hDk.non hE8
      replace hW := hW.tr hE8
      subst hR8
      refine wl_val (rn_assign (by conv => lhs; whnf)) ?_
      refine wl_nil ?_
      refine W_cond rfl (fun hc1 => ?_) (fun hc1 => ?_)
      · have q35 : (35 : UInt8) ∈ x.2 := of_decide_eq_true hc1
        refine W_seq ?_
        refine W_region ?_
        refine wl_val (rn_move (by conv => lhs; whnf)) ?_
        refine wl_val (rn_sneq rfl rfl) ?_
        refine wl_val (rn_move (by conv => lhs; whnf)) ?_
        refine wl_split (d := 21) rfl (fun hg21 => ?_) (fun hg21 => ?_)
        · have hR : filterB s = false := filter_no hxl (levOk_b q35 (by simpa using of_decide_eq_true hg21))
          refine wl_no rfl (congrArg Value.bool hg21) ?_
          refine wl_no rfl (congrArg Value.bool hg21) ?_
          refine wl_no rfl (congrArg Value.bool hg21) ?_
          refine wl_val (rn_pickT (congrArg Value.bool hg21) (by conv => lhs; whnf)) ?_
          refine wl_nil ?_
          refine W_condT rfl ?_
          refine W_seq ?_
          refine W_region ?_
          have hBo := hB2
          refine wl_store1 p_4 rfl (by conv => lhs; whnf) rfl rfl hB2 (Nat.le_of_ble_eq_true rfl) ?_; intro w9 hE9 hB2 hz9
          replace hX := hX.mine hE9 hl2
          replace hB3 := hB3.ext hE9 (fun h => by omega)
          replace hXo := hXo.mine hE9 (.inr ho2)
          replace hDk := hDk.box hE9 hBo
          replace hW := hW.mine hE9 (.inl rfl)
          refine wl_nil ?_
          refine W_ret ?_
          exact ⟨hX, rfl, ⟨hB2, hK2.2⟩, hXo, hW, hDk, hR⟩
        · have qh : x.2 = [35] := by simpa using of_decide_eq_false hg21
          refine wl_yes rfl (congrArg Value.bool hg21) ?_
          refine wl_val (rn_move (by conv => lhs; whnf)) ?_
          refine wl_yes rfl (congrArg Value.bool hg21) ?_
          refine wl_val (rn_load1 p_3 rfl hB3 rfl) ?_
          refine wl_yes rfl (congrArg Value.bool hg21) ?_
          refine wl_val (rn_neq rfl rfl) ?_
          refine wl_val (rn_pickF (congrArg Value.bool hg21) (by conv => lhs; whnf)) ?_
          refine wl_nil ?_
          refine W_cond rfl (fun hc2 => ?_) (fun hc2 => ?_)
          · have hR : filterB s = false := filter_no hxl (by rw [levOk_c qh]; have := of_decide_eq_true hc2; exact decide_eq_false (by omega))
            refine W_seq ?_
            refine W_region ?_
            have hBo := hB2
            refine wl_store1 p_4 rfl (by conv => lhs; whnf) rfl rfl hB2 (Nat.le_of_ble_eq_true rfl) ?_; intro w10 hE10 hB2 hz10
            replace hX := hX.mine hE10 hl2
            replace hB3 := hB3.ext hE10 (fun h => by omega)
            replace hXo := hXo.mine hE10 (.inr ho2)
            replace hDk := hDk.box hE10 hBo
            replace hW := hW.mine hE10 (.inl rfl)
            refine wl_nil ?_
            refine W_ret ?_
            exact ⟨hX, rfl, ⟨hB2, hK2.2⟩, hXo, hW, hDk, hR⟩
          · have hok : levOk (decide (x.1 + 1 = (spl 47 s).length)) x.2 = true := by rw [levOk_c qh]; have := of_decide_eq_false hc2; exact decide_eq_true (by omega)
            refine W_skip ?_
            exact ⟨hX, ⟨hB2, hK2.2⟩, ⟨hB3, hK3.2⟩, hXo, hW, hDk, (fun j l hj h2 => by rw [List.length_append, List.length_singleton] at hj; rcases Nat.lt_or_ge j pre.length with h | h; exact hIr j l h h2; (have e : j = x.1 := by omega); subst e; rw [hxl] at h2; cases h2; exact hok)⟩
      · have q35 : ¬ (35 : UInt8) ∈ x.2 := of_decide_eq_false hc1
        refine W_seq ?_
        refine W_region ?_
        refine wl_val (rn_move (by conv => lhs; whnf)) ?_
        refine wl_call e_75 rfl (scontains_ok w8 x.2 43) ?_; intro v28 w11 hE11 hR11
        replace hX := hX.tr hE11
        replace hB2 := hB2.ext hE11 id; replace hB3 := hB3.ext hE11 id
        replace hXo := hXo.tr hE11
        replace hDk := hDk.non hE11
        replace hW := hW.tr hE11
        subst hR11
        refine wl_val (rn_move (by conv => lhs; whnf)) ?_
        refine wl_split (d := 29) rfl (fun hg29 => ?_) (fun hg29 => ?_)
        · have q43 : (43 : UInt8) ∈ x.2 := of_decide_eq_true hg29
          refine wl_yes rfl (congrArg Value.bool hg29) ?_
          refine wl_val (rn_move (by conv => lhs; whnf)) ?_
          refine wl_yes rfl (congrArg Value.bool hg29) ?_
          refine wl_val (rn_sneq rfl rfl) ?_
          refine wl_val (rn_pickT (congrArg Value.bool hg29) (by conv => lhs; whnf)) ?_
          refine wl_val (rn_assign (by conv => lhs; whnf)) ?_
          refine wl_nil ?_
          refine W_cond rfl (fun hc3 => ?_) (fun hc3 => ?_)
          · have hR : filterB s = false := filter_no hxl (levOk_a q43 (by simpa using of_decide_eq_true hc3))
            refine W_seq ?_
            refine W_region ?_
            have hBo := hB2
            refine wl_store1 p_4 rfl (by conv => lhs; whnf) rfl rfl hB2 (Nat.le_of_ble_eq_true rfl) ?_; intro w12 hE12 hB2 hz12
            replace hX := hX.mine hE12 hl2
            replace hB3 := hB3.ext hE12 (fun h => by omega)
            replace hXo := hXo.mine hE12 (.inr ho2)
            replace hDk := hDk.box hE12 hBo
            replace hW := hW.mine hE12 (.inl rfl)
            refine wl_nil ?_
            refine W_ret ?_
            exact ⟨hX, rfl, ⟨hB2, hK2.2⟩, hXo, hW, hDk, hR⟩
          · have hok : levOk (decide (x.1 + 1 = (spl 47 s).length)) x.2 = true := levOk_d q35 (fun _ => by simpa using of_decide_eq_false hc3)
            refine W_skip ?_
            exact ⟨hX, ⟨hB2, hK2.2⟩, ⟨hB3, hK3.2⟩, hXo, hW, hDk, (fun j l hj h2 => by rw [List.length_append, List.length_singleton] at hj; rcases Nat.lt_or_ge j pre.length with h | h; exact hIr j l h h2; (have e : j = x.1 := by omega); subst e; rw [hxl] at h2; cases h2; exact hok)⟩
        · have hok : levOk (decide (x.1 + 1 = (spl 47 s).length)) x.2 = true := levOk_d q35 (fun h => absurd h (of_decide_eq_false hg29))
          refine wl_no rfl (congrArg Value.bool hg29) ?_
          refine wl_no rfl (congrArg Value.bool hg29) ?_
          refine wl_val (rn_pickF (congrArg Value.bool hg29) (by conv => lhs; whnf)) ?_
          refine wl_val (rn_assign (by conv => lhs; whnf)) ?_
          refine wl_nil ?_
          refine W_condF rfl ?_
          refine W_skip ?_
          exact ⟨hX, ⟨hB2, hK2.2⟩, ⟨hB3, hK3.2⟩, hXo, hW, hDk, (fun j l hj h2 => by rw [List.length_append, List.length_singleton] at hj; rcases Nat.lt_or_ge j pre.length with h | h; exact hIr j l h h2; (have e : j = x.1 := by omega); subst e; rw [hxl] at h2; cases h2; exact hok)⟩
    · rintro N rk w' ⟨hK2, hK3, hXo, hW, hDk, hIr⟩ hN hA hr hrd
      have hB2 := hK2.1
      have hB3 := hK3.1
      have hX := hXo; have hD := hDk.add hrd (Nat.le_trans hszr (hN rk hr).1) hr
      refine W_seq ?_
      refine W_region ?_
      have hBo := hB2
      refine wl_store1 p_4 rfl (by conv => lhs; whnf) rfl rfl hB2 (Nat.le_of_ble_eq_true rfl) ?_; intro w13 hE13 hB2 hz13
      replace hX := hX.mine hE13 hl2
      replace hB3 := hB3.ext hE13 (fun h => by omega)
      replace hD := hD.box hE13 hBo
      refine wl_nil ?_
      refine W_ret ?_
      refine hD.leave fun B hB => ?_
      have hB2 := hB2.ext hB (hD.ne hB2)
      have hB3 := hB3.ext hB (hD.ne hB3)
      have hX := hD.out hX hB
      exact ⟨_, resR1 (res1_cell p_4 rfl hB2), hX, by rw [filter_yes hz (fun j l h2 => hIr j l (by rw [numb_len]; exact (List.getElem?_eq_some_iff.1 h2).1) h2)]⟩
    · rintro c N rk w' ⟨rfl, hK2, hXo, hW, hDk, hIr⟩ hN hA hr hrd
      have hB2 := hK2.1
      have hX := hXo; have hD := hDk.add hrd (Nat.le_trans hszr (hN rk hr).1) hr
      refine W_ret ?_
      refine hD.leave fun B hB => ?_
      have hB2 := hB2.ext hB (hD.ne hB2)
      have hX := hD.out hX hB
      exact ⟨_, resR1 (res1_cell p_4 rfl hB2), hX, by rw [hIr]⟩
-- bellman/bellmanref01.Long
theorem long2_ok (w : World) (s : Str) : Fn Tryd.prog 15 #[Sv s] w fun u w' => u = .bool (decide ((s.length : Int) > 300)) := by
  have hX := Ext.refl Non w
  refine fn_of_W (args := [_]) Tryd.func15 rfl (by kernel_rfl) rfl ?_
  refine W_seq ?_
  refine W_region ?_
  refine wl_val (rn_assign (by conv => lhs; whnf)) ?_
  refine wl_nil ?_
  refine W_seq ?_
  refine W_region ?_
  refine wl_val (rn_move (by conv => lhs; whnf)) ?_
  refine wl_val (rn_slen us_9 rfl) ?_
  refine wl_val (rn_gtr rfl rfl) ?_
  refine wl_val (rn_assign (by conv => lhs; whnf)) ?_
  refine wl_nil ?_
  refine W_ret ?_
  exact ⟨_, resR1 (res1_tmp rfl), hX, rfl⟩
-- bellman/bellmanlaw01.awake
theorem awake01_ok (w : World)  : Fn Tryd.prog 14 #[] w fun u w' => u = .bool true := by
  have hX := Ext.refl Non w
  refine fn_of_W (args := []) Tryd.func14 rfl (by kernel_rfl) rfl ?_
  refine W_seq ?_
  refine W_region ?_
  refine wl_val (rn_assign (by conv => lhs; whnf)) ?_
  refine wl_nil ?_
  refine W_seq ?_
  refine W_region ?_
  refine wl_call e_33 rfl (tfilter_ok w [97, 47, 43, 47, 35] (by decide)) ?_; intro v1 w1 hE1 hR1
  replace hX := hX.tr hE1
  subst hR1
  refine wl_val (rn_move (by conv => lhs; whnf)) ?_
  refine wl_split (d := 2) rfl (fun hg2 => ?_) (fun hg2 => ?_)
  · refine wl_yes rfl (congrArg Value.bool hg2) ?_
    refine wl_call e_33 rfl (tfilter_ok w1 [97, 35] (by decide)) ?_; intro v3 w2 hE2 hR2
    replace hX := hX.tr hE2
    subst hR2
    refine wl_yes rfl (congrArg Value.bool hg2) ?_
    refine wl_val (rn_not rfl) ?_
    refine wl_val (rn_pickT (congrArg Value.bool hg2) (by conv => lhs; whnf)) ?_
    refine wl_val (rn_move (by conv => lhs; whnf)) ?_
    refine wl_split (d := 6) rfl (fun hg6 => ?_) (fun hg6 => ?_)
    · refine wl_yes rfl (congrArg Value.bool hg6) ?_
      refine wl_call e_33 rfl (tfilter_ok w2 [97, 47, 35, 47, 98] (by decide)) ?_; intro v7 w3 hE3 hR3
      replace hX := hX.tr hE3
      subst hR3
      refine wl_yes rfl (congrArg Value.bool hg6) ?_
      refine wl_val (rn_not rfl) ?_
      refine wl_val (rn_pickT (congrArg Value.bool hg6) (by conv => lhs; whnf)) ?_
      refine wl_val (rn_move (by conv => lhs; whnf)) ?_
      refine wl_split (d := 10) rfl (fun hg10 => ?_) (fun hg10 => ?_)
      · refine wl_yes rfl (congrArg Value.bool hg10) ?_
        refine wl_call e_33 rfl (tfilter_ok w3 [47, 43, 97] (by decide)) ?_; intro v11 w4 hE4 hR4
        replace hX := hX.tr hE4
        subst hR4
        refine wl_yes rfl (congrArg Value.bool hg10) ?_
        refine wl_val (rn_not rfl) ?_
        refine wl_val (rn_pickT (congrArg Value.bool hg10) (by conv => lhs; whnf)) ?_
        refine wl_val (rn_assign (by conv => lhs; whnf)) ?_
        refine wl_nil ?_
        refine W_ret ?_
        exact ⟨_, resR1 (res1_tmp rfl), hX, by show Value.bool (!filterB [47, 43, 97]) = .bool true; exact congrArg Value.bool (by decide)⟩
      · exact absurd hg10 (by decide)
    · exact absurd hg6 (by decide)
  · exact absurd hg2 (by decide)
-- bellman/bellmanlaw01.TopicEach
set_option maxHeartbeats 2000000 in
theorem topicEach_ok (w : World) (s : Str) (few : Int) (hf0 : 0 ≤ few) (hf1 : few ≤ 255) : Fn Tryd.prog 3 #[Sv s, .int .u8 few] w fun u w' => u = .bool true := by
  have hsl := spl_len_le 47 s
  have hX := Ext.refl Non w
  refine fn_of_W (args := [_, _]) Tryd.func3 rfl (by kernel_rfl) rfl ?_
  refine W_seq ?_
  refine W_region ?_
  refine wl_box1 (by conv => lhs; whnf) rfl ?_; intro b3 w1 hb3 hE1 hB3
  have hq3 : w.heap.size ≤ b3 := Nat.le_trans hX.size hb3
  have hl3 : Mine Non w b3 := .inr hq3
  replace hX := hX.tr hE1
  refine wl_alloc z_4 ?_; intro b4 w2 hb4 hE2 hB4
  have hn3_4 : b3 < b4 := Nat.lt_of_lt_of_le hB3.lt hb4
  have hq4 : w.heap.size ≤ b4 := Nat.le_trans hX.size hb4
  have hl4 : Mine Non w b4 := .inr hq4
  replace hX := hX.tr hE2
  replace hB3 := hB3.ext hE2 id
  refine wl_nil ?_
  refine W_seq ?_
  refine W_seq ?_
  refine W_region ?_
  refine wl_call e_14 rfl (awake01_ok w2) ?_; intro v11 w3 hE3 hR3
  replace hX := hX.tr hE3
  replace hB3 := hB3.ext hE3 id; replace hB4 := hB4.ext hE3 id
  subst hR3
  refine wl_val (rn_not rfl) ?_
  refine wl_nil ?_
  refine W_cond rfl (fun hc0 => ?_) (fun hc0 => ?_)
  · exact absurd hc0 (by decide)
  · refine W_skip ?_
    refine W_seq ?_
    refine W_seq ?_
    refine W_region ?_
    refine wl_val (rn_move (by conv => lhs; whnf)) ?_
    refine wl_call e_15 rfl (long2_ok w3 s) ?_; intro v14 w4 hE4 hR4
    replace hX := hX.tr hE4
    replace hB3 := hB3.ext hE4 id; replace hB4 := hB4.ext hE4 id
    subst hR4
    refine wl_nil ?_
    refine W_cond rfl (fun hc1 => ?_) (fun hc1 => ?_)
    · refine W_seq ?_
      refine W_region ?_
      refine wl_store1 p_4 rfl (by conv => lhs; whnf) rfl rfl hB4 (Nat.le_of_ble_eq_true rfl) ?_; intro w5 hE5 hB4 hz5
      replace hX := hX.mine hE5 hl4
      replace hB3 := hB3.ext hE5 (fun h => by omega)
      refine wl_nil ?_
      refine W_ret ?_
      exact ⟨_, resR1 (res1_cell p_4 rfl hB4), hX, rfl⟩
    · have hn : s.length ≤ 1000000 := by have := of_decide_eq_false hc1; omega
      refine W_skip ?_
      refine W_seq ?_
      refine W_region ?_
      refine wl_val (rn_move (by conv => lhs; whnf)) ?_
      have hz4 := hB4.lt
      refine wl_call e_16 rfl (rlevels_new w4 s hn) ?_; intro v16 w6 hE6 hR6
      replace hX := hX.tr hE6
      replace hB3 := hB3.ext hE6 id; replace hB4 := hB4.ext hE6 id
      have hL := hR6; obtain ⟨a5, c5, hv5_, _⟩ := id hL.len; rw [List.length_map] at hv5_; subst hv5_
      have hQ0 := hL.sub (M' := fun i => i = b4 ∨ w6.heap.size ≤ i) (fun i h hlt => by rcases h with h | h; (show i < w4.heap.size; omega); omega)
      refine wl_alloc z_24 ?_; intro b5 w7 hb5 hE7 hB5
      have hn3_5 : b3 < b5 := Nat.lt_of_lt_of_le hB3.lt hb5
      have hn4_5 : b4 < b5 := Nat.lt_of_lt_of_le hB4.lt hb5
      have hq5 : w.heap.size ≤ b5 := Nat.le_trans hX.size hb5
      have hl5 : Mine Non w b5 := .inr hq5
      replace hX := hX.tr hE7
      replace hB3 := hB3.ext hE7 id; replace hB4 := hB4.ext hE7 id
      replace hQ0 := hQ0.ext hE7 (fun _ h => h.elim)
      have hBo := hB5
      refine wl_store1 p_24 rfl (by conv => lhs; whnf) rfl rfl hB5 (Nat.le_of_ble_eq_true rfl) ?_; intro w8 hE8 hB5 hz8
      replace hX := hX.mine hE8 hl5
      replace hB3 := hB3.ext hE8 (fun h => by omega); replace hB4 := hB4.ext hE8 (fun h => by omega)
      replace hQ0 := hQ0.ext hE8 (fun i e => .inr (by omega))
      refine wl_nil ?_
      refine W_seq ?_
      refine W_region ?_
      refine wl_val (rn_move (by conv => lhs; whnf)) ?_
      refine wl_call e_17 rfl (each_ok w8 s (fun i => i = b4) (fun i e => by rw [e]; exact hB4.lt) hn) ?_; intro v18 w9 hE9 hR9
      replace hX := hX.tr hE9
      replace hB3 := hB3.ext hE9 id; replace hB4 := hB4.ext hE9 id; replace hB5 := hB5.ext hE9 id
      replace hQ0 := hQ0.ext hE9 (fun _ h => h.elim)
      have hIt := hR9; obtain ⟨fk, ck, hfk, _⟩ := id hIt; subst hfk
      have hW := Ext.refl (fun i => i = b4) w9; have hwm4 : Mine (fun i => i = b4) w9 b4 := .inl rfl
      refine wl_val (rn_assign (by conv => lhs; whnf)) ?_
      refine wl_nil ?_
      refine W_seq ?_
      refine W_seq ?_
      refine W_region ?_
      refine wl_val (rn_move (by conv => lhs; whnf)) ?_
      refine wl_val (rn_func_eql uf_27 rfl rfl) ?_
      refine wl_nil ?_
      refine W_condF rfl ?_
      refine W_skip ?_
      refine W_seq ?_
      refine W_seq ?_
      refine W_region ?_
      refine wl_alloc z_3 ?_; intro b7 w10 hb7 hE10 hB7
      have hn3_7 : b3 < b7 := Nat.lt_of_lt_of_le hB3.lt hb7
      have hn4_7 : b4 < b7 := Nat.lt_of_lt_of_le hB4.lt hb7
      have hn5_7 : b5 < b7 := Nat.lt_of_lt_of_le hB5.lt hb7
      have hq7 : w.heap.size ≤ b7 := Nat.le_trans hX.size hb7
      have hl7 : Mine Non w b7 := .inr hq7
      have hwm7 : Mine (fun i => i = b4) w9 b7 := .inr (Nat.le_trans hW.size hb7)
      replace hX := hX.tr hE10
      replace hB3 := hB3.ext hE10 id; replace hB4 := hB4.ext hE10 id; replace hB5 := hB5.ext hE10 id
      replace hW := hW.tr hE10
      have hBo := hB7
      refine wl_store1 p_3 rfl (by conv => lhs; whnf) rfl rfl hB7 (Nat.le_of_ble_eq_true rfl) ?_; intro w11 hE11 hB7 hz11
      replace hX := hX.mine hE11 hl7
      replace hB3 := hB3.ext hE11 (fun h => by omega); replace hB4 := hB4.ext hE11 (fun h => by omega); replace hB5 := hB5.ext hE11 (fun h => by omega)
      replace hW := hW.mine hE11 hwm7
      refine wl_nil ?_
      refine W_block ?_   -- block 0
      refine W_loopD (S := Nat × Nat) [3, 4, 5, 6, 7] (fun ⟨r, b7⟩ => [.pointer (some ⟨b3, 0, none⟩), .pointer (some ⟨b4, 0, none⟩), .pointer (some ⟨b5, 0, none⟩), .func (.func fk) #[] ck, .pointer (some ⟨b7, 0, none⟩)]) (fun ⟨r, b7⟩ D A => (Ext Non w A) ∧ (Mk w D A) ∧ (IsBox A b3 [.int .u8 few]) ∧ (IsBox A b4 [.bool false]) ∧ (IsBox A b5 [.slice a5 (spl 47 s).length c5]) ∧ (IsBox A b7 [.int .i64 (r : Nat)]) ∧ (Mine Non w b3) ∧ (Mine Non w b4) ∧ (Mine Non w b5) ∧ (Mine Non w b7) ∧ (b3 < b4) ∧ (b3 < b5) ∧ (b3 < b7) ∧ (b4 < b5) ∧ (b4 < b7) ∧ (b5 < b7) ∧ (Ext (fun i => i = b4) w9 A ∧ Mine (fun i => i = b4) w9 b7 ∧ r ≤ 2)) (fun ⟨r, b7⟩ => 2 - r) (0, b7) ⟨rfl, rfl, rfl, rfl, rfl, trivial⟩ ⟨hX, Mk.nil, hB3, hB4, hB5, hB7, hl3, hl4, hl5, hl7, hn3_4, hn3_5, hn3_7, hn4_5, hn4_7, hn5_7, ⟨hW, hwm7, by omega⟩⟩ ?_
      rintro τ0 ⟨r, b7⟩ D A0 ⟨hX, hD, hB3, hB4, hB5, hB7, hl3, hl4, hl5, hl7, hn3_4, hn3_5, hn3_7, hn4_5, hn4_7, hn5_7, hI0⟩
      obtain ⟨hW, hwm7, hr2⟩ := hI0
      refine W_seq ?_
      refine W_seq ?_
      refine W_region ?_
      refine wl_val (rn_load1 p_3 rfl hB7 rfl) ?_
      refine wl_val (rn_lss rfl rfl) ?_
      refine wl_nil ?_
      refine W_cond rfl (fun hc3 => ?_) (fun hc3 => ?_)
      · have hr3 : r < 2 := by have := of_decide_eq_true hc3; omega
        refine W_skip ?_
        refine W_seq ?_
        refine W_block ?_   -- block 1
        refine W_seq ?_
        refine W_region ?_
        refine wl_alloc z_3 ?_; intro b8 w12 hb8 hE12 hB8
        have hn3_8 : b3 < b8 := Nat.lt_of_lt_of_le hB3.lt hb8
        have hn4_8 : b4 < b8 := Nat.lt_of_lt_of_le hB4.lt hb8
        have hn5_8 : b5 < b8 := Nat.lt_of_lt_of_le hB5.lt hb8
        have hn7_8 : b7 < b8 := Nat.lt_of_lt_of_le hB7.lt hb8
        have hq8 : w.heap.size ≤ b8 := Nat.le_trans hX.size hb8
        have hl8 : Mine Non w b8 := .inr hq8
        have hwm8 : Mine (fun i => i = b4) w9 b8 := .inr (Nat.le_trans hW.size hb8)
        replace hX := hX.tr hE12
        replace hB3 := hB3.ext hE12 id; replace hB4 := hB4.ext hE12 id; replace hB5 := hB5.ext hE12 id; replace hB7 := hB7.ext hE12 id
        replace hW := hW.tr hE12
        replace hD := hD.non hE12
        have hBo := hB8
        refine wl_store1 p_3 rfl (by conv => lhs; whnf) rfl rfl hB8 (Nat.le_of_ble_eq_true rfl) ?_; intro w13 hE13 hB8 hz13
        replace hX := hX.mine hE13 hl8
        replace hB3 := hB3.ext hE13 (fun h => by omega); replace hB4 := hB4.ext hE13 (fun h => by omega); replace hB5 := hB5.ext hE13 (fun h => by omega); replace hB7 := hB7.ext hE13 (fun h => by omega)
        replace hW := hW.mine hE13 hwm8
        replace hD := hD.box hE13 hBo
        refine wl_nil ?_
        refine W_seq ?_
        refine W_seq ?_
        refine W_region ?_
        refine wl_val (rn_move (by conv => lhs; whnf)) ?_
        refine wl_nil ?_
        refine W_block ?_   -- block 2
        have hszr := hX.size
        have hsz_hW := hW.size
        have ho3 : w.heap.size ≤ b3 := by rcases hl3 with h | h; exact h.elim; exact h
        have ho4 : w.heap.size ≤ b4 := by rcases hl4 with h | h; exact h.elim; exact h
        have ho5 : w.heap.size ≤ b5 := by rcases hl5 with h | h; exact h.elim; exact h
        have ho7 : w.heap.size ≤ b7 := by rcases hl7 with h | h; exact h.elim; exact h
        have ho8 : w.heap.size ≤ b8 := by rcases hl8 with h | h; exact h.elim; exact h
        refine W_rangeFunc (M := fun i => i = b4) (w0 := w9) (I := fun pre N A => Box N A b3 [.int .u8 few] ∧ Box N A b4 [.bool false] ∧ Box N A b5 [.slice a5 (spl 47 s).length c5] ∧ Box N A b7 [.int .i64 (r : Nat)] ∧ Box N A b8 [.int .i64 (pre.length : Nat)] ∧ Ext Non w A ∧ Ext (fun i => i = b4) w9 A ∧ MkN w D N A ∧ (True)) (X := fun c N A => c = .exit 2 ∧ Box N A b3 [.int .u8 few] ∧ Box N A b4 [.bool false] ∧ Box N A b5 [.slice a5 (spl 47 s).length c5] ∧ Box N A b7 [.int .i64 (r : Nat)] ∧ Ext Non w A ∧ Ext (fun i => i = b4) w9 A ∧ MkN w D N A ∧ (r = 0)) (encs := fun p : Nat × Str => [.int .i64 (p.1 : Nat), Sv p.2]) (xs := numb (spl 47 s)) rfl (hIt) (hW) (fun _ => rfl) (fun pre => (Stab.box _ _).and ((Stab.box _ _).and ((Stab.box _ _).and ((Stab.box _ _).and ((Stab.box _ _).and ((Stab.old hX.size).and ((Stab.oldM hW.size).and ((Stab.mk _ _).and ((Stab.pure _)))))))))) (fun c => (Stab.pure _).and ((Stab.box _ _).and ((Stab.box _ _).and ((Stab.box _ _).and ((Stab.box _ _).and ((Stab.old hX.size).and ((Stab.oldM hW.size).and ((Stab.mk _ _).and ((Stab.pure _)))))))))) ⟨⟨hB3, id⟩, ⟨hB4, id⟩, ⟨hB5, id⟩, ⟨hB7, id⟩, ⟨hB8, id⟩, hX, hW, hD.toN, trivial⟩ ?_ ?_ ?_
        · rintro l N pre x A hl hN hA hst ⟨hK3, hK4, hK5, hK7, hK8, hXo, hW, hDk, hIr⟩ ⟨post, hpre⟩
          have hB3 := hK3.1
          have hB4 := hK4.1; have hl4 : Mine (Yc (fun i => i = b4) w9 N) A b4 := .inl ⟨hK4.2, .inl rfl⟩
          have hB5 := hK5.1
          have hB7 := hK7.1; have hl7 : Mine (Yc (fun i => i = b4) w9 N) A b7 := .inl ⟨hK7.2, hwm7⟩
          have hB8 := hK8.1; have hl8 : Mine (Yc (fun i => i = b4) w9 N) A b8 := .inl ⟨hK8.2, hwm8⟩
          have hX := Ext.refl (Yc (fun i => i = b4) w9 N) A
          obtain ⟨hxi, hxl, _⟩ := numb_at (i := x.1) (x := x.2) (post := post) (pre := pre) (by rw [hpre])
          have hxlt := (List.getElem?_eq_some_iff.1 hxl).1
          have hpe : ((pre.length : Nat) : Int).toNat = x.1 := by omega
          obtain ⟨bq, ofq, eaq⟩ := hQ0.base (by intro e; have := congrArg List.length e; simp only [List.length_map, List.length_nil] at this; omega)
          have hQ1 := hQ0; rw [eaq] at hQ1
          refine W_seq ?_
          refine W_region ?_
          refine wl_val (rn_assign (by conv => lhs; whnf)) ?_
          refine wl_nil ?_
          refine W_region ?_
          refine wl_val (rn_assign (by conv => lhs; whnf)) ?_
          refine wl_nil ?_
          refine ⟨rfl, hX, fun A2 hE2r hz2r hst2 => ?_⟩
          have hNl := (hN l hl).2
          replace hB3 := hB3.ext hE2r (fun e => hK3.2 (by rw [e]; exact hl))
          replace hB4 := hB4.ext hE2r (fun e => hK4.2 (by rw [e]; exact hl))
          replace hB5 := hB5.ext hE2r (fun e => hK5.2 (by rw [e]; exact hl))
          replace hB7 := hB7.ext hE2r (fun e => hK7.2 (by rw [e]; exact hl))
          replace hB8 := hB8.ext hE2r (fun e => hK8.2 (by rw [e]; exact hl))
          replace hXo := hXo.mine hE2r (.inr (Nat.le_trans hszr (hN l hl).1)); replace hDk := hDk.lp hE2r hl
          replace hW := hW.mine hE2r (.inr (Nat.le_trans hsz_hW (hN l hl).1))
          have hl4 : Mine (Yc (fun i => i = b4) w9 N) A2 b4 := .inl ⟨hK4.2, .inl rfl⟩
          have hl7 : Mine (Yc (fun i => i = b4) w9 N) A2 b7 := .inl ⟨hK7.2, hwm7⟩
          have hl8 : Mine (Yc (fun i => i = b4) w9 N) A2 b8 := .inl ⟨hK8.2, hwm8⟩
          have hX := Ext.refl (Yc (fun i => i = b4) w9 N) A2
          refine W_block ?_   -- block 3
          refine W_seq ?_
          refine W_seq ?_
          refine W_region ?_
          refine wl_val (rn_move (by conv => lhs; whnf)) ?_
          refine wl_val (rn_load1 p_3 rfl hB8 rfl) ?_
          refine wl_val (rn_neq rfl rfl) ?_
          refine wl_val (rn_move (by conv => lhs; whnf)) ?_
          refine wl_split (d := 31) rfl (fun hg31 => ?_) (fun hg31 => ?_)
          · exact absurd (of_decide_eq_true hg31) (by rw [hxi]; simp)
          · refine wl_yes rfl (congrArg Value.bool hg31) ?_
            refine wl_val (rn_load1 p_3 rfl hB8 rfl) ?_
            refine wl_yes rfl (congrArg Value.bool hg31) ?_
            refine wl_val (rn_load1 p_24 rfl hB5 rfl) ?_
            refine wl_yes rfl (congrArg Value.bool hg31) ?_
            refine wl_val (rn_len sl_24 rfl) ?_
            refine wl_yes rfl (congrArg Value.bool hg31) ?_
            refine wl_val (rn_geq rfl rfl) ?_
            refine wl_val (rn_pickF (congrArg Value.bool hg31) (by conv => lhs; whnf)) ?_
            refine wl_val (rn_move (by conv => lhs; whnf)) ?_
            refine wl_split (d := 37) rfl (fun hg37 => ?_) (fun hg37 => ?_)
            · exact absurd (of_decide_eq_true hg37) (by omega)
            · refine wl_yes rfl (congrArg Value.bool hg37) ?_
              refine wl_val (rn_move (by conv => lhs; whnf)) ?_
              refine wl_yes rfl (congrArg Value.bool hg37) ?_
              refine wl_val (rn_load1 p_24 rfl hB5 rfl) ?_
              refine wl_yes rfl (congrArg Value.bool hg37) ?_
              refine wl_val (rn_load1 p_3 rfl hB8 rfl) ?_
              refine wl_yes rfl (congrArg Value.bool hg37) ?_
              refine wl_val (rn_indexAddr sl_24 (a := ⟨bq, ofq, none⟩) (n := (spl 47 s).length) (c := c5) (by rw [← eaq]; rfl) rfl (by omega)) ?_
              refine wl_yes rfl (congrArg Value.bool hg37) ?_
              refine wl_val (rn_load p_9 rfl ((hQ1.ext hW (fun _ e => .inl e)).at0 (eS_at (i := ((pre.length : Nat) : Int).toNat) (by rw [hpe]; exact hxl)) rfl)) ?_
              refine wl_yes rfl (congrArg Value.bool hg37) ?_
              refine wl_val (rn_sneq rfl rfl) ?_
              refine wl_val (rn_pickF (congrArg Value.bool hg37) (by conv => lhs; whnf)) ?_
              refine wl_nil ?_
              refine W_cond rfl (fun hc4 => ?_) (fun hc4 => ?_)
              · exact absurd (of_decide_eq_true hc4) (by simp)
              · refine W_skip ?_
                refine W_seq ?_
                refine W_region ?_
                refine wl_val (rn_load1 p_3 rfl hB8 rfl) ?_
                refine wl_val (rn_add rfl rfl (by omega)) ?_
                have hBo := hB8
                refine wl_store1 p_3 rfl (by conv => lhs; whnf) rfl rfl hB8 (Nat.le_of_ble_eq_true rfl) ?_; intro w14 hE14 hB8 hz14
                replace hX := hX.mine hE14 hl8
                replace hB3 := hB3.ext hE14 (fun h => by omega); replace hB4 := hB4.ext hE14 (fun h => by omega); replace hB5 := hB5.ext hE14 (fun h => by omega); replace hB7 := hB7.ext hE14 (fun h => by omega)
                replace hXo := hXo.mine hE14 (.inr ho8)
                replace hDk := hDk.box hE14 hBo
                replace hW := hW.mine hE14 hwm8
                refine wl_nil ?_
                refine W_seq ?_
                refine W_region ?_
                refine wl_val (rn_load1 p_3 rfl hB7 rfl) ?_
                refine wl_val (rn_eql rfl rfl) ?_
                refine wl_val (rn_move (by conv => lhs; whnf)) ?_
                refine wl_split (d := 49) rfl (fun hg49 => ?_) (fun hg49 => ?_)
                · refine wl_yes rfl (congrArg Value.bool hg49) ?_
                  refine wl_val (rn_load1 p_3 rfl hB8 rfl) ?_
                  refine wl_yes rfl (congrArg Value.bool hg49) ?_
                  refine wl_val (rn_load1 p_5 rfl hB3 rfl) ?_
                  refine wl_yes rfl (congrArg Value.bool hg49) ?_
                  refine wl_val (rn_convert ui_5 ui_3 rfl (wrap_id (by omega))) ?_
                  refine wl_yes rfl (congrArg Value.bool hg49) ?_
                  refine wl_val (rn_gtr rfl rfl) ?_
                  refine wl_val (rn_pickT (congrArg Value.bool hg49) (by conv => lhs; whnf)) ?_
                  refine wl_nil ?_
                  refine W_cond rfl (fun hc5 => ?_) (fun hc5 => ?_)
                  · refine W_exit ?_   -- exit 2
                    have hr0 : r = 0 := by have := of_decide_eq_true hg49; omega
                    exact ⟨hX, rfl, ⟨hB3, hK3.2⟩, ⟨hB4, hK4.2⟩, ⟨hB5, hK5.2⟩, ⟨hB7, hK7.2⟩, hXo, hW, hDk, hr0⟩
                  · refine W_skip ?_
                    replace hB8 := hB8.cast (cs' := [.int .i64 ((pre ++ [x]).length : Nat)]) (by rw [List.length_append]; rfl)
                    exact ⟨hX, ⟨hB3, hK3.2⟩, ⟨hB4, hK4.2⟩, ⟨hB5, hK5.2⟩, ⟨hB7, hK7.2⟩, ⟨hB8, hK8.2⟩, hXo, hW, hDk, trivial⟩
                · refine wl_no rfl (congrArg Value.bool hg49) ?_
                  refine wl_no rfl (congrArg Value.bool hg49) ?_
                  refine wl_no rfl (congrArg Value.bool hg49) ?_
                  refine wl_no rfl (congrArg Value.bool hg49) ?_
                  refine wl_val (rn_pickF (congrArg Value.bool hg49) (by conv => lhs; whnf)) ?_
                  refine wl_nil ?_
                  refine W_condF rfl ?_
                  refine W_skip ?_
                  replace hB8 := hB8.cast (cs' := [.int .i64 ((pre ++ [x]).length : Nat)]) (by rw [List.length_append]; rfl)
                  exact ⟨hX, ⟨hB3, hK3.2⟩, ⟨hB4, hK4.2⟩, ⟨hB5, hK5.2⟩, ⟨hB7, hK7.2⟩, ⟨hB8, hK8.2⟩, hXo, hW, hDk, trivial⟩
        · rintro N rk w' ⟨hK3, hK4, hK5, hK7, hK8, hXo, hW, hDk, hIr⟩ hN hA hr hrd
          have hB3 := hK3.1
          have hB4 := hK4.1
          have hB5 := hK5.1
          have hB7 := hK7.1
          have hB8 := hK8.1
          have hX := hXo; have hD := hDk.add hrd (Nat.le_trans hszr (hN rk hr).1) hr
          refine W_seq ?_
          refine W_region ?_
          refine wl_val (rn_load1 p_3 rfl hB7 rfl) ?_
          refine wl_val (rn_eql rfl rfl) ?_
          refine wl_val (rn_move (by conv => lhs; whnf)) ?_
          refine wl_split (d := 57) rfl (fun hg57 => ?_) (fun hg57 => ?_)
          · refine wl_yes rfl (congrArg Value.bool hg57) ?_
            refine wl_val (rn_load1 p_3 rfl hB8 rfl) ?_
            refine wl_yes rfl (congrArg Value.bool hg57) ?_
            refine wl_val (rn_load1 p_24 rfl hB5 rfl) ?_
            refine wl_yes rfl (congrArg Value.bool hg57) ?_
            refine wl_val (rn_len sl_24 rfl) ?_
            refine wl_yes rfl (congrArg Value.bool hg57) ?_
            refine wl_val (rn_neq rfl rfl) ?_
            refine wl_val (rn_pickT (congrArg Value.bool hg57) (by conv => lhs; whnf)) ?_
            refine wl_nil ?_
            refine W_cond rfl (fun hc6 => ?_) (fun hc6 => ?_)
            · exact absurd (of_decide_eq_true hc6) (by rw [numb_len]; simp)
            · refine W_skip ?_
              refine W_seq ?_
              refine W_seq ?_
              refine W_region ?_
              refine wl_val (rn_load1 p_3 rfl hB7 rfl) ?_
              refine wl_nil ?_
              refine W_region ?_
              refine wl_alloc z_3 ?_; intro b7 w15 hb7 hE15 hB7
              have hn3_7 : b3 < b7 := Nat.lt_of_lt_of_le hB3.lt hb7
              have hn4_7 : b4 < b7 := Nat.lt_of_lt_of_le hB4.lt hb7
              have hn5_7 : b5 < b7 := Nat.lt_of_lt_of_le hB5.lt hb7
              have hn8_7 : b8 < b7 := Nat.lt_of_lt_of_le hB8.lt hb7
              have hq7 : w.heap.size ≤ b7 := Nat.le_trans hX.size hb7
              have hl7 : Mine Non w b7 := .inr hq7
              have hwm7 : Mine (fun i => i = b4) w9 b7 := .inr (Nat.le_trans hW.size hb7)
              replace hX := hX.tr hE15
              replace hB3 := hB3.ext hE15 id; replace hB4 := hB4.ext hE15 id; replace hB5 := hB5.ext hE15 id; replace hB8 := hB8.ext hE15 id
              replace hW := hW.tr hE15
              replace hD := hD.non hE15
              have hBo := hB7
              refine wl_store1 p_3 rfl (by conv => lhs; whnf) rfl rfl hB7 (Nat.le_of_ble_eq_true rfl) ?_; intro w16 hE16 hB7 hz16
              replace hX := hX.mine hE16 hl7
              replace hB3 := hB3.ext hE16 (fun h => by omega); replace hB4 := hB4.ext hE16 (fun h => by omega); replace hB5 := hB5.ext hE16 (fun h => by omega); replace hB8 := hB8.ext hE16 (fun h => by omega)
              replace hW := hW.mine hE16 hwm7
              replace hD := hD.box hE16 hBo
              refine wl_nil ?_
              refine W_region ?_
              refine wl_val (rn_load1 p_3 rfl hB7 rfl) ?_
              refine wl_val (rn_add rfl rfl (by omega)) ?_
              have hBo := hB7
              refine wl_store1 p_3 rfl (by conv => lhs; whnf) rfl rfl hB7 (Nat.le_of_ble_eq_true rfl) ?_; intro w17 hE17 hB7 hz17
              replace hX := hX.mine hE17 hl7
              replace hB3 := hB3.ext hE17 (fun h => by omega); replace hB4 := hB4.ext hE17 (fun h => by omega); replace hB5 := hB5.ext hE17 (fun h => by omega); replace hB8 := hB8.ext hE17 (fun h => by omega)
              replace hW := hW.mine hE17 hwm7
              replace hD := hD.box hE17 hBo
              refine wl_nil ?_
              exact ⟨(r + 1, b7), ⟨rfl, rfl, rfl, rfl, rfl, trivial⟩, ⟨hX, hD, hB3, hB4, hB5, hB7, hl3, hl4, hl5, hl7, hn3_4, hn3_5, hn3_7, hn4_5, hn4_7, hn5_7, ⟨hW, hwm7, by omega⟩⟩, by show 2 - (r + 1) < 2 - r; omega⟩
          · refine wl_no rfl (congrArg Value.bool hg57) ?_
            refine wl_no rfl (congrArg Value.bool hg57) ?_
            refine wl_no rfl (congrArg Value.bool hg57) ?_
            refine wl_no rfl (congrArg Value.bool hg57) ?_
            refine wl_val (rn_pickF (congrArg Value.bool hg57) (by conv => lhs; whnf)) ?_
            refine wl_nil ?_
            refine W_condF rfl ?_
            refine W_skip ?_
            refine W_seq ?_
            refine W_seq ?_
            refine W_region ?_
            refine wl_val (rn_load1 p_3 rfl hB7 rfl) ?_
            refine wl_nil ?_
            refine W_region ?_
            refine wl_alloc z_3 ?_; intro b7 w18 hb7 hE18 hB7
            have hn3_7 : b3 < b7 := Nat.lt_of_lt_of_le hB3.lt hb7
            have hn4_7 : b4 < b7 := Nat.lt_of_lt_of_le hB4.lt hb7
            have hn5_7 : b5 < b7 := Nat.lt_of_lt_of_le hB5.lt hb7
            have hn8_7 : b8 < b7 := Nat.lt_of_lt_of_le hB8.lt hb7
            have hq7 : w.heap.size ≤ b7 := Nat.le_trans hX.size hb7
            have hl7 : Mine Non w b7 := .inr hq7
            have hwm7 : Mine (fun i => i = b4) w9 b7 := .inr (Nat.le_trans hW.size hb7)
            replace hX := hX.tr hE18
            replace hB3 := hB3.ext hE18 id; replace hB4 := hB4.ext hE18 id; replace hB5 := hB5.ext hE18 id; replace hB8 := hB8.ext hE18 id
            replace hW := hW.tr hE18
            replace hD := hD.non hE18
            have hBo := hB7
            refine wl_store1 p_3 rfl (by conv => lhs; whnf) rfl rfl hB7 (Nat.le_of_ble_eq_true rfl) ?_; intro w19 hE19 hB7 hz19
            replace hX := hX.mine hE19 hl7
            replace hB3 := hB3.ext hE19 (fun h => by omega); replace hB4 := hB4.ext hE19 (fun h => by omega); replace hB5 := hB5.ext hE19 (fun h => by omega); replace hB8 := hB8.ext hE19 (fun h => by omega)
            replace hW := hW.mine hE19 hwm7
            replace hD := hD.box hE19 hBo
            refine wl_nil ?_
            refine W_region ?_
            refine wl_val (rn_load1 p_3 rfl hB7 rfl) ?_
            refine wl_val (rn_add rfl rfl (by omega)) ?_
            have hBo := hB7
            refine wl_store1 p_3 rfl (by conv => lhs; whnf) rfl rfl hB7 (Nat.le_of_ble_eq_true rfl) ?_; intro w20 hE20 hB7 hz20
            replace hX := hX.mine hE20 hl7
            replace hB3 := hB3.ext hE20 (fun h => by omega); replace hB4 := hB4.ext hE20 (fun h => by omega); replace hB5 := hB5.ext hE20 (fun h => by omega); replace hB8 := hB8.ext hE20 (fun h => by omega)
            replace hW := hW.mine hE20 hwm7
            replace hD := hD.box hE20 hBo
            refine wl_nil ?_
            exact ⟨(r + 1, b7), ⟨rfl, rfl, rfl, rfl, rfl, trivial⟩, ⟨hX, hD, hB3, hB4, hB5, hB7, hl3, hl4, hl5, hl7, hn3_4, hn3_5, hn3_7, hn4_5, hn4_7, hn5_7, ⟨hW, hwm7, by omega⟩⟩, by show 2 - (r + 1) < 2 - r; omega⟩
        · rintro c N rk w' ⟨rfl, hK3, hK4, hK5, hK7, hXo, hW, hDk, hIr⟩ hN hA hr hrd
          have hB3 := hK3.1
          have hB4 := hK4.1
          have hB5 := hK5.1
          have hB7 := hK7.1
          have hX := hXo; have hD := hDk.add hrd (Nat.le_trans hszr (hN rk hr).1) hr
          have hr57 : decide ((r : Int) = 1) = false := by subst hIr; rfl
          refine W_exit ?_   -- exit 2
          refine W_seq ?_
          refine W_region ?_
          refine wl_val (rn_load1 p_3 rfl hB7 rfl) ?_
          refine wl_val (rn_eql rfl rfl) ?_
          refine wl_val (rn_move (by conv => lhs; whnf)) ?_
          refine wl_no rfl (congrArg Value.bool hr57) ?_
          refine wl_no rfl (congrArg Value.bool hr57) ?_
          refine wl_no rfl (congrArg Value.bool hr57) ?_
          refine wl_no rfl (congrArg Value.bool hr57) ?_
          refine wl_val (rn_pickF (congrArg Value.bool hr57) (by conv => lhs; whnf)) ?_
          refine wl_nil ?_
          refine W_condF rfl ?_
          refine W_skip ?_
          refine W_seq ?_
          refine W_seq ?_
          refine W_region ?_
          refine wl_val (rn_load1 p_3 rfl hB7 rfl) ?_
          refine wl_nil ?_
          refine W_region ?_
          refine wl_alloc z_3 ?_; intro b7 w21 hb7 hE21 hB7
          have hn3_7 : b3 < b7 := Nat.lt_of_lt_of_le hB3.lt hb7
          have hn4_7 : b4 < b7 := Nat.lt_of_lt_of_le hB4.lt hb7
          have hn5_7 : b5 < b7 := Nat.lt_of_lt_of_le hB5.lt hb7
          have hq7 : w.heap.size ≤ b7 := Nat.le_trans hX.size hb7
          have hl7 : Mine Non w b7 := .inr hq7
          have hwm7 : Mine (fun i => i = b4) w9 b7 := .inr (Nat.le_trans hW.size hb7)
          replace hX := hX.tr hE21
          replace hB3 := hB3.ext hE21 id; replace hB4 := hB4.ext hE21 id; replace hB5 := hB5.ext hE21 id
          replace hW := hW.tr hE21
          replace hD := hD.non hE21
          have hBo := hB7
          refine wl_store1 p_3 rfl (by conv => lhs; whnf) rfl rfl hB7 (Nat.le_of_ble_eq_true rfl) ?_; intro w22 hE22 hB7 hz22
          replace hX := hX.mine hE22 hl7
          replace hB3 := hB3.ext hE22 (fun h => by omega); replace hB4 := hB4.ext hE22 (fun h => by omega); replace hB5 := hB5.ext hE22 (fun h => by omega)
          replace hW := hW.mine hE22 hwm7
          replace hD := hD.box hE22 hBo
          refine wl_nil ?_
          refine W_region ?_
          refine wl_val (rn_load1 p_3 rfl hB7 rfl) ?_
          refine wl_val (rn_add rfl rfl (by omega)) ?_
          have hBo := hB7
          refine wl_store1 p_3 rfl (by conv => lhs; whnf) rfl rfl hB7 (Nat.le_of_ble_eq_true rfl) ?_; intro w23 hE23 hB7 hz23
          replace hX := hX.mine hE23 hl7
          replace hB3 := hB3.ext hE23 (fun h => by omega); replace hB4 := hB4.ext hE23 (fun h => by omega); replace hB5 := hB5.ext hE23 (fun h => by omega)
          replace hW := hW.mine hE23 hwm7
          replace hD := hD.box hE23 hBo
          refine wl_nil ?_
          exact ⟨(r + 1, b7), ⟨rfl, rfl, rfl, rfl, rfl, trivial⟩, ⟨hX, hD, hB3, hB4, hB5, hB7, hl3, hl4, hl5, hl7, hn3_4, hn3_5, hn3_7, hn4_5, hn4_7, hn5_7, ⟨hW, hwm7, by omega⟩⟩, by show 2 - (r + 1) < 2 - r; omega⟩
      · refine W_exit ?_   -- exit 0
        refine W_seq ?_
        refine W_region ?_
        have hBo := hB4
        refine wl_store1 p_4 rfl (by conv => lhs; whnf) rfl rfl hB4 (Nat.le_of_ble_eq_true rfl) ?_; intro w24 hE24 hB4 hz24
        replace hX := hX.mine hE24 hl4
        replace hB3 := hB3.ext hE24 (fun h => by omega); replace hB5 := hB5.ext hE24 (fun h => by omega); replace hB7 := hB7.ext hE24 (fun h => by omega)
        replace hW := hW.mine hE24 hwm4
        replace hD := hD.box hE24 hBo
        refine wl_nil ?_
        refine W_ret ?_
        refine hD.leave fun B hB => ?_
        have hB3 := hB3.ext hB (hD.ne hB3)
        have hB4 := hB4.ext hB (hD.ne hB4)
        have hB5 := hB5.ext hB (hD.ne hB5)
        have hB7 := hB7.ext hB (hD.ne hB7)
        have hX := hD.out hX hB
        exact ⟨_, resR1 (res1_cell p_4 rfl hB4), hX, rfl⟩
end Go.Proofs.YtfdfphaiefbflaaDoorC
