/- Filters of the program; the law TopicEach. -/
import Derived.Test.YthcclgoidchkdaaDoorTop1
set_option linter.unusedVariables false
set_option linter.unusedSimpArgs false
set_option maxRecDepth 100000
namespace Go.Proofs.YthcclgoidchkdaaDoorC
open Go.RowKit
theorem cs_name : (Tryd.f213.name == "runtime.NumGoroutine") = false := by kernel_rfl
theorem cs_body : Tryd.f213.body.isNone = true := by kernel_rfl
theorem cs_next : Extern.findNext Tryd.f213 = none := by kernel_rfl
theorem cs_find : Extern.find Tryd.f213 = some Extern.BytealgCount.count := by kernel_rfl
theorem cbs : CB Tryd.prog 213 := ⟨_, Tryd.func213, cs_name, cs_body, cs_next, cs_find⟩
theorem sized_eq (s : Str) : sizedB s = (decide (s ≠ []) && (decide ((s.length : Int) ≤ 32) && decide (fi s 0 < 0))) := by
  unfold sizedB
  have h1 : decide ((s.length : Int) ≤ 32) = decide (s.length ≤ 32) := decide_eq_decide.2 (by omega)
  have h2 : decide (fi s 0 < 0) = decide (¬ (0 : UInt8) ∈ s) := decide_eq_decide.2 (by rw [← fi_ge s 0]; omega)
  rw [h1, h2, Bool.and_assoc]
-- bellman/topic.sized
theorem tsized_ok (w : World) (s : Str) : Fn Tryd.prog 124 #[Sv s] w fun u w' => u = .bool (sizedB s) := by
  have hX := Ext.refl Non w
  refine fn_of_W (args := [_]) Tryd.func124 rfl (by kernel_rfl) rfl ?_
  refine W_seq ?_
  refine W_region ?_
  refine wl_val (rn_assign (by conv => lhs; whnf)) ?_
  refine wl_nil ?_
  refine W_seq ?_
  refine W_region ?_
  refine wl_val (rn_move (by conv => lhs; whnf)) ?_
  refine wl_val (rn_sneq rfl rfl) ?_
  refine wl_val (rn_move (by conv => lhs; whnf)) ?_
  refine wl_split (d := 5) rfl (fun hg5 => ?_) (fun hg5 => ?_)
  · refine wl_yes rfl (congrArg Value.bool hg5) ?_
    refine wl_val (rn_move (by conv => lhs; whnf)) ?_
    refine wl_yes rfl (congrArg Value.bool hg5) ?_
    refine wl_val (rn_slen us_9 rfl) ?_
    refine wl_yes rfl (congrArg Value.bool hg5) ?_
    refine wl_val (rn_leq rfl rfl) ?_
    refine wl_val (rn_pickT (congrArg Value.bool hg5) (by conv => lhs; whnf)) ?_
    refine wl_val (rn_move (by conv => lhs; whnf)) ?_
    refine wl_split (d := 10) rfl (fun hg10 => ?_) (fun hg10 => ?_)
    · refine wl_yes rfl (congrArg Value.bool hg10) ?_
      refine wl_val (rn_move (by conv => lhs; whnf)) ?_
      refine wl_yes rfl (congrArg Value.bool hg10) ?_
      refine wl_call e_157 rfl (sindexByte_ok w s 0) ?_; intro v12 w1 hE1 hR1
      replace hX := hX.tr hE1
      subst hR1
      refine wl_yes rfl (congrArg Value.bool hg10) ?_
      refine wl_val (rn_lss rfl rfl) ?_
      refine wl_val (rn_pickT (congrArg Value.bool hg10) (by conv => lhs; whnf)) ?_
      refine wl_val (rn_assign (by conv => lhs; whnf)) ?_
      refine wl_nil ?_
      refine W_ret ?_
      exact ⟨_, resR1 (res1_tmp rfl), hX, by rw [sized_eq, hg5, hg10]; rfl⟩
    · refine wl_no rfl (congrArg Value.bool hg10) ?_
      refine wl_no rfl (congrArg Value.bool hg10) ?_
      refine wl_no rfl (congrArg Value.bool hg10) ?_
      refine wl_val (rn_pickF (congrArg Value.bool hg10) (by conv => lhs; whnf)) ?_
      refine wl_val (rn_assign (by conv => lhs; whnf)) ?_
      refine wl_nil ?_
      refine W_ret ?_
      exact ⟨_, resR1 (res1_tmp rfl), hX, by rw [sized_eq, hg5, hg10]; rfl⟩
  · refine wl_no rfl (congrArg Value.bool hg5) ?_
    refine wl_no rfl (congrArg Value.bool hg5) ?_
    refine wl_no rfl (congrArg Value.bool hg5) ?_
    refine wl_val (rn_pickF (congrArg Value.bool hg5) (by conv => lhs; whnf)) ?_
    refine wl_val (rn_move (by conv => lhs; whnf)) ?_
    refine wl_no rfl rfl ?_
    refine wl_no rfl rfl ?_
    refine wl_no rfl rfl ?_
    refine wl_val (rn_pickF rfl (by conv => lhs; whnf)) ?_
    refine wl_val (rn_assign (by conv => lhs; whnf)) ?_
    refine wl_nil ?_
    refine W_ret ?_
    exact ⟨_, resR1 (res1_tmp rfl), hX, by rw [sized_eq, hg5]; rfl⟩
-- strings.Count
set_option maxHeartbeats 1000000 in
theorem scount_ok (w : World) (s : Str) (c : UInt8) : Fn Tryd.prog 180 #[Sv s, Sv [c]] w fun u w' => u = .int .i64 (s.count c : Nat) := by
  have hX := Ext.refl Non w
  refine fn_of_W (args := [_, _]) Tryd.func180 rfl (by kernel_rfl) rfl ?_
  refine W_seq ?_
  refine W_region ?_
  refine wl_val (rn_assign (by conv => lhs; whnf)) ?_
  refine wl_nil ?_
  refine W_seq ?_
  refine W_seq ?_
  refine W_region ?_
  refine wl_val (rn_move (by conv => lhs; whnf)) ?_
  refine wl_val (rn_slen us_9 rfl) ?_
  refine wl_val (rn_eql rfl rfl) ?_
  refine wl_nil ?_
  refine W_cond rfl (fun hc0 => ?_) (fun hc0 => ?_)
  · exact absurd (of_decide_eq_true hc0) (by simp)
  · refine W_skip ?_
    refine W_seq ?_
    refine W_seq ?_
    refine W_region ?_
    refine wl_val (rn_move (by conv => lhs; whnf)) ?_
    refine wl_val (rn_slen us_9 rfl) ?_
    refine wl_val (rn_eql rfl rfl) ?_
    refine wl_nil ?_
    refine W_cond rfl (fun hc1 => ?_) (fun hc1 => ?_)
    · refine W_seq ?_
      refine W_region ?_
      refine wl_val (rn_move (by conv => lhs; whnf)) ?_
      refine wl_val (rn_move (by conv => lhs; whnf)) ?_
      refine wl_val (rn_sindex us_9 rfl rfl (by omega) rfl) ?_
      refine wl_val (P := Tryd.prog) (op := .call ⟨.value (.func 213), #[.tmp 16, .tmp 18], #[9, 5]⟩) (v := .int .i64 (s.count c : Nat)) (rn_countString (s := s) (c := c) cbs rfl rfl) ?_
      refine wl_val (rn_assign (by conv => lhs; whnf)) ?_
      refine wl_nil ?_
      refine W_ret ?_
      exact ⟨_, resR1 (res1_tmp rfl), hX, rfl⟩
    · exact absurd (of_decide_eq_false hc1) (by simp)
-- bellman/topic.Depth
theorem tdepth_ok (w : World) (s : Str) (hn : s.length ≤ 1000000) : Fn Tryd.prog 200 #[Sv s] w fun u w' => u = .int .i64 ((spl 47 s).length : Nat) := by
  have hcl := List.count_le_length (a := (47 : UInt8)) (l := s)
  have hX := Ext.refl Non w
  refine fn_of_W (args := [_]) Tryd.func200 rfl (by kernel_rfl) rfl ?_
  refine W_seq ?_
  refine W_region ?_
  refine wl_val (rn_assign (by conv => lhs; whnf)) ?_
  refine wl_nil ?_
  refine W_seq ?_
  refine W_region ?_
  refine wl_val (rn_move (by conv => lhs; whnf)) ?_
  refine wl_call e_180 rfl (scount_ok w s 47) ?_; intro v4 w1 hE1 hR1
  replace hX := hX.tr hE1
  subst hR1
  refine wl_val (rn_add rfl rfl (by omega)) ?_
  refine wl_val (rn_assign (by conv => lhs; whnf)) ?_
  refine wl_nil ?_
  refine W_ret ?_
  exact ⟨_, resR1 (res1_tmp rfl), hX, by rw [spl_len]; rfl⟩
-- bellman/topic.Filter
set_option maxHeartbeats 1600000 in
theorem tfilter_ok (w : World) (s : Str) (hn : s.length ≤ 1000000) : Fn Tryd.prog 165 #[Sv s] w fun u w' => u = .bool (filterB s) := by
  have hsl := spl_len_le 47 s
  have hX := Ext.refl Non w
  refine fn_of_W (args := [_]) Tryd.func165 rfl (by kernel_rfl) rfl ?_
  refine W_seq ?_
  refine W_region ?_
  refine wl_alloc z_4 ?_; intro b2 w1 hb2 hE1 hB2
  have hq2 : w.heap.size ≤ b2 := Nat.le_trans hX.size hb2
  have hl2 : Mine Non w b2 := .inr hq2
  replace hX := hX.tr hE1
  refine wl_nil ?_
  refine W_seq ?_
  refine W_seq ?_
  refine W_region ?_
  refine wl_val (rn_move (by conv => lhs; whnf)) ?_
  refine wl_call e_124 rfl (tsized_ok w1 s) ?_; intro v7 w2 hE2 hR2
  replace hX := hX.tr hE2
  replace hB2 := hB2.ext hE2 id
  subst hR2
  refine wl_val (rn_not rfl) ?_
  refine wl_nil ?_
  refine W_cond rfl (fun hc0 => ?_) (fun hc0 => ?_)
  · have hz : sizedB s = false := by simpa using hc0
    refine W_seq ?_
    refine W_region ?_
    refine wl_store1 (b := b2) p_4 rfl (by conv => lhs; whnf) rfl rfl hB2 (Nat.le_of_ble_eq_true rfl) ?_; intro w3 hE3 hB2 hz3
    replace hX := hX.mine hE3 hl2
    refine wl_nil ?_
    refine W_ret ?_
    exact ⟨_, resR1 (res1_cell p_4 rfl hB2), hX, by rw [filter_small hz]⟩
  · have hz : sizedB s = true := by simpa using hc0
    refine W_skip ?_
    refine W_seq ?_
    refine W_region ?_
    refine wl_val (rn_move (by conv => lhs; whnf)) ?_
    refine wl_call e_200 rfl (tdepth_ok w2 s hn) ?_; intro v10 w4 hE4 hR4
    replace hX := hX.tr hE4
    replace hB2 := hB2.ext hE4 id
    subst hR4
    refine wl_val (rn_sub rfl rfl (by omega)) ?_
    refine wl_alloc z_3 ?_; intro b3 w5 hb3 hE5 hB3
    have hn2_3 : b2 < b3 := Nat.lt_of_lt_of_le hB2.lt hb3
    have hq3 : w.heap.size ≤ b3 := Nat.le_trans hX.size hb3
    have hl3 : Mine Non w b3 := .inr hq3
    replace hX := hX.tr hE5
    replace hB2 := hB2.ext hE5 id
    refine wl_store1 (b := b3) p_3 rfl (by conv => lhs; whnf) rfl rfl hB3 (Nat.le_of_ble_eq_true rfl) ?_; intro w6 hE6 hB3 hz6
    replace hX := hX.mine hE6 hl3
    replace hB2 := hB2.ext hE6 (fun h => by omega)
    refine wl_nil ?_
    refine W_seq ?_
    refine W_seq ?_
    refine W_region ?_
    refine wl_val (rn_move (by conv => lhs; whnf)) ?_
    refine wl_call e_201 rfl (each_ok w6 s (fun i => i = b2) (fun i e => by rw [e]; exact hB2.lt) hn) ?_; intro v13 w7 hE7 hR7
    replace hX := hX.tr hE7
    replace hB2 := hB2.ext hE7 id; replace hB3 := hB3.ext hE7 id
    have hIt := hR7; obtain ⟨fk, ck, hfk, _⟩ := id hIt; subst hfk
    obtain ⟨wa, hwa⟩ : ∃ x, x = w7 := ⟨_, rfl⟩
    have hW : Ext (fun i => i = b2) wa w7 := by rw [hwa]; exact Ext.refl _ _
    have hIt2 := hIt; rw [← hwa] at hIt2; have hz2 : b2 < wa.heap.size := by rw [hwa]; exact hB2.lt
    refine wl_nil ?_
    refine W_block ?_   -- block 0
    have hszr := hX.size
    have hsz_hW := hW.size
    have ho2 : w.heap.size ≤ b2 := by rcases hl2 with h | h; exact h.elim; exact h
    have ho3 : w.heap.size ≤ b3 := by rcases hl3 with h | h; exact h.elim; exact h
    refine W_rangeFunc (M := fun i => i = b2) (w0 := wa) (I := fun pre N A => Box N A b2 [.bool false] ∧ Box N A b3 [.int .i64 (((spl 47 s).length : Int) - 1)] ∧ Ext Non w A ∧ Ext (fun i => i = b2) wa A ∧ MkN w [] N A ∧ (∀ (j : Nat) l, j < pre.length → (spl 47 s)[j]? = some l → levOk (decide (j + 1 = (spl 47 s).length)) l = true)) (X := fun c N A => c = .ret ∧ Box N A b2 [.bool false] ∧ Ext Non w A ∧ Ext (fun i => i = b2) wa A ∧ MkN w [] N A ∧ (filterB s = false)) (encs := fun p : Nat × Str => [.int .i64 (p.1 : Nat), Sv p.2]) (xs := numb (spl 47 s)) rfl (hIt2) (hW) (fun _ => rfl) (fun pre => (Stab.box _ _).and ((Stab.box _ _).and ((Stab.old hX.size).and ((Stab.oldM hW.size).and ((Stab.mk _ _).and ((Stab.pure _))))))) (fun c => (Stab.pure _).and ((Stab.box _ _).and ((Stab.old hX.size).and ((Stab.oldM hW.size).and ((Stab.mk _ _).and ((Stab.pure _))))))) ⟨⟨hB2, id⟩, ⟨hB3, id⟩, hX, hW, (Mk.nil : Mk w [] _).toN, fun j l h => absurd h (Nat.not_lt_zero _)⟩ ?_ ?_ ?_
    · rintro l N pre x A hl hN hA hst ⟨hK2, hK3, hXo, hW, hDk, hIr⟩ ⟨post, hpre⟩
      have hB2 := hK2.1; have hl2 : Mine (Yc (fun i => i = b2) wa N) A b2 := .inl ⟨hK2.2, .inl rfl⟩
      have hB3 := hK3.1
      have hX := Ext.refl (Yc (fun i => i = b2) wa N) A
      refine W_seq ?_
      refine W_region ?_
      refine wl_val (rn_assign (by conv => lhs; whnf)) ?_
      refine wl_nil ?_
      refine W_region ?_
      refine wl_val (rn_assign (by conv => lhs; whnf)) ?_
      refine wl_nil ?_
      refine ⟨rfl, hX, fun A2 hE2r hz2r hst2 => ?_⟩
      have hNl := (hN l hl).2
      replace hB2 := hB2.ext hE2r (fun e => hK2.2 (by rw [e]; exact hl))
      replace hB3 := hB3.ext hE2r (fun e => hK3.2 (by rw [e]; exact hl))
      replace hXo := hXo.mine hE2r (.inr (Nat.le_trans hszr (hN l hl).1)); replace hDk := hDk.lp hE2r hl
      replace hW := hW.mine hE2r (.inr (Nat.le_trans hsz_hW (hN l hl).1))
      have hl2 : Mine (Yc (fun i => i = b2) wa N) A2 b2 := .inl ⟨hK2.2, .inl rfl⟩
      have hX := Ext.refl (Yc (fun i => i = b2) wa N) A2
      obtain ⟨hxi, hxl, hxp⟩ := numb_at (i := x.1) (x := x.2) (post := post) (pre := pre) (by rw [hpre])
      have hxlt := (List.getElem?_eq_some_iff.1 hxl).1
      refine W_block ?_   -- block 1
      refine W_block ?_   -- block 2
      refine W_seq ?_
      refine W_region ?_
      refine wl_val (rn_move (by conv => lhs; whnf)) ?_
      refine wl_call e_202 rfl (scontains_ok A2 x.2 35) ?_; intro v18 w8 hE8 hR8
      replace hX := hX.tr hE8
      replace hB2 := hB2.ext hE8 id; replace hB3 := hB3.ext hE8 id
      replace hXo := hXo.tr hE8
      replace hDk := hDk.non hE8
      replace hW := hW.tr hE8
      subst hR8
      refine wl_val (rn_assign (by conv => lhs; whnf)) ?_
      refine wl_nil ?_
      refine W_cond rfl (fun hc1 => ?_) (fun hc1 => ?_)
      · have q35 : (35 : UInt8) ∈ x.2 := of_decide_eq_true hc1
        refine W_seq ?_
        refine W_region ?_
        refine wl_val (rn_move (by conv => lhs; whnf)) ?_
        refine wl_val (rn_sneq rfl rfl) ?_
        refine wl_val (rn_move (by conv => lhs; whnf)) ?_
        refine wl_split (d := 21) rfl (fun hg21 => ?_) (fun hg21 => ?_)
        · have hR : filterB s = false := filter_no hxl (levOk_b q35 (by simpa using of_decide_eq_true hg21))
          refine wl_no rfl (congrArg Value.bool hg21) ?_
          refine wl_no rfl (congrArg Value.bool hg21) ?_
          refine wl_no rfl (congrArg Value.bool hg21) ?_
          refine wl_val (rn_pickT (congrArg Value.bool hg21) (by conv => lhs; whnf)) ?_
          refine wl_nil ?_
          refine W_condT rfl ?_
          refine W_seq ?_
          refine W_region ?_
          have hBo := hB2
          refine wl_store1 (b := b2) p_4 rfl (by conv => lhs; whnf) rfl rfl hB2 (Nat.le_of_ble_eq_true rfl) ?_; intro w9 hE9 hB2 hz9
          replace hX := hX.mine hE9 hl2
          replace hB3 := hB3.ext hE9 (fun h => by omega)
          replace hXo := hXo.mine hE9 (.inr ho2)
          replace hDk := hDk.box hE9 hBo
          replace hW := hW.mine hE9 (.inl rfl)
          refine wl_nil ?_
          refine W_ret ?_
          exact ⟨hX, rfl, ⟨hB2, hK2.2⟩, hXo, hW, hDk, hR⟩
        · have qh : x.2 = [35] := by simpa using of_decide_eq_false hg21
          refine wl_yes rfl (congrArg Value.bool hg21) ?_
          refine wl_val (rn_move (by conv => lhs; whnf)) ?_
          refine wl_yes rfl (congrArg Value.bool hg21) ?_
          refine wl_val (rn_load1 p_3 rfl hB3 rfl) ?_
          refine wl_yes rfl (congrArg Value.bool hg21) ?_
          refine wl_val (rn_neq rfl rfl) ?_
          refine wl_val (rn_pickF (congrArg Value.bool hg21) (by conv => lhs; whnf)) ?_
          refine wl_nil ?_
          refine W_cond rfl (fun hc2 => ?_) (fun hc2 => ?_)
          · have hR : filterB s = false := filter_no hxl (by rw [levOk_c qh]; have := of_decide_eq_true hc2; exact decide_eq_false (by omega))
            refine W_seq ?_
            refine W_region ?_
            have hBo := hB2
            refine wl_store1 (b := b2) p_4 rfl (by conv => lhs; whnf) rfl rfl hB2 (Nat.le_of_ble_eq_true rfl) ?_; intro w10 hE10 hB2 hz10
            replace hX := hX.mine hE10 hl2
            replace hB3 := hB3.ext hE10 (fun h => by omega)
            replace hXo := hXo.mine hE10 (.inr ho2)
            replace hDk := hDk.box hE10 hBo
            replace hW := hW.mine hE10 (.inl rfl)
            refine wl_nil ?_
            refine W_ret ?_
            exact ⟨hX, rfl, ⟨hB2, hK2.2⟩, hXo, hW, hDk, hR⟩
          · have hok : levOk (decide (x.1 + 1 = (spl 47 s).length)) x.2 = true := by rw [levOk_c qh]; have := of_decide_eq_false hc2; exact decide_eq_true (by omega)
            refine W_skip ?_
            exact ⟨hX, ⟨hB2, hK2.2⟩, ⟨hB3, hK3.2⟩, hXo, hW, hDk, (fun j l hj h2 => by rw [List.length_append, List.length_singleton] at hj; rcases Nat.lt_or_ge j pre.length with h | h; exact hIr j l h h2; (have e : j = x.1 := by omega); subst e; rw [hxl] at h2; cases h2; exact hok)⟩
      · have q35 : ¬ (35 : UInt8) ∈ x.2 := of_decide_eq_false hc1
        refine W_seq ?_
        refine W_region ?_
        refine wl_val (rn_move (by conv => lhs; whnf)) ?_
        refine wl_call e_202 rfl (scontains_ok w8 x.2 43) ?_; intro v28 w11 hE11 hR11
        replace hX := hX.tr hE11
        replace hB2 := hB2.ext hE11 id; replace hB3 := hB3.ext hE11 id
        replace hXo := hXo.tr hE11
        replace hDk := hDk.non hE11
        replace hW := hW.tr hE11
        subst hR11
        refine wl_val (rn_move (by conv => lhs; whnf)) ?_
        refine wl_split (d := 29) rfl (fun hg29 => ?_) (fun hg29 => ?_)
        · have q43 : (43 : UInt8) ∈ x.2 := of_decide_eq_true hg29
          refine wl_yes rfl (congrArg Value.bool hg29) ?_
          refine wl_val (rn_move (by conv => lhs; whnf)) ?_
          refine wl_yes rfl (congrArg Value.bool hg29) ?_
          refine wl_val (rn_sneq rfl rfl) ?_
          refine wl_val (rn_pickT (congrArg Value.bool hg29) (by conv => lhs; whnf)) ?_
          refine wl_val (rn_assign (by conv => lhs; whnf)) ?_
          refine wl_nil ?_
          refine W_cond rfl (fun hc3 => ?_) (fun hc3 => ?_)
          · have hR : filterB s = false := filter_no hxl (levOk_a q43 (by simpa using of_decide_eq_true hc3))
            refine W_seq ?_
            refine W_region ?_
            have hBo := hB2
            refine wl_store1 (b := b2) p_4 rfl (by conv => lhs; whnf) rfl rfl hB2 (Nat.le_of_ble_eq_true rfl) ?_; intro w12 hE12 hB2 hz12
            replace hX := hX.mine hE12 hl2
            replace hB3 := hB3.ext hE12 (fun h => by omega)
            replace hXo := hXo.mine hE12 (.inr ho2)
            replace hDk := hDk.box hE12 hBo
            replace hW := hW.mine hE12 (.inl rfl)
            refine wl_nil ?_
            refine W_ret ?_
            exact ⟨hX, rfl, ⟨hB2, hK2.2⟩, hXo, hW, hDk, hR⟩
          · have hok : levOk (decide (x.1 + 1 = (spl 47 s).length)) x.2 = true := levOk_d q35 (fun _ => by simpa using of_decide_eq_false hc3)
            refine W_skip ?_
            exact ⟨hX, ⟨hB2, hK2.2⟩, ⟨hB3, hK3.2⟩, hXo, hW, hDk, (fun j l hj h2 => by rw [List.length_append, List.length_singleton] at hj; rcases Nat.lt_or_ge j pre.length with h | h; exact hIr j l h h2; (have e : j = x.1 := by omega); subst e; rw [hxl] at h2; cases h2; exact hok)⟩
        · have hok : levOk (decide (x.1 + 1 = (spl 47 s).length)) x.2 = true := levOk_d q35 (fun h => absurd h (of_decide_eq_false hg29))
          refine wl_no rfl (congrArg Value.bool hg29) ?_
          refine wl_no rfl (congrArg Value.bool hg29) ?_
          refine wl_val (rn_pickF (congrArg Value.bool hg29) (by conv => lhs; whnf)) ?_
          refine wl_val (rn_assign (by conv => lhs; whnf)) ?_
          refine wl_nil ?_
          refine W_condF rfl ?_
          refine W_skip ?_
          exact ⟨hX, ⟨hB2, hK2.2⟩, ⟨hB3, hK3.2⟩, hXo, hW, hDk, (fun j l hj h2 => by rw [List.length_append, List.length_singleton] at hj; rcases Nat.lt_or_ge j pre.length with h | h; exact hIr j l h h2; (have e : j = x.1 := by omega); subst e; rw [hxl] at h2; cases h2; exact hok)⟩
    · rintro N rk w' ⟨hK2, hK3, hXo, hW, hDk, hIr⟩ hN hA hr hrd
      have hB2 := hK2.1
      have hB3 := hK3.1
      have hX := hXo; have hD := hDk.add hrd (Nat.le_trans hszr (hN rk hr).1) hr
      refine W_seq ?_
      refine W_region ?_
      have hBo := hB2
      refine wl_store1 (b := b2) p_4 rfl (by conv => lhs; whnf) rfl rfl hB2 (Nat.le_of_ble_eq_true rfl) ?_; intro w13 hE13 hB2 hz13
      replace hX := hX.mine hE13 hl2
      replace hB3 := hB3.ext hE13 (fun h => by omega)
      replace hD := hD.box hE13 hBo
      refine wl_nil ?_
      refine W_ret ?_
      refine hD.leave fun B hB => ?_
      have hB2 := hB2.ext hB (hD.ne hB2)
      have hB3 := hB3.ext hB (hD.ne hB3)
      have hX := hD.out hX hB
      exact ⟨_, resR1 (res1_cell p_4 rfl hB2), hX, by rw [filter_yes hz (fun j l h2 => hIr j l (by rw [numb_len]; exact (List.getElem?_eq_some_iff.1 h2).1) h2)]⟩
    · rintro c N rk w' ⟨rfl, hK2, hXo, hW, hDk, hIr⟩ hN hA hr hrd
      have hB2 := hK2.1
      have hX := hXo; have hD := hDk.add hrd (Nat.le_trans hszr (hN rk hr).1) hr
      refine W_ret ?_
      refine hD.leave fun B hB => ?_
      have hB2 := hB2.ext hB (hD.ne hB2)
      have hX := hD.out hX hB
      exact ⟨_, resR1 (res1_cell p_4 rfl hB2), hX, by rw [hIr]⟩
-- bellman/bellmanref01.Long
theorem long2_ok (w : World) (s : Str) : Fn Tryd.prog 32 #[Sv s] w fun u w' => u = .bool (decide ((s.length : Int) > 300)) := by
  have hX := Ext.refl Non w
  refine fn_of_W (args := [_]) Tryd.func32 rfl (by kernel_rfl) rfl ?_
  refine W_seq ?_
  refine W_region ?_
  refine wl_val (rn_assign (by conv => lhs; whnf)) ?_
  refine wl_nil ?_
  refine W_seq ?_
  refine W_region ?_
  refine wl_val (rn_move (by conv => lhs; whnf)) ?_
  refine wl_val (rn_slen us_9 rfl) ?_
  refine wl_val (rn_gtr rfl rfl) ?_
  refine wl_val (rn_assign (by conv => lhs; whnf)) ?_
  refine wl_nil ?_
  refine W_ret ?_
  exact ⟨_, resR1 (res1_tmp rfl), hX, rfl⟩
end Go.Proofs.YthcclgoidchkdaaDoorC
