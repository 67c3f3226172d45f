/- A script's lines: threads, operations, picks. -/
import Derived.Test.YthcclgoidchkdaaGreatDoorBunZ8
import Derived.Test.YthcclgoidchkdaaGreatDoorBunZ5
set_option linter.unusedVariables false
set_option linter.unusedSimpArgs false
set_option maxRecDepth 100000
namespace Go.Proofs.YthcclgoidchkdaaGreatDoorC
open Go.RowKit
theorem words_line {x : OpD} (h : plainR x = true) : ∃ t, spl 32 (lineR x) = nameR x :: t ∧ ¬ nameR x = sPicks ∧ ¬ nameR x = sThread := by
  have hp := (plain_iff x).1 h
  have hn := name_nb x
  have hi := itoa_nb' x.sub
  have hw : ∀ a ∈ wordsR x, ¬ (32 : UInt8) ∈ a := by
    intro a ha
    unfold wordsR at ha
    split at ha
    · simp only [List.mem_cons, List.not_mem_nil, or_false] at ha
      rcases ha with rfl | rfl | rfl; exact hn; exact wordR_nb _; exact wordR_nb _
    · split at ha
      · simp only [List.mem_cons, List.not_mem_nil, or_false] at ha
        rcases ha with rfl | rfl | rfl; exact hn; exact hi; exact wordR_nb _
      · simp only [List.mem_cons, List.not_mem_nil, or_false] at ha
        rcases ha with rfl | rfl; exact hn; exact hi
  have hne : wordsR x ≠ [] := by unfold wordsR; (repeat' split) <;> simp
  have hs := spl_join _ hne hw
  change spl 32 (lineR x) = _ at hs
  have h1 : ∃ t, wordsR x = nameR x :: t := by unfold wordsR; (repeat' split) <;> exact ⟨_, rfl⟩
  obtain ⟨t, ht⟩ := h1
  refine ⟨t, by rw [hs, ht], ?_, ?_⟩
  · unfold nameR; (repeat' split) <;> decide
  · unfold nameR; (repeat' split) <;> decide
theorem rows_set (ini : List (Value × List OpD)) (pv v' : Value) (pt : List OpD) : ((ini ++ (some (pv, pt)).toList).map fun p => [p.1]).set ini.length [v'] = (ini.map fun p => [p.1]) ++ [[v']] := by
  rw [List.map_append]
  simp
-- (*bellman/script.reader).line
set_option maxHeartbeats 1600000 in
theorem lineT_ok (w : World) (X : Nat → Prop) (b0 : Nat) (r : ScS) {vT vP : Value} {oT oP oL : Option Nat} {ini : List (Value × List OpD)} {lst : Option (Value × List OpD)} (h : RdP X w b0 r vT vP oT oP oL ini lst) (hXo : ∀ i, X i → i < w.heap.size) (hat : r.at_ ≤ 1000000) (hc : Cmd.thread.ok r) (B : Nat) (hBD : ∀ i, Dy b0 oT oP oL i → B ≤ i) (hG : ∃ g, Tryz.prog.globalNamed "internal/strconv.uint64pow10" = some g ∧ g < B) (h1B : errN < B) (hTb : Tab w) (hR : ErrS w) : FnM Tryz.prog (Dy b0 oT oP oL) 64 #[.pointer (some ⟨b0, 0, none⟩), Sv sThread] w fun u w' => u = .int .i64 0 ∧ RdN X w' b0 (Cmd.thread.app r) w.heap.size (Dy b0 oT oP oL) := by
  have hB0 := h.box
  have hl0 : Mine (Dy b0 oT oP oL) w b0 := .inl (.inl rfl)
  have htl : r.s.threads.length = (ini ++ lst.toList).length := by rw [h.thr, List.length_map]
  obtain ⟨aT, cT, hvT⟩ := id h.own.len; rw [List.length_map] at hvT; subst hvT
  obtain ⟨hd, ha, hth⟩ := hc
  have hX := Ext.refl (Dy b0 oT oP oL) w
  refine fnM_of_W (args := [_, _]) Tryz.func64 rfl (by kernel_rfl) rfl ?_
  refine W_seq ?_
  refine W_region ?_
  refine wl_val (rn_assign (by conv => lhs; whnf)) ?_
  refine wl_nil ?_
  refine W_seq ?_
  refine W_region ?_
  refine wl_val (rn_move (by conv => lhs; whnf)) ?_
  refine wl_val (rn_nilCheck rfl) ?_
  refine wl_val (rn_fieldAddr f_112_1 (by decide) rfl) ?_
  refine wl_val (rn_load1 p_3 rfl hB0 rfl) ?_
  refine wl_val (rn_add rfl rfl (by omega)) ?_
  refine wl_val (rn_nilCheck rfl) ?_
  refine wl_val (rn_fieldAddr f_112_1 (by decide) rfl) ?_
  have hBo := hB0
  refine wl_store1 (b := b0) p_3 rfl (by conv => lhs; whnf) rfl rfl hB0 (Nat.le_of_ble_eq_true rfl) ?_; intro w1 hE1 hB0 hz1
  replace hX := hX.mine hE1 hl0
  replace h := h.setBox hE1 hB0 (r' := ⟨r.s, r.at_ + 1, r.done⟩) rfl rfl
  replace hTb := hTb.ext hE1 (B := B) (fun j hj => by subst hj; exact hBD _ (.inl rfl)) hG
  replace hR := hR.ext hE1 (B := B) (fun j hj => by subst hj; exact hBD _ (.inl rfl)) h1B
  refine wl_nil ?_
  refine W_seq ?_
  refine W_region ?_
  refine wl_val (rn_move (by conv => lhs; whnf)) ?_
  refine wl_call e_103 rfl (split_ok w1 sThread (by decide)) ?_; intro v14 w2 hE2 hR2
  replace hX := hX.tr hE2
  replace hB0 := hB0.ext hE2 id
  replace h := h.non hE2
  replace hTb := hTb.non hE2
  replace hR := hR.non hE2
  have hs := hR2; rw [spl_not (show ¬ (32 : UInt8) ∈ sThread by decide)] at hs; obtain ⟨a14, c14, hv14, _⟩ := id hs.len; subst hv14; obtain ⟨bb, oo, ea⟩ := hs.base (by simp); subst ea; simp only [List.length_map] at hs ⊢
  refine wl_val (rn_assign (by conv => lhs; whnf)) ?_
  refine wl_nil ?_
  refine W_seq ?_
  refine W_block ?_   -- block 0
  refine W_seq ?_
  refine W_region ?_
  refine wl_val (rn_move (by conv => lhs; whnf)) ?_
  refine wl_val (rn_nilCheck rfl) ?_
  refine wl_val (rn_fieldAddr f_112_2 (by decide) rfl) ?_
  refine wl_val (rn_load1 p_4 rfl hB0 rfl) ?_
  refine wl_val (rn_assign (by conv => lhs; whnf)) ?_
  refine wl_nil ?_
  refine W_cond rfl (fun hc0 => ?_) (fun hc0 => ?_)
  · exact absurd hc0 (by rw [hd]; decide)
  · refine W_seq ?_
    refine W_region ?_
    refine wl_val (rn_move (by conv => lhs; whnf)) ?_
    refine wl_val (rn_nilCheck rfl) ?_
    refine wl_val (rn_fieldAddr f_112_1 (by decide) rfl) ?_
    refine wl_val (rn_load1 p_3 rfl hB0 rfl) ?_
    refine wl_val (rn_eql rfl rfl) ?_
    refine wl_val (rn_assign (by conv => lhs; whnf)) ?_
    refine wl_nil ?_
    refine W_cond rfl (fun hc1 => ?_) (fun hc1 => ?_)
    · exact absurd (of_decide_eq_true hc1) (by omega)
    · refine W_seq ?_
      refine W_region ?_
      refine wl_val (rn_move (by conv => lhs; whnf)) ?_
      refine wl_val (rn_nilCheck rfl) ?_
      refine wl_val (rn_fieldAddr f_112_1 (by decide) rfl) ?_
      refine wl_val (rn_load1 p_3 rfl hB0 rfl) ?_
      refine wl_val (rn_eql rfl rfl) ?_
      refine wl_val (rn_assign (by conv => lhs; whnf)) ?_
      refine wl_nil ?_
      refine W_cond rfl (fun hc2 => ?_) (fun hc2 => ?_)
      · exact absurd (of_decide_eq_true hc2) (by omega)
      · refine W_seq ?_
        refine W_region ?_
        refine wl_val (rn_move (by conv => lhs; whnf)) ?_
        refine wl_val (rn_indexAddr sl_22 rfl rfl (by simp)) ?_
        refine wl_val (rn_load p_9 rfl (hs.at0 (eS_at (i := 0) rfl) rfl)) ?_
        refine wl_val (rn_seql rfl rfl) ?_
        refine wl_val (rn_assign (by conv => lhs; whnf)) ?_
        refine wl_nil ?_
        refine W_cond rfl (fun hc3 => ?_) (fun hc3 => ?_)
        · exact absurd (of_decide_eq_true hc3) (by decide)
        · refine W_seq ?_
          refine W_region ?_
          refine wl_val (rn_move (by conv => lhs; whnf)) ?_
          refine wl_val (rn_indexAddr sl_22 rfl rfl (by simp)) ?_
          refine wl_val (rn_load p_9 rfl (hs.at0 (eS_at (i := 0) rfl) rfl)) ?_
          refine wl_val (rn_seql rfl rfl) ?_
          refine wl_val (rn_assign (by conv => lhs; whnf)) ?_
          refine wl_nil ?_
          refine W_cond rfl (fun hc4 => ?_) (fun hc4 => ?_)
          · refine W_seq ?_
            refine W_seq ?_
            refine W_region ?_
            refine wl_val (rn_move (by conv => lhs; whnf)) ?_
            refine wl_val (rn_len sl_22 rfl) ?_
            refine wl_val (rn_gtr rfl rfl) ?_
            refine wl_val (rn_move (by conv => lhs; whnf)) ?_
            refine wl_split (d := 61) rfl (fun hg61 => ?_) (fun hg61 => ?_)
            · exact absurd (of_decide_eq_true hg61) (by simp)
            · refine wl_yes rfl (congrArg Value.bool hg61) ?_
              refine wl_val (rn_move (by conv => lhs; whnf)) ?_
              refine wl_yes rfl (congrArg Value.bool hg61) ?_
              refine wl_val (rn_nilCheck rfl) ?_
              refine wl_yes rfl (congrArg Value.bool hg61) ?_
              refine wl_val (rn_fieldAddr f_112_0 (by decide) rfl) ?_
              refine wl_yes rfl (congrArg Value.bool hg61) ?_
              refine wl_val (rn_fieldAddr f_72_2 (by decide) rfl) ?_
              refine wl_yes rfl (congrArg Value.bool hg61) ?_
              refine wl_val (rn_load1 p_70 rfl hB0 rfl) ?_
              refine wl_yes rfl (congrArg Value.bool hg61) ?_
              refine wl_val (rn_len sl_70 rfl) ?_
              refine wl_yes rfl (congrArg Value.bool hg61) ?_
              refine wl_val (rn_geq rfl rfl) ?_
              refine wl_val (rn_pickF (congrArg Value.bool hg61) (by conv => lhs; whnf)) ?_
              refine wl_nil ?_
              refine W_cond rfl (fun hc5 => ?_) (fun hc5 => ?_)
              · exact absurd (of_decide_eq_true hc5) (by omega)
              · refine W_skip ?_
                refine W_seq ?_
                refine W_region ?_
                refine wl_val (rn_move (by conv => lhs; whnf)) ?_
                refine wl_val (rn_move (by conv => lhs; whnf)) ?_
                refine wl_val (rn_nilCheck rfl) ?_
                refine wl_val (rn_fieldAddr f_112_0 (by decide) rfl) ?_
                refine wl_val (rn_fieldAddr f_72_2 (by decide) rfl) ?_
                refine wl_val (rn_load1 p_70 rfl hB0 rfl) ?_
                refine wl_lit1 (r := [.slice none 0 0]) sl_70 rfl rfl rfl rfl (by decide) ?_; intro v76 w3 b76 hb76 hE3 hO76
                replace hX := hX.tr hE3
                replace hB0 := hB0.ext hE3 id
                replace h := h.non hE3
                replace hTb := hTb.non hE3
                replace hR := hR.non hE3
                replace hs := hs.ext hE3 (fun _ h => h.elim)
                have hXz := hX.size
                have hBlt := hB0.lt
                refine wl_app sl_70 rfl rfl rfl h.own (hO76.sl (M := Non) id) (fun r hr => by simp only [List.mem_singleton] at hr; subst hr; exact one1 rfl) (by simp only [List.length_map, List.length_append, List.length_cons, List.length_nil]; rw [← List.length_append, ← htl]; omega) (by simp only [List.length_map, List.length_append, List.length_cons, List.length_nil, big]; rw [← List.length_append, ← htl]; omega) ?_; intro v77 w4 o77 hE4 hO77 hf77
                have hEa := hE4
                replace hB0 := hB0.ext hE4 (fun e => (h.neT _ e).1 rfl)
                replace hX := hX.mineO hE4 (fun j hj => .inl (.inr (.inl hj)))
                obtain ⟨a77, c77, hv77⟩ := id hO77.len; subst hv77
                refine wl_val (rn_nilCheck rfl) ?_
                refine wl_val (rn_fieldAddr f_112_0 (by decide) rfl) ?_
                refine wl_val (rn_fieldAddr f_72_2 (by decide) rfl) ?_
                refine wl_store1 (b := b0) p_70 rfl rfl rfl rfl hB0 (Nat.le_of_ble_eq_true rfl) ?_; intro w5 hE5 hB0 hz5
                replace hX := hX.mine hE5 hl0
                have hEb := hE5
                refine wl_nil ?_
                refine W_seq ?_
                refine W_region ?_
                refine wl_val (rn_assign (by conv => lhs; whnf)) ?_
                refine wl_nil ?_
                refine W_ret ?_
                exact ⟨_, resR1 (res1_tmp rfl), hX, ⟨rfl, _, _, _, _, _, _, _, h.thread (fun i hi => Nat.lt_of_lt_of_le (hXo i hi) hXz) hEa hO77 hf77 hEb (r' := Cmd.thread.app r) hB0 rfl rfl, fun i hi => by rcases hi with hi | hi | hi | hi; exact .inl (.inl hi); (rcases hf77 i hi with q | q; exact .inl (.inr (.inl q)); exact .inr (Nat.le_trans hXz q)); exact .inl (.inr (.inr (.inl hi))); cases hi⟩⟩
          · exact absurd rfl (of_decide_eq_false hc4)
-- (*bellman/script.reader).operation
set_option maxHeartbeats 1600000 in
theorem operation_ok (w : World) (X : Nat → Prop) (b0 : Nat) (r : ScS) {vT vP : Value} {oT oP oL : Option Nat} {ini : List (Value × List OpD)} {lst : Option (Value × List OpD)} (h : RdP X w b0 r vT vP oT oP oL ini lst) (hXo : ∀ i, X i → i < w.heap.size) (hat : r.at_ ≤ 1000000) (x : OpD) (hth : r.s.threads ≠ []) (hon : r.s.ops.length < 64) (hxp : plainR x = true) (hxt : x.text.length ≤ 300) (hxl : x.payload.length ≤ 300) (htl4 : r.s.threads.length ≤ 4) (B : Nat) (hBD : ∀ i, Dy b0 oT oP oL i → B ≤ i) (hG : ∃ g, Tryz.prog.globalNamed "internal/strconv.uint64pow10" = some g ∧ g < B) (h1B : errN < B) (hTb : Tab w) (hR : ErrS w) : FnM Tryz.prog (Dy b0 oT oP oL) 106 #[.pointer (some ⟨b0, 0, none⟩), Sv (lineR x)] w fun u w' => u = .int .i64 0 ∧ ∀ r' : ScS, r'.s.subs = r.s.subs → r'.s.cap = r.s.cap → r'.at_ = r.at_ → r'.done = r.done → r'.s.picks = r.s.picks → r'.s.threads = pushOp r.s.threads x → RdN X w' b0 r' w.heap.size (Dy b0 oT oP oL) := by
  have hB0 := h.box
  have hl0 : Mine (Dy b0 oT oP oL) w b0 := .inl (.inl rfl)
  have hll := lineR_len hxp
  obtain ⟨pv, pt, rfl⟩ : ∃ pv pt, lst = some (pv, pt) := by cases hl : lst with | none => (exact absurd (by rw [h.thr, hl, (h.lno hl).1]; rfl) hth) | some p => exact ⟨p.1, p.2, rfl⟩
  obtain ⟨bT, spT, hoT, hW⟩ : ∃ bT spT, oT = some bT ∧ Ow w vT bT 1 ((ini ++ (some (pv, pt)).toList).map fun p => [p.1]) spT := by rcases h.own with ⟨_, e, _⟩ | ⟨bT, spT, e, hW⟩; exact absurd e (by simp); exact ⟨bT, spT, e, hW⟩
  obtain ⟨cT, hvT, hcT⟩ := id hW.val; rw [List.length_map] at hvT; subst hvT
  have htl : r.s.threads.length = ini.length + 1 := by rw [h.thr, List.length_map]; simp
  have hlen : (ini ++ (some (pv, pt)).toList).length = ini.length + 1 := by simp
  skip
  have hX := Ext.refl (Dy b0 oT oP oL) w
  refine fnM_of_W (args := [_, _]) Tryz.func106 rfl (by kernel_rfl) rfl ?_
  refine W_seq ?_
  refine W_region ?_
  refine wl_val (rn_assign (by conv => lhs; whnf)) ?_
  refine wl_nil ?_
  refine W_seq ?_
  refine W_region ?_
  refine wl_val (rn_move (by conv => lhs; whnf)) ?_
  refine wl_call e_154 rfl (parse_ok w (lineR x) (by omega) hTb hR) ?_; intro v10 w1 hE1 hR1
  replace hX := hX.tr hE1
  replace hB0 := hB0.ext hE1 id
  replace h := h.non hE1
  replace hW := hW.ext hE1 id
  replace hTb := hTb.non hE1
  replace hR := hR.non hE1
  subst hR1; rw [parse_line hxp]
  refine wl_val (rn_move (by conv => lhs; whnf)) ?_
  refine wl_val (rn_extract rfl rfl) ?_
  refine wl_val (rn_extract rfl rfl) ?_
  refine wl_alloc z_69 ?_; intro b5 w2 hb5 hE2 hB5
  have hn0_5 : b0 < b5 := Nat.lt_of_lt_of_le hB0.lt hb5
  have hq5 : w.heap.size ≤ b5 := Nat.le_trans hX.size hb5
  have hl5 : Mine (Dy b0 oT oP oL) w b5 := .inr hq5
  have hpre5 := h
  replace hX := hX.tr hE2
  replace hB0 := hB0.ext hE2 id
  replace h := h.non hE2
  replace hW := hW.ext hE2 id
  replace hTb := hTb.non hE2
  replace hR := hR.non hE2
  have hBo := hB5
  refine wl_storeB s_69 rfl rfl rfl (OpD.one x) hB5 rfl ?_; intro w3 hE3 hB5 hz3
  replace hX := hX.mine hE3 hl5
  replace hB0 := hB0.ext hE3 (fun h => by omega)
  replace h := hpre5.non ((hE2.of_non.trans hE3).fresh (fun i hi => by subst hi; exact hb5))
  replace hW := hW.ext hE3 (fun e => by have := hpre5.lt bT (.inr (.inl hoT)); omega)
  replace hTb := hTb.ext hE3 (B := B) (fun j hj => by subst hj; have := hBD b0 (.inl rfl); omega) hG
  replace hR := hR.ext hE3 (B := B) (fun j hj => by subst hj; have := hBD b0 (.inl rfl); omega) h1B
  refine wl_val (rn_assign (by conv => lhs; whnf)) ?_
  refine wl_nil ?_
  refine W_seq ?_
  refine W_seq ?_
  refine W_region ?_
  refine wl_val (rn_move (by conv => lhs; whnf)) ?_
  refine wl_val (rn_neq rfl rfl) ?_
  refine wl_nil ?_
  refine W_cond rfl (fun hc0 => ?_) (fun hc0 => ?_)
  · exact absurd (of_decide_eq_true hc0) (by simp)
  · refine W_skip ?_
    refine W_seq ?_
    refine W_seq ?_
    refine W_region ?_
    refine wl_val (rn_move (by conv => lhs; whnf)) ?_
    refine wl_val (rn_nilCheck rfl) ?_
    refine wl_val (rn_fieldAddr f_112_0 (by decide) rfl) ?_
    refine wl_val (rn_loadS s_72 (vs := [.int .i64 r.s.subs, .int .i64 r.s.cap, .slice (some ⟨bT, 0, none⟩) (ini ++ (some (pv, pt)).toList).length cT, vP]) rfl rfl (hB0.part rfl (Nat.le_of_ble_eq_true rfl))) ?_
    refine wl_call e_26 rfl (merge_ok w3 r.s h.scm (by omega) (by omega)) ?_; intro v20 w4 hE4 hR4
    replace hX := hX.tr hE4
    replace hB0 := hB0.ext hE4 id; replace hB5 := hB5.ext hE4 id
    replace h := h.non hE4
    replace hW := hW.ext hE4 id
    replace hTb := hTb.non hE4
    replace hR := hR.non hE4
    obtain ⟨o20, hO20, _⟩ := hR4
    obtain ⟨a20, c20, hv20⟩ := id hO20.len; rw [List.length_map] at hv20; subst hv20
    refine wl_val (rn_len sl_78 rfl) ?_
    refine wl_val (rn_geq rfl rfl) ?_
    refine wl_nil ?_
    refine W_cond rfl (fun hc1 => ?_) (fun hc1 => ?_)
    · exact absurd (of_decide_eq_true hc1) (by omega)
    · refine W_skip ?_
      refine W_seq ?_
      refine W_drawE mixed ?_; intro w5 hE5
      replace hX := hX.tr hE5
      replace hB0 := hB0.ext hE5 id; replace hB5 := hB5.ext hE5 id
      replace h := h.non hE5
      replace hW := hW.ext hE5 id
      replace hTb := hTb.non hE5
      replace hR := hR.non hE5
      have hS := Ext.refl Non w5
      refine wd_take 0 _ _ rfl (by kernel_rfl) hS (yd_do fun A hA => rn_move (by conv => lhs; whnf)) ?_
      refine wd_take 1 _ _ rfl (by kernel_rfl) hS (yd_do fun A hA => rn_nilCheck rfl) ?_
      refine wd_take 2 _ _ rfl (by kernel_rfl) hS (yd_do fun A hA => rn_fieldAddr f_112_0 (by decide) rfl) ?_
      refine wd_take 3 _ _ rfl (by kernel_rfl) hS (yd_do fun A hA => rn_fieldAddr f_72_2 (by decide) rfl) ?_
      refine wd_take 4 _ _ rfl (by kernel_rfl) hS (yd_do fun A hA => rn_load1 p_70 rfl (hB0.ext hA id) rfl) ?_
      refine wd_take 5 _ _ rfl (by kernel_rfl) hS (yd_do fun A hA => rn_move (by conv => lhs; whnf)) ?_
      refine wd_take 6 _ _ rfl (by kernel_rfl) hS (yd_do fun A hA => rn_nilCheck rfl) ?_
      refine wd_take 7 _ _ rfl (by kernel_rfl) hS (yd_do fun A hA => rn_fieldAddr f_112_0 (by decide) rfl) ?_
      refine wd_take 8 _ _ rfl (by kernel_rfl) hS (yd_do fun A hA => rn_fieldAddr f_72_2 (by decide) rfl) ?_
      refine wd_take 9 _ _ rfl (by kernel_rfl) hS (yd_do fun A hA => rn_load1 p_70 rfl (hB0.ext hA id) rfl) ?_
      refine wd_take 10 _ _ rfl (by kernel_rfl) hS (yd_do fun A hA => rn_len sl_70 rfl) ?_
      refine wd_take 11 _ _ rfl (by kernel_rfl) hS (yd_do fun A hA => Rn.cast (rn_sub rfl rfl (by rw [hlen]; omega)) (v' := .int .i64 (ini.length : Nat)) (congrArg (Value.int .i64) (by rw [hlen]; omega))) ?_
      refine wd_take 12 _ _ rfl (by kernel_rfl) hS (yd_do fun A hA => rn_indexAddr sl_70 rfl rfl (by rw [hlen]; omega)) ?_
      refine wd_take 13 _ _ rfl (by kernel_rfl) hS (yd_do fun A hA => rn_assign (by conv => lhs; whnf)) ?_
      refine wd_done (by kernel_rfl) ?_ _
      replace hX := hX.tr hS
      replace hB0 := hB0.ext hS id; replace hB5 := hB5.ext hS id
      replace h := h.non hS
      replace hW := hW.ext hS id
      replace hTb := hTb.non hS
      replace hR := hR.non hS
      refine W_seq ?_
      refine W_drawX (fun j => j == 0 || j == 1 || j == 2 || j == 6 || j == 7 || j == 8) mixed ?_; intro w6 hE6
      replace hX := hX.tr hE6
      replace hB0 := hB0.ext hE6 id; replace hB5 := hB5.ext hE6 id
      replace h := h.non hE6
      replace hW := hW.ext hE6 id
      replace hTb := hTb.non hE6
      replace hR := hR.non hE6
      have hS := Ext.refl Non w6
      refine wx_takeP 0 _ _ rfl rfl (by kernel_rfl) (yd_do fun A _ => rn_move (by conv => lhs; whnf)) ?_
      refine wx_takeP 1 _ _ rfl rfl (by kernel_rfl) (yd_do fun A _ => rn_move (by conv => lhs; whnf)) ?_
      refine wx_takeP 2 _ _ rfl rfl (by kernel_rfl) (yd_do fun A _ => rn_nilCheck rfl) ?_
      refine wx_takeL 3 [6, 7, 8] _ _ rfl (by kernel_rfl) hS (yd_do fun A hA => rn_load p_78 rfl (((h.own.sl (M := Non) (fun _ _ h => h)).ext hA (fun _ h => h.elim)).at0 (map_at (i := ini.length) (x := (pv, pt)) (by simp)) rfl)) ?_
      refine wx_takeL 4 [5, 6, 7, 8] _ _ rfl (by kernel_rfl) hS (yd_do fun A hA => rn_loadB s_69 rfl rfl (hB5.ext hA id)) ?_
      refine wx_only 5 _ rfl (by kernel_rfl) ?_
      refine s1_do ?_
      refine wl_lit1 (r := x.enc) sl_78 rfl rfl rfl rfl (by decide) ?_; intro v41 w7 b41 hb41 hE7 hO41
      replace hS := hS.tr hE7
      refine wl_nil ⟨fun _ => hS, ?_⟩
      have hptl : pt.length < 64 := by have e : r.s.ops.length = (ini.map (fun p => p.2)).flatten.length + pt.length := (by unfold ScD.ops; rw [h.thr]; simp); omega
      replace hX := hX.tr hS
      replace hB0 := hB0.ext hS id; replace hB5 := hB5.ext hS id
      replace h := h.non hS
      replace hW := hW.ext hS id
      replace hTb := hTb.non hS
      replace hR := hR.non hS
      refine wx_only 6 _ rfl (by kernel_rfl) ?_
      refine s1_do ?_
      have hXz := hX.size
      have hlz := h
      refine wl_app sl_78 rfl rfl rfl (h.lsl _ rfl) (hO41.sl (M := Non) id) (fun r hr => by simp only [List.mem_singleton] at hr; subst hr; exact OpD.one x) (by simp only [List.length_map, List.length_cons, List.length_nil]; omega) (by simp only [List.length_map, List.length_cons, List.length_nil, big]; omega) ?_; intro v42 w8 o42 hE8 hO42 hf42
      have hEa := hE8
      replace hX := hX.mineO hE8 (fun j hj => .inl (.inr (.inr (.inr hj))))
      replace hW := hW.ext hE8 (fun e => (h.neT _ hoT).2.2 e)
      obtain ⟨a42, c42, hv42⟩ := id hO42.len; subst hv42
      refine wl_nil ⟨fun h => absurd h (by decide), ?_⟩
      refine wx_only 7 _ rfl (by kernel_rfl) ?_
      refine s1_do ?_
      refine wl_val (rn_nilCheck rfl) ?_
      refine wl_nil ⟨fun h => absurd h (by decide), ?_⟩
      refine wx_only 8 _ rfl (by kernel_rfl) ?_
      refine s1_do ?_
      refine wl_storeE (b := bT) (i := ini.length) p_78 rfl rfl rfl rfl hW (by rw [List.length_map, hlen]; omega) ?_; intro w9 hE9 hW2
      replace hX := hX.mine hE9 (.inl (.inr (.inl hoT)))
      have hEb := hE9
      refine wl_nil ⟨fun h => absurd h (by decide), ?_⟩
      refine wx_done (by kernel_rfl) ?_ _
      refine W_seq ?_
      refine W_region ?_
      refine wl_val (rn_assign (by conv => lhs; whnf)) ?_
      refine wl_nil ?_
      refine W_ret ?_
      exact ⟨_, resR1 (res1_tmp rfl), hX, ⟨rfl, fun r' e1 e2 e3 e4 e5 e6 => ⟨_, _, _, _, _, _, _, hlz.op rfl (fun i hi => Nat.lt_of_lt_of_le (hXo i hi) hXz) hEa hO42 hf42 (hEb.mono (fun i e => by rw [e]; exact hoT)) (.inr ⟨bT, _, hoT, by rw [rows_set] at hW2; exact hW2⟩) (r' := r') (by unfold rdB; rw [e1, e2, e3, e4]) (by rw [e6, h.thr, List.map_append]; exact push_snoc _ _ _) e5, fun i hi => by rcases hi with hi | hi | hi | hi; exact .inl (.inl hi); exact .inl (.inr (.inl hi)); exact .inl (.inr (.inr (.inl hi))); (rcases hf42 i hi with q | q; exact .inl (.inr (.inr (.inr q))); exact .inr (Nat.le_trans hXz q))⟩⟩⟩
end Go.Proofs.YthcclgoidchkdaaGreatDoorC

/- A script's lines: picks; any line. -/
set_option linter.unusedVariables false
set_option linter.unusedSimpArgs false
set_option maxRecDepth 100000
namespace Go.Proofs.YthcclgoidchkdaaGreatDoorC
open Go.RowKit
theorem picks_join (l : List Int) : picksL l = Lib.join (sPicks :: l.map Lib.itoa) [32] := by
  unfold picksL
  rw [Lib.join_cons]
  simp only [Lib.joinTail, List.map_map]
  rfl
theorem spl_picks (l : List Int) : spl 32 (picksL l) = sPicks :: l.map Lib.itoa := by
  rw [picks_join]
  refine spl_join _ (by simp) (fun a ha => ?_)
  rcases List.mem_cons.1 ha with rfl | ha
  · decide
  · obtain ⟨p, _, rfl⟩ := List.mem_map.1 ha
    exact itoa_nb' p
theorem RdN.base {X : Nat → Prop} {B : World} {b : Nat} {r : ScS} {n m : Nat} {D : Nat → Prop} (h : RdN X B b r n D) (hm : m ≤ n) : RdN X B b r m D := by
  obtain ⟨vT, vP, oT, oP, oL, ini, lst, h1, h2⟩ := h
  exact ⟨vT, vP, oT, oP, oL, ini, lst, h1, fun i hi => (h2 i hi).imp id (fun h => Nat.le_trans hm h)⟩
theorem picks_len (l : List Int) (h : ∀ p ∈ l, 0 ≤ p ∧ p ≤ 9999) : (picksL l).length ≤ 5 + 5 * l.length := pkS_len l h
-- strings.genSplit
set_option maxHeartbeats 1600000 in
theorem genSplitN_ok (w : World) (s : Str) (hn : s.length ≤ 1000000) : Fn Tryz.prog 151 #[Sv s, Sv [32], .int .i64 0, .int .i64 (-1)] w fun u w' => Sl (fun i => i < w.heap.size) w' u 1 ((spl 32 s).map eS1) := by
  have hcl := List.count_le_length (a := (32 : UInt8)) (l := s)
  have hX := Ext.refl Non w
  refine fn_of_W (args := [_, _, _, _]) Tryz.func151 rfl (by kernel_rfl) rfl ?_
  refine W_seq ?_
  refine W_region ?_
  refine wl_val (rn_assign (by conv => lhs; whnf)) ?_
  refine wl_nil ?_
  refine W_seq ?_
  refine W_seq ?_
  refine W_region ?_
  refine wl_val (rn_move (by conv => lhs; whnf)) ?_
  refine wl_val (rn_eql rfl rfl) ?_
  refine wl_nil ?_
  refine W_condF rfl ?_
  refine W_skip ?_
  refine W_seq ?_
  refine W_seq ?_
  refine W_region ?_
  refine wl_val (rn_move (by conv => lhs; whnf)) ?_
  refine wl_val (rn_seql rfl rfl) ?_
  refine wl_nil ?_
  refine W_cond rfl (fun hc1 => ?_) (fun hc1 => ?_)
  · exact absurd (of_decide_eq_true hc1) (by simp)
  · refine W_skip ?_
    refine W_seq ?_
    refine W_seq ?_
    refine W_region ?_
    refine wl_val (rn_move (by conv => lhs; whnf)) ?_
    refine wl_val (rn_lss rfl rfl) ?_
    refine wl_nil ?_
    refine W_condT rfl ?_
    refine W_region ?_
    refine wl_val (rn_move (by conv => lhs; whnf)) ?_
    refine wl_val (rn_move (by conv => lhs; whnf)) ?_
    refine wl_call e_203 rfl (scount_ok w s 32) ?_; intro v23 w1 hE1 hR1
    replace hX := hX.tr hE1
    subst hR1
    refine wl_val (Rn.cast (rn_add rfl rfl (by omega)) (v' := .int .i64 ((s.count 32 + 1 : Nat) : Int)) rfl) ?_
    refine wl_val (rn_assign (by conv => lhs; whnf)) ?_
    refine wl_nil ?_
    refine W_seq ?_
    refine W_region ?_
    refine wl_val (rn_move (by conv => lhs; whnf)) ?_
    refine wl_val (rn_move (by conv => lhs; whnf)) ?_
    refine wl_val (rn_slen us_9 rfl) ?_
    refine wl_val (rn_add rfl rfl (by omega)) ?_
    refine wl_val (Rn.cast (rn_min2 rfl rfl) (v' := .int .i64 ((s.count 32 + 1 : Nat) : Int)) (congrArg (Value.int .i64) (by split <;> omega))) ?_
    refine wl_val (rn_assign (by conv => lhs; whnf)) ?_
    refine wl_nil ?_
    refine W_seq ?_
    refine W_region ?_
    refine wl_val (rn_move (by conv => lhs; whnf)) ?_
    refine wl_make sl_22 rfl rfl rfl (by omega) (by simp only [big]; omega) ?_; intro w2 b31 hb31 hE2 hO31
    have hq31 : w.heap.size ≤ b31 := Nat.le_trans hX.size hb31
    rw [make_fill] at hO31
    replace hX := hX.tr hE2
    refine wl_val (rn_assign (by conv => lhs; whnf)) ?_
    refine wl_nil ?_
    refine W_seq ?_
    refine W_region ?_
    refine wl_val (rn_move (by conv => lhs; whnf)) ?_
    refine wl_val (Rn.cast (rn_sub rfl rfl (by omega)) (v' := .int .i64 (s.count 32 : Nat)) (congrArg (Value.int .i64) (by omega))) ?_
    refine wl_val (rn_assign (by conv => lhs; whnf)) ?_
    refine wl_nil ?_
    refine W_seq ?_
    refine W_region ?_
    refine wl_val (rn_assign (by conv => lhs; whnf)) ?_
    refine wl_nil ?_
    refine W_seq ?_
    refine W_block ?_   -- block 0
    refine W_loopS (S := Nat × List Str × Str) [0, 1, 2, 3, 9, 10] (fun ⟨i, done, r⟩ => [Sv r, Sv [32], .int .i64 0, .int .i64 (s.count 32 : Nat), .slice (some ⟨b31, 0, none⟩) (s.count 32 + 1) (s.count 32 + 1), .int .i64 (i : Nat)]) (fun ⟨i, done, r⟩ A => (Ext Non w A) ∧ (i ≤ s.count 32 ∧ i = done.length ∧ spl 32 s = done ++ spl 32 r ∧ r.length ≤ 1000000 ∧ Ow A (.slice (some ⟨b31, 0, none⟩) (s.count 32 + 1) (s.count 32 + 1)) b31 1 ((done ++ List.replicate (s.count 32 + 1 - i) []).map eS1) [])) (fun ⟨i, done, r⟩ => s.count 32 - i) (0, [], s) ⟨rfl, rfl, rfl, rfl, rfl, rfl, trivial⟩ ⟨hX, ⟨Nat.zero_le _, rfl, rfl, hn, hO31⟩⟩ ?_
    rintro τ0 ⟨i, done, r⟩ A0 ⟨hX, hI0⟩
    obtain ⟨hI, hdl, hsp, hrn, hO⟩ := hI0
    refine W_seq ?_
    refine W_seq ?_
    refine W_region ?_
    refine wl_val (rn_move (by conv => lhs; whnf)) ?_
    refine wl_val (rn_move (by conv => lhs; whnf)) ?_
    refine wl_val (rn_lss rfl rfl) ?_
    refine wl_nil ?_
    refine W_cond rfl (fun hc3 => ?_) (fun hc3 => ?_)
    · have hlt := of_decide_eq_true hc3; simp only [Int.ofNat_lt] at hlt
      have hmem : (32 : UInt8) ∈ r := by apply Classical.byContradiction; intro hno; have := spl_not hno; have h2 := congrArg List.length hsp; rw [spl_len, List.length_append, this] at h2; simp only [List.length_cons, List.length_nil] at h2; omega
      have hfi := fi_in hmem
      have hplt : (pre1 32 r).length < r.length := (List.getElem?_eq_some_iff.1 (pre1_mem hmem)).1
      refine W_skip ?_
      refine W_block ?_   -- block 1
      refine W_seq ?_
      refine W_region ?_
      refine wl_val (rn_move (by conv => lhs; whnf)) ?_
      refine wl_val (rn_move (by conv => lhs; whnf)) ?_
      refine wl_call e_149 rfl (sindex_ok A0 r 32) ?_; intro v39 w3 hE3 hR3
      replace hX := hX.tr hE3
      replace hO := hO.ext hE3 id
      subst hR3
      refine wl_val (rn_assign (by conv => lhs; whnf)) ?_
      refine wl_nil ?_
      refine W_seq ?_
      refine W_seq ?_
      refine W_region ?_
      refine wl_val (rn_move (by conv => lhs; whnf)) ?_
      refine wl_val (rn_lss rfl rfl) ?_
      refine wl_nil ?_
      refine W_cond rfl (fun hc4 => ?_) (fun hc4 => ?_)
      · exact absurd (of_decide_eq_true hc4) (by have := (fi_ge r 32).2 hmem; omega)
      · refine W_skip ?_
        refine W_seq ?_
        refine W_region ?_
        refine wl_val (rn_move (by conv => lhs; whnf)) ?_
        refine wl_val (rn_move (by conv => lhs; whnf)) ?_
        refine wl_val (rn_move (by conv => lhs; whnf)) ?_
        refine wl_val (rn_move (by conv => lhs; whnf)) ?_
        refine wl_val (rn_move (by conv => lhs; whnf)) ?_
        refine wl_val (Rn.cast (rn_add rfl rfl (by omega)) (v' := .int .i64 ((pre1 32 r).length : Nat)) (congrArg (Value.int .i64) (by rw [hfi]; omega))) ?_
        refine wl_val (Rn.cast (rn_sslice us_9 (l := 0) (h := (pre1 32 r).length) rfl rfl ⟨_, rfl⟩ (by omega) (by omega)) (v' := Sv (pre1 32 r)) (congrArg Sv (by rw [List.drop_zero, Nat.sub_zero, pre1_take]))) ?_
        refine wl_val (rn_indexAddr sl_22 rfl rfl (by omega)) ?_
        refine wl_storeE p_9 (i := i) (u := Sv (pre1 32 r)) rfl rfl rfl rfl hO (by simp only [List.length_map, List.length_append, List.length_replicate]; omega) ?_; intro w4 hE4 hO
        replace hX := hX.mine hE4 (.inr hq31)
        rw [show s.count 32 + 1 - i = (s.count 32 + 1 - (i + 1)) + 1 by omega, hdl, set_fill, ← hdl] at hO
        refine wl_nil ?_
        refine W_seq ?_
        refine W_region ?_
        refine wl_val (rn_move (by conv => lhs; whnf)) ?_
        refine wl_val (rn_move (by conv => lhs; whnf)) ?_
        refine wl_val (rn_move (by conv => lhs; whnf)) ?_
        refine wl_val (rn_slen us_9 rfl) ?_
        refine wl_val (Rn.cast (rn_add rfl rfl (by simp only [List.length_singleton]; omega)) (v' := .int .i64 (((pre1 32 r).length + 1 : Nat) : Int)) (congrArg (Value.int .i64) (by rw [hfi]; simp))) ?_
        refine wl_val (Rn.cast (rn_sslice us_9 (l := (pre1 32 r).length + 1) (h := r.length) rfl ⟨_, rfl⟩ rfl (by omega) (by omega)) (v' := Sv (r.drop ((pre1 32 r).length + 1))) (congrArg Sv (List.take_of_length_le (by rw [List.length_drop]; exact Nat.le_refl _)))) ?_
        refine wl_val (rn_assign (by conv => lhs; whnf)) ?_
        refine wl_nil ?_
        refine W_region ?_
        refine wl_val (rn_move (by conv => lhs; whnf)) ?_
        refine wl_val (rn_add rfl rfl (by omega)) ?_
        refine wl_val (rn_assign (by conv => lhs; whnf)) ?_
        refine wl_nil ?_
        exact ⟨rfl, (i + 1, done ++ [pre1 32 r], r.drop ((pre1 32 r).length + 1)), ⟨rfl, rfl, rfl, rfl, rfl, rfl, trivial⟩, ⟨hX, ⟨hlt, by simp [hdl], by rw [hsp, spl_cut hmem]; simp, by rw [List.length_drop]; omega, hO⟩⟩, by show s.count 32 - (i + 1) < s.count 32 - i; omega⟩
    · have hge := of_decide_eq_false hc3; simp only [Int.ofNat_lt, Nat.not_lt] at hge
      have hie : s.count 32 = i := by omega
      have hno : ¬ (32 : UInt8) ∈ r := by intro hm; have h2 := congrArg List.length hsp; rw [spl_len, List.length_append, spl_cut hm, List.length_cons] at h2; have := List.length_pos_iff.2 (spl_ne 32 (r.drop ((pre1 32 r).length + 1))); omega
      rw [spl_not hno] at hsp
      refine W_exit ?_   -- exit 0
      refine W_seq ?_
      refine W_region ?_
      refine wl_val (rn_move (by conv => lhs; whnf)) ?_
      refine wl_val (rn_move (by conv => lhs; whnf)) ?_
      refine wl_val (rn_move (by conv => lhs; whnf)) ?_
      refine wl_val (rn_indexAddr sl_22 rfl rfl (by omega)) ?_
      refine wl_storeE p_9 (i := i) (u := Sv r) rfl rfl rfl rfl hO (by simp only [List.length_map, List.length_append, List.length_replicate]; omega) ?_; intro w5 hE5 hO
      replace hX := hX.mine hE5 (.inr hq31)
      rw [show s.count 32 + 1 - i = 0 + 1 by omega, hdl, set_fill] at hO
      refine wl_nil ?_
      refine W_seq ?_
      refine W_region ?_
      refine wl_val (rn_move (by conv => lhs; whnf)) ?_
      refine wl_val (rn_move (by conv => lhs; whnf)) ?_
      refine wl_val (rn_add rfl rfl (by omega)) ?_
      refine wl_val (rn_slice0 sl_22 (h := i + 1) (m := s.count 32 + 1) rfl rfl ⟨_, rfl⟩ rfl (by simp) (by omega) (by omega)) ?_
      refine wl_val (rn_assign (by conv => lhs; whnf)) ?_
      refine wl_nil ?_
      refine W_ret ?_
      exact ⟨_, resR1 (res1_tmp rfl), hX, by have h := (hO.sl (M := fun i => i < w.heap.size) (fun h => by have h : b31 < w.heap.size := h; omega)); rw [hsp]; simp only [List.replicate_zero, List.append_nil] at h; rw [hie] at h; show Sl (fun i => i < w.heap.size) _ (.slice (some ⟨b31, 0, none⟩) (i + 1) (s.count 32 + 1)) 1 _; rw [hie]; exact h⟩
-- strings.Split
theorem splitN_ok (w : World) (s : Str) (hn : s.length ≤ 1000000) : Fn Tryz.prog 103 #[Sv s, Sv [32]] w fun u w' => Sl (fun i => i < w.heap.size) w' u 1 ((spl 32 s).map eS1) := by
  have hX := Ext.refl Non w
  refine fn_of_W (args := [_, _]) Tryz.func103 rfl (by kernel_rfl) rfl ?_
  refine W_seq ?_
  refine W_region ?_
  refine wl_val (rn_assign (by conv => lhs; whnf)) ?_
  refine wl_nil ?_
  refine W_seq ?_
  refine W_region ?_
  refine wl_val (rn_move (by conv => lhs; whnf)) ?_
  refine wl_val (rn_move (by conv => lhs; whnf)) ?_
  refine wl_call e_151 rfl (genSplitN_ok w s hn) ?_; intro v7 w1 hE1 hR1
  replace hX := hX.tr hE1
  have hS7 := hR1
  refine wl_val (rn_assign (by conv => lhs; whnf)) ?_
  refine wl_nil ?_
  refine W_ret ?_
  exact ⟨_, resR1 (res1_tmp rfl), hX, hS7⟩
-- (*bellman/script.reader).line
set_option maxHeartbeats 1600000 in
theorem lineO_ok (w : World) (X : Nat → Prop) (b0 : Nat) (r : ScS) {vT vP : Value} {oT oP oL : Option Nat} {ini : List (Value × List OpD)} {lst : Option (Value × List OpD)} (h : RdP X w b0 r vT vP oT oP oL ini lst) (hXo : ∀ i, X i → i < w.heap.size) (hat : r.at_ ≤ 1000000) (hat1 : r.at_ + 1 ≤ 1000000) (x : OpD) (hc : (Cmd.op x).ok r) (htl4 : r.s.threads.length ≤ 4) (B : Nat) (hBD : ∀ i, Dy b0 oT oP oL i → B ≤ i) (hG : ∃ g, Tryz.prog.globalNamed "internal/strconv.uint64pow10" = some g ∧ g < B) (h1B : errN < B) (hTb : Tab w) (hR : ErrS w) : FnM Tryz.prog (Dy b0 oT oP oL) 64 #[.pointer (some ⟨b0, 0, none⟩), Sv (lineR x)] w fun u w' => u = .int .i64 0 ∧ RdN X w' b0 ((Cmd.op x).app r) w.heap.size (Dy b0 oT oP oL) := by
  have hB0 := h.box
  have hl0 : Mine (Dy b0 oT oP oL) w b0 := .inl (.inl rfl)
  have htl : r.s.threads.length = (ini ++ lst.toList).length := by rw [h.thr, List.length_map]
  obtain ⟨aT, cT, hvT⟩ := id h.own.len; rw [List.length_map] at hvT; subst hvT
  obtain ⟨hd, ha, hth, hon, hxp, hxt, hxl⟩ := hc
  have hll := lineR_len hxp
  have htp : 0 < r.s.threads.length := List.length_pos_iff.2 hth
  have hX := Ext.refl (Dy b0 oT oP oL) w
  refine fnM_of_W (args := [_, _]) Tryz.func64 rfl (by kernel_rfl) rfl ?_
  refine W_seq ?_
  refine W_region ?_
  refine wl_val (rn_assign (by conv => lhs; whnf)) ?_
  refine wl_nil ?_
  refine W_seq ?_
  refine W_region ?_
  refine wl_val (rn_move (by conv => lhs; whnf)) ?_
  refine wl_val (rn_nilCheck rfl) ?_
  refine wl_val (rn_fieldAddr f_112_1 (by decide) rfl) ?_
  refine wl_val (rn_load1 p_3 rfl hB0 rfl) ?_
  refine wl_val (rn_add rfl rfl (by omega)) ?_
  refine wl_val (rn_nilCheck rfl) ?_
  refine wl_val (rn_fieldAddr f_112_1 (by decide) rfl) ?_
  have hBo := hB0
  refine wl_store1 (b := b0) p_3 rfl (by conv => lhs; whnf) rfl rfl hB0 (Nat.le_of_ble_eq_true rfl) ?_; intro w1 hE1 hB0 hz1
  replace hX := hX.mine hE1 hl0
  replace h := h.setBox hE1 hB0 (r' := ⟨r.s, r.at_ + 1, r.done⟩) rfl rfl
  replace hTb := hTb.ext hE1 (B := B) (fun j hj => by subst hj; exact hBD _ (.inl rfl)) hG
  replace hR := hR.ext hE1 (B := B) (fun j hj => by subst hj; exact hBD _ (.inl rfl)) h1B
  refine wl_nil ?_
  refine W_seq ?_
  refine W_region ?_
  refine wl_val (rn_move (by conv => lhs; whnf)) ?_
  refine wl_call e_103 rfl (split_ok w1 (lineR x) (by omega)) ?_; intro v14 w2 hE2 hR2
  replace hX := hX.tr hE2
  replace hB0 := hB0.ext hE2 id
  replace h := h.non hE2
  replace hTb := hTb.non hE2
  replace hR := hR.non hE2
  have hs := hR2; obtain ⟨tw, htw, hn1, hn2⟩ := words_line hxp; rw [htw] at hs; obtain ⟨a14, c14, hv14, _⟩ := id hs.len; subst hv14; obtain ⟨bb, oo, ea⟩ := hs.base (by simp); subst ea; simp only [List.length_map] at hs ⊢
  refine wl_val (rn_assign (by conv => lhs; whnf)) ?_
  refine wl_nil ?_
  refine W_seq ?_
  refine W_block ?_   -- block 0
  refine W_seq ?_
  refine W_region ?_
  refine wl_val (rn_move (by conv => lhs; whnf)) ?_
  refine wl_val (rn_nilCheck rfl) ?_
  refine wl_val (rn_fieldAddr f_112_2 (by decide) rfl) ?_
  refine wl_val (rn_load1 p_4 rfl hB0 rfl) ?_
  refine wl_val (rn_assign (by conv => lhs; whnf)) ?_
  refine wl_nil ?_
  refine W_cond rfl (fun hc0 => ?_) (fun hc0 => ?_)
  · exact absurd hc0 (by rw [hd]; decide)
  · refine W_seq ?_
    refine W_region ?_
    refine wl_val (rn_move (by conv => lhs; whnf)) ?_
    refine wl_val (rn_nilCheck rfl) ?_
    refine wl_val (rn_fieldAddr f_112_1 (by decide) rfl) ?_
    refine wl_val (rn_load1 p_3 rfl hB0 rfl) ?_
    refine wl_val (rn_eql rfl rfl) ?_
    refine wl_val (rn_assign (by conv => lhs; whnf)) ?_
    refine wl_nil ?_
    refine W_cond rfl (fun hc1 => ?_) (fun hc1 => ?_)
    · exact absurd (of_decide_eq_true hc1) (by omega)
    · refine W_seq ?_
      refine W_region ?_
      refine wl_val (rn_move (by conv => lhs; whnf)) ?_
      refine wl_val (rn_nilCheck rfl) ?_
      refine wl_val (rn_fieldAddr f_112_1 (by decide) rfl) ?_
      refine wl_val (rn_load1 p_3 rfl hB0 rfl) ?_
      refine wl_val (rn_eql rfl rfl) ?_
      refine wl_val (rn_assign (by conv => lhs; whnf)) ?_
      refine wl_nil ?_
      refine W_cond rfl (fun hc2 => ?_) (fun hc2 => ?_)
      · exact absurd (of_decide_eq_true hc2) (by omega)
      · refine W_seq ?_
        refine W_region ?_
        refine wl_val (rn_move (by conv => lhs; whnf)) ?_
        refine wl_val (rn_indexAddr sl_22 rfl rfl (by simp)) ?_
        refine wl_val (rn_load p_9 rfl (hs.at0 (eS_at (i := 0) rfl) rfl)) ?_
        refine wl_val (rn_seql rfl rfl) ?_
        refine wl_val (rn_assign (by conv => lhs; whnf)) ?_
        refine wl_nil ?_
        refine W_cond rfl (fun hc3 => ?_) (fun hc3 => ?_)
        · exact absurd (of_decide_eq_true hc3) hn1
        · refine W_seq ?_
          refine W_region ?_
          refine wl_val (rn_move (by conv => lhs; whnf)) ?_
          refine wl_val (rn_indexAddr sl_22 rfl rfl (by simp)) ?_
          refine wl_val (rn_load p_9 rfl (hs.at0 (eS_at (i := 0) rfl) rfl)) ?_
          refine wl_val (rn_seql rfl rfl) ?_
          refine wl_val (rn_assign (by conv => lhs; whnf)) ?_
          refine wl_nil ?_
          refine W_cond rfl (fun hc4 => ?_) (fun hc4 => ?_)
          · exact absurd (of_decide_eq_true hc4) hn2
          · refine W_seq ?_
            refine W_region ?_
            refine wl_val (rn_move (by conv => lhs; whnf)) ?_
            refine wl_val (rn_nilCheck rfl) ?_
            refine wl_val (rn_fieldAddr f_112_0 (by decide) rfl) ?_
            refine wl_val (rn_fieldAddr f_72_2 (by decide) rfl) ?_
            refine wl_val (rn_load1 p_70 rfl hB0 rfl) ?_
            refine wl_val (rn_len sl_70 rfl) ?_
            refine wl_val (rn_eql rfl rfl) ?_
            refine wl_val (rn_assign (by conv => lhs; whnf)) ?_
            refine wl_nil ?_
            refine W_cond rfl (fun hc5 => ?_) (fun hc5 => ?_)
            · exact absurd (of_decide_eq_true hc5) (by omega)
            · refine W_skip ?_
              refine W_seq ?_
              refine W_region ?_
              refine wl_val (rn_move (by conv => lhs; whnf)) ?_
              refine wl_val (rn_move (by conv => lhs; whnf)) ?_
              refine wl_callM e_106 rfl (operation_ok w2 X b0 ⟨r.s, r.at_ + 1, r.done⟩ h (fun i hi => Nat.lt_of_lt_of_le (hXo i hi) hX.size) (by show r.at_ + 1 ≤ 1000000; have := hat1; omega) x hth hon hxp hxt hxl htl4 B hBD hG h1B hTb hR) ?_; rintro v91 w3 hE3 ⟨rfl, hN⟩
              have hXz := hX.size
              replace hX := hX.trans hE3
              refine wl_val (rn_assign (by conv => lhs; whnf)) ?_
              refine wl_nil ?_
              refine W_ret ?_
              exact ⟨_, resR1 (res1_tmp rfl), hX, ⟨rfl, (hN ((Cmd.op x).app r) rfl rfl rfl rfl rfl rfl).base hXz⟩⟩
-- (*bellman/script.reader).picks
set_option maxHeartbeats 1600000 in
theorem picks_ok (w : World) (X : Nat → Prop) (b0 : Nat) (r : ScS) {vT vP : Value} {oT oP oL : Option Nat} {ini : List (Value × List OpD)} {lst : Option (Value × List OpD)} (h : RdP X w b0 r vT vP oT oP oL ini lst) (hXo : ∀ i, X i → i < w.heap.size) (hat : r.at_ ≤ 1000000) (l : List Int) (hl0 : l ≠ []) (hl4 : l.length ≤ 4096) (hpr : ∀ p ∈ l, 0 ≤ p ∧ p ≤ 9999) (hpk : r.s.picks = []) {v : Value} (hs : Sl (fun i => Dy b0 oT oP oL i ∨ w.heap.size ≤ i) w v 1 ((l.map Lib.itoa).map eS1)) (B : Nat) (hBD : ∀ i, Dy b0 oT oP oL i → B ≤ i) (hG : ∃ g, Tryz.prog.globalNamed "internal/strconv.uint64pow10" = some g ∧ g < B) (h1B : errN < B) (hTb : Tab w) (hR : ErrS w) : FnM Tryz.prog (Dy b0 oT oP oL) 105 #[.pointer (some ⟨b0, 0, none⟩), v] w fun u w' => u = .int .i64 0 ∧ RdN X w' b0 (⟨{ r.s with picks := r.s.picks ++ l }, r.at_, true⟩) w.heap.size (Dy b0 oT oP oL) := by
  have hB0 := h.box
  have hl0b : Mine (Dy b0 oT oP oL) w b0 := .inl (.inl rfl)
  have hlp : 0 < l.length := List.length_pos_iff.2 hl0
  obtain ⟨aw, cw, rfl, _⟩ := id hs.len
  simp only [List.length_map] at hs ⊢
  obtain ⟨bb, oo, ea⟩ := hs.base (by intro e; have := congrArg List.length e; simp only [List.length_map, List.length_nil] at this; omega); subst ea
  have hl0 := hl0b
  have hblt0 := hB0.lt
  have hX := Ext.refl (Dy b0 oT oP oL) w
  refine fnM_of_W (args := [_, _]) Tryz.func105 rfl (by kernel_rfl) rfl ?_
  refine W_seq ?_
  refine W_region ?_
  refine wl_val (rn_assign (by conv => lhs; whnf)) ?_
  refine wl_nil ?_
  refine W_seq ?_
  refine W_seq ?_
  refine W_region ?_
  refine wl_val (rn_move (by conv => lhs; whnf)) ?_
  refine wl_val (rn_len sl_22 rfl) ?_
  refine wl_val (rn_eql rfl rfl) ?_
  refine wl_val (rn_move (by conv => lhs; whnf)) ?_
  refine wl_split (d := 12) rfl (fun hg12 => ?_) (fun hg12 => ?_)
  · exact absurd (of_decide_eq_true hg12) (by omega)
  · refine wl_yes rfl (congrArg Value.bool hg12) ?_
    refine wl_val (rn_move (by conv => lhs; whnf)) ?_
    refine wl_yes rfl (congrArg Value.bool hg12) ?_
    refine wl_val (rn_len sl_22 rfl) ?_
    refine wl_yes rfl (congrArg Value.bool hg12) ?_
    refine wl_val (rn_gtr rfl rfl) ?_
    refine wl_val (rn_pickF (congrArg Value.bool hg12) (by conv => lhs; whnf)) ?_
    refine wl_nil ?_
    refine W_cond rfl (fun hc0 => ?_) (fun hc0 => ?_)
    · exact absurd (of_decide_eq_true hc0) (by omega)
    · refine W_skip ?_
      refine W_seq ?_
      refine W_seq ?_
      refine W_region ?_
      refine wl_val (rn_move (by conv => lhs; whnf)) ?_
      refine wl_val (rn_len sl_22 rfl) ?_
      refine wl_val (rn_move (by conv => lhs; whnf)) ?_
      refine wl_nil ?_
      refine W_block ?_   -- block 0
      refine W_loopS (S := Nat × Value × Option Nat) [0, 17, 18, 19] (fun ⟨k, vq, oq⟩ => [.pointer (some ⟨b0, 0, none⟩), .slice (some ⟨bb, oo, none⟩) l.length cw, .int .i64 (l.length : Nat), .int .i64 (k : Nat)]) (fun ⟨k, vq, oq⟩ A => (Ext (Dy b0 oT oP oL) w A) ∧ (IsBox A b0 (rdB r vT vq)) ∧ (Mine (Dy b0 oT oP oL) w b0) ∧ (k ≤ l.length ∧ RdP X A b0 ⟨{ r.s with picks := r.s.picks ++ l.take k }, r.at_, r.done⟩ vT vq oT oq oL ini lst ∧ (∀ i, Dy b0 oT oq oL i → Dy b0 oT oP oL i ∨ w.heap.size ≤ i) ∧ Tab A ∧ ErrS A ∧ Sl (fun i => Dy b0 oT oP oL i ∨ w.heap.size ≤ i) A (.slice (some ⟨bb, oo, none⟩) l.length cw) 1 ((l.map Lib.itoa).map eS1))) (fun ⟨k, vq, oq⟩ => l.length - k) (0, vP, oP) ⟨rfl, rfl, rfl, rfl, trivial⟩ ⟨hX, hB0, hl0, ⟨Nat.zero_le _, (by rw [List.take_zero, List.append_nil]; exact h), fun i hi => .inl hi, hTb, hR, hs⟩⟩ ?_
      rintro τ0 ⟨k, vq, oq⟩ A0 ⟨hX, hB0, hl0, hI0⟩
      obtain ⟨hkl, h, hsub, hTb, hR, hs⟩ := hI0
      obtain ⟨aq, cq, hvq⟩ := id h.pk.len; rw [List.length_map] at hvq; subst hvq
      have hpkl : (r.s.picks ++ l.take k).length ≤ 4096 := by rw [hpk, List.nil_append, List.length_take]; omega
      have hBs : ∀ i, (Dy b0 oT oP oL i ∨ w.heap.size ≤ i) → B ≤ i := fun i hi => by rcases hi with hi | hi; exact hBD i hi; have := hBD b0 (.inl rfl); have := hblt0; omega
      refine W_seq ?_
      refine W_region ?_
      refine wl_val (rn_lss rfl rfl) ?_
      refine wl_nil ?_
      refine W_seq ?_
      refine W_cond rfl (fun hc1 => ?_) (fun hc1 => ?_)
      · have hlt := of_decide_eq_true hc1; simp only [Int.ofNat_lt] at hlt
        obtain ⟨p, hp⟩ : ∃ p, l[k]? = some p := ⟨_, List.getElem?_eq_getElem hlt⟩
        have hpp := hpr p (List.mem_of_getElem? hp)
        refine W_skip ?_
        refine W_seq ?_
        refine W_block ?_   -- block 1
        refine W_seq ?_
        refine W_region ?_
        refine wl_val (rn_indexAddr sl_22 rfl rfl (by omega)) ?_
        refine wl_val (rn_load p_9 rfl (hs.at0 (eS_at (x := Lib.itoa p) (by simp [hp])) rfl)) ?_
        refine wl_val (rn_assign (by conv => lhs; whnf)) ?_
        refine wl_nil ?_
        refine W_seq ?_
        refine W_region ?_
        refine wl_val (rn_move (by conv => lhs; whnf)) ?_
        refine wl_call e_153 rfl (snumber_ok A0 p 0 9999 hpp.1 hpp.2 hpp.1 hpp.2 hTb hR) ?_; intro v25 w1 hE1 hR1
        replace hX := hX.tr hE1
        replace hB0 := hB0.ext hE1 id
        replace h := h.non hE1
        replace hs := hs.ext hE1 (fun _ h => h.elim)
        replace hTb := hTb.non hE1
        replace hR := hR.non hE1
        subst hR1
        refine wl_val (rn_move (by conv => lhs; whnf)) ?_
        refine wl_val (rn_extract rfl rfl) ?_
        refine wl_val (rn_extract rfl rfl) ?_
        refine wl_val (rn_assign (by conv => lhs; whnf)) ?_
        refine wl_val (rn_assign (by conv => lhs; whnf)) ?_
        refine wl_nil ?_
        refine W_seq ?_
        refine W_seq ?_
        refine W_region ?_
        refine wl_val (rn_move (by conv => lhs; whnf)) ?_
        refine wl_val (rn_not rfl) ?_
        refine wl_nil ?_
        refine W_cond rfl (fun hc2 => ?_) (fun hc2 => ?_)
        · exact absurd hc2 (by decide)
        · refine W_skip ?_
          refine W_region ?_
          refine wl_val (rn_move (by conv => lhs; whnf)) ?_
          refine wl_val (rn_move (by conv => lhs; whnf)) ?_
          refine wl_val (rn_nilCheck rfl) ?_
          refine wl_val (rn_fieldAddr f_112_0 (by decide) rfl) ?_
          refine wl_val (rn_fieldAddr f_72_3 (by decide) rfl) ?_
          refine wl_val (rn_load1 p_23 rfl hB0 rfl) ?_
          refine wl_val (rn_move (by conv => lhs; whnf)) ?_
          refine wl_lit1 (r := [.int .i64 p]) sl_23 rfl rfl rfl rfl (by decide) ?_; intro v37 w2 b37 hb37 hE2 hO37
          replace hX := hX.tr hE2
          replace hB0 := hB0.ext hE2 id
          replace h := h.non hE2
          replace hs := hs.ext hE2 (fun _ h => h.elim)
          replace hTb := hTb.non hE2
          replace hR := hR.non hE2
          have hXz := hX.size
          refine wl_app sl_23 rfl rfl rfl h.pk (hO37.sl (M := Non) id) (fun r hr => by simp only [List.mem_singleton] at hr; subst hr; exact one1 rfl) (by simp only [List.length_map, List.length_cons, List.length_nil]; omega) (by simp only [List.length_map, List.length_cons, List.length_nil, big]; omega) ?_; intro v38 w3 o38 hE3 hO38 hf38
          have hEa := hE3
          replace hB0 := hB0.ext hE3 (fun e => (h.neP _ e).1 rfl)
          replace hX := hX.mineO hE3 (fun j hj => hsub j (.inr (.inr (.inl hj))))
          replace hs := hs.ext hE3 (fun j hj => hsub j (.inr (.inr (.inl hj))))
          replace hTb := hTb.ext hE3 (B := B) (fun j hj => hBs j (hsub j (.inr (.inr (.inl hj))))) hG; replace hR := hR.ext hE3 (B := B) (fun j hj => hBs j (hsub j (.inr (.inr (.inl hj))))) h1B
          obtain ⟨a38, c38, hv38⟩ := id hO38.len; subst hv38
          refine wl_val (rn_nilCheck rfl) ?_
          refine wl_val (rn_fieldAddr f_112_0 (by decide) rfl) ?_
          refine wl_val (rn_fieldAddr f_72_3 (by decide) rfl) ?_
          refine wl_store1 (b := b0) p_23 rfl rfl rfl rfl hB0 (Nat.le_of_ble_eq_true rfl) ?_; intro w4 hE4 hB0 hz4
          replace hX := hX.mine hE4 hl0
          have hEb := hE4
          replace hs := hs.ext hE4 (fun j hj => .inl (.inl hj)); replace hTb := hTb.ext hE4 (B := B) (fun j hj => by subst hj; exact hBD _ (.inl rfl)) hG; replace hR := hR.ext hE4 (B := B) (fun j hj => by subst hj; exact hBD _ (.inl rfl)) h1B
          replace h := h.picks (l := [p]) (fun i hi => Nat.lt_of_lt_of_le (hXo i hi) hXz) hEa hO38 hf38 hEb (r' := ⟨{ r.s with picks := (r.s.picks ++ l.take k) ++ [p] }, r.at_, r.done⟩) hB0 rfl rfl
          replace hsub : ∀ i, Dy b0 oT o38 oL i → Dy b0 oT oP oL i ∨ w.heap.size ≤ i := fun i hi => by rcases hi with hi | hi | hi | hi; exact .inl (.inl hi); exact .inl (.inr (.inl hi)); (rcases hf38 i hi with q | q; exact hsub i (.inr (.inr (.inl q))); exact .inr (Nat.le_trans hXz q)); exact .inl (.inr (.inr (.inr hi)))
          refine wl_nil ?_
          refine W_region ?_
          refine wl_val (rn_add rfl rfl (by omega)) ?_
          refine wl_val (rn_move (by conv => lhs; whnf)) ?_
          refine wl_nil ?_
          exact ⟨rfl, (k + 1, _, o38), ⟨rfl, rfl, rfl, rfl, trivial⟩, ⟨hX, hB0, hl0, ⟨hlt, (by rw [List.take_add_one, hp, Option.toList_some, ← List.append_assoc]; exact h), hsub, hTb, hR, hs⟩⟩, by show l.length - (k + 1) < l.length - k; omega⟩
      · have hge := of_decide_eq_false hc1; simp only [Int.ofNat_lt, Nat.not_lt] at hge
        rw [List.take_of_length_le hge] at h hB0
        refine W_exit ?_   -- exit 0
        refine W_seq ?_
        refine W_region ?_
        refine wl_val (rn_move (by conv => lhs; whnf)) ?_
        refine wl_val (rn_nilCheck rfl) ?_
        refine wl_val (rn_fieldAddr f_112_2 (by decide) rfl) ?_
        refine wl_store1 (b := b0) p_4 rfl rfl rfl rfl hB0 (Nat.le_of_ble_eq_true rfl) ?_; intro w5 hE5 hB0 hz5
        replace hX := hX.mine hE5 hl0
        replace h := h.setBox hE5 (r' := ⟨{ r.s with picks := r.s.picks ++ l }, r.at_, true⟩) hB0 rfl rfl
        refine wl_nil ?_
        refine W_seq ?_
        refine W_region ?_
        refine wl_val (rn_assign (by conv => lhs; whnf)) ?_
        refine wl_nil ?_
        refine W_ret ?_
        exact ⟨_, resR1 (res1_tmp rfl), hX, ⟨rfl, _, _, _, _, _, _, _, h, hsub⟩⟩
-- (*bellman/script.reader).line
set_option maxHeartbeats 1600000 in
theorem lineK_ok (w : World) (X : Nat → Prop) (b0 : Nat) (r : ScS) {vT vP : Value} {oT oP oL : Option Nat} {ini : List (Value × List OpD)} {lst : Option (Value × List OpD)} (h : RdP X w b0 r vT vP oT oP oL ini lst) (hXo : ∀ i, X i → i < w.heap.size) (hat : r.at_ ≤ 1000000) (hat1 : r.at_ + 1 ≤ 1000000) (l : List Int) (hc : (Cmd.picks l).ok r) (B : Nat) (hBD : ∀ i, Dy b0 oT oP oL i → B ≤ i) (hG : ∃ g, Tryz.prog.globalNamed "internal/strconv.uint64pow10" = some g ∧ g < B) (h1B : errN < B) (hTb : Tab w) (hR : ErrS w) : FnM Tryz.prog (Dy b0 oT oP oL) 64 #[.pointer (some ⟨b0, 0, none⟩), Sv (picksL l)] w fun u w' => u = .int .i64 0 ∧ RdN X w' b0 ((Cmd.picks l).app r) w.heap.size (Dy b0 oT oP oL) := by
  have hB0 := h.box
  have hl0 : Mine (Dy b0 oT oP oL) w b0 := .inl (.inl rfl)
  have htl : r.s.threads.length = (ini ++ lst.toList).length := by rw [h.thr, List.length_map]
  obtain ⟨aT, cT, hvT⟩ := id h.own.len; rw [List.length_map] at hvT; subst hvT
  obtain ⟨hd, ha, hln, hl4, hpk, hpr⟩ := hc
  have hpl := picks_len l hpr
  have hzw : w.heap.size ≤ w.heap.size := Nat.le_refl _
  have hX := Ext.refl (Dy b0 oT oP oL) w
  refine fnM_of_W (args := [_, _]) Tryz.func64 rfl (by kernel_rfl) rfl ?_
  refine W_seq ?_
  refine W_region ?_
  refine wl_val (rn_assign (by conv => lhs; whnf)) ?_
  refine wl_nil ?_
  refine W_seq ?_
  refine W_region ?_
  refine wl_val (rn_move (by conv => lhs; whnf)) ?_
  refine wl_val (rn_nilCheck rfl) ?_
  refine wl_val (rn_fieldAddr f_112_1 (by decide) rfl) ?_
  refine wl_val (rn_load1 p_3 rfl hB0 rfl) ?_
  refine wl_val (rn_add rfl rfl (by omega)) ?_
  refine wl_val (rn_nilCheck rfl) ?_
  refine wl_val (rn_fieldAddr f_112_1 (by decide) rfl) ?_
  have hBo := hB0
  refine wl_store1 (b := b0) p_3 rfl (by conv => lhs; whnf) rfl rfl hB0 (Nat.le_of_ble_eq_true rfl) ?_; intro w1 hE1 hB0 hz1
  replace hX := hX.mine hE1 hl0
  replace h := h.setBox hE1 hB0 (r' := ⟨r.s, r.at_ + 1, r.done⟩) rfl rfl
  replace hTb := hTb.ext hE1 (B := B) (fun j hj => by subst hj; exact hBD _ (.inl rfl)) hG
  replace hR := hR.ext hE1 (B := B) (fun j hj => by subst hj; exact hBD _ (.inl rfl)) h1B
  refine wl_nil ?_
  refine W_seq ?_
  refine W_region ?_
  refine wl_val (rn_move (by conv => lhs; whnf)) ?_
  have hz14 := h.lt
  refine wl_call e_103 rfl (splitN_ok w1 (picksL l) (by omega)) ?_; intro v14 w2 hE2 hR2
  replace hX := hX.tr hE2
  replace hB0 := hB0.ext hE2 id
  replace h := h.non hE2
  replace hTb := hTb.non hE2
  replace hR := hR.non hE2
  have hs := (hR2).sub (M' := fun i => Dy b0 oT oP oL i ∨ (World.heap w2).size ≤ i) (fun i hi hlt => hi.elim (fun hi => hz14 i hi) (fun hi => absurd hlt (Nat.not_lt.2 hi))); rw [spl_picks] at hs; obtain ⟨a14, c14, hv14, _⟩ := id hs.len; subst hv14; obtain ⟨bb, oo, ea⟩ := hs.base (by simp); subst ea; simp only [List.length_map] at hs ⊢; have hcap := sl_cap hs; have hlen1 : 1 ≤ (sPicks :: l.map Lib.itoa).length := by simp
  refine wl_val (rn_assign (by conv => lhs; whnf)) ?_
  refine wl_nil ?_
  refine W_seq ?_
  refine W_block ?_   -- block 0
  refine W_seq ?_
  refine W_region ?_
  refine wl_val (rn_move (by conv => lhs; whnf)) ?_
  refine wl_val (rn_nilCheck rfl) ?_
  refine wl_val (rn_fieldAddr f_112_2 (by decide) rfl) ?_
  refine wl_val (rn_load1 p_4 rfl hB0 rfl) ?_
  refine wl_val (rn_assign (by conv => lhs; whnf)) ?_
  refine wl_nil ?_
  refine W_cond rfl (fun hc0 => ?_) (fun hc0 => ?_)
  · exact absurd hc0 (by rw [hd]; decide)
  · refine W_seq ?_
    refine W_region ?_
    refine wl_val (rn_move (by conv => lhs; whnf)) ?_
    refine wl_val (rn_nilCheck rfl) ?_
    refine wl_val (rn_fieldAddr f_112_1 (by decide) rfl) ?_
    refine wl_val (rn_load1 p_3 rfl hB0 rfl) ?_
    refine wl_val (rn_eql rfl rfl) ?_
    refine wl_val (rn_assign (by conv => lhs; whnf)) ?_
    refine wl_nil ?_
    refine W_cond rfl (fun hc1 => ?_) (fun hc1 => ?_)
    · exact absurd (of_decide_eq_true hc1) (by omega)
    · refine W_seq ?_
      refine W_region ?_
      refine wl_val (rn_move (by conv => lhs; whnf)) ?_
      refine wl_val (rn_nilCheck rfl) ?_
      refine wl_val (rn_fieldAddr f_112_1 (by decide) rfl) ?_
      refine wl_val (rn_load1 p_3 rfl hB0 rfl) ?_
      refine wl_val (rn_eql rfl rfl) ?_
      refine wl_val (rn_assign (by conv => lhs; whnf)) ?_
      refine wl_nil ?_
      refine W_cond rfl (fun hc2 => ?_) (fun hc2 => ?_)
      · exact absurd (of_decide_eq_true hc2) (by omega)
      · refine W_seq ?_
        refine W_region ?_
        refine wl_val (rn_move (by conv => lhs; whnf)) ?_
        refine wl_val (rn_indexAddr sl_22 rfl rfl (by simp)) ?_
        refine wl_val (rn_load p_9 rfl (hs.at0 (eS_at (i := 0) rfl) rfl)) ?_
        refine wl_val (rn_seql rfl rfl) ?_
        refine wl_val (rn_assign (by conv => lhs; whnf)) ?_
        refine wl_nil ?_
        refine W_cond rfl (fun hc3 => ?_) (fun hc3 => ?_)
        · refine W_seq ?_
          refine W_region ?_
          refine wl_val (rn_move (by conv => lhs; whnf)) ?_
          refine wl_val (rn_move (by conv => lhs; whnf)) ?_
          refine wl_val (rn_slice sl_22 (l := 1) (h := (sPicks :: l.map Lib.itoa).length) (m := c14) rfl ⟨_, rfl⟩ rfl rfl (by simp) (by omega) (by omega) (by omega)) ?_
          refine wl_callM e_105 rfl (picks_ok w2 X b0 ⟨r.s, r.at_ + 1, r.done⟩ h (fun i hi => Nat.lt_of_lt_of_le (hXo i hi) hX.size) (by show r.at_ + 1 ≤ 1000000; exact hat1) l hln hl4 hpr hpk (sl_tail hs) B hBD hG h1B hTb hR) ?_; rintro v52 w3 hE3 ⟨rfl, hN⟩
          have hXz := hX.size
          replace hX := hX.trans hE3
          refine wl_val (rn_assign (by conv => lhs; whnf)) ?_
          refine wl_nil ?_
          refine W_ret ?_
          exact ⟨_, resR1 (res1_tmp rfl), hX, ⟨rfl, hN.base hXz⟩⟩
        · exact absurd rfl (of_decide_eq_false hc3)
end Go.Proofs.YthcclgoidchkdaaGreatDoorC

/- A script's reader beside an iterator; pieces of a text. -/
set_option linter.unusedVariables false
set_option linter.unusedSimpArgs false
namespace Go.Proofs.YthcclgoidchkdaaGreatDoorC
open Go.RowKit
section
variable {X : Nat → Prop} {A : World} {b : Nat} {r : ScS} {vT vP : Value} {oT oP oL : Option Nat} {ini : List (Value × List OpD)} {lst : Option (Value × List OpD)}
/-- What changes is another's. -/
theorem RdP.extX (h : RdP X A b r vT vP oT oP oL ini lst) {M : Nat → Prop} {B : World} (hE : Ext M A B) (hm : ∀ i, M i → X i) : RdP X B b r vT vP oT oP oL ini lst :=
  ⟨h.box.ext hE (fun e => h.nx b (.inl rfl) (hm b e)), h.thr, h.own.ext hE (fun i hi e => h.nx i (.inr (.inl hi)) (hm i e)), h.pk.ext hE (fun i hi e => h.nx i (.inr (.inr (.inl hi))) (hm i e)), fun p hp => (h.inn p hp).ext hE (fun i hi => .inl (hm i hi)),
    fun p hp => (h.lsl p hp).ext hE (fun i hi e => h.nx i (.inr (.inr (.inr hi))) (hm i e)), h.lno, h.neT, h.neP, h.neL, h.nx⟩
/-- Others become more. -/
theorem RdP.subX (h : RdP X A b r vT vP oT oP oL ini lst) {X' : Nat → Prop} (hs : ∀ p ∈ ini, Sl (fun i => X' i ∨ Dy b oT oP oL i) A p.1 5 (p.2.map OpD.enc)) (hn : ∀ i, Dy b oT oP oL i → ¬ X' i) : RdP X' A b r vT vP oT oP oL ini lst :=
  ⟨h.box, h.thr, h.own, h.pk, hs, h.lsl, h.lno, h.neT, h.neP, h.neL, hn⟩
theorem RdP.thrsX (h : RdP X A b r vT vP oT oP oL ini lst) : Thr X A vT (ini ++ lst.toList) := by
  refine ⟨h.own.sl (M := X) (fun i hi e => h.nx i (.inr (.inl hi)) e), fun p hp => ?_⟩
  rcases List.mem_append.1 hp with hp | hp
  · exact (h.inn p hp).sub (fun i hi _ => .inl hi)
  · cases hl : lst with
    | none => rw [hl] at hp; cases hp
    | some q =>
      rw [hl] at hp
      simp only [Option.toList_some, List.mem_singleton] at hp
      subst hp
      exact (h.lsl _ hl).sl (M := X) (fun i hi e => h.nx i (.inr (.inr (.inr hi))) e)
theorem RdP.scmX (h : RdP X A b r vT vP oT oP oL ini lst) : ScM X A [.int .i64 r.s.subs, .int .i64 r.s.cap, vT, vP] r.s := ⟨vT, vP, _, rfl, h.thr, h.thrsX, h.pk.sl (M := X) (fun i hi e => h.nx i (.inr (.inr (.inl hi))) e)⟩
end
theorem RdN.non {X : Nat → Prop} {A B : World} {b : Nat} {r : ScS} {n : Nat} {D : Nat → Prop} (h : RdN X A b r n D) (hE : Ext Non A B) : RdN X B b r n D := by
  obtain ⟨vT, vP, oT, oP, oL, ini, lst, h1, h2⟩ := h
  exact ⟨vT, vP, oT, oP, oL, ini, lst, h1.non hE, h2⟩
theorem RdN.extX {X : Nat → Prop} {A B : World} {b : Nat} {r : ScS} {n : Nat} {D : Nat → Prop} (h : RdN X A b r n D) {M : Nat → Prop} (hE : Ext M A B) (hm : ∀ i, M i → X i) : RdN X B b r n D := by
  obtain ⟨vT, vP, oT, oP, oL, ini, lst, h1, h2⟩ := h
  exact ⟨vT, vP, oT, oP, oL, ini, lst, h1.extX hE hm, h2⟩
theorem RdN.weaken {X : Nat → Prop} {B : World} {b : Nat} {r : ScS} {n m : Nat} {D D' : Nat → Prop} (h : RdN X B b r n D) (hD : ∀ i, D i → D' i ∨ m ≤ i) (hm : m ≤ n) : RdN X B b r m D' := by
  obtain ⟨vT, vP, oT, oP, oL, ini, lst, h1, h2⟩ := h
  exact ⟨vT, vP, oT, oP, oL, ini, lst, h1, fun i hi => (h2 i hi).elim (fun h => hD i h) (fun h => .inr (Nat.le_trans hm h))⟩
theorem Stab.rdN {n0 : Nat} (F : Nat → Prop) (b : Nat) (r : ScS) (n : Nat) (D : Nat → Prop) : Stab n0 (fun N A => RdN (fun i => N i ∨ F i) A b r n D) := fun N A B hN hA h hE => by
  obtain ⟨vT, vP, oT, oP, oL, ini, lst, h1, h2⟩ := h
  have hlt := h1.lt
  have h3 := h1.extX hE (fun i hi => .inl hi)
  refine ⟨vT, vP, oT, oP, oL, ini, lst, h3.subX (fun p hp => ?_) (fun i hi hx => ?_), h2⟩
  · have q := (h1.inn p hp)
    have q2 : Sl (fun i => N i ∨ (F i ∨ Dy b oT oP oL i)) A p.1 5 (p.2.map OpD.enc) := q.sub (fun i hi _ => by rcases hi with hi | hi | hi; exact .inl (.inl hi); exact .inl (.inr hi); exact .inr hi)
    have q3 := Stab.slB (n0 := n0) (fun i => F i ∨ Dy b oT oP oL i) p.1 5 (p.2.map OpD.enc) N A B hN hA q2 hE
    exact q3.sub (fun i hi _ => by rcases hi with (hi | hi) | hi; exact .inl hi; exact .inr (.inl hi); exact .inr (.inr hi))
  · rcases hx with hx | hx
    · rcases hx with hx | hx
      · exact h1.nx i hi (.inl hx)
      · have := hlt i hi; omega
    · exact h1.nx i hi (.inr hx)
/-! ### pieces -/
def splA (s : Str) : List Str := (spl 10 s).dropLast.map (· ++ [10]) ++ [(spl 10 s).getLast (spl_ne 10 s)]
theorem splA_cut {s : Str} (h : (10 : UInt8) ∈ s) : splA s = (pre1 10 s ++ [10]) :: splA (s.drop ((pre1 10 s).length + 1)) := by
  unfold splA
  have e := spl_cut h
  have hne := spl_ne 10 (s.drop ((pre1 10 s).length + 1))
  simp only [e, List.dropLast_cons_of_ne_nil hne, List.map_cons, List.cons_append, List.getLast_cons hne]
theorem splA_not {s : Str} (h : ¬ (10 : UInt8) ∈ s) : splA s = [s] := by
  unfold splA
  have e := spl_not h
  simp only [e, List.dropLast_singleton, List.map_nil, List.nil_append, List.getLast_singleton]
theorem pre1_line {a rest : Str} (h : ¬ (10 : UInt8) ∈ a) : pre1 10 (a ++ 10 :: rest) = a := by
  unfold pre1
  induction a with
  | nil => rfl
  | cons c a ih =>
    simp only [List.mem_cons, not_or] at h
    rw [List.cons_append, List.takeWhile_cons, if_pos (by simpa using fun e => h.1 e.symm), ih h.2]
theorem take_pre1 {s : Str} (h : (10 : UInt8) ∈ s) : s.take ((pre1 10 s).length + 1) = pre1 10 s ++ [10] := by
  rw [List.take_add_one, pre1_take, pre1_mem h]; rfl
theorem splA_lines : ∀ l : List Cmd, splA (linesC l) = l.map (fun c => c.text ++ [10]) ++ [[]]
  | [] => by rw [show linesC [] = [] from rfl, splA_not (by simp)]; rfl
  | c :: l => by
    have ih := splA_lines l
    have hnl := cmd_nl c
    have e : linesC (c :: l) = c.text ++ 10 :: linesC l := by simp [linesC]
    rw [e, splA_cut (by simp), pre1_line hnl]
    have e2 : (c.text ++ 10 :: linesC l).drop (c.text.length + 1) = linesC l := by
      rw [List.drop_append, List.drop_of_length_le (Nat.le_succ _), List.nil_append, show c.text.length + 1 - c.text.length = 1 by omega, List.drop_succ_cons, List.drop_zero]
    rw [e2, ih]; rfl
theorem piece_at {l : List Cmd} {i : Nat} {x : Str} (h : (splA (linesC l))[i]? = some x) : (x = [] ∧ i = l.length) ∨ ∃ c, l[i]? = some c ∧ x = c.text ++ [10] := by
  rw [splA_lines] at h
  by_cases hi : i < l.length
  · rw [List.getElem?_append_left (by simpa using hi), List.getElem?_map] at h
    obtain ⟨c, hc, rfl⟩ := Option.map_eq_some_iff.1 h
    exact .inr ⟨c, hc, rfl⟩
  · rw [List.getElem?_append_right (by simpa using hi), List.length_map] at h
    have : i - l.length = 0 := by
      apply Classical.byContradiction; intro h0
      rw [List.getElem?_eq_none (by simp; omega)] at h; cases h
    rw [this] at h
    simp only [List.getElem?_cons_zero, Option.some.injEq] at h
    exact .inl ⟨h.symm, by omega⟩
end Go.Proofs.YthcclgoidchkdaaGreatDoorC

/- A script's reader goes through a text. -/
set_option linter.unusedVariables false
set_option linter.unusedSimpArgs false
set_option maxRecDepth 100000
namespace Go.Proofs.YthcclgoidchkdaaGreatDoorC
open Go.RowKit
theorem line_ok1 (w : World) (X : Nat → Prop) (b0 : Nat) (r : ScS) {vT vP : Value} {oT oP oL : Option Nat} {ini : List (Value × List OpD)} {lst : Option (Value × List OpD)} (h : RdP X w b0 r vT vP oT oP oL ini lst) (hXo : ∀ i, X i → i < w.heap.size) (hat : r.at_ + 1 ≤ 1000000) (c : Cmd) (hc : c.ok r) (htl4 : r.s.threads.length ≤ 4)
    (B : Nat) (hBD : ∀ i, Dy b0 oT oP oL i → B ≤ i) (hG : ∃ g, Tryz.prog.globalNamed "internal/strconv.uint64pow10" = some g ∧ g < B) (h1B : errN < B) (hTb : Tab w) (hR : ErrS w) :
    FnM Tryz.prog (Dy b0 oT oP oL) 64 #[.pointer (some ⟨b0, 0, none⟩), Sv c.text] w fun u w' => u = .int .i64 0 ∧ RdN X w' b0 (c.app r) w.heap.size (Dy b0 oT oP oL) := by
  cases c with
  | subs n =>
    refine (FnM.mono (lineS_ok w b0 r vT vP h.box n hc B (hBD b0 (.inl rfl)) hG h1B hTb hR) (R' := fun u w' => u = .int .i64 0 ∧ RdN X w' b0 ((Cmd.subs n).app r) w.heap.size (Dy b0 oT oP oL)) fun v w' hE h2 => ?_).sub (fun i hi => .inl hi)
    exact ⟨h2.1, _, _, _, _, _, _, _, h.setBox hE (r' := (Cmd.subs n).app r) h2.2 rfl rfl, fun i hi => .inl hi⟩
  | cap n =>
    refine (FnM.mono (lineC_ok w b0 r vT vP h.box n hc B (hBD b0 (.inl rfl)) hG h1B hTb hR) (R' := fun u w' => u = .int .i64 0 ∧ RdN X w' b0 ((Cmd.cap n).app r) w.heap.size (Dy b0 oT oP oL)) fun v w' hE h2 => ?_).sub (fun i hi => .inl hi)
    exact ⟨h2.1, _, _, _, _, _, _, _, h.setBox hE (r' := (Cmd.cap n).app r) h2.2 rfl rfl, fun i hi => .inl hi⟩
  | thread => exact lineT_ok w X b0 r h hXo (by omega) hc B hBD hG h1B hTb hR
  | op x => exact lineO_ok w X b0 r h hXo (by omega) hat x hc htl4 B hBD hG h1B hTb hR
  | picks l => exact lineK_ok w X b0 r h hXo (by omega) hat l hc B hBD hG h1B hTb hR
-- strings.splitSeq$1
set_option maxHeartbeats 800000 in
theorem splitA_iter (s : Str) (M : Nat → Prop) (w0 : World) (b1 b2 b3 : Nat) (hC1 : IsBox w0 b1 [Sv [10]]) (hC2 : IsBox w0 b2 [Sv s]) (hC3 : IsBox w0 b3 [.int .i64 1]) (hm1 : ¬ M b1) (hm2 : ¬ M b2) (hm3 : ¬ M b3) (hne1 : b1 ≠ b2) (hne3 : b3 ≠ b2) (hsn : s.length ≤ 10000000) :
    IterE Tryz.prog M w0 (fun i => i = b2) (.func (.func 147) #[] #[.pointer (some ⟨b1, 0, none⟩), .pointer (some ⟨b2, 0, none⟩), .pointer (some ⟨b3, 0, none⟩)]) (fun x : Str => #[Sv x]) (splA s) := by
  refine iterE_of e_147 (fun i hi => by subst hi; exact ⟨hC2.lt, hm2⟩) fun l W J Jx hW hT hY => ?_
  have hlt1 := hC1.lt; have hlt2 := hC2.lt; have hlt3 := hC3.lt
  have ea : (#[Value.func (.yield l) #[] #[]] ++ #[.pointer (some ⟨b1, 0, none⟩), .pointer (some ⟨b2, 0, none⟩), .pointer (some ⟨b3, 0, none⟩)] : Array Value) = [Value.func (.yield l) #[] #[], .pointer (some ⟨b1, 0, none⟩), .pointer (some ⟨b2, 0, none⟩), .pointer (some ⟨b3, 0, none⟩)].toArray := by simp
  rw [ea]
  have hX := Ext.refl Tru W
  have hB1 := hC1.ext hW hm1; have hB2 := hC2.ext hW hm2; have hB3 := hC3.ext hW hm3
  have hl1 : Mine Tru W b1 := .inl trivial; have hl2 : Mine Tru W b2 := .inl trivial; have hl3 : Mine Tru W b3 := .inl trivial
  refine calls_of_W (R := fun v W' => Te M w0 W (fun i => i = b2) (J (splA s)) (fun i => i = b2) W' ∨ Te M w0 W (fun i => i = b2) Jx (fun i => i = b2) W') Tryz.func147 rfl (by kernel_rfl) rfl ?_
  refine W_seq ?_
  refine W_seq ?_
  refine W_region ?_
  refine wl_val (rn_load1 p_9 rfl hB1 rfl) ?_
  refine wl_val (rn_slen us_9 rfl) ?_
  refine wl_val (rn_eql rfl rfl) ?_
  refine wl_nil ?_
  refine W_cond rfl (fun hc0 => ?_) (fun hc0 => ?_)
  · exact absurd (of_decide_eq_true hc0) (by simp)
  · refine W_skip ?_
    refine W_seq ?_
    refine W_block ?_   -- block 2
    refine W_loopS (S := List Str × Str) [0, 1, 2, 3] (fun ⟨pre, r⟩ => [.func (.yield l) #[] #[], .pointer (some ⟨b1, 0, none⟩), .pointer (some ⟨b2, 0, none⟩), .pointer (some ⟨b3, 0, none⟩)]) (fun ⟨pre, r⟩ A => (Ext Tru W A) ∧ (IsBox A b1 [Sv [10]]) ∧ (IsBox A b2 [Sv r]) ∧ (IsBox A b3 [.int .i64 1]) ∧ (Mine Tru W b1) ∧ (Mine Tru W b2) ∧ (Mine Tru W b3) ∧ (splA s = pre ++ splA r ∧ r.length ≤ s.length ∧ Te M w0 W (fun i => i = b2) (J pre) (fun i => i = b2) A)) (fun ⟨pre, r⟩ => r.length) ([], s) ⟨rfl, rfl, rfl, rfl, trivial⟩ ⟨hX, hB1, hB2, hB3, hl1, hl2, hl3, ⟨rfl, Nat.le_refl _, hT⟩⟩ ?_
    rintro τ0 ⟨pre, r⟩ A0 ⟨hX, hB1, hB2, hB3, hl1, hl2, hl3, hI0⟩
    obtain ⟨hsp, hrl, hT⟩ := hI0
    refine W_block ?_   -- block 3
    refine W_seq ?_
    refine W_region ?_
    refine wl_val (rn_load1 p_9 rfl hB2 rfl) ?_
    refine wl_val (rn_load1 p_9 rfl hB1 rfl) ?_
    refine wl_call e_149 rfl (sindex_ok A0 r 10) ?_; intro v31 w1 hE1 hR1
    replace hX := hX.tr hE1
    replace hB1 := hB1.ext hE1 id; replace hB2 := hB2.ext hE1 id; replace hB3 := hB3.ext hE1 id
    replace hT := hT.tr hE1
    subst hR1
    refine wl_val (rn_assign (by conv => lhs; whnf)) ?_
    refine wl_nil ?_
    refine W_seq ?_
    refine W_seq ?_
    refine W_region ?_
    refine wl_val (rn_move (by conv => lhs; whnf)) ?_
    refine wl_val (rn_lss rfl rfl) ?_
    refine wl_nil ?_
    refine W_cond rfl (fun hc1 => ?_) (fun hc1 => ?_)
    · have hcm : ¬ (10 : UInt8) ∈ r := fun h => by have := of_decide_eq_true hc1; have := (fi_ge r 10).2 h; omega
      refine W_exit ?_   -- exit 2
      refine W_region ?_
      refine wl_val (rn_move (by conv => lhs; whnf)) ?_
      refine wl_val (rn_load1 p_9 rfl hB2 rfl) ?_
      refine wl_yield rfl rfl (hY pre r [] (fun i => i = b2) w1 (by rw [hsp, splA_not hcm]) hT) ?_; intro y51 w2 ⟨hE2, hyT, hyF⟩
      refine wl_nil ?_
      exact ⟨_, rfl, by cases y51; exact .inr (hyF rfl); exact .inl (by rw [hsp, splA_not hcm]; exact hyT rfl)⟩
    · have hcm : (10 : UInt8) ∈ r := (fi_ge r 10).1 (by have := of_decide_eq_false hc1; omega)
      have hfi := fi_in hcm
      have hplt : (pre1 10 r).length < r.length := (List.getElem?_eq_some_iff.1 (pre1_mem hcm)).1
      refine W_skip ?_
      refine W_seq ?_
      refine W_region ?_
      refine wl_val (rn_load1 p_9 rfl hB2 rfl) ?_
      refine wl_val (Rn.cast (rn_move rfl) (v' := .int .i64 ((pre1 10 r).length : Nat)) (congrArg (Value.int .i64) hfi)) ?_
      refine wl_val (rn_load1 p_3 rfl hB3 rfl) ?_
      refine wl_val (Rn.cast (rn_add rfl rfl (by omega)) (v' := .int .i64 (((pre1 10 r).length + 1 : Nat) : Int)) rfl) ?_
      refine wl_val (Rn.cast (rn_sslice us_9 (l := 0) (h := (pre1 10 r).length + 1) rfl rfl ⟨_, rfl⟩ (by omega) (by omega)) (v' := Sv (pre1 10 r ++ [10])) (congrArg Sv (by rw [List.drop_zero, Nat.sub_zero, take_pre1 hcm]))) ?_
      refine wl_val (rn_assign (by conv => lhs; whnf)) ?_
      refine wl_nil ?_
      refine W_seq ?_
      refine W_seq ?_
      refine W_region ?_
      refine wl_val (rn_move (by conv => lhs; whnf)) ?_
      refine wl_val (rn_move (by conv => lhs; whnf)) ?_
      refine wl_yield rfl rfl (hY pre (pre1 10 r ++ [10]) (splA (r.drop ((pre1 10 r).length + 1))) (fun i => i = b2) w1 (by rw [hsp, splA_cut hcm]) hT) ?_; intro y41 w3 ⟨hE3, hyT, hyF⟩
      replace hX := hX.trans (hE3.mono fun _ _ => trivial); replace hB1 := hB1.ext hE3 (fun h => by rcases h.2 with h | h; exact hm1 h; omega); replace hB2 := hB2.ext hE3 (fun h => h.1 rfl); replace hB3 := hB3.ext hE3 (fun h => by rcases h.2 with h | h; exact hm3 h; omega)
      refine wl_val (rn_not rfl) ?_
      refine wl_nil ?_
      refine W_cond rfl (fun hc2 => ?_) (fun hc2 => ?_)
      · have hyf := hyF (by simpa using hc2)
        refine W_ret ?_
        exact ⟨_, rfl, .inr hyf⟩
      · replace hT := hyT (by simpa using hc2)
        refine W_skip ?_
        refine W_region ?_
        refine wl_val (rn_load1 p_9 rfl hB2 rfl) ?_
        refine wl_val (Rn.cast (rn_move rfl) (v' := .int .i64 ((pre1 10 r).length : Nat)) (congrArg (Value.int .i64) hfi)) ?_
        refine wl_val (rn_load1 p_9 rfl hB1 rfl) ?_
        refine wl_val (rn_slen us_9 rfl) ?_
        refine wl_val (Rn.cast (rn_add rfl rfl (by simp only [List.length_singleton]; omega)) (v' := .int .i64 (((pre1 10 r).length + 1 : Nat) : Int)) rfl) ?_
        refine wl_val (Rn.cast (rn_sslice us_9 (l := (pre1 10 r).length + 1) (h := r.length) rfl ⟨_, rfl⟩ rfl (by omega) (by omega)) (v' := Sv (r.drop ((pre1 10 r).length + 1))) (congrArg Sv (List.take_of_length_le (by rw [List.length_drop]; exact Nat.le_refl _)))) ?_
        have hBo := hB2
        refine wl_store1 (b := b2) p_9 rfl (by conv => lhs; whnf) rfl rfl hB2 (Nat.le_of_ble_eq_true rfl) ?_; intro w4 hE4 hB2 hz4
        replace hX := hX.mine hE4 hl2
        replace hB1 := hB1.ext hE4 (fun h => by omega); replace hB3 := hB3.ext hE4 (fun h => by omega)
        replace hT := hT.ext hE4 (fun i e => e)
        refine wl_nil ?_
        exact ⟨rfl, (pre ++ [pre1 10 r ++ [10]], r.drop ((pre1 10 r).length + 1)), ⟨rfl, rfl, rfl, rfl, trivial⟩, ⟨hX, hB1, hB2, hB3, hl1, hl2, hl3, ⟨by rw [hsp, splA_cut hcm]; simp, by rw [List.length_drop]; omega, hT⟩⟩, by show (r.drop ((pre1 10 r).length + 1)).length < r.length; rw [List.length_drop]; omega⟩
-- strings.splitSeq
theorem splitA0_ok (w : World) (s : Str) (M : Nat → Prop) (hM : ∀ i, M i → i < w.heap.size) (hsn : s.length ≤ 10000000) : Fn Tryz.prog 101 #[Sv s, Sv [10], .int .i64 1] w fun u w' => ∃ b2, IterE Tryz.prog M w' (fun i => i = b2) u (fun x : Str => #[Sv x]) (splA s) ∧ w.heap.size ≤ b2 ∧ b2 < w'.heap.size := by
  have hX := Ext.refl Non w
  refine fn_of_W (args := [_, _, _]) Tryz.func101 rfl (by kernel_rfl) rfl ?_
  refine W_seq ?_
  refine W_region ?_
  refine wl_box1 (by conv => lhs; whnf) rfl ?_; intro b3 w1 hb3 hE1 hB3
  have hq3 : w.heap.size ≤ b3 := Nat.le_trans hX.size hb3
  have hl3 : Mine Non w b3 := .inr hq3
  replace hX := hX.tr hE1
  refine wl_box1 (by conv => lhs; whnf) rfl ?_; intro b4 w2 hb4 hE2 hB4
  have hn3_4 : b3 < b4 := Nat.lt_of_lt_of_le hB3.lt hb4
  have hq4 : w.heap.size ≤ b4 := Nat.le_trans hX.size hb4
  have hl4 : Mine Non w b4 := .inr hq4
  replace hX := hX.tr hE2
  replace hB3 := hB3.ext hE2 id
  refine wl_box1 (by conv => lhs; whnf) rfl ?_; intro b5 w3 hb5 hE3 hB5
  have hn3_5 : b3 < b5 := Nat.lt_of_lt_of_le hB3.lt hb5
  have hn4_5 : b4 < b5 := Nat.lt_of_lt_of_le hB4.lt hb5
  have hq5 : w.heap.size ≤ b5 := Nat.le_trans hX.size hb5
  have hl5 : Mine Non w b5 := .inr hq5
  replace hX := hX.tr hE3
  replace hB3 := hB3.ext hE3 id; replace hB4 := hB4.ext hE3 id
  refine wl_val (rn_assign (by conv => lhs; whnf)) ?_
  refine wl_nil ?_
  refine W_seq ?_
  refine W_region ?_
  refine wl_val (rn_makeFunc rfl) ?_
  refine wl_val (rn_assign (by conv => lhs; whnf)) ?_
  refine wl_nil ?_
  refine W_ret ?_
  exact ⟨_, resR1 (res1_tmp rfl), hX, ⟨b3, splitA_iter s M _ b4 b3 b5 hB4 hB3 hB5 (fun h => by have := hM _ h; omega) (fun h => by have := hM _ h; omega) (fun h => by have := hM _ h; omega) (by omega) (by omega) hsn, hq3, hB3.lt⟩⟩
-- strings.SplitAfterSeq
theorem splitAfter_ok (w : World) (s : Str) (M : Nat → Prop) (hM : ∀ i, M i → i < w.heap.size) (hsn : s.length ≤ 10000000) : Fn Tryz.prog 62 #[Sv s, Sv [10]] w fun u w' => ∃ b2, IterE Tryz.prog M w' (fun i => i = b2) u (fun x : Str => #[Sv x]) (splA s) ∧ w.heap.size ≤ b2 ∧ b2 < w'.heap.size := by
  have hX := Ext.refl Non w
  refine fn_of_W (args := [_, _]) Tryz.func62 rfl (by kernel_rfl) rfl ?_
  refine W_seq ?_
  refine W_region ?_
  refine wl_val (rn_assign (by conv => lhs; whnf)) ?_
  refine wl_nil ?_
  refine W_seq ?_
  refine W_region ?_
  refine wl_val (rn_move (by conv => lhs; whnf)) ?_
  refine wl_val (rn_move (by conv => lhs; whnf)) ?_
  refine wl_val (rn_move (by conv => lhs; whnf)) ?_
  refine wl_val (rn_slen us_9 rfl) ?_
  have hXc := hX
  refine wl_call e_101 rfl (splitA0_ok w s M (fun i h => Nat.lt_of_lt_of_le (hM i h) hX.size) hsn) ?_; intro v9 w1 hE1 hR1
  replace hX := hX.tr hE1
  obtain ⟨b2, hI2, hb2, hb2l⟩ := hR1
  refine wl_val (rn_assign (by conv => lhs; whnf)) ?_
  refine wl_nil ?_
  refine W_ret ?_
  exact ⟨_, resR1 (res1_tmp rfl), hX, ⟨b2, hI2, Nat.le_trans hXc.size hb2, hb2l⟩⟩
-- internal/stringslite.HasSuffix
theorem hasSuffix_ok (w : World) (a : Str) (hn : a.length ≤ 10000000) : Fn Tryz.prog 150 #[Sv (a ++ [10]), Sv [10]] w fun u w' => u = .bool true := by
  have hal : (a ++ [10]).length = a.length + 1 := by simp
  have hX := Ext.refl Non w
  refine fn_of_W (args := [_, _]) Tryz.func150 rfl (by kernel_rfl) rfl ?_
  refine W_seq ?_
  refine W_region ?_
  refine wl_val (rn_assign (by conv => lhs; whnf)) ?_
  refine wl_nil ?_
  refine W_seq ?_
  refine W_region ?_
  refine wl_val (rn_move (by conv => lhs; whnf)) ?_
  refine wl_val (rn_slen us_9 rfl) ?_
  refine wl_val (rn_move (by conv => lhs; whnf)) ?_
  refine wl_val (rn_slen us_9 rfl) ?_
  refine wl_val (rn_geq rfl rfl) ?_
  refine wl_val (rn_move (by conv => lhs; whnf)) ?_
  refine wl_split (d := 10) rfl (fun hg10 => ?_) (fun hg10 => ?_)
  · refine wl_yes rfl (congrArg Value.bool hg10) ?_
    refine wl_val (rn_move (by conv => lhs; whnf)) ?_
    refine wl_yes rfl (congrArg Value.bool hg10) ?_
    refine wl_val (rn_move (by conv => lhs; whnf)) ?_
    refine wl_yes rfl (congrArg Value.bool hg10) ?_
    refine wl_val (rn_slen us_9 rfl) ?_
    refine wl_yes rfl (congrArg Value.bool hg10) ?_
    refine wl_val (rn_move (by conv => lhs; whnf)) ?_
    refine wl_yes rfl (congrArg Value.bool hg10) ?_
    refine wl_val (rn_slen us_9 rfl) ?_
    refine wl_yes rfl (congrArg Value.bool hg10) ?_
    refine wl_val (Rn.cast (rn_sub rfl rfl (by rw [hal]; simp only [List.length_cons, List.length_nil]; omega)) (v' := .int .i64 (a.length : Nat)) (congrArg (Value.int .i64) (by rw [hal]; simp only [List.length_cons, List.length_nil]; omega))) ?_
    refine wl_yes rfl (congrArg Value.bool hg10) ?_
    refine wl_val (Rn.cast (rn_sslice us_9 (l := a.length) (h := a.length + 1) rfl ⟨_, rfl⟩ hal.symm (by omega) (by rw [hal]; exact Nat.le_refl _)) (v' := Sv [10]) (congrArg Sv (by simp))) ?_
    refine wl_yes rfl (congrArg Value.bool hg10) ?_
    refine wl_val (rn_move (by conv => lhs; whnf)) ?_
    refine wl_yes rfl (congrArg Value.bool hg10) ?_
    refine wl_val (rn_seql rfl rfl) ?_
    refine wl_val (rn_pickT (congrArg Value.bool hg10) (by conv => lhs; whnf)) ?_
    refine wl_val (rn_assign (by conv => lhs; whnf)) ?_
    refine wl_nil ?_
    refine W_ret ?_
    exact ⟨_, resR1 (res1_tmp rfl), hX, congrArg Value.bool (decide_eq_true rfl)⟩
  · exact absurd (of_decide_eq_false hg10) (by rw [hal]; simp only [List.length_cons, List.length_nil]; omega)
-- internal/stringslite.CutSuffix
theorem lcutSuffix_ok (w : World) (a : Str) (hn : a.length ≤ 10000000) : Fn Tryz.prog 102 #[Sv (a ++ [10]), Sv [10]] w fun u w' => u = .tuple #[Sv a, .bool true] := by
  have hal : (a ++ [10]).length = a.length + 1 := by simp
  have hX := Ext.refl Non w
  refine fn_of_W (args := [_, _]) Tryz.func102 rfl (by kernel_rfl) rfl ?_
  refine W_seq ?_
  refine W_region ?_
  refine wl_val (rn_assign (by conv => lhs; whnf)) ?_
  refine wl_val (rn_assign (by conv => lhs; whnf)) ?_
  refine wl_nil ?_
  refine W_seq ?_
  refine W_seq ?_
  refine W_region ?_
  refine wl_val (rn_move (by conv => lhs; whnf)) ?_
  refine wl_val (rn_move (by conv => lhs; whnf)) ?_
  refine wl_call e_150 rfl (hasSuffix_ok w a hn) ?_; intro v8 w1 hE1 hR1
  replace hX := hX.tr hE1
  subst hR1
  refine wl_val (rn_not rfl) ?_
  refine wl_nil ?_
  refine W_cond rfl (fun hc0 => ?_) (fun hc0 => ?_)
  · exact absurd hc0 (by decide)
  · refine W_skip ?_
    refine W_seq ?_
    refine W_region ?_
    refine wl_val (rn_move (by conv => lhs; whnf)) ?_
    refine wl_val (rn_move (by conv => lhs; whnf)) ?_
    refine wl_val (rn_slen us_9 rfl) ?_
    refine wl_val (rn_move (by conv => lhs; whnf)) ?_
    refine wl_val (rn_slen us_9 rfl) ?_
    refine wl_val (Rn.cast (rn_sub rfl rfl (by rw [hal]; simp only [List.length_cons, List.length_nil]; omega)) (v' := .int .i64 (a.length : Nat)) (congrArg (Value.int .i64) (by rw [hal]; simp only [List.length_cons, List.length_nil]; omega))) ?_
    refine wl_val (Rn.cast (rn_sslice us_9 (l := 0) (h := a.length) rfl rfl ⟨_, rfl⟩ (by omega) (by simp)) (v' := Sv a) (congrArg Sv (by simp))) ?_
    refine wl_val (rn_assign (by conv => lhs; whnf)) ?_
    refine wl_val (rn_assign (by conv => lhs; whnf)) ?_
    refine wl_nil ?_
    refine W_ret ?_
    exact ⟨_, resR2 (res1_tmp rfl) (res1_tmp rfl), hX, rfl⟩
-- strings.CutSuffix
theorem cutSuffix_ok (w : World) (a : Str) (hn : a.length ≤ 10000000) : Fn Tryz.prog 63 #[Sv (a ++ [10]), Sv [10]] w fun u w' => u = .tuple #[Sv a, .bool true] := by
  have hX := Ext.refl Non w
  refine fn_of_W (args := [_, _]) Tryz.func63 rfl (by kernel_rfl) rfl ?_
  refine W_seq ?_
  refine W_region ?_
  refine wl_val (rn_assign (by conv => lhs; whnf)) ?_
  refine wl_val (rn_assign (by conv => lhs; whnf)) ?_
  refine wl_nil ?_
  refine W_seq ?_
  refine W_region ?_
  refine wl_val (rn_move (by conv => lhs; whnf)) ?_
  refine wl_val (rn_move (by conv => lhs; whnf)) ?_
  refine wl_call e_102 rfl (lcutSuffix_ok w a hn) ?_; intro v8 w1 hE1 hR1
  replace hX := hX.tr hE1
  subst hR1
  refine wl_val (rn_extract rfl rfl) ?_
  refine wl_val (rn_extract rfl rfl) ?_
  refine wl_val (rn_assign (by conv => lhs; whnf)) ?_
  refine wl_val (rn_assign (by conv => lhs; whnf)) ?_
  refine wl_nil ?_
  refine W_ret ?_
  exact ⟨_, resR2 (res1_tmp rfl) (res1_tmp rfl), hX, rfl⟩
end Go.Proofs.YthcclgoidchkdaaGreatDoorC
