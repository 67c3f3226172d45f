/- Layer 27: the laws of answers and rows. -/
import Derived.Test.YthcclgoidchkdaaDoorRow3
set_option linter.unusedVariables false
set_option linter.unusedSimpArgs false
set_option maxRecDepth 100000
namespace Go.Proofs.YthcclgoidchkdaaDoorC
open Go.RowKit
theorem EqS.monoE {P : Program} {m m' : Nat} {t : TypeId} {a b : Value} {r : Bool} (h : EqS P m t a b r) (hm : m ≤ m') : EqS P m' t a b r := fun d w hd => h d w (Nat.le_trans hm hd)
theorem ansE_eqs (x y : AnsD) : EqS Tryd.prog 3 34 (.agg x.enc.toArray) (.agg y.enc.toArray) (decide (x = y)) := by
  have p1 : ∀ z : AnsD, (z.enc.toArray).extract 3 (3 + 3) = z.msg.enc.toArray := fun z => by simp [AnsD.enc, MsgD.enc]
  have hm : EqS Tryd.prog 2 32 (.agg ((x.enc.toArray).extract 3 (3 + 3))) (.agg ((y.enc.toArray).extract 3 (3 + 3))) (decide (x.msg = y.msg)) := by rw [p1, p1]; exact msg_eqs _ _
  have h := eqs_struct (P := Tryd.prog) (t := 34) (m := 2) (xs := x.enc.toArray) (ys := y.enc.toArray) (by kernel_rfl) sh_34 fs_34
    (EqF.cons rfl (part_1 p_30 rfl) (part_1 p_30 rfl) ((eqs_int ui_30).monoE (by decide)) (EqF.cons rfl (part_1 p_3 rfl) (part_1 p_3 rfl) ((eqs_int ui_3).monoE (by decide)) (EqF.cons rfl (part_1 p_3 rfl) (part_1 p_3 rfl) ((eqs_int ui_3).monoE (by decide)) (EqF.cons rfl (part_s s_32) (part_s s_32) hm .nil))))
  rw [show decide (x = y) = (decide (x.err = y.err) && (decide (x.a = y.a) && (decide (x.b = y.b) && (decide (x.msg = y.msg) && true)))) from ?_]
  · exact h
  · obtain ⟨a, b, c, d⟩ := x; obtain ⟨a', b', c', d'⟩ := y
    by_cases h1 : a = a' <;> by_cases h2 : b = b' <;> by_cases h3 : c = c' <;> by_cases h4 : d = d' <;> simp [h1, h2, h3, h4]

theorem itoa1 {n : Nat} (h : n < 10) : Lib.itoa (n : Int) = [UInt8.ofNat (48 + n)] := by rw [itoa_nat, Lib.decDigits_one h]
abbrev cAw : CallD := ⟨0, 1, ⟨4, 2, [], [], false⟩, ⟨7, 0, 0, mZ⟩, 3, 4⟩
theorem aw_row : rowR cAw = [48, 32, 49, 32, 51, 32, 52, 32, 112, 111, 108, 108, 32, 50, 32, 61, 32, 101, 114, 114, 111, 114, 32, 55] := by
  have h0 : Lib.itoa 0 = [48] := itoa1 (n := 0) (by decide)
  have h1 : Lib.itoa 1 = [49] := itoa1 (n := 1) (by decide)
  have h3 : Lib.itoa 3 = [51] := itoa1 (n := 3) (by decide)
  have h4 : Lib.itoa 4 = [52] := itoa1 (n := 4) (by decide)
  have h7 : Lib.itoa 7 = [55] := itoa1 (n := 7) (by decide)
  have h2 : Lib.decDigits 2 = [50] := Lib.decDigits_one (by decide)
  have hl : lineQ ⟨4, 2, [], [], false⟩ = [112, 111, 108, 108, 32, 50] := by
    unfold lineQ; rw [if_pos (by decide +kernel)]
    have := line4 2 [] []
    rw [h2] at this; exact this
  unfold rowR
  rw [tx4, ansR_err (by decide)]
  simp only [h0, h1, h3, h4, h7, hl]
  rfl
theorem aw_ok : CallOk cAw := ⟨by constructor <;> decide, by constructor <;> decide, by constructor <;> decide, by constructor <;> decide, by simp, by simp, ⟨by constructor <;> decide, by constructor <;> decide, by constructor <;> decide, by simp, by simp⟩⟩
theorem ansR_len3 {a : AnsD} (h : AnsOk a) (ht : a.msg.topic.length ≤ 300) (hp : a.msg.payload.length ≤ 300) : (ansR a).length ≤ 4000 := by
  obtain ⟨e, x, y, ⟨t, p, k⟩⟩ := a
  have h1 := itoa_len h.e; have h2 := itoa_len h.x; have h3 := itoa_len h.y
  have h4 := wordR_len t; have h5 := wordR_len p
  simp only at h1 h2 h3 ht hp
  have hh := howR_len k
  by_cases h0 : e ≠ 0
  · rw [ansR_err h0]; simp only [List.length_append, List.length_cons, List.length_nil]; omega
  · obtain rfl : e = 0 := Classical.not_not.1 h0
    by_cases hz : (⟨t, p, k⟩ : MsgD) = mZ
    · rw [ansR_3 hz]; simp only [List.length_append, List.length_cons, List.length_nil]; omega
    · rw [ansR_6 hz]; simp only [List.length_append, List.length_cons, List.length_nil]; omega
/-- A call's numbers are such. -/
structure CallI (c : CallD) : Prop where
  th : I64 c.thread
  pl : I64 c.place
  fr : I64 c.from_
  to : I64 c.to_
  e : I64 c.ans.err
  x : I64 c.ans.a
  y : I64 c.ans.b
structure CallS (c : CallD) : Prop where
  t : c.op.text.length ≤ 300
  p : c.op.payload.length ≤ 300
  mt : c.ans.msg.topic.length ≤ 300
  mp : c.ans.msg.payload.length ≤ 300
theorem CallI.ok {c : CallD} (h : CallI c) (hs : CallS c) : CallOk c := ⟨h.th, h.pl, h.fr, h.to, by have := hs.t; omega, by have := hs.p; omega, ⟨h.e, h.x, h.y, by have := hs.mt; omega, by have := hs.mp; omega⟩⟩
-- bellman/bellmanlaw27.awake
theorem awake27_ok (w : World) (hT : Tab w) : Fn Tryd.prog 27 #[] w fun u w' => u = .bool true := by
  have hX := Ext.refl Non w
  refine fn_of_W (args := []) Tryd.func27 rfl (by kernel_rfl) rfl ?_
  refine W_seq ?_
  refine W_region ?_
  refine wl_val (rn_assign (by conv => lhs; whnf)) ?_
  refine wl_nil ?_
  refine W_seq ?_
  refine W_region ?_
  refine wl_val (rn_build' b_29 rfl rfl (cs := (⟨4, 2, [], [], false⟩ : OpD).enc) rfl) ?_
  refine wl_val (rn_build' b_34 rfl rfl (cs := (⟨7, 0, 0, mZ⟩ : AnsD).enc) rfl) ?_
  refine wl_val (rn_build' b_38 rfl rfl (cs := cAw.enc) rfl) ?_
  refine wl_call e_54 rfl (row_ok w cAw aw_ok hT) ?_; intro v4 w1 hE1 hR1
  replace hX := hX.tr hE1
  subst hR1; rw [aw_row]
  refine wl_val (rn_seql rfl rfl) ?_
  refine wl_val (rn_assign (by conv => lhs; whnf)) ?_
  refine wl_nil ?_
  refine W_ret ?_
  exact ⟨_, resR1 (res1_tmp rfl), hX, rfl⟩
-- bellman/bellmanlaw27.long
set_option maxHeartbeats 1600000 in
theorem long27_ok (w : World) (c : CallD) : Fn Tryd.prog 28 #[.agg c.enc.toArray] w fun u w' => ∃ b : Bool, u = .bool b ∧ (b = false → CallS c) := by
  have hX := Ext.refl Non w
  refine fn_of_W (args := [_]) Tryd.func28 rfl (by kernel_rfl) rfl ?_
  refine W_seq ?_
  refine W_region ?_
  refine wl_boxS rfl ?_; intro b1 w1 hb1 hE1 hB1
  have hq1 : w.heap.size ≤ b1 := Nat.le_trans hX.size hb1
  have hl1 : Mine Non w b1 := .inr hq1
  replace hX := hX.tr hE1
  refine wl_val (rn_assign (by conv => lhs; whnf)) ?_
  refine wl_nil ?_
  refine W_seq ?_
  refine W_region ?_
  refine wl_val (rn_fieldAddr f_38_2 (by decide) rfl) ?_
  refine wl_val (rn_fieldAddr f_29_2 (by decide) rfl) ?_
  refine wl_val (rn_load1 p_9 rfl hB1 rfl) ?_
  refine wl_call e_32 rfl (long_ok w1 c.op.text) ?_; intro v6 w2 hE2 hR2
  replace hX := hX.tr hE2
  replace hB1 := hB1.ext hE2 id
  subst hR2
  refine wl_val (rn_move (by conv => lhs; whnf)) ?_
  refine wl_split (d := 7) rfl (fun hg7 => ?_) (fun hg7 => ?_)
  · refine wl_no rfl (congrArg Value.bool hg7) ?_
    refine wl_no rfl (congrArg Value.bool hg7) ?_
    refine wl_no rfl (congrArg Value.bool hg7) ?_
    refine wl_no rfl (congrArg Value.bool hg7) ?_
    refine wl_val (rn_pickT (congrArg Value.bool hg7) (by conv => lhs; whnf)) ?_
    refine wl_val (rn_move (by conv => lhs; whnf)) ?_
    refine wl_no rfl rfl ?_
    refine wl_no rfl rfl ?_
    refine wl_no rfl rfl ?_
    refine wl_no rfl rfl ?_
    refine wl_no rfl rfl ?_
    refine wl_val (rn_pickT rfl (by conv => lhs; whnf)) ?_
    refine wl_val (rn_move (by conv => lhs; whnf)) ?_
    refine wl_no rfl rfl ?_
    refine wl_no rfl rfl ?_
    refine wl_no rfl rfl ?_
    refine wl_no rfl rfl ?_
    refine wl_no rfl rfl ?_
    refine wl_val (rn_pickT rfl (by conv => lhs; whnf)) ?_
    refine wl_val (rn_assign (by conv => lhs; whnf)) ?_
    refine wl_nil ?_
    refine W_ret ?_
    first | exact ⟨_, resR1 (res1_tmp rfl), hX, ⟨_, rfl, fun h => ⟨by omega, by omega, by omega, by have := of_decide_eq_false h; omega⟩⟩⟩ | exact ⟨_, resR1 (res1_tmp rfl), hX, ⟨_, rfl, fun h => (by cases h)⟩⟩ | exact ⟨_, resR1 (res1_tmp rfl), hX, ⟨_, rfl, fun h => absurd h (by rw [hg13]; decide)⟩⟩ | exact ⟨_, resR1 (res1_tmp rfl), hX, ⟨_, rfl, fun h => absurd h (by rw [hg20]; decide)⟩⟩
  · have l7 := of_decide_eq_false hg7
    refine wl_yes rfl (congrArg Value.bool hg7) ?_
    refine wl_val (rn_fieldAddr f_38_2 (by decide) rfl) ?_
    refine wl_yes rfl (congrArg Value.bool hg7) ?_
    refine wl_val (rn_fieldAddr f_29_3 (by decide) rfl) ?_
    refine wl_yes rfl (congrArg Value.bool hg7) ?_
    refine wl_val (rn_load1 p_9 rfl hB1 rfl) ?_
    refine wl_yes rfl (congrArg Value.bool hg7) ?_
    refine wl_call e_32 rfl (long_ok w2 c.op.payload) ?_; intro v11 w3 hE3 hR3
    replace hX := hX.tr hE3
    replace hB1 := hB1.ext hE3 id
    subst hR3
    refine wl_val (rn_pickF (congrArg Value.bool hg7) (by conv => lhs; whnf)) ?_
    refine wl_val (rn_move (by conv => lhs; whnf)) ?_
    refine wl_split (d := 13) rfl (fun hg13 => ?_) (fun hg13 => ?_)
    · refine wl_no rfl (congrArg Value.bool hg13) ?_
      refine wl_no rfl (congrArg Value.bool hg13) ?_
      refine wl_no rfl (congrArg Value.bool hg13) ?_
      refine wl_no rfl (congrArg Value.bool hg13) ?_
      refine wl_no rfl (congrArg Value.bool hg13) ?_
      refine wl_val (rn_pickT (congrArg Value.bool hg13) (by conv => lhs; whnf)) ?_
      refine wl_val (rn_move (by conv => lhs; whnf)) ?_
      refine wl_no rfl rfl ?_
      refine wl_no rfl rfl ?_
      refine wl_no rfl rfl ?_
      refine wl_no rfl rfl ?_
      refine wl_no rfl rfl ?_
      refine wl_val (rn_pickT rfl (by conv => lhs; whnf)) ?_
      refine wl_val (rn_assign (by conv => lhs; whnf)) ?_
      refine wl_nil ?_
      refine W_ret ?_
      first | exact ⟨_, resR1 (res1_tmp rfl), hX, ⟨_, rfl, fun h => ⟨by omega, by omega, by omega, by have := of_decide_eq_false h; omega⟩⟩⟩ | exact ⟨_, resR1 (res1_tmp rfl), hX, ⟨_, rfl, fun h => (by cases h)⟩⟩ | exact ⟨_, resR1 (res1_tmp rfl), hX, ⟨_, rfl, fun h => absurd h (by rw [hg13]; decide)⟩⟩ | exact ⟨_, resR1 (res1_tmp rfl), hX, ⟨_, rfl, fun h => absurd h (by rw [hg20]; decide)⟩⟩
    · have l13 := of_decide_eq_false hg13
      refine wl_yes rfl (congrArg Value.bool hg13) ?_
      refine wl_val (rn_fieldAddr f_38_3 (by decide) rfl) ?_
      refine wl_yes rfl (congrArg Value.bool hg13) ?_
      refine wl_val (rn_fieldAddr f_34_3 (by decide) rfl) ?_
      refine wl_yes rfl (congrArg Value.bool hg13) ?_
      refine wl_val (rn_fieldAddr f_32_0 (by decide) rfl) ?_
      refine wl_yes rfl (congrArg Value.bool hg13) ?_
      refine wl_val (rn_load1 p_9 rfl hB1 rfl) ?_
      refine wl_yes rfl (congrArg Value.bool hg13) ?_
      refine wl_call e_32 rfl (long_ok w3 c.ans.msg.topic) ?_; intro v18 w4 hE4 hR4
      replace hX := hX.tr hE4
      replace hB1 := hB1.ext hE4 id
      subst hR4
      refine wl_val (rn_pickF (congrArg Value.bool hg13) (by conv => lhs; whnf)) ?_
      refine wl_val (rn_move (by conv => lhs; whnf)) ?_
      refine wl_split (d := 20) rfl (fun hg20 => ?_) (fun hg20 => ?_)
      · refine wl_no rfl (congrArg Value.bool hg20) ?_
        refine wl_no rfl (congrArg Value.bool hg20) ?_
        refine wl_no rfl (congrArg Value.bool hg20) ?_
        refine wl_no rfl (congrArg Value.bool hg20) ?_
        refine wl_no rfl (congrArg Value.bool hg20) ?_
        refine wl_val (rn_pickT (congrArg Value.bool hg20) (by conv => lhs; whnf)) ?_
        refine wl_val (rn_assign (by conv => lhs; whnf)) ?_
        refine wl_nil ?_
        refine W_ret ?_
        first | exact ⟨_, resR1 (res1_tmp rfl), hX, ⟨_, rfl, fun h => ⟨by omega, by omega, by omega, by have := of_decide_eq_false h; omega⟩⟩⟩ | exact ⟨_, resR1 (res1_tmp rfl), hX, ⟨_, rfl, fun h => (by cases h)⟩⟩ | exact ⟨_, resR1 (res1_tmp rfl), hX, ⟨_, rfl, fun h => absurd h (by rw [hg13]; decide)⟩⟩ | exact ⟨_, resR1 (res1_tmp rfl), hX, ⟨_, rfl, fun h => absurd h (by rw [hg20]; decide)⟩⟩
      · have l20 := of_decide_eq_false hg20
        refine wl_yes rfl (congrArg Value.bool hg20) ?_
        refine wl_val (rn_fieldAddr f_38_3 (by decide) rfl) ?_
        refine wl_yes rfl (congrArg Value.bool hg20) ?_
        refine wl_val (rn_fieldAddr f_34_3 (by decide) rfl) ?_
        refine wl_yes rfl (congrArg Value.bool hg20) ?_
        refine wl_val (rn_fieldAddr f_32_1 (by decide) rfl) ?_
        refine wl_yes rfl (congrArg Value.bool hg20) ?_
        refine wl_val (rn_load1 p_9 rfl hB1 rfl) ?_
        refine wl_yes rfl (congrArg Value.bool hg20) ?_
        refine wl_call e_32 rfl (long_ok w4 c.ans.msg.payload) ?_; intro v25 w5 hE5 hR5
        replace hX := hX.tr hE5
        replace hB1 := hB1.ext hE5 id
        subst hR5
        refine wl_val (rn_pickF (congrArg Value.bool hg20) (by conv => lhs; whnf)) ?_
        refine wl_val (rn_assign (by conv => lhs; whnf)) ?_
        refine wl_nil ?_
        refine W_ret ?_
        first | exact ⟨_, resR1 (res1_tmp rfl), hX, ⟨_, rfl, fun h => ⟨by omega, by omega, by omega, by have := of_decide_eq_false h; omega⟩⟩⟩ | exact ⟨_, resR1 (res1_tmp rfl), hX, ⟨_, rfl, fun h => (by cases h)⟩⟩ | exact ⟨_, resR1 (res1_tmp rfl), hX, ⟨_, rfl, fun h => absurd h (by rw [hg13]; decide)⟩⟩ | exact ⟨_, resR1 (res1_tmp rfl), hX, ⟨_, rfl, fun h => absurd h (by rw [hg20]; decide)⟩⟩
-- bellman/bellmanlaw27.RowsTake
set_option maxHeartbeats 1600000 in
theorem rowsTake_ok (w : World) (s : Str) (hT : Tab w) (hR : ErrS w) : Fn Tryd.prog 12 #[Sv s] w fun u w' => u = .bool true := by
  have hG := hT.gl (Nat.le_refl w.heap.size); have hTw := hR.two
  have hX := Ext.refl Non w
  refine fn_of_W (args := [_]) Tryd.func12 rfl (by kernel_rfl) rfl ?_
  refine W_seq ?_
  refine W_region ?_
  refine wl_val (rn_assign (by conv => lhs; whnf)) ?_
  refine wl_nil ?_
  refine W_seq ?_
  refine W_seq ?_
  refine W_region ?_
  refine wl_call e_27 rfl (awake27_ok w hT) ?_; intro v7 w1 hE1 hR1
  replace hX := hX.tr hE1
  replace hT := hT.non hE1
  replace hR := hR.non hE1
  subst hR1
  refine wl_val (rn_not rfl) ?_
  refine wl_nil ?_
  refine W_cond rfl (fun hc0 => ?_) (fun hc0 => ?_)
  · exact absurd hc0 (by decide)
  · refine W_skip ?_
    refine W_seq ?_
    refine W_seq ?_
    refine W_region ?_
    refine wl_val (rn_move (by conv => lhs; whnf)) ?_
    refine wl_call e_32 rfl (long_ok w1 s) ?_; intro v10 w2 hE2 hR2
    replace hX := hX.tr hE2
    replace hT := hT.non hE2
    replace hR := hR.non hE2
    subst hR2
    refine wl_nil ?_
    refine W_cond rfl (fun hc1 => ?_) (fun hc1 => ?_)
    · refine W_seq ?_
      refine W_region ?_
      refine wl_val (rn_assign (by conv => lhs; whnf)) ?_
      refine wl_nil ?_
      refine W_ret ?_
      exact ⟨_, resR1 (res1_tmp rfl), hX, rfl⟩
    · have hl3 : s.length ≤ 300 := by have := of_decide_eq_false hc1; omega
      refine W_skip ?_
      refine W_seq ?_
      refine W_region ?_
      refine wl_val (rn_move (by conv => lhs; whnf)) ?_
      refine wl_call e_56 rfl (take_ok w2 s (by omega) hT hR) ?_; intro v13 w3 hE3 hR3
      replace hX := hX.tr hE3
      replace hT := hT.non hE3
      replace hR := hR.non hE3
      subst hR3; rw [take_doc]
      refine wl_val (rn_move (by conv => lhs; whnf)) ?_
      refine wl_val (rn_extract rfl rfl) ?_
      refine wl_val (rn_extract rfl rfl) ?_
      refine wl_alloc z_34 ?_; intro b3 w4 hb3 hE4 hB3
      have hq3 : w.heap.size ≤ b3 := Nat.le_trans hX.size hb3
      have hl3 : Mine Non w b3 := .inr hq3
      replace hX := hX.tr hE4
      replace hT := hT.non hE4
      replace hR := hR.non hE4
      have hBo := hB3
      refine wl_storeB s_34 rfl rfl rfl (AnsD.one _) hB3 rfl ?_; intro w5 hE5 hB3 hz5
      replace hX := hX.mine hE5 hl3
      replace hT := hT.ext hE5 (B := w.heap.size) (fun j hj => by subst hj; exact hq3) hG
      replace hR := hR.ext hE5 (B := w.heap.size) (fun j hj => by subst hj; exact hq3) hTw
      refine wl_val (rn_assign (by conv => lhs; whnf)) ?_
      refine wl_nil ?_
      refine W_seq ?_
      refine W_region ?_
      refine wl_val (rn_move (by conv => lhs; whnf)) ?_
      refine wl_call e_57 rfl (rtake_ok w5 s (by omega)) ?_; intro v18 w6 hE6 hR6
      replace hX := hX.tr hE6
      replace hB3 := hB3.ext hE6 id
      replace hT := hT.non hE6
      replace hR := hR.non hE6
      subst hR6
      refine wl_val (rn_move (by conv => lhs; whnf)) ?_
      refine wl_val (rn_extract rfl rfl) ?_
      refine wl_val (rn_extract rfl rfl) ?_
      refine wl_alloc z_34 ?_; intro b5 w7 hb5 hE7 hB5
      have hn3_5 : b3 < b5 := Nat.lt_of_lt_of_le hB3.lt hb5
      have hq5 : w.heap.size ≤ b5 := Nat.le_trans hX.size hb5
      have hl5 : Mine Non w b5 := .inr hq5
      replace hX := hX.tr hE7
      replace hB3 := hB3.ext hE7 id
      replace hT := hT.non hE7
      replace hR := hR.non hE7
      have hBo := hB5
      refine wl_storeB s_34 rfl rfl rfl (AnsD.one _) hB5 rfl ?_; intro w8 hE8 hB5 hz8
      replace hX := hX.mine hE8 hl5
      replace hB3 := hB3.ext hE8 (fun h => by omega)
      replace hT := hT.ext hE8 (B := w.heap.size) (fun j hj => by subst hj; exact hq5) hG
      replace hR := hR.ext hE8 (B := w.heap.size) (fun j hj => by subst hj; exact hq5) hTw
      refine wl_val (rn_assign (by conv => lhs; whnf)) ?_
      refine wl_nil ?_
      refine W_seq ?_
      refine W_region ?_
      refine wl_val (rn_loadB s_34 rfl rfl hB3) ?_
      refine wl_val (rn_loadB s_34 rfl rfl hB5) ?_
      refine wl_val (rn_eqlS rfl rfl eg_34 (by decide) (ansE_eqs _ _)) ?_
      refine wl_val (rn_move (by conv => lhs; whnf)) ?_
      refine wl_split (d := 24) rfl (fun hg24 => ?_) (fun hg24 => ?_)
      · refine wl_yes rfl (congrArg Value.bool hg24) ?_
        refine wl_val (rn_move (by conv => lhs; whnf)) ?_
        refine wl_yes rfl (congrArg Value.bool hg24) ?_
        refine wl_val (rn_move (by conv => lhs; whnf)) ?_
        refine wl_yes rfl (congrArg Value.bool hg24) ?_
        refine wl_val (rn_beql ub_4 rfl rfl) ?_
        refine wl_val (rn_pickT (congrArg Value.bool hg24) (by conv => lhs; whnf)) ?_
        refine wl_val (rn_assign (by conv => lhs; whnf)) ?_
        refine wl_nil ?_
        refine W_ret ?_
        exact ⟨_, resR1 (res1_tmp rfl), hX, congrArg Value.bool (decide_eq_true rfl)⟩
      · exact absurd hg24 (by simp)
-- bellman/bellmanlaw27.RowsTell
set_option maxHeartbeats 3200000 in
theorem rowsTell_ok (w : World) (c : CallD) (hI : CallI c) (hT : Tab w) (hR : ErrS w) : Fn Tryd.prog 11 #[.agg c.enc.toArray] w fun u w' => u = .bool true := by
  have hG := hT.gl (Nat.le_refl w.heap.size); have hTw := hR.two
  have hX := Ext.refl Non w
  refine fn_of_W (args := [_]) Tryd.func11 rfl (by kernel_rfl) rfl ?_
  refine W_seq ?_
  refine W_region ?_
  refine wl_boxS rfl ?_; intro b1 w1 hb1 hE1 hB1
  have hq1 : w.heap.size ≤ b1 := Nat.le_trans hX.size hb1
  have hl1 : Mine Non w b1 := .inr hq1
  replace hX := hX.tr hE1
  replace hT := hT.non hE1
  replace hR := hR.non hE1
  refine wl_val (rn_assign (by conv => lhs; whnf)) ?_
  refine wl_nil ?_
  refine W_seq ?_
  refine W_seq ?_
  refine W_region ?_
  refine wl_call e_27 rfl (awake27_ok w1 hT) ?_; intro v10 w2 hE2 hR2
  replace hX := hX.tr hE2
  replace hB1 := hB1.ext hE2 id
  replace hT := hT.non hE2
  replace hR := hR.non hE2
  subst hR2
  refine wl_val (rn_not rfl) ?_
  refine wl_nil ?_
  refine W_cond rfl (fun hc0 => ?_) (fun hc0 => ?_)
  · exact absurd hc0 (by decide)
  · refine W_skip ?_
    refine W_seq ?_
    refine W_seq ?_
    refine W_region ?_
    refine wl_val (rn_loadB s_38 rfl rfl hB1) ?_
    refine wl_call e_28 rfl (long27_ok w2 c) ?_; intro v13 w3 hE3 hR3
    replace hX := hX.tr hE3
    replace hB1 := hB1.ext hE3 id
    replace hT := hT.non hE3
    replace hR := hR.non hE3
    obtain ⟨b, rfl, hb⟩ := hR3
    refine wl_nil ?_
    refine W_cond rfl (fun hc1 => ?_) (fun hc1 => ?_)
    · refine W_seq ?_
      refine W_region ?_
      refine wl_val (rn_assign (by conv => lhs; whnf)) ?_
      refine wl_nil ?_
      refine W_ret ?_
      first | exact ⟨_, resR1 (res1_tmp rfl), hX, rfl⟩ | exact ⟨_, resR1 (res1_tmp rfl), hX, congrArg Value.bool (decide_eq_true (by rw [htk]; exact if_pos q4))⟩ | exact ⟨_, resR1 (res1_tmp rfl), hX, congrArg Value.bool (decide_eq_true (by rw [htk]; exact if_neg q4))⟩
    · have hs := hb hc1
      have hok := hI.ok hs
      have hl4 := ansR_len3 hok.ans hs.mt hs.mp
      refine W_skip ?_
      refine W_seq ?_
      refine W_region ?_
      refine wl_val (rn_fieldAddr f_38_3 (by decide) rfl) ?_
      refine wl_val (rn_loadS s_34 (vs := c.ans.enc) rfl rfl (hB1.part rfl (Nat.le_of_ble_eq_true rfl))) ?_
      refine wl_alloc z_34 ?_; intro b3 w4 hb3 hE4 hB3
      have hn1_3 : b1 < b3 := Nat.lt_of_lt_of_le hB1.lt hb3
      have hq3 : w.heap.size ≤ b3 := Nat.le_trans hX.size hb3
      have hl3 : Mine Non w b3 := .inr hq3
      replace hX := hX.tr hE4
      replace hB1 := hB1.ext hE4 id
      replace hT := hT.non hE4
      replace hR := hR.non hE4
      have hBo := hB3
      refine wl_storeB s_34 rfl rfl rfl (AnsD.one _) hB3 rfl ?_; intro w5 hE5 hB3 hz5
      replace hX := hX.mine hE5 hl3
      replace hB1 := hB1.ext hE5 (fun h => by omega)
      replace hT := hT.ext hE5 (B := w.heap.size) (fun j hj => by subst hj; exact hq3) hG
      replace hR := hR.ext hE5 (B := w.heap.size) (fun j hj => by subst hj; exact hq3) hTw
      refine wl_nil ?_
      refine W_seq ?_
      refine W_region ?_
      refine wl_val (rn_loadB s_34 rfl rfl hB3) ?_
      refine wl_call e_53 rfl (answer_ok w5 c.ans hok.ans hT) ?_; intro v17 w6 hE6 hR6
      replace hX := hX.tr hE6
      replace hB1 := hB1.ext hE6 id; replace hB3 := hB3.ext hE6 id
      replace hT := hT.non hE6
      replace hR := hR.non hE6
      subst hR6
      refine wl_val (rn_assign (by conv => lhs; whnf)) ?_
      refine wl_nil ?_
      refine W_seq ?_
      refine W_seq ?_
      refine W_drawE mixed ?_; intro w7 hE7
      replace hX := hX.tr hE7
      replace hB1 := hB1.ext hE7 id; replace hB3 := hB3.ext hE7 id
      replace hT := hT.non hE7
      replace hR := hR.non hE7
      have hS := Ext.refl Non w7
      refine wd_take 0 _ _ rfl (by kernel_rfl) hS (yd_do fun A hA => rn_loadB s_38 rfl rfl (hB1.ext hA id)) ?_
      refine wd_take 2 _ _ rfl (by kernel_rfl) hS (yd_do fun A hA => rn_loadB s_38 rfl rfl (hB1.ext hA id)) ?_
      refine wd_only 1 _ rfl (by kernel_rfl) ?_
      refine s1_do ?_
      refine wl_call e_54 rfl (row_ok w7 c hok (hT.non hS)) ?_; intro v19 w8 hE8 hR8
      replace hS := hS.tr hE8
      subst hR8
      refine wl_nil ⟨hS, ?_⟩
      refine wd_only 3 _ rfl (by kernel_rfl) ?_
      refine s1_do ?_
      refine wl_call e_30 rfl (rrow_ok w8 c hok) ?_; intro v21 w9 hE9 hR9
      replace hS := hS.tr hE9
      subst hR9
      refine wl_nil ⟨hS, ?_⟩
      refine wd_take 4 _ _ rfl (by kernel_rfl) hS (yd_do fun A hA => rn_sneq rfl rfl) ?_
      refine wd_take 5 _ _ rfl (by kernel_rfl) hS (yd_do fun A hA => rn_move (by conv => lhs; whnf)) ?_
      refine wd_split (d := 23) rfl (fun hg23 => ?_) (fun hg23 => ?_)
      · exact absurd hg23 (by simp)
      · refine wd_take 6 _ _ rfl (by kernel_rfl) hS (yd_yes rfl (congrArg Value.bool hg23) fun A hA => rn_move (by conv => lhs; whnf)) ?_
        refine wd_take 7 _ _ rfl (by kernel_rfl) hS (yd_yes rfl (congrArg Value.bool hg23) fun A hA => rn_loadB s_34 rfl rfl (hB3.ext hA id)) ?_
        refine wd_only 8 _ rfl (by kernel_rfl) ?_
        refine s1_yes rfl (congrArg Value.bool hg23) ?_
        refine wl_call e_55 rfl (ranswer_ok w9 c.ans hok.ans) ?_; intro v26 w10 hE10 hR10
        replace hS := hS.tr hE10
        subst hR10
        refine wl_nil ⟨hS, ?_⟩
        refine wd_take 9 _ _ rfl (by kernel_rfl) hS (yd_yes rfl (congrArg Value.bool hg23) fun A hA => rn_sneq rfl rfl) ?_
        refine wd_take 10 _ _ rfl (by kernel_rfl) hS (yd_do fun A hA => rn_pickF (congrArg Value.bool hg23) (by conv => lhs; whnf)) ?_
        refine wd_done (by kernel_rfl) ?_ _
        replace hX := hX.tr hS
        replace hB1 := hB1.ext hS id; replace hB3 := hB3.ext hS id
        replace hT := hT.non hS
        replace hR := hR.non hS
        refine W_cond rfl (fun hc2 => ?_) (fun hc2 => ?_)
        · exact absurd hc2 (by simp)
        · refine W_skip ?_
          refine W_seq ?_
          refine W_region ?_
          refine wl_val (rn_move (by conv => lhs; whnf)) ?_
          refine wl_call e_56 rfl (take_ok w10 (ansR c.ans) hl4 hT hR) ?_; intro v31 w11 hE11 hR11
          replace hX := hX.tr hE11
          replace hB1 := hB1.ext hE11 id; replace hB3 := hB3.ext hE11 id
          replace hT := hT.non hE11
          replace hR := hR.non hE11
          subst hR11; rw [take_doc]
          refine wl_val (rn_move (by conv => lhs; whnf)) ?_
          refine wl_val (rn_extract rfl rfl) ?_
          refine wl_val (rn_extract rfl rfl) ?_
          refine wl_alloc z_34 ?_; intro b5 w12 hb5 hE12 hB5
          have hn1_5 : b1 < b5 := Nat.lt_of_lt_of_le hB1.lt hb5
          have hn3_5 : b3 < b5 := Nat.lt_of_lt_of_le hB3.lt hb5
          have hq5 : w.heap.size ≤ b5 := Nat.le_trans hX.size hb5
          have hl5 : Mine Non w b5 := .inr hq5
          replace hX := hX.tr hE12
          replace hB1 := hB1.ext hE12 id; replace hB3 := hB3.ext hE12 id
          replace hT := hT.non hE12
          replace hR := hR.non hE12
          have hBo := hB5
          refine wl_storeB s_34 rfl rfl rfl (AnsD.one _) hB5 rfl ?_; intro w13 hE13 hB5 hz13
          replace hX := hX.mine hE13 hl5
          replace hB1 := hB1.ext hE13 (fun h => by omega); replace hB3 := hB3.ext hE13 (fun h => by omega)
          replace hT := hT.ext hE13 (B := w.heap.size) (fun j hj => by subst hj; exact hq5) hG
          replace hR := hR.ext hE13 (B := w.heap.size) (fun j hj => by subst hj; exact hq5) hTw
          refine wl_val (rn_assign (by conv => lhs; whnf)) ?_
          refine wl_nil ?_
          refine W_seq ?_
          refine W_region ?_
          refine wl_val (rn_move (by conv => lhs; whnf)) ?_
          refine wl_call e_57 rfl (rtake_ok w13 (ansR c.ans) hl4) ?_; intro v36 w14 hE14 hR14
          replace hX := hX.tr hE14
          replace hB1 := hB1.ext hE14 id; replace hB3 := hB3.ext hE14 id; replace hB5 := hB5.ext hE14 id
          replace hT := hT.non hE14
          replace hR := hR.non hE14
          subst hR14
          refine wl_val (rn_move (by conv => lhs; whnf)) ?_
          refine wl_val (rn_extract rfl rfl) ?_
          refine wl_val (rn_extract rfl rfl) ?_
          refine wl_alloc z_34 ?_; intro b7 w15 hb7 hE15 hB7
          have hn1_7 : b1 < b7 := Nat.lt_of_lt_of_le hB1.lt hb7
          have hn3_7 : b3 < b7 := Nat.lt_of_lt_of_le hB3.lt hb7
          have hn5_7 : b5 < b7 := Nat.lt_of_lt_of_le hB5.lt hb7
          have hq7 : w.heap.size ≤ b7 := Nat.le_trans hX.size hb7
          have hl7 : Mine Non w b7 := .inr hq7
          replace hX := hX.tr hE15
          replace hB1 := hB1.ext hE15 id; replace hB3 := hB3.ext hE15 id; replace hB5 := hB5.ext hE15 id
          replace hT := hT.non hE15
          replace hR := hR.non hE15
          have hBo := hB7
          refine wl_storeB s_34 rfl rfl rfl (AnsD.one _) hB7 rfl ?_; intro w16 hE16 hB7 hz16
          replace hX := hX.mine hE16 hl7
          replace hB1 := hB1.ext hE16 (fun h => by omega); replace hB3 := hB3.ext hE16 (fun h => by omega); replace hB5 := hB5.ext hE16 (fun h => by omega)
          replace hT := hT.ext hE16 (B := w.heap.size) (fun j hj => by subst hj; exact hq7) hG
          replace hR := hR.ext hE16 (B := w.heap.size) (fun j hj => by subst hj; exact hq7) hTw
          refine wl_val (rn_assign (by conv => lhs; whnf)) ?_
          refine wl_nil ?_
          refine W_seq ?_
          refine W_seq ?_
          refine W_region ?_
          refine wl_val (rn_loadB s_34 rfl rfl hB5) ?_
          refine wl_val (rn_loadB s_34 rfl rfl hB7) ?_
          refine wl_val (rn_neqS rfl rfl eg_34 (by decide) (ansE_eqs _ _)) ?_
          refine wl_val (rn_move (by conv => lhs; whnf)) ?_
          refine wl_split (d := 42) rfl (fun hg42 => ?_) (fun hg42 => ?_)
          · exact absurd hg42 (by simp)
          · refine wl_yes rfl (congrArg Value.bool hg42) ?_
            refine wl_val (rn_move (by conv => lhs; whnf)) ?_
            refine wl_yes rfl (congrArg Value.bool hg42) ?_
            refine wl_val (rn_move (by conv => lhs; whnf)) ?_
            refine wl_yes rfl (congrArg Value.bool hg42) ?_
            refine wl_val (rn_bneq ub_4 rfl rfl) ?_
            refine wl_val (rn_pickF (congrArg Value.bool hg42) (by conv => lhs; whnf)) ?_
            refine wl_nil ?_
            refine W_cond rfl (fun hc3 => ?_) (fun hc3 => ?_)
            · exact absurd hc3 (by simp)
            · refine W_skip ?_
              refine W_seq ?_
              refine W_region ?_
              refine wl_val (rn_fieldAddr f_34_0 (by decide) rfl) ?_
              refine wl_val (rn_load1 p_30 rfl hB3 rfl) ?_
              refine wl_val (rn_geq rfl rfl) ?_
              refine wl_val (rn_move (by conv => lhs; whnf)) ?_
              refine wl_split (d := 50) rfl (fun hg50 => ?_) (fun hg50 => ?_)
              · have w50 := of_decide_eq_true hg50
                refine wl_yes rfl (congrArg Value.bool hg50) ?_
                refine wl_val (rn_fieldAddr f_34_0 (by decide) rfl) ?_
                refine wl_yes rfl (congrArg Value.bool hg50) ?_
                refine wl_val (rn_load1 p_30 rfl hB3 rfl) ?_
                refine wl_yes rfl (congrArg Value.bool hg50) ?_
                refine wl_val (rn_leq rfl rfl) ?_
                refine wl_val (rn_pickT (congrArg Value.bool hg50) (by conv => lhs; whnf)) ?_
                refine wl_val (rn_move (by conv => lhs; whnf)) ?_
                refine wl_split (d := 55) rfl (fun hg55 => ?_) (fun hg55 => ?_)
                · have w55 := of_decide_eq_true hg55
                  refine wl_yes rfl (congrArg Value.bool hg55) ?_
                  refine wl_val (rn_fieldAddr f_34_1 (by decide) rfl) ?_
                  refine wl_yes rfl (congrArg Value.bool hg55) ?_
                  refine wl_val (rn_load1 p_3 rfl hB3 rfl) ?_
                  refine wl_yes rfl (congrArg Value.bool hg55) ?_
                  refine wl_val (rn_geq rfl rfl) ?_
                  refine wl_val (rn_pickT (congrArg Value.bool hg55) (by conv => lhs; whnf)) ?_
                  refine wl_val (rn_move (by conv => lhs; whnf)) ?_
                  refine wl_split (d := 60) rfl (fun hg60 => ?_) (fun hg60 => ?_)
                  · have w60 := of_decide_eq_true hg60
                    refine wl_yes rfl (congrArg Value.bool hg60) ?_
                    refine wl_val (rn_fieldAddr f_34_1 (by decide) rfl) ?_
                    refine wl_yes rfl (congrArg Value.bool hg60) ?_
                    refine wl_val (rn_load1 p_3 rfl hB3 rfl) ?_
                    refine wl_yes rfl (congrArg Value.bool hg60) ?_
                    refine wl_val (rn_leq rfl rfl) ?_
                    refine wl_val (rn_pickT (congrArg Value.bool hg60) (by conv => lhs; whnf)) ?_
                    refine wl_val (rn_move (by conv => lhs; whnf)) ?_
                    refine wl_split (d := 65) rfl (fun hg65 => ?_) (fun hg65 => ?_)
                    · have w65 := of_decide_eq_true hg65
                      refine wl_yes rfl (congrArg Value.bool hg65) ?_
                      refine wl_val (rn_fieldAddr f_34_2 (by decide) rfl) ?_
                      refine wl_yes rfl (congrArg Value.bool hg65) ?_
                      refine wl_val (rn_load1 p_3 rfl hB3 rfl) ?_
                      refine wl_yes rfl (congrArg Value.bool hg65) ?_
                      refine wl_val (rn_geq rfl rfl) ?_
                      refine wl_val (rn_pickT (congrArg Value.bool hg65) (by conv => lhs; whnf)) ?_
                      refine wl_val (rn_move (by conv => lhs; whnf)) ?_
                      refine wl_split (d := 70) rfl (fun hg70 => ?_) (fun hg70 => ?_)
                      · have w70 := of_decide_eq_true hg70
                        refine wl_yes rfl (congrArg Value.bool hg70) ?_
                        refine wl_val (rn_fieldAddr f_34_2 (by decide) rfl) ?_
                        refine wl_yes rfl (congrArg Value.bool hg70) ?_
                        refine wl_val (rn_load1 p_3 rfl hB3 rfl) ?_
                        refine wl_yes rfl (congrArg Value.bool hg70) ?_
                        refine wl_val (rn_leq rfl rfl) ?_
                        refine wl_val (rn_pickT (congrArg Value.bool hg70) (by conv => lhs; whnf)) ?_
                        refine wl_val (rn_assign (by conv => lhs; whnf)) ?_
                        refine wl_nil ?_
                        refine W_seq ?_
                        refine W_seq ?_
                        refine W_region ?_
                        refine wl_val (rn_fieldAddr f_34_0 (by decide) rfl) ?_
                        refine wl_val (rn_load1 p_30 rfl hB3 rfl) ?_
                        refine wl_val (rn_neq rfl rfl) ?_
                        refine wl_nil ?_
                        refine W_cond rfl (fun hc4 => ?_) (fun hc4 => ?_)
                        · have q4 : c.ans.err ≠ 0 := of_decide_eq_true hc4
                          refine W_region ?_
                          refine wl_val (rn_fieldAddr f_34_0 (by decide) rfl) ?_
                          refine wl_val (rn_load1 p_30 rfl hB3 rfl) ?_
                          refine wl_val (rn_build' b_34 rfl rfl (cs := (⟨c.ans.err, 0, 0, mZ⟩ : AnsD).enc) rfl) ?_
                          have hBo := hB3
                          refine wl_storeB s_34 rfl rfl rfl (AnsD.one _) hB3 rfl ?_; intro w17 hE17 hB3 hz17
                          replace hX := hX.mine hE17 hl3
                          replace hB1 := hB1.ext hE17 (fun h => by omega); replace hB5 := hB5.ext hE17 (fun h => by omega); replace hB7 := hB7.ext hE17 (fun h => by omega)
                          replace hT := hT.ext hE17 (B := w.heap.size) (fun j hj => by subst hj; exact hq3) hG
                          replace hR := hR.ext hE17 (B := w.heap.size) (fun j hj => by subst hj; exact hq3) hTw
                          refine wl_nil ?_
                          refine W_seq ?_
                          refine W_region ?_
                          refine wl_val (rn_move (by conv => lhs; whnf)) ?_
                          refine wl_val (rn_not rfl) ?_
                          refine wl_val (rn_move (by conv => lhs; whnf)) ?_
                          refine wl_split (d := 83) rfl (fun hg83 => ?_) (fun hg83 => ?_)
                          · refine wl_no rfl (congrArg Value.bool hg83) ?_
                            refine wl_no rfl (congrArg Value.bool hg83) ?_
                            refine wl_nou rfl rfl ?_
                            refine wl_nou rfl rfl ?_
                            refine wl_nou rfl rfl ?_
                            refine wl_no rfl (congrArg Value.bool hg83) ?_
                            refine wl_val (rn_pickT (congrArg Value.bool hg83) (by conv => lhs; whnf)) ?_
                            refine wl_val (rn_assign (by conv => lhs; whnf)) ?_
                            refine wl_nil ?_
                            refine W_ret ?_
                            first | exact ⟨_, resR1 (res1_tmp rfl), hX, rfl⟩ | exact ⟨_, resR1 (res1_tmp rfl), hX, congrArg Value.bool (decide_eq_true (by rw [htk]; exact if_pos q4))⟩ | exact ⟨_, resR1 (res1_tmp rfl), hX, congrArg Value.bool (decide_eq_true (by rw [htk]; exact if_neg q4))⟩
                          · try have htk : docT (spl 32 (ansR c.ans)) = some (ansB c.ans) := (take_doc _).symm.trans (take_ans ⟨w50, w55⟩ ⟨w60, w65⟩ ⟨w70, by have h : (!decide (c.ans.b ≤ 1000000)) = false := hg83; simpa using h⟩)
                            refine wl_yes rfl (congrArg Value.bool hg83) ?_
                            refine wl_val (rn_move (by conv => lhs; whnf)) ?_
                            refine wl_yes rfl (congrArg Value.bool hg83) ?_
                            refine wl_val (rn_move (by conv => lhs; whnf)) ?_
                            refine wl_split (d := 85) rfl (fun hg85 => ?_) (fun hg85 => ?_)
                            · refine wl_yes rfl (congrArg Value.bool hg85) ?_
                              refine wl_val (rn_loadB s_34 rfl rfl hB5) ?_
                              refine wl_yes rfl (congrArg Value.bool hg85) ?_
                              refine wl_val (rn_loadB s_34 rfl rfl hB3) ?_
                              refine wl_yes rfl (congrArg Value.bool hg85) ?_
                              refine wl_val (rn_eqlS rfl rfl eg_34 (by decide) (ansE_eqs _ _)) ?_
                              refine wl_yes rfl (congrArg Value.bool hg83) ?_
                              refine wl_val (rn_pickT (congrArg Value.bool hg85) (by conv => lhs; whnf)) ?_
                              refine wl_val (rn_pickF (congrArg Value.bool hg83) (by conv => lhs; whnf)) ?_
                              refine wl_val (rn_assign (by conv => lhs; whnf)) ?_
                              refine wl_nil ?_
                              refine W_ret ?_
                              first | exact ⟨_, resR1 (res1_tmp rfl), hX, rfl⟩ | exact ⟨_, resR1 (res1_tmp rfl), hX, congrArg Value.bool (decide_eq_true (by rw [htk]; exact if_pos q4))⟩ | exact ⟨_, resR1 (res1_tmp rfl), hX, congrArg Value.bool (decide_eq_true (by rw [htk]; exact if_neg q4))⟩
                            · exact absurd hg85 (by rw [htk]; simp)
                        · have q4 : ¬ c.ans.err ≠ 0 := of_decide_eq_false hc4
                          refine W_skip ?_
                          refine W_seq ?_
                          refine W_region ?_
                          refine wl_val (rn_move (by conv => lhs; whnf)) ?_
                          refine wl_val (rn_not rfl) ?_
                          refine wl_val (rn_move (by conv => lhs; whnf)) ?_
                          refine wl_split (d := 83) rfl (fun hg83 => ?_) (fun hg83 => ?_)
                          · refine wl_no rfl (congrArg Value.bool hg83) ?_
                            refine wl_no rfl (congrArg Value.bool hg83) ?_
                            refine wl_nou rfl rfl ?_
                            refine wl_nou rfl rfl ?_
                            refine wl_nou rfl rfl ?_
                            refine wl_no rfl (congrArg Value.bool hg83) ?_
                            refine wl_val (rn_pickT (congrArg Value.bool hg83) (by conv => lhs; whnf)) ?_
                            refine wl_val (rn_assign (by conv => lhs; whnf)) ?_
                            refine wl_nil ?_
                            refine W_ret ?_
                            first | exact ⟨_, resR1 (res1_tmp rfl), hX, rfl⟩ | exact ⟨_, resR1 (res1_tmp rfl), hX, congrArg Value.bool (decide_eq_true (by rw [htk]; exact if_pos q4))⟩ | exact ⟨_, resR1 (res1_tmp rfl), hX, congrArg Value.bool (decide_eq_true (by rw [htk]; exact if_neg q4))⟩
                          · try have htk : docT (spl 32 (ansR c.ans)) = some (ansB c.ans) := (take_doc _).symm.trans (take_ans ⟨w50, w55⟩ ⟨w60, w65⟩ ⟨w70, by have h : (!decide (c.ans.b ≤ 1000000)) = false := hg83; simpa using h⟩)
                            refine wl_yes rfl (congrArg Value.bool hg83) ?_
                            refine wl_val (rn_move (by conv => lhs; whnf)) ?_
                            refine wl_yes rfl (congrArg Value.bool hg83) ?_
                            refine wl_val (rn_move (by conv => lhs; whnf)) ?_
                            refine wl_split (d := 85) rfl (fun hg85 => ?_) (fun hg85 => ?_)
                            · refine wl_yes rfl (congrArg Value.bool hg85) ?_
                              refine wl_val (rn_loadB s_34 rfl rfl hB5) ?_
                              refine wl_yes rfl (congrArg Value.bool hg85) ?_
                              refine wl_val (rn_loadB s_34 rfl rfl hB3) ?_
                              refine wl_yes rfl (congrArg Value.bool hg85) ?_
                              refine wl_val (rn_eqlS rfl rfl eg_34 (by decide) (ansE_eqs _ _)) ?_
                              refine wl_yes rfl (congrArg Value.bool hg83) ?_
                              refine wl_val (rn_pickT (congrArg Value.bool hg85) (by conv => lhs; whnf)) ?_
                              refine wl_val (rn_pickF (congrArg Value.bool hg83) (by conv => lhs; whnf)) ?_
                              refine wl_val (rn_assign (by conv => lhs; whnf)) ?_
                              refine wl_nil ?_
                              refine W_ret ?_
                              first | exact ⟨_, resR1 (res1_tmp rfl), hX, rfl⟩ | exact ⟨_, resR1 (res1_tmp rfl), hX, congrArg Value.bool (decide_eq_true (by rw [htk]; exact if_pos q4))⟩ | exact ⟨_, resR1 (res1_tmp rfl), hX, congrArg Value.bool (decide_eq_true (by rw [htk]; exact if_neg q4))⟩
                            · exact absurd hg85 (by rw [htk]; simp)
                      · refine wl_no rfl (congrArg Value.bool hg70) ?_
                        refine wl_no rfl (congrArg Value.bool hg70) ?_
                        refine wl_no rfl (congrArg Value.bool hg70) ?_
                        refine wl_val (rn_pickF (congrArg Value.bool hg70) (by conv => lhs; whnf)) ?_
                        refine wl_val (rn_assign (by conv => lhs; whnf)) ?_
                        refine wl_nil ?_
                        refine W_seq ?_
                        refine W_seq ?_
                        refine W_region ?_
                        refine wl_val (rn_fieldAddr f_34_0 (by decide) rfl) ?_
                        refine wl_val (rn_load1 p_30 rfl hB3 rfl) ?_
                        refine wl_val (rn_neq rfl rfl) ?_
                        refine wl_nil ?_
                        refine W_cond rfl (fun hc4 => ?_) (fun hc4 => ?_)
                        · have q4 : c.ans.err ≠ 0 := of_decide_eq_true hc4
                          refine W_region ?_
                          refine wl_val (rn_fieldAddr f_34_0 (by decide) rfl) ?_
                          refine wl_val (rn_load1 p_30 rfl hB3 rfl) ?_
                          refine wl_val (rn_build' b_34 rfl rfl (cs := (⟨c.ans.err, 0, 0, mZ⟩ : AnsD).enc) rfl) ?_
                          have hBo := hB3
                          refine wl_storeB s_34 rfl rfl rfl (AnsD.one _) hB3 rfl ?_; intro w18 hE18 hB3 hz18
                          replace hX := hX.mine hE18 hl3
                          replace hB1 := hB1.ext hE18 (fun h => by omega); replace hB5 := hB5.ext hE18 (fun h => by omega); replace hB7 := hB7.ext hE18 (fun h => by omega)
                          replace hT := hT.ext hE18 (B := w.heap.size) (fun j hj => by subst hj; exact hq3) hG
                          replace hR := hR.ext hE18 (B := w.heap.size) (fun j hj => by subst hj; exact hq3) hTw
                          refine wl_nil ?_
                          refine W_seq ?_
                          refine W_region ?_
                          refine wl_val (rn_move (by conv => lhs; whnf)) ?_
                          refine wl_val (rn_not rfl) ?_
                          refine wl_val (rn_move (by conv => lhs; whnf)) ?_
                          refine wl_split (d := 83) rfl (fun hg83 => ?_) (fun hg83 => ?_)
                          · refine wl_no rfl (congrArg Value.bool hg83) ?_
                            refine wl_no rfl (congrArg Value.bool hg83) ?_
                            refine wl_nou rfl rfl ?_
                            refine wl_nou rfl rfl ?_
                            refine wl_nou rfl rfl ?_
                            refine wl_no rfl (congrArg Value.bool hg83) ?_
                            refine wl_val (rn_pickT (congrArg Value.bool hg83) (by conv => lhs; whnf)) ?_
                            refine wl_val (rn_assign (by conv => lhs; whnf)) ?_
                            refine wl_nil ?_
                            refine W_ret ?_
                            first | exact ⟨_, resR1 (res1_tmp rfl), hX, rfl⟩ | exact ⟨_, resR1 (res1_tmp rfl), hX, congrArg Value.bool (decide_eq_true (by rw [htk]; exact if_pos q4))⟩ | exact ⟨_, resR1 (res1_tmp rfl), hX, congrArg Value.bool (decide_eq_true (by rw [htk]; exact if_neg q4))⟩
                          · try have htk : docT (spl 32 (ansR c.ans)) = some (ansB c.ans) := (take_doc _).symm.trans (take_ans ⟨w50, w55⟩ ⟨w60, w65⟩ ⟨w70, by have h : (!decide (c.ans.b ≤ 1000000)) = false := hg83; simpa using h⟩)
                            exact absurd hg83 (by decide)
                        · have q4 : ¬ c.ans.err ≠ 0 := of_decide_eq_false hc4
                          refine W_skip ?_
                          refine W_seq ?_
                          refine W_region ?_
                          refine wl_val (rn_move (by conv => lhs; whnf)) ?_
                          refine wl_val (rn_not rfl) ?_
                          refine wl_val (rn_move (by conv => lhs; whnf)) ?_
                          refine wl_split (d := 83) rfl (fun hg83 => ?_) (fun hg83 => ?_)
                          · refine wl_no rfl (congrArg Value.bool hg83) ?_
                            refine wl_no rfl (congrArg Value.bool hg83) ?_
                            refine wl_nou rfl rfl ?_
                            refine wl_nou rfl rfl ?_
                            refine wl_nou rfl rfl ?_
                            refine wl_no rfl (congrArg Value.bool hg83) ?_
                            refine wl_val (rn_pickT (congrArg Value.bool hg83) (by conv => lhs; whnf)) ?_
                            refine wl_val (rn_assign (by conv => lhs; whnf)) ?_
                            refine wl_nil ?_
                            refine W_ret ?_
                            first | exact ⟨_, resR1 (res1_tmp rfl), hX, rfl⟩ | exact ⟨_, resR1 (res1_tmp rfl), hX, congrArg Value.bool (decide_eq_true (by rw [htk]; exact if_pos q4))⟩ | exact ⟨_, resR1 (res1_tmp rfl), hX, congrArg Value.bool (decide_eq_true (by rw [htk]; exact if_neg q4))⟩
                          · try have htk : docT (spl 32 (ansR c.ans)) = some (ansB c.ans) := (take_doc _).symm.trans (take_ans ⟨w50, w55⟩ ⟨w60, w65⟩ ⟨w70, by have h : (!decide (c.ans.b ≤ 1000000)) = false := hg83; simpa using h⟩)
                            exact absurd hg83 (by decide)
                    · refine wl_no rfl (congrArg Value.bool hg65) ?_
                      refine wl_no rfl (congrArg Value.bool hg65) ?_
                      refine wl_no rfl (congrArg Value.bool hg65) ?_
                      refine wl_val (rn_pickF (congrArg Value.bool hg65) (by conv => lhs; whnf)) ?_
                      refine wl_val (rn_move (by conv => lhs; whnf)) ?_
                      refine wl_no rfl rfl ?_
                      refine wl_no rfl rfl ?_
                      refine wl_no rfl rfl ?_
                      refine wl_val (rn_pickF rfl (by conv => lhs; whnf)) ?_
                      refine wl_val (rn_assign (by conv => lhs; whnf)) ?_
                      refine wl_nil ?_
                      refine W_seq ?_
                      refine W_seq ?_
                      refine W_region ?_
                      refine wl_val (rn_fieldAddr f_34_0 (by decide) rfl) ?_
                      refine wl_val (rn_load1 p_30 rfl hB3 rfl) ?_
                      refine wl_val (rn_neq rfl rfl) ?_
                      refine wl_nil ?_
                      refine W_cond rfl (fun hc4 => ?_) (fun hc4 => ?_)
                      · have q4 : c.ans.err ≠ 0 := of_decide_eq_true hc4
                        refine W_region ?_
                        refine wl_val (rn_fieldAddr f_34_0 (by decide) rfl) ?_
                        refine wl_val (rn_load1 p_30 rfl hB3 rfl) ?_
                        refine wl_val (rn_build' b_34 rfl rfl (cs := (⟨c.ans.err, 0, 0, mZ⟩ : AnsD).enc) rfl) ?_
                        have hBo := hB3
                        refine wl_storeB s_34 rfl rfl rfl (AnsD.one _) hB3 rfl ?_; intro w19 hE19 hB3 hz19
                        replace hX := hX.mine hE19 hl3
                        replace hB1 := hB1.ext hE19 (fun h => by omega); replace hB5 := hB5.ext hE19 (fun h => by omega); replace hB7 := hB7.ext hE19 (fun h => by omega)
                        replace hT := hT.ext hE19 (B := w.heap.size) (fun j hj => by subst hj; exact hq3) hG
                        replace hR := hR.ext hE19 (B := w.heap.size) (fun j hj => by subst hj; exact hq3) hTw
                        refine wl_nil ?_
                        refine W_seq ?_
                        refine W_region ?_
                        refine wl_val (rn_move (by conv => lhs; whnf)) ?_
                        refine wl_val (rn_not rfl) ?_
                        refine wl_val (rn_move (by conv => lhs; whnf)) ?_
                        refine wl_split (d := 83) rfl (fun hg83 => ?_) (fun hg83 => ?_)
                        · refine wl_no rfl (congrArg Value.bool hg83) ?_
                          refine wl_no rfl (congrArg Value.bool hg83) ?_
                          refine wl_nou rfl rfl ?_
                          refine wl_nou rfl rfl ?_
                          refine wl_nou rfl rfl ?_
                          refine wl_no rfl (congrArg Value.bool hg83) ?_
                          refine wl_val (rn_pickT (congrArg Value.bool hg83) (by conv => lhs; whnf)) ?_
                          refine wl_val (rn_assign (by conv => lhs; whnf)) ?_
                          refine wl_nil ?_
                          refine W_ret ?_
                          first | exact ⟨_, resR1 (res1_tmp rfl), hX, rfl⟩ | exact ⟨_, resR1 (res1_tmp rfl), hX, congrArg Value.bool (decide_eq_true (by rw [htk]; exact if_pos q4))⟩ | exact ⟨_, resR1 (res1_tmp rfl), hX, congrArg Value.bool (decide_eq_true (by rw [htk]; exact if_neg q4))⟩
                        · try have htk : docT (spl 32 (ansR c.ans)) = some (ansB c.ans) := (take_doc _).symm.trans (take_ans ⟨w50, w55⟩ ⟨w60, w65⟩ ⟨w70, by have h : (!decide (c.ans.b ≤ 1000000)) = false := hg83; simpa using h⟩)
                          exact absurd hg83 (by decide)
                      · have q4 : ¬ c.ans.err ≠ 0 := of_decide_eq_false hc4
                        refine W_skip ?_
                        refine W_seq ?_
                        refine W_region ?_
                        refine wl_val (rn_move (by conv => lhs; whnf)) ?_
                        refine wl_val (rn_not rfl) ?_
                        refine wl_val (rn_move (by conv => lhs; whnf)) ?_
                        refine wl_split (d := 83) rfl (fun hg83 => ?_) (fun hg83 => ?_)
                        · refine wl_no rfl (congrArg Value.bool hg83) ?_
                          refine wl_no rfl (congrArg Value.bool hg83) ?_
                          refine wl_nou rfl rfl ?_
                          refine wl_nou rfl rfl ?_
                          refine wl_nou rfl rfl ?_
                          refine wl_no rfl (congrArg Value.bool hg83) ?_
                          refine wl_val (rn_pickT (congrArg Value.bool hg83) (by conv => lhs; whnf)) ?_
                          refine wl_val (rn_assign (by conv => lhs; whnf)) ?_
                          refine wl_nil ?_
                          refine W_ret ?_
                          first | exact ⟨_, resR1 (res1_tmp rfl), hX, rfl⟩ | exact ⟨_, resR1 (res1_tmp rfl), hX, congrArg Value.bool (decide_eq_true (by rw [htk]; exact if_pos q4))⟩ | exact ⟨_, resR1 (res1_tmp rfl), hX, congrArg Value.bool (decide_eq_true (by rw [htk]; exact if_neg q4))⟩
                        · try have htk : docT (spl 32 (ansR c.ans)) = some (ansB c.ans) := (take_doc _).symm.trans (take_ans ⟨w50, w55⟩ ⟨w60, w65⟩ ⟨w70, by have h : (!decide (c.ans.b ≤ 1000000)) = false := hg83; simpa using h⟩)
                          exact absurd hg83 (by decide)
                  · refine wl_no rfl (congrArg Value.bool hg60) ?_
                    refine wl_no rfl (congrArg Value.bool hg60) ?_
                    refine wl_no rfl (congrArg Value.bool hg60) ?_
                    refine wl_val (rn_pickF (congrArg Value.bool hg60) (by conv => lhs; whnf)) ?_
                    refine wl_val (rn_move (by conv => lhs; whnf)) ?_
                    refine wl_no rfl rfl ?_
                    refine wl_no rfl rfl ?_
                    refine wl_no rfl rfl ?_
                    refine wl_val (rn_pickF rfl (by conv => lhs; whnf)) ?_
                    refine wl_val (rn_move (by conv => lhs; whnf)) ?_
                    refine wl_no rfl rfl ?_
                    refine wl_no rfl rfl ?_
                    refine wl_no rfl rfl ?_
                    refine wl_val (rn_pickF rfl (by conv => lhs; whnf)) ?_
                    refine wl_val (rn_assign (by conv => lhs; whnf)) ?_
                    refine wl_nil ?_
                    refine W_seq ?_
                    refine W_seq ?_
                    refine W_region ?_
                    refine wl_val (rn_fieldAddr f_34_0 (by decide) rfl) ?_
                    refine wl_val (rn_load1 p_30 rfl hB3 rfl) ?_
                    refine wl_val (rn_neq rfl rfl) ?_
                    refine wl_nil ?_
                    refine W_cond rfl (fun hc4 => ?_) (fun hc4 => ?_)
                    · have q4 : c.ans.err ≠ 0 := of_decide_eq_true hc4
                      refine W_region ?_
                      refine wl_val (rn_fieldAddr f_34_0 (by decide) rfl) ?_
                      refine wl_val (rn_load1 p_30 rfl hB3 rfl) ?_
                      refine wl_val (rn_build' b_34 rfl rfl (cs := (⟨c.ans.err, 0, 0, mZ⟩ : AnsD).enc) rfl) ?_
                      have hBo := hB3
                      refine wl_storeB s_34 rfl rfl rfl (AnsD.one _) hB3 rfl ?_; intro w20 hE20 hB3 hz20
                      replace hX := hX.mine hE20 hl3
                      replace hB1 := hB1.ext hE20 (fun h => by omega); replace hB5 := hB5.ext hE20 (fun h => by omega); replace hB7 := hB7.ext hE20 (fun h => by omega)
                      replace hT := hT.ext hE20 (B := w.heap.size) (fun j hj => by subst hj; exact hq3) hG
                      replace hR := hR.ext hE20 (B := w.heap.size) (fun j hj => by subst hj; exact hq3) hTw
                      refine wl_nil ?_
                      refine W_seq ?_
                      refine W_region ?_
                      refine wl_val (rn_move (by conv => lhs; whnf)) ?_
                      refine wl_val (rn_not rfl) ?_
                      refine wl_val (rn_move (by conv => lhs; whnf)) ?_
                      refine wl_split (d := 83) rfl (fun hg83 => ?_) (fun hg83 => ?_)
                      · refine wl_no rfl (congrArg Value.bool hg83) ?_
                        refine wl_no rfl (congrArg Value.bool hg83) ?_
                        refine wl_nou rfl rfl ?_
                        refine wl_nou rfl rfl ?_
                        refine wl_nou rfl rfl ?_
                        refine wl_no rfl (congrArg Value.bool hg83) ?_
                        refine wl_val (rn_pickT (congrArg Value.bool hg83) (by conv => lhs; whnf)) ?_
                        refine wl_val (rn_assign (by conv => lhs; whnf)) ?_
                        refine wl_nil ?_
                        refine W_ret ?_
                        first | exact ⟨_, resR1 (res1_tmp rfl), hX, rfl⟩ | exact ⟨_, resR1 (res1_tmp rfl), hX, congrArg Value.bool (decide_eq_true (by rw [htk]; exact if_pos q4))⟩ | exact ⟨_, resR1 (res1_tmp rfl), hX, congrArg Value.bool (decide_eq_true (by rw [htk]; exact if_neg q4))⟩
                      · try have htk : docT (spl 32 (ansR c.ans)) = some (ansB c.ans) := (take_doc _).symm.trans (take_ans ⟨w50, w55⟩ ⟨w60, w65⟩ ⟨w70, by have h : (!decide (c.ans.b ≤ 1000000)) = false := hg83; simpa using h⟩)
                        exact absurd hg83 (by decide)
                    · have q4 : ¬ c.ans.err ≠ 0 := of_decide_eq_false hc4
                      refine W_skip ?_
                      refine W_seq ?_
                      refine W_region ?_
                      refine wl_val (rn_move (by conv => lhs; whnf)) ?_
                      refine wl_val (rn_not rfl) ?_
                      refine wl_val (rn_move (by conv => lhs; whnf)) ?_
                      refine wl_split (d := 83) rfl (fun hg83 => ?_) (fun hg83 => ?_)
                      · refine wl_no rfl (congrArg Value.bool hg83) ?_
                        refine wl_no rfl (congrArg Value.bool hg83) ?_
                        refine wl_nou rfl rfl ?_
                        refine wl_nou rfl rfl ?_
                        refine wl_nou rfl rfl ?_
                        refine wl_no rfl (congrArg Value.bool hg83) ?_
                        refine wl_val (rn_pickT (congrArg Value.bool hg83) (by conv => lhs; whnf)) ?_
                        refine wl_val (rn_assign (by conv => lhs; whnf)) ?_
                        refine wl_nil ?_
                        refine W_ret ?_
                        first | exact ⟨_, resR1 (res1_tmp rfl), hX, rfl⟩ | exact ⟨_, resR1 (res1_tmp rfl), hX, congrArg Value.bool (decide_eq_true (by rw [htk]; exact if_pos q4))⟩ | exact ⟨_, resR1 (res1_tmp rfl), hX, congrArg Value.bool (decide_eq_true (by rw [htk]; exact if_neg q4))⟩
                      · try have htk : docT (spl 32 (ansR c.ans)) = some (ansB c.ans) := (take_doc _).symm.trans (take_ans ⟨w50, w55⟩ ⟨w60, w65⟩ ⟨w70, by have h : (!decide (c.ans.b ≤ 1000000)) = false := hg83; simpa using h⟩)
                        exact absurd hg83 (by decide)
                · refine wl_no rfl (congrArg Value.bool hg55) ?_
                  refine wl_no rfl (congrArg Value.bool hg55) ?_
                  refine wl_no rfl (congrArg Value.bool hg55) ?_
                  refine wl_val (rn_pickF (congrArg Value.bool hg55) (by conv => lhs; whnf)) ?_
                  refine wl_val (rn_move (by conv => lhs; whnf)) ?_
                  refine wl_no rfl rfl ?_
                  refine wl_no rfl rfl ?_
                  refine wl_no rfl rfl ?_
                  refine wl_val (rn_pickF rfl (by conv => lhs; whnf)) ?_
                  refine wl_val (rn_move (by conv => lhs; whnf)) ?_
                  refine wl_no rfl rfl ?_
                  refine wl_no rfl rfl ?_
                  refine wl_no rfl rfl ?_
                  refine wl_val (rn_pickF rfl (by conv => lhs; whnf)) ?_
                  refine wl_val (rn_move (by conv => lhs; whnf)) ?_
                  refine wl_no rfl rfl ?_
                  refine wl_no rfl rfl ?_
                  refine wl_no rfl rfl ?_
                  refine wl_val (rn_pickF rfl (by conv => lhs; whnf)) ?_
                  refine wl_val (rn_assign (by conv => lhs; whnf)) ?_
                  refine wl_nil ?_
                  refine W_seq ?_
                  refine W_seq ?_
                  refine W_region ?_
                  refine wl_val (rn_fieldAddr f_34_0 (by decide) rfl) ?_
                  refine wl_val (rn_load1 p_30 rfl hB3 rfl) ?_
                  refine wl_val (rn_neq rfl rfl) ?_
                  refine wl_nil ?_
                  refine W_cond rfl (fun hc4 => ?_) (fun hc4 => ?_)
                  · have q4 : c.ans.err ≠ 0 := of_decide_eq_true hc4
                    refine W_region ?_
                    refine wl_val (rn_fieldAddr f_34_0 (by decide) rfl) ?_
                    refine wl_val (rn_load1 p_30 rfl hB3 rfl) ?_
                    refine wl_val (rn_build' b_34 rfl rfl (cs := (⟨c.ans.err, 0, 0, mZ⟩ : AnsD).enc) rfl) ?_
                    have hBo := hB3
                    refine wl_storeB s_34 rfl rfl rfl (AnsD.one _) hB3 rfl ?_; intro w21 hE21 hB3 hz21
                    replace hX := hX.mine hE21 hl3
                    replace hB1 := hB1.ext hE21 (fun h => by omega); replace hB5 := hB5.ext hE21 (fun h => by omega); replace hB7 := hB7.ext hE21 (fun h => by omega)
                    replace hT := hT.ext hE21 (B := w.heap.size) (fun j hj => by subst hj; exact hq3) hG
                    replace hR := hR.ext hE21 (B := w.heap.size) (fun j hj => by subst hj; exact hq3) hTw
                    refine wl_nil ?_
                    refine W_seq ?_
                    refine W_region ?_
                    refine wl_val (rn_move (by conv => lhs; whnf)) ?_
                    refine wl_val (rn_not rfl) ?_
                    refine wl_val (rn_move (by conv => lhs; whnf)) ?_
                    refine wl_split (d := 83) rfl (fun hg83 => ?_) (fun hg83 => ?_)
                    · refine wl_no rfl (congrArg Value.bool hg83) ?_
                      refine wl_no rfl (congrArg Value.bool hg83) ?_
                      refine wl_nou rfl rfl ?_
                      refine wl_nou rfl rfl ?_
                      refine wl_nou rfl rfl ?_
                      refine wl_no rfl (congrArg Value.bool hg83) ?_
                      refine wl_val (rn_pickT (congrArg Value.bool hg83) (by conv => lhs; whnf)) ?_
                      refine wl_val (rn_assign (by conv => lhs; whnf)) ?_
                      refine wl_nil ?_
                      refine W_ret ?_
                      first | exact ⟨_, resR1 (res1_tmp rfl), hX, rfl⟩ | exact ⟨_, resR1 (res1_tmp rfl), hX, congrArg Value.bool (decide_eq_true (by rw [htk]; exact if_pos q4))⟩ | exact ⟨_, resR1 (res1_tmp rfl), hX, congrArg Value.bool (decide_eq_true (by rw [htk]; exact if_neg q4))⟩
                    · try have htk : docT (spl 32 (ansR c.ans)) = some (ansB c.ans) := (take_doc _).symm.trans (take_ans ⟨w50, w55⟩ ⟨w60, w65⟩ ⟨w70, by have h : (!decide (c.ans.b ≤ 1000000)) = false := hg83; simpa using h⟩)
                      exact absurd hg83 (by decide)
                  · have q4 : ¬ c.ans.err ≠ 0 := of_decide_eq_false hc4
                    refine W_skip ?_
                    refine W_seq ?_
                    refine W_region ?_
                    refine wl_val (rn_move (by conv => lhs; whnf)) ?_
                    refine wl_val (rn_not rfl) ?_
                    refine wl_val (rn_move (by conv => lhs; whnf)) ?_
                    refine wl_split (d := 83) rfl (fun hg83 => ?_) (fun hg83 => ?_)
                    · refine wl_no rfl (congrArg Value.bool hg83) ?_
                      refine wl_no rfl (congrArg Value.bool hg83) ?_
                      refine wl_nou rfl rfl ?_
                      refine wl_nou rfl rfl ?_
                      refine wl_nou rfl rfl ?_
                      refine wl_no rfl (congrArg Value.bool hg83) ?_
                      refine wl_val (rn_pickT (congrArg Value.bool hg83) (by conv => lhs; whnf)) ?_
                      refine wl_val (rn_assign (by conv => lhs; whnf)) ?_
                      refine wl_nil ?_
                      refine W_ret ?_
                      first | exact ⟨_, resR1 (res1_tmp rfl), hX, rfl⟩ | exact ⟨_, resR1 (res1_tmp rfl), hX, congrArg Value.bool (decide_eq_true (by rw [htk]; exact if_pos q4))⟩ | exact ⟨_, resR1 (res1_tmp rfl), hX, congrArg Value.bool (decide_eq_true (by rw [htk]; exact if_neg q4))⟩
                    · try have htk : docT (spl 32 (ansR c.ans)) = some (ansB c.ans) := (take_doc _).symm.trans (take_ans ⟨w50, w55⟩ ⟨w60, w65⟩ ⟨w70, by have h : (!decide (c.ans.b ≤ 1000000)) = false := hg83; simpa using h⟩)
                      exact absurd hg83 (by decide)
              · refine wl_no rfl (congrArg Value.bool hg50) ?_
                refine wl_no rfl (congrArg Value.bool hg50) ?_
                refine wl_no rfl (congrArg Value.bool hg50) ?_
                refine wl_val (rn_pickF (congrArg Value.bool hg50) (by conv => lhs; whnf)) ?_
                refine wl_val (rn_move (by conv => lhs; whnf)) ?_
                refine wl_no rfl rfl ?_
                refine wl_no rfl rfl ?_
                refine wl_no rfl rfl ?_
                refine wl_val (rn_pickF rfl (by conv => lhs; whnf)) ?_
                refine wl_val (rn_move (by conv => lhs; whnf)) ?_
                refine wl_no rfl rfl ?_
                refine wl_no rfl rfl ?_
                refine wl_no rfl rfl ?_
                refine wl_val (rn_pickF rfl (by conv => lhs; whnf)) ?_
                refine wl_val (rn_move (by conv => lhs; whnf)) ?_
                refine wl_no rfl rfl ?_
                refine wl_no rfl rfl ?_
                refine wl_no rfl rfl ?_
                refine wl_val (rn_pickF rfl (by conv => lhs; whnf)) ?_
                refine wl_val (rn_move (by conv => lhs; whnf)) ?_
                refine wl_no rfl rfl ?_
                refine wl_no rfl rfl ?_
                refine wl_no rfl rfl ?_
                refine wl_val (rn_pickF rfl (by conv => lhs; whnf)) ?_
                refine wl_val (rn_assign (by conv => lhs; whnf)) ?_
                refine wl_nil ?_
                refine W_seq ?_
                refine W_seq ?_
                refine W_region ?_
                refine wl_val (rn_fieldAddr f_34_0 (by decide) rfl) ?_
                refine wl_val (rn_load1 p_30 rfl hB3 rfl) ?_
                refine wl_val (rn_neq rfl rfl) ?_
                refine wl_nil ?_
                refine W_cond rfl (fun hc4 => ?_) (fun hc4 => ?_)
                · have q4 : c.ans.err ≠ 0 := of_decide_eq_true hc4
                  refine W_region ?_
                  refine wl_val (rn_fieldAddr f_34_0 (by decide) rfl) ?_
                  refine wl_val (rn_load1 p_30 rfl hB3 rfl) ?_
                  refine wl_val (rn_build' b_34 rfl rfl (cs := (⟨c.ans.err, 0, 0, mZ⟩ : AnsD).enc) rfl) ?_
                  have hBo := hB3
                  refine wl_storeB s_34 rfl rfl rfl (AnsD.one _) hB3 rfl ?_; intro w22 hE22 hB3 hz22
                  replace hX := hX.mine hE22 hl3
                  replace hB1 := hB1.ext hE22 (fun h => by omega); replace hB5 := hB5.ext hE22 (fun h => by omega); replace hB7 := hB7.ext hE22 (fun h => by omega)
                  replace hT := hT.ext hE22 (B := w.heap.size) (fun j hj => by subst hj; exact hq3) hG
                  replace hR := hR.ext hE22 (B := w.heap.size) (fun j hj => by subst hj; exact hq3) hTw
                  refine wl_nil ?_
                  refine W_seq ?_
                  refine W_region ?_
                  refine wl_val (rn_move (by conv => lhs; whnf)) ?_
                  refine wl_val (rn_not rfl) ?_
                  refine wl_val (rn_move (by conv => lhs; whnf)) ?_
                  refine wl_split (d := 83) rfl (fun hg83 => ?_) (fun hg83 => ?_)
                  · refine wl_no rfl (congrArg Value.bool hg83) ?_
                    refine wl_no rfl (congrArg Value.bool hg83) ?_
                    refine wl_nou rfl rfl ?_
                    refine wl_nou rfl rfl ?_
                    refine wl_nou rfl rfl ?_
                    refine wl_no rfl (congrArg Value.bool hg83) ?_
                    refine wl_val (rn_pickT (congrArg Value.bool hg83) (by conv => lhs; whnf)) ?_
                    refine wl_val (rn_assign (by conv => lhs; whnf)) ?_
                    refine wl_nil ?_
                    refine W_ret ?_
                    first | exact ⟨_, resR1 (res1_tmp rfl), hX, rfl⟩ | exact ⟨_, resR1 (res1_tmp rfl), hX, congrArg Value.bool (decide_eq_true (by rw [htk]; exact if_pos q4))⟩ | exact ⟨_, resR1 (res1_tmp rfl), hX, congrArg Value.bool (decide_eq_true (by rw [htk]; exact if_neg q4))⟩
                  · try have htk : docT (spl 32 (ansR c.ans)) = some (ansB c.ans) := (take_doc _).symm.trans (take_ans ⟨w50, w55⟩ ⟨w60, w65⟩ ⟨w70, by have h : (!decide (c.ans.b ≤ 1000000)) = false := hg83; simpa using h⟩)
                    exact absurd hg83 (by decide)
                · have q4 : ¬ c.ans.err ≠ 0 := of_decide_eq_false hc4
                  refine W_skip ?_
                  refine W_seq ?_
                  refine W_region ?_
                  refine wl_val (rn_move (by conv => lhs; whnf)) ?_
                  refine wl_val (rn_not rfl) ?_
                  refine wl_val (rn_move (by conv => lhs; whnf)) ?_
                  refine wl_split (d := 83) rfl (fun hg83 => ?_) (fun hg83 => ?_)
                  · refine wl_no rfl (congrArg Value.bool hg83) ?_
                    refine wl_no rfl (congrArg Value.bool hg83) ?_
                    refine wl_nou rfl rfl ?_
                    refine wl_nou rfl rfl ?_
                    refine wl_nou rfl rfl ?_
                    refine wl_no rfl (congrArg Value.bool hg83) ?_
                    refine wl_val (rn_pickT (congrArg Value.bool hg83) (by conv => lhs; whnf)) ?_
                    refine wl_val (rn_assign (by conv => lhs; whnf)) ?_
                    refine wl_nil ?_
                    refine W_ret ?_
                    first | exact ⟨_, resR1 (res1_tmp rfl), hX, rfl⟩ | exact ⟨_, resR1 (res1_tmp rfl), hX, congrArg Value.bool (decide_eq_true (by rw [htk]; exact if_pos q4))⟩ | exact ⟨_, resR1 (res1_tmp rfl), hX, congrArg Value.bool (decide_eq_true (by rw [htk]; exact if_neg q4))⟩
                  · try have htk : docT (spl 32 (ansR c.ans)) = some (ansB c.ans) := (take_doc _).symm.trans (take_ans ⟨w50, w55⟩ ⟨w60, w65⟩ ⟨w70, by have h : (!decide (c.ans.b ≤ 1000000)) = false := hg83; simpa using h⟩)
                    exact absurd hg83 (by decide)
end Go.Proofs.YthcclgoidchkdaaDoorC
