/- Layer 27: the laws of answers and rows. -/
import Derived.Test.YthcclgoidchkdaaDoorBunV10
import Derived.Test.YthcclgoidchkdaaDoorBunV2
import Derived.LaidMore
import Derived.Lay
import Derived.OpenShut
import Derived.Stop.Joined
import Derived.Test.YthcclgoidchkdaaDoorBunV3
import Derived.Test.YthcclgoidchkdaaDoorBunV6
import Derived.Test.YthcclgoidchkdaaDoorRows
import Derived.Test.YthcclgoidchkdaaDoorBunV4
import Derived.LaidLaws
set_option linter.unusedVariables false
set_option linter.unusedSimpArgs false
set_option maxRecDepth 100000
namespace Go.Proofs.YthcclgoidchkdaaDoorC
open Go.RowKit
theorem EqS.monoE {P : Program} {m m' : Nat} {t : TypeId} {a b : Value} {r : Bool} (h : EqS P m t a b r) (hm : m ≤ m') : EqS P m' t a b r := fun d w hd => h d w (Nat.le_trans hm hd)
theorem ansE_eqs (x y : AnsD) : EqS Tryd.prog 3 34 (.agg x.enc.toArray) (.agg y.enc.toArray) (decide (x = y)) := by
  have p1 : ∀ z : AnsD, (z.enc.toArray).extract 3 (3 + 3) = z.msg.enc.toArray := fun z => by simp [AnsD.enc, MsgD.enc]
  have hm : EqS Tryd.prog 2 32 (.agg ((x.enc.toArray).extract 3 (3 + 3))) (.agg ((y.enc.toArray).extract 3 (3 + 3))) (decide (x.msg = y.msg)) := by rw [p1, p1]; exact msg_eqs _ _
  have h := eqs_struct (P := Tryd.prog) (t := 34) (m := 2) (xs := x.enc.toArray) (ys := y.enc.toArray) (by kernel_rfl) sh_34 fs_34
    (EqF.cons rfl (part_1 p_30 rfl) (part_1 p_30 rfl) ((eqs_int ui_30).monoE (by decide)) (EqF.cons rfl (part_1 p_3 rfl) (part_1 p_3 rfl) ((eqs_int ui_3).monoE (by decide)) (EqF.cons rfl (part_1 p_3 rfl) (part_1 p_3 rfl) ((eqs_int ui_3).monoE (by decide)) (EqF.cons rfl (part_s s_32) (part_s s_32) hm .nil))))
  rw [show decide (x = y) = (decide (x.err = y.err) && (decide (x.a = y.a) && (decide (x.b = y.b) && (decide (x.msg = y.msg) && true)))) from ?_]
  · exact h
  · obtain ⟨a, b, c, d⟩ := x; obtain ⟨a', b', c', d'⟩ := y
    by_cases h1 : a = a' <;> by_cases h2 : b = b' <;> by_cases h3 : c = c' <;> by_cases h4 : d = d' <;> simp [h1, h2, h3, h4]

theorem itoa1 {n : Nat} (h : n < 10) : Lib.itoa (n : Int) = [UInt8.ofNat (48 + n)] := by rw [itoa_nat, Lib.decDigits_one h]
abbrev cAw : CallD := ⟨0, 1, ⟨4, 2, [], [], false⟩, ⟨7, 0, 0, mZ⟩, 3, 4⟩
theorem aw_row : rowR cAw = [48, 32, 49, 32, 51, 32, 52, 32, 112, 111, 108, 108, 32, 50, 32, 61, 32, 101, 114, 114, 111, 114, 32, 55] := by
  have h0 : Lib.itoa 0 = [48] := itoa1 (n := 0) (by decide)
  have h1 : Lib.itoa 1 = [49] := itoa1 (n := 1) (by decide)
  have h3 : Lib.itoa 3 = [51] := itoa1 (n := 3) (by decide)
  have h4 : Lib.itoa 4 = [52] := itoa1 (n := 4) (by decide)
  have h7 : Lib.itoa 7 = [55] := itoa1 (n := 7) (by decide)
  have h2 : Lib.decDigits 2 = [50] := Lib.decDigits_one (by decide)
  have hl : lineQ ⟨4, 2, [], [], false⟩ = [112, 111, 108, 108, 32, 50] := by
    unfold lineQ; rw [if_pos (by decide +kernel)]
    have := line4 2 [] []
    rw [h2] at this; exact this
  unfold rowR
  rw [tx4, ansR_err (by decide)]
  simp only [h0, h1, h3, h4, h7, hl]
  rfl
theorem aw_ok : CallOk cAw := ⟨by constructor <;> decide, by constructor <;> decide, by constructor <;> decide, by constructor <;> decide, by simp, by simp, ⟨by constructor <;> decide, by constructor <;> decide, by constructor <;> decide, by simp, by simp⟩⟩
theorem ansR_len3 {a : AnsD} (h : AnsOk a) (ht : a.msg.topic.length ≤ 300) (hp : a.msg.payload.length ≤ 300) : (ansR a).length ≤ 4000 := by
  obtain ⟨e, x, y, ⟨t, p, k⟩⟩ := a
  have h1 := itoa_len h.e; have h2 := itoa_len h.x; have h3 := itoa_len h.y
  have h4 := wordR_len t; have h5 := wordR_len p
  simp only at h1 h2 h3 ht hp
  have hh := howR_len k
  by_cases h0 : e ≠ 0
  · rw [ansR_err h0]; simp only [List.length_append, List.length_cons, List.length_nil]; omega
  · obtain rfl : e = 0 := Classical.not_not.1 h0
    by_cases hz : (⟨t, p, k⟩ : MsgD) = mZ
    · rw [ansR_3 hz]; simp only [List.length_append, List.length_cons, List.length_nil]; omega
    · rw [ansR_6 hz]; simp only [List.length_append, List.length_cons, List.length_nil]; omega
/-- A call's numbers are such. -/
structure CallI (c : CallD) : Prop where
  th : I64 c.thread
  pl : I64 c.place
  fr : I64 c.from_
  to : I64 c.to_
  e : I64 c.ans.err
  x : I64 c.ans.a
  y : I64 c.ans.b
structure CallS (c : CallD) : Prop where
  t : c.op.text.length ≤ 300
  p : c.op.payload.length ≤ 300
  mt : c.ans.msg.topic.length ≤ 300
  mp : c.ans.msg.payload.length ≤ 300
theorem CallI.ok {c : CallD} (h : CallI c) (hs : CallS c) : CallOk c := ⟨h.th, h.pl, h.fr, h.to, by have := hs.t; omega, by have := hs.p; omega, ⟨h.e, h.x, h.y, by have := hs.mt; omega, by have := hs.mp; omega⟩⟩
-- bellman/bellmanlaw27.awake
theorem awake27_ok (w : World) (hT : Tab w) : Fn Tryd.prog 27 #[] w fun u w' => u = .bool true := by
  have hX := Ext.refl Non w
  refine fn_of_W (args := []) Tryd.func27 rfl (by kernel_rfl) rfl ?_
  refine W_seq ?_
  refine W_region ?_
  refine wl_val (rn_assign (by conv => lhs; whnf)) ?_
  refine wl_nil ?_
  refine W_seq ?_
  refine W_region ?_
  refine wl_val (rn_build' b_29 rfl rfl (cs := (⟨4, 2, [], [], false⟩ : OpD).enc) rfl) ?_
  refine wl_val (rn_build' b_34 rfl rfl (cs := (⟨7, 0, 0, mZ⟩ : AnsD).enc) rfl) ?_
  refine wl_val (rn_build' b_38 rfl rfl (cs := cAw.enc) rfl) ?_
  refine wl_call e_54 rfl (row_ok w cAw aw_ok hT) ?_; intro v4 w1 hE1 hR1
  replace hX := hX.tr hE1
  subst hR1; rw [aw_row]
  refine wl_val (rn_seql rfl rfl) ?_
  refine wl_val (rn_assign (by conv => lhs; whnf)) ?_
  refine wl_nil ?_
  refine W_ret ?_
  exact ⟨_, resR1 (res1_tmp rfl), hX, rfl⟩
-- bellman/bellmanlaw27.long
set_option maxHeartbeats 1600000 in
theorem long27_ok (w : World) (c : CallD) : Fn Tryd.prog 28 #[.agg c.enc.toArray] w fun u w' => ∃ b : Bool, u = .bool b ∧ (b = false → CallS c) := by
  have hX := Ext.refl Non w
  refine fn_of_W (args := [_]) Tryd.func28 rfl (by kernel_rfl) rfl ?_
  refine W_seq ?_
  refine W_region ?_
  refine wl_boxS rfl ?_; intro b1 w1 hb1 hE1 hB1
  have hq1 : w.heap.size ≤ b1 := Nat.le_trans hX.size hb1
  have hl1 : Mine Non w b1 := .inr hq1
  replace hX := hX.tr hE1
  refine wl_val (rn_assign (by conv => lhs; whnf)) ?_
  refine wl_nil ?_
  refine W_seq ?_
  refine W_region ?_
  refine wl_val (rn_fieldAddr f_38_2 (by decide) rfl) ?_
  refine wl_val (rn_fieldAddr f_29_2 (by decide) rfl) ?_
  refine wl_val (rn_load1 p_9 rfl hB1 rfl) ?_
  refine wl_call e_32 rfl (long_ok w1 c.op.text) ?_; intro v6 w2 hE2 hR2
  replace hX := hX.tr hE2
  replace hB1 := hB1.ext hE2 id
  subst hR2
  refine wl_val (rn_move (by conv => lhs; whnf)) ?_
  refine wl_split (d := 7) rfl (fun hg7 => ?_) (fun hg7 => ?_)
  · refine wl_no rfl (congrArg Value.bool hg7) ?_
    refine wl_no rfl (congrArg Value.bool hg7) ?_
    refine wl_no rfl (congrArg Value.bool hg7) ?_
    refine wl_no rfl (congrArg Value.bool hg7) ?_
    refine wl_val (rn_pickT (congrArg Value.bool hg7) (by conv => lhs; whnf)) ?_
    refine wl_val (rn_move (by conv => lhs; whnf)) ?_
    refine wl_no rfl rfl ?_
    refine wl_no rfl rfl ?_
    refine wl_no rfl rfl ?_
    refine wl_no rfl rfl ?_
    refine wl_no rfl rfl ?_
    refine wl_val (rn_pickT rfl (by conv => lhs; whnf)) ?_
    refine wl_val (rn_move (by conv => lhs; whnf)) ?_
    refine wl_no rfl rfl ?_
    refine wl_no rfl rfl ?_
    refine wl_no rfl rfl ?_
    refine wl_no rfl rfl ?_
    refine wl_no rfl rfl ?_
    refine wl_val (rn_pickT rfl (by conv => lhs; whnf)) ?_
    refine wl_val (rn_assign (by conv => lhs; whnf)) ?_
    refine wl_nil ?_
    refine W_ret ?_
    first | exact ⟨_, resR1 (res1_tmp rfl), hX, ⟨_, rfl, fun h => ⟨by omega, by omega, by omega, by have := of_decide_eq_false h; omega⟩⟩⟩ | exact ⟨_, resR1 (res1_tmp rfl), hX, ⟨_, rfl, fun h => (by cases h)⟩⟩ | exact ⟨_, resR1 (res1_tmp rfl), hX, ⟨_, rfl, fun h => absurd h (by rw [hg13]; decide)⟩⟩ | exact ⟨_, resR1 (res1_tmp rfl), hX, ⟨_, rfl, fun h => absurd h (by rw [hg20]; decide)⟩⟩
  · have l7 := of_decide_eq_false hg7
    refine wl_yes rfl (congrArg Value.bool hg7) ?_
    refine wl_val (rn_fieldAddr f_38_2 (by decide) rfl) ?_
    refine wl_yes rfl (congrArg Value.bool hg7) ?_
    refine wl_val (rn_fieldAddr f_29_3 (by decide) rfl) ?_
    refine wl_yes rfl (congrArg Value.bool hg7) ?_
    refine wl_val (rn_load1 p_9 rfl hB1 rfl) ?_
    refine wl_yes rfl (congrArg Value.bool hg7) ?_
    refine wl_call e_32 rfl (long_ok w2 c.op.payload) ?_; intro v11 w3 hE3 hR3
    replace hX := hX.tr hE3
    replace hB1 := hB1.ext hE3 id
    subst hR3
    refine wl_val (rn_pickF (congrArg Value.bool hg7) (by conv => lhs; whnf)) ?_
    refine wl_val (rn_move (by conv => lhs; whnf)) ?_
    refine wl_split (d := 13) rfl (fun hg13 => ?_) (fun hg13 => ?_)
    · refine wl_no rfl (congrArg Value.bool hg13) ?_
      refine wl_no rfl (congrArg Value.bool hg13) ?_
      refine wl_no rfl (congrArg Value.bool hg13) ?_
      refine wl_no rfl (congrArg Value.bool hg13) ?_
      refine wl_no rfl (congrArg Value.bool hg13) ?_
      refine wl_val (rn_pickT (congrArg Value.bool hg13) (by conv => lhs; whnf)) ?_
      refine wl_val (rn_move (by conv => lhs; whnf)) ?_
      refine wl_no rfl rfl ?_
      refine wl_no rfl rfl ?_
      refine wl_no rfl rfl ?_
      refine wl_no rfl rfl ?_
      refine wl_no rfl rfl ?_
      refine wl_val (rn_pickT rfl (by conv => lhs; whnf)) ?_
      refine wl_val (rn_assign (by conv => lhs; whnf)) ?_
      refine wl_nil ?_
      refine W_ret ?_
      first | exact ⟨_, resR1 (res1_tmp rfl), hX, ⟨_, rfl, fun h => ⟨by omega, by omega, by omega, by have := of_decide_eq_false h; omega⟩⟩⟩ | exact ⟨_, resR1 (res1_tmp rfl), hX, ⟨_, rfl, fun h => (by cases h)⟩⟩ | exact ⟨_, resR1 (res1_tmp rfl), hX, ⟨_, rfl, fun h => absurd h (by rw [hg13]; decide)⟩⟩ | exact ⟨_, resR1 (res1_tmp rfl), hX, ⟨_, rfl, fun h => absurd h (by rw [hg20]; decide)⟩⟩
    · have l13 := of_decide_eq_false hg13
      refine wl_yes rfl (congrArg Value.bool hg13) ?_
      refine wl_val (rn_fieldAddr f_38_3 (by decide) rfl) ?_
      refine wl_yes rfl (congrArg Value.bool hg13) ?_
      refine wl_val (rn_fieldAddr f_34_3 (by decide) rfl) ?_
      refine wl_yes rfl (congrArg Value.bool hg13) ?_
      refine wl_val (rn_fieldAddr f_32_0 (by decide) rfl) ?_
      refine wl_yes rfl (congrArg Value.bool hg13) ?_
      refine wl_val (rn_load1 p_9 rfl hB1 rfl) ?_
      refine wl_yes rfl (congrArg Value.bool hg13) ?_
      refine wl_call e_32 rfl (long_ok w3 c.ans.msg.topic) ?_; intro v18 w4 hE4 hR4
      replace hX := hX.tr hE4
      replace hB1 := hB1.ext hE4 id
      subst hR4
      refine wl_val (rn_pickF (congrArg Value.bool hg13) (by conv => lhs; whnf)) ?_
      refine wl_val (rn_move (by conv => lhs; whnf)) ?_
      refine wl_split (d := 20) rfl (fun hg20 => ?_) (fun hg20 => ?_)
      · refine wl_no rfl (congrArg Value.bool hg20) ?_
        refine wl_no rfl (congrArg Value.bool hg20) ?_
        refine wl_no rfl (congrArg Value.bool hg20) ?_
        refine wl_no rfl (congrArg Value.bool hg20) ?_
        refine wl_no rfl (congrArg Value.bool hg20) ?_
        refine wl_val (rn_pickT (congrArg Value.bool hg20) (by conv => lhs; whnf)) ?_
        refine wl_val (rn_assign (by conv => lhs; whnf)) ?_
        refine wl_nil ?_
        refine W_ret ?_
        first | exact ⟨_, resR1 (res1_tmp rfl), hX, ⟨_, rfl, fun h => ⟨by omega, by omega, by omega, by have := of_decide_eq_false h; omega⟩⟩⟩ | exact ⟨_, resR1 (res1_tmp rfl), hX, ⟨_, rfl, fun h => (by cases h)⟩⟩ | exact ⟨_, resR1 (res1_tmp rfl), hX, ⟨_, rfl, fun h => absurd h (by rw [hg13]; decide)⟩⟩ | exact ⟨_, resR1 (res1_tmp rfl), hX, ⟨_, rfl, fun h => absurd h (by rw [hg20]; decide)⟩⟩
      · have l20 := of_decide_eq_false hg20
        refine wl_yes rfl (congrArg Value.bool hg20) ?_
        refine wl_val (rn_fieldAddr f_38_3 (by decide) rfl) ?_
        refine wl_yes rfl (congrArg Value.bool hg20) ?_
        refine wl_val (rn_fieldAddr f_34_3 (by decide) rfl) ?_
        refine wl_yes rfl (congrArg Value.bool hg20) ?_
        refine wl_val (rn_fieldAddr f_32_1 (by decide) rfl) ?_
        refine wl_yes rfl (congrArg Value.bool hg20) ?_
        refine wl_val (rn_load1 p_9 rfl hB1 rfl) ?_
        refine wl_yes rfl (congrArg Value.bool hg20) ?_
        refine wl_call e_32 rfl (long_ok w4 c.ans.msg.payload) ?_; intro v25 w5 hE5 hR5
        replace hX := hX.tr hE5
        replace hB1 := hB1.ext hE5 id
        subst hR5
        refine wl_val (rn_pickF (congrArg Value.bool hg20) (by conv => lhs; whnf)) ?_
        refine wl_val (rn_assign (by conv => lhs; whnf)) ?_
        refine wl_nil ?_
        refine W_ret ?_
        first | exact ⟨_, resR1 (res1_tmp rfl), hX, ⟨_, rfl, fun h => ⟨by omega, by omega, by omega, by have := of_decide_eq_false h; omega⟩⟩⟩ | exact ⟨_, resR1 (res1_tmp rfl), hX, ⟨_, rfl, fun h => (by cases h)⟩⟩ | exact ⟨_, resR1 (res1_tmp rfl), hX, ⟨_, rfl, fun h => absurd h (by rw [hg13]; decide)⟩⟩ | exact ⟨_, resR1 (res1_tmp rfl), hX, ⟨_, rfl, fun h => absurd h (by rw [hg20]; decide)⟩⟩
-- bellman/bellmanlaw27.RowsTake
set_option maxHeartbeats 1600000 in
theorem rowsTake_ok (w : World) (s : Str) (hT : Tab w) (hR : ErrS w) : Fn Tryd.prog 12 #[Sv s] w fun u w' => u = .bool true := by
  have hG := hT.gl (Nat.le_refl w.heap.size); have hTw := hR.two
  have hX := Ext.refl Non w
  refine fn_of_W (args := [_]) Tryd.func12 rfl (by kernel_rfl) rfl ?_
  refine W_seq ?_
  refine W_region ?_
  refine wl_val (rn_assign (by conv => lhs; whnf)) ?_
  refine wl_nil ?_
  refine W_seq ?_
  refine W_seq ?_
  refine W_region ?_
  refine wl_call e_27 rfl (awake27_ok w hT) ?_; intro v7 w1 hE1 hR1
  replace hX := hX.tr hE1
  replace hT := hT.non hE1
  replace hR := hR.non hE1
  subst hR1
  refine wl_val (rn_not rfl) ?_
  refine wl_nil ?_
  refine W_cond rfl (fun hc0 => ?_) (fun hc0 => ?_)
  · exact absurd hc0 (by decide)
  · refine W_skip ?_
    refine W_seq ?_
    refine W_seq ?_
    refine W_region ?_
    refine wl_val (rn_move (by conv => lhs; whnf)) ?_
    refine wl_call e_32 rfl (long_ok w1 s) ?_; intro v10 w2 hE2 hR2
    replace hX := hX.tr hE2
    replace hT := hT.non hE2
    replace hR := hR.non hE2
    subst hR2
    refine wl_nil ?_
    refine W_cond rfl (fun hc1 => ?_) (fun hc1 => ?_)
    · refine W_seq ?_
      refine W_region ?_
      refine wl_val (rn_assign (by conv => lhs; whnf)) ?_
      refine wl_nil ?_
      refine W_ret ?_
      exact ⟨_, resR1 (res1_tmp rfl), hX, rfl⟩
    · have hl3 : s.length ≤ 300 := by have := of_decide_eq_false hc1; omega
      refine W_skip ?_
      refine W_seq ?_
      refine W_region ?_
      refine wl_val (rn_move (by conv => lhs; whnf)) ?_
      refine wl_call e_56 rfl (take_ok w2 s (by omega) hT hR) ?_; intro v13 w3 hE3 hR3
      replace hX := hX.tr hE3
      replace hT := hT.non hE3
      replace hR := hR.non hE3
      subst hR3; rw [take_doc]
      refine wl_val (rn_move (by conv => lhs; whnf)) ?_
      refine wl_val (rn_extract rfl rfl) ?_
      refine wl_val (rn_extract rfl rfl) ?_
      refine wl_alloc z_34 ?_; intro b3 w4 hb3 hE4 hB3
      have hq3 : w.heap.size ≤ b3 := Nat.le_trans hX.size hb3
      have hl3 : Mine Non w b3 := .inr hq3
      replace hX := hX.tr hE4
      replace hT := hT.non hE4
      replace hR := hR.non hE4
      have hBo := hB3
      refine wl_storeB s_34 rfl rfl rfl (AnsD.one _) hB3 rfl ?_; intro w5 hE5 hB3 hz5
      replace hX := hX.mine hE5 hl3
      replace hT := hT.ext hE5 (B := w.heap.size) (fun j hj => by subst hj; exact hq3) hG
      replace hR := hR.ext hE5 (B := w.heap.size) (fun j hj => by subst hj; exact hq3) hTw
      refine wl_val (rn_assign (by conv => lhs; whnf)) ?_
      refine wl_nil ?_
      refine W_seq ?_
      refine W_region ?_
      refine wl_val (rn_move (by conv => lhs; whnf)) ?_
      refine wl_call e_57 rfl (rtake_ok w5 s (by omega)) ?_; intro v18 w6 hE6 hR6
      replace hX := hX.tr hE6
      replace hB3 := hB3.ext hE6 id
      replace hT := hT.non hE6
      replace hR := hR.non hE6
      subst hR6
      refine wl_val (rn_move (by conv => lhs; whnf)) ?_
      refine wl_val (rn_extract rfl rfl) ?_
      refine wl_val (rn_extract rfl rfl) ?_
      refine wl_alloc z_34 ?_; intro b5 w7 hb5 hE7 hB5
      have hn3_5 : b3 < b5 := Nat.lt_of_lt_of_le hB3.lt hb5
      have hq5 : w.heap.size ≤ b5 := Nat.le_trans hX.size hb5
      have hl5 : Mine Non w b5 := .inr hq5
      replace hX := hX.tr hE7
      replace hB3 := hB3.ext hE7 id
      replace hT := hT.non hE7
      replace hR := hR.non hE7
      have hBo := hB5
      refine wl_storeB s_34 rfl rfl rfl (AnsD.one _) hB5 rfl ?_; intro w8 hE8 hB5 hz8
      replace hX := hX.mine hE8 hl5
      replace hB3 := hB3.ext hE8 (fun h => by omega)
      replace hT := hT.ext hE8 (B := w.heap.size) (fun j hj => by subst hj; exact hq5) hG
      replace hR := hR.ext hE8 (B := w.heap.size) (fun j hj => by subst hj; exact hq5) hTw
      refine wl_val (rn_assign (by conv => lhs; whnf)) ?_
      refine wl_nil ?_
      refine W_seq ?_
      refine W_region ?_
      refine wl_val (rn_loadB s_34 rfl rfl hB3) ?_
      refine wl_val (rn_loadB s_34 rfl rfl hB5) ?_
      refine wl_val (rn_eqlS rfl rfl eg_34 (by decide) (ansE_eqs _ _)) ?_
      refine wl_val (rn_move (by conv => lhs; whnf)) ?_
      refine wl_split (d := 24) rfl (fun hg24 => ?_) (fun hg24 => ?_)
      · refine wl_yes rfl (congrArg Value.bool hg24) ?_
        refine wl_val (rn_move (by conv => lhs; whnf)) ?_
        refine wl_yes rfl (congrArg Value.bool hg24) ?_
        refine wl_val (rn_move (by conv => lhs; whnf)) ?_
        refine wl_yes rfl (congrArg Value.bool hg24) ?_
        refine wl_val (rn_beql ub_4 rfl rfl) ?_
        refine wl_val (rn_pickT (congrArg Value.bool hg24) (by conv => lhs; whnf)) ?_
        refine wl_val (rn_assign (by conv => lhs; whnf)) ?_
        refine wl_nil ?_
        refine W_ret ?_
        exact ⟨_, resR1 (res1_tmp rfl), hX, congrArg Value.bool (decide_eq_true rfl)⟩
      · exact absurd hg24 (by simp)
-- bellman/bellmanlaw27.RowsTell
set_option maxHeartbeats 3200000 in
theorem rowsTell_ok (w : World) (c : CallD) (hI : CallI c) (hT : Tab w) (hR : ErrS w) : Fn Tryd.prog 11 #[.agg c.enc.toArray] w fun u w' => u = .bool true := by
  have hG := hT.gl (Nat.le_refl w.heap.size); have hTw := hR.two
  have hX := Ext.refl Non w
  refine fn_of_W (args := [_]) Tryd.func11 rfl (by kernel_rfl) rfl ?_
  refine W_seq ?_
  refine W_region ?_
  refine wl_boxS rfl ?_; intro b1 w1 hb1 hE1 hB1
  have hq1 : w.heap.size ≤ b1 := Nat.le_trans hX.size hb1
  have hl1 : Mine Non w b1 := .inr hq1
  replace hX := hX.tr hE1
  replace hT := hT.non hE1
  replace hR := hR.non hE1
  refine wl_val (rn_assign (by conv => lhs; whnf)) ?_
  refine wl_nil ?_
  refine W_seq ?_
  refine W_seq ?_
  refine W_region ?_
  refine wl_call e_27 rfl (awake27_ok w1 hT) ?_; intro v10 w2 hE2 hR2
  replace hX := hX.tr hE2
  replace hB1 := hB1.ext hE2 id
  replace hT := hT.non hE2
  replace hR := hR.non hE2
  subst hR2
  refine wl_val (rn_not rfl) ?_
  refine wl_nil ?_
  refine W_cond rfl (fun hc0 => ?_) (fun hc0 => ?_)
  · exact absurd hc0 (by decide)
  · refine W_skip ?_
    refine W_seq ?_
    refine W_seq ?_
    refine W_region ?_
    refine wl_val (rn_loadB s_38 rfl rfl hB1) ?_
    refine wl_call e_28 rfl (long27_ok w2 c) ?_; intro v13 w3 hE3 hR3
    replace hX := hX.tr hE3
    replace hB1 := hB1.ext hE3 id
    replace hT := hT.non hE3
    replace hR := hR.non hE3
    obtain ⟨b, rfl, hb⟩ := hR3
    refine wl_nil ?_
    refine W_cond rfl (fun hc1 => ?_) (fun hc1 => ?_)
    · refine W_seq ?_
      refine W_region ?_
      refine wl_val (rn_assign (by conv => lhs; whnf)) ?_
      refine wl_nil ?_
      refine W_ret ?_
      first | exact ⟨_, resR1 (res1_tmp rfl), hX, rfl⟩ | exact ⟨_, resR1 (res1_tmp rfl), hX, congrArg Value.bool (decide_eq_true (by rw [htk]; exact if_pos q4))⟩ | exact ⟨_, resR1 (res1_tmp rfl), hX, congrArg Value.bool (decide_eq_true (by rw [htk]; exact if_neg q4))⟩
    · have hs := hb hc1
      have hok := hI.ok hs
      have hl4 := ansR_len3 hok.ans hs.mt hs.mp
      refine W_skip ?_
      refine W_seq ?_
      refine W_region ?_
      refine wl_val (rn_fieldAddr f_38_3 (by decide) rfl) ?_
      refine wl_val (rn_loadS s_34 (vs := c.ans.enc) rfl rfl (hB1.part rfl (Nat.le_of_ble_eq_true rfl))) ?_
      refine wl_alloc z_34 ?_; intro b3 w4 hb3 hE4 hB3
      have hn1_3 : b1 < b3 := Nat.lt_of_lt_of_le hB1.lt hb3
      have hq3 : w.heap.size ≤ b3 := Nat.le_trans hX.size hb3
      have hl3 : Mine Non w b3 := .inr hq3
      replace hX := hX.tr hE4
      replace hB1 := hB1.ext hE4 id
      replace hT := hT.non hE4
      replace hR := hR.non hE4
      have hBo := hB3
      refine wl_storeB s_34 rfl rfl rfl (AnsD.one _) hB3 rfl ?_; intro w5 hE5 hB3 hz5
      replace hX := hX.mine hE5 hl3
      replace hB1 := hB1.ext hE5 (fun h => by omega)
      replace hT := hT.ext hE5 (B := w.heap.size) (fun j hj => by subst hj; exact hq3) hG
      replace hR := hR.ext hE5 (B := w.heap.size) (fun j hj => by subst hj; exact hq3) hTw
      refine wl_nil ?_
      refine W_seq ?_
      refine W_region ?_
      refine wl_val (rn_loadB s_34 rfl rfl hB3) ?_
      refine wl_call e_53 rfl (answer_ok w5 c.ans hok.ans hT) ?_; intro v17 w6 hE6 hR6
      replace hX := hX.tr hE6
      replace hB1 := hB1.ext hE6 id; replace hB3 := hB3.ext hE6 id
      replace hT := hT.non hE6
      replace hR := hR.non hE6
      subst hR6
      refine wl_val (rn_assign (by conv => lhs; whnf)) ?_
      refine wl_nil ?_
      refine W_seq ?_
      refine W_seq ?_
      refine W_drawE mixed ?_; intro w7 hE7
      replace hX := hX.tr hE7
      replace hB1 := hB1.ext hE7 id; replace hB3 := hB3.ext hE7 id
      replace hT := hT.non hE7
      replace hR := hR.non hE7
      have hS := Ext.refl Non w7
      refine wd_take 0 _ _ rfl (by kernel_rfl) hS (yd_do fun A hA => rn_loadB s_38 rfl rfl (hB1.ext hA id)) ?_
      refine wd_take 2 _ _ rfl (by kernel_rfl) hS (yd_do fun A hA => rn_loadB s_38 rfl rfl (hB1.ext hA id)) ?_
      refine wd_only 1 _ rfl (by kernel_rfl) ?_
      refine s1_do ?_
      refine wl_call e_54 rfl (row_ok w7 c hok (hT.non hS)) ?_; intro v19 w8 hE8 hR8
      replace hS := hS.tr hE8
      subst hR8
      refine wl_nil ⟨hS, ?_⟩
      refine wd_only 3 _ rfl (by kernel_rfl) ?_
      refine s1_do ?_
      refine wl_call e_30 rfl (rrow_ok w8 c hok) ?_; intro v21 w9 hE9 hR9
      replace hS := hS.tr hE9
      subst hR9
      refine wl_nil ⟨hS, ?_⟩
      refine wd_take 4 _ _ rfl (by kernel_rfl) hS (yd_do fun A hA => rn_sneq rfl rfl) ?_
      refine wd_take 5 _ _ rfl (by kernel_rfl) hS (yd_do fun A hA => rn_move (by conv => lhs; whnf)) ?_
      refine wd_split (d := 23) rfl (fun hg23 => ?_) (fun hg23 => ?_)
      · exact absurd hg23 (by simp)
      · refine wd_take 6 _ _ rfl (by kernel_rfl) hS (yd_yes rfl (congrArg Value.bool hg23) fun A hA => rn_move (by conv => lhs; whnf)) ?_
        refine wd_take 7 _ _ rfl (by kernel_rfl) hS (yd_yes rfl (congrArg Value.bool hg23) fun A hA => rn_loadB s_34 rfl rfl (hB3.ext hA id)) ?_
        refine wd_only 8 _ rfl (by kernel_rfl) ?_
        refine s1_yes rfl (congrArg Value.bool hg23) ?_
        refine wl_call e_55 rfl (ranswer_ok w9 c.ans hok.ans) ?_; intro v26 w10 hE10 hR10
        replace hS := hS.tr hE10
        subst hR10
        refine wl_nil ⟨hS, ?_⟩
        refine wd_take 9 _ _ rfl (by kernel_rfl) hS (yd_yes rfl (congrArg Value.bool hg23) fun A hA => rn_sneq rfl rfl) ?_
        refine wd_take 10 _ _ rfl (by kernel_rfl) hS (yd_do fun A hA => rn_pickF (congrArg Value.bool hg23) (by conv => lhs; whnf)) ?_
        refine wd_done (by kernel_rfl) ?_ _
        replace hX := hX.tr hS
        replace hB1 := hB1.ext hS id; replace hB3 := hB3.ext hS id
        replace hT := hT.non hS
        replace hR := hR.non hS
        refine W_cond rfl (fun hc2 => ?_) (fun hc2 => ?_)
        · exact absurd hc2 (by simp)
        · refine W_skip ?_
          refine W_seq ?_
          refine W_region ?_
          refine wl_val (rn_move (by conv => lhs; whnf)) ?_
          refine wl_call e_56 rfl (take_ok w10 (ansR c.ans) hl4 hT hR) ?_; intro v31 w11 hE11 hR11
          replace hX := hX.tr hE11
          replace hB1 := hB1.ext hE11 id; replace hB3 := hB3.ext hE11 id
          replace hT := hT.non hE11
          replace hR := hR.non hE11
          subst hR11; rw [take_doc]
          refine wl_val (rn_move (by conv => lhs; whnf)) ?_
          refine wl_val (rn_extract rfl rfl) ?_
          refine wl_val (rn_extract rfl rfl) ?_
          refine wl_alloc z_34 ?_; intro b5 w12 hb5 hE12 hB5
          have hn1_5 : b1 < b5 := Nat.lt_of_lt_of_le hB1.lt hb5
          have hn3_5 : b3 < b5 := Nat.lt_of_lt_of_le hB3.lt hb5
          have hq5 : w.heap.size ≤ b5 := Nat.le_trans hX.size hb5
          have hl5 : Mine Non w b5 := .inr hq5
          replace hX := hX.tr hE12
          replace hB1 := hB1.ext hE12 id; replace hB3 := hB3.ext hE12 id
          replace hT := hT.non hE12
          replace hR := hR.non hE12
          have hBo := hB5
          refine wl_storeB s_34 rfl rfl rfl (AnsD.one _) hB5 rfl ?_; intro w13 hE13 hB5 hz13
          replace hX := hX.mine hE13 hl5
          replace hB1 := hB1.ext hE13 (fun h => by omega); replace hB3 := hB3.ext hE13 (fun h => by omega)
          replace hT := hT.ext hE13 (B := w.heap.size) (fun j hj => by subst hj; exact hq5) hG
          replace hR := hR.ext hE13 (B := w.heap.size) (fun j hj => by subst hj; exact hq5) hTw
          refine wl_val (rn_assign (by conv => lhs; whnf)) ?_
          refine wl_nil ?_
          refine W_seq ?_
          refine W_region ?_
          refine wl_val (rn_move (by conv => lhs; whnf)) ?_
          refine wl_call e_57 rfl (rtake_ok w13 (ansR c.ans) hl4) ?_; intro v36 w14 hE14 hR14
          replace hX := hX.tr hE14
          replace hB1 := hB1.ext hE14 id; replace hB3 := hB3.ext hE14 id; replace hB5 := hB5.ext hE14 id
          replace hT := hT.non hE14
          replace hR := hR.non hE14
          subst hR14
          refine wl_val (rn_move (by conv => lhs; whnf)) ?_
          refine wl_val (rn_extract rfl rfl) ?_
          refine wl_val (rn_extract rfl rfl) ?_
          refine wl_alloc z_34 ?_; intro b7 w15 hb7 hE15 hB7
          have hn1_7 : b1 < b7 := Nat.lt_of_lt_of_le hB1.lt hb7
          have hn3_7 : b3 < b7 := Nat.lt_of_lt_of_le hB3.lt hb7
          have hn5_7 : b5 < b7 := Nat.lt_of_lt_of_le hB5.lt hb7
          have hq7 : w.heap.size ≤ b7 := Nat.le_trans hX.size hb7
          have hl7 : Mine Non w b7 := .inr hq7
          replace hX := hX.tr hE15
          replace hB1 := hB1.ext hE15 id; replace hB3 := hB3.ext hE15 id; replace hB5 := hB5.ext hE15 id
          replace hT := hT.non hE15
          replace hR := hR.non hE15
          have hBo := hB7
          refine wl_storeB s_34 rfl rfl rfl (AnsD.one _) hB7 rfl ?_; intro w16 hE16 hB7 hz16
          replace hX := hX.mine hE16 hl7
          replace hB1 := hB1.ext hE16 (fun h => by omega); replace hB3 := hB3.ext hE16 (fun h => by omega); replace hB5 := hB5.ext hE16 (fun h => by omega)
          replace hT := hT.ext hE16 (B := w.heap.size) (fun j hj => by subst hj; exact hq7) hG
          replace hR := hR.ext hE16 (B := w.heap.size) (fun j hj => by subst hj; exact hq7) hTw
          refine wl_val (rn_assign (by conv => lhs; whnf)) ?_
          refine wl_nil ?_
          refine W_seq ?_
          refine W_seq ?_
          refine W_region ?_
          refine wl_val (rn_loadB s_34 rfl rfl hB5) ?_
          refine wl_val (rn_loadB s_34 rfl rfl hB7) ?_
          refine wl_val (rn_neqS rfl rfl eg_34 (by decide) (ansE_eqs _ _)) ?_
          refine wl_val (rn_move (by conv => lhs; whnf)) ?_
          refine wl_split (d := 42) rfl (fun hg42 => ?_) (fun hg42 => ?_)
          · exact absurd hg42 (by simp)
          · refine wl_yes rfl (congrArg Value.bool hg42) ?_
            refine wl_val (rn_move (by conv => lhs; whnf)) ?_
            refine wl_yes rfl (congrArg Value.bool hg42) ?_
            refine wl_val (rn_move (by conv => lhs; whnf)) ?_
            refine wl_yes rfl (congrArg Value.bool hg42) ?_
            refine wl_val (rn_bneq ub_4 rfl rfl) ?_
            refine wl_val (rn_pickF (congrArg Value.bool hg42) (by conv => lhs; whnf)) ?_
            refine wl_nil ?_
            refine W_cond rfl (fun hc3 => ?_) (fun hc3 => ?_)
            · exact absurd hc3 (by simp)
            · refine W_skip ?_
              refine W_seq ?_
              refine W_region ?_
              refine wl_val (rn_fieldAddr f_34_0 (by decide) rfl) ?_
              refine wl_val (rn_load1 p_30 rfl hB3 rfl) ?_
              refine wl_val (rn_geq rfl rfl) ?_
              refine wl_val (rn_move (by conv => lhs; whnf)) ?_
              refine wl_split (d := 50) rfl (fun hg50 => ?_) (fun hg50 => ?_)
              · have w50 := of_decide_eq_true hg50
                refine wl_yes rfl (congrArg Value.bool hg50) ?_
                refine wl_val (rn_fieldAddr f_34_0 (by decide) rfl) ?_
                refine wl_yes rfl (congrArg Value.bool hg50) ?_
                refine wl_val (rn_load1 p_30 rfl hB3 rfl) ?_
                refine wl_yes rfl (congrArg Value.bool hg50) ?_
                refine wl_val (rn_leq rfl rfl) ?_
                refine wl_val (rn_pickT (congrArg Value.bool hg50) (by conv => lhs; whnf)) ?_
                refine wl_val (rn_move (by conv => lhs; whnf)) ?_
                refine wl_split (d := 55) rfl (fun hg55 => ?_) (fun hg55 => ?_)
                · have w55 := of_decide_eq_true hg55
                  refine wl_yes rfl (congrArg Value.bool hg55) ?_
                  refine wl_val (rn_fieldAddr f_34_1 (by decide) rfl) ?_
                  refine wl_yes rfl (congrArg Value.bool hg55) ?_
                  refine wl_val (rn_load1 p_3 rfl hB3 rfl) ?_
                  refine wl_yes rfl (congrArg Value.bool hg55) ?_
                  refine wl_val (rn_geq rfl rfl) ?_
                  refine wl_val (rn_pickT (congrArg Value.bool hg55) (by conv => lhs; whnf)) ?_
                  refine wl_val (rn_move (by conv => lhs; whnf)) ?_
                  refine wl_split (d := 60) rfl (fun hg60 => ?_) (fun hg60 => ?_)
                  · have w60 := of_decide_eq_true hg60
                    refine wl_yes rfl (congrArg Value.bool hg60) ?_
                    refine wl_val (rn_fieldAddr f_34_1 (by decide) rfl) ?_
                    refine wl_yes rfl (congrArg Value.bool hg60) ?_
                    refine wl_val (rn_load1 p_3 rfl hB3 rfl) ?_
                    refine wl_yes rfl (congrArg Value.bool hg60) ?_
                    refine wl_val (rn_leq rfl rfl) ?_
                    refine wl_val (rn_pickT (congrArg Value.bool hg60) (by conv => lhs; whnf)) ?_
                    refine wl_val (rn_move (by conv => lhs; whnf)) ?_
                    refine wl_split (d := 65) rfl (fun hg65 => ?_) (fun hg65 => ?_)
                    · have w65 := of_decide_eq_true hg65
                      refine wl_yes rfl (congrArg Value.bool hg65) ?_
                      refine wl_val (rn_fieldAddr f_34_2 (by decide) rfl) ?_
                      refine wl_yes rfl (congrArg Value.bool hg65) ?_
                      refine wl_val (rn_load1 p_3 rfl hB3 rfl) ?_
                      refine wl_yes rfl (congrArg Value.bool hg65) ?_
                      refine wl_val (rn_geq rfl rfl) ?_
                      refine wl_val (rn_pickT (congrArg Value.bool hg65) (by conv => lhs; whnf)) ?_
                      refine wl_val (rn_move (by conv => lhs; whnf)) ?_
                      refine wl_split (d := 70) rfl (fun hg70 => ?_) (fun hg70 => ?_)
                      · have w70 := of_decide_eq_true hg70
                        refine wl_yes rfl (congrArg Value.bool hg70) ?_
                        refine wl_val (rn_fieldAddr f_34_2 (by decide) rfl) ?_
                        refine wl_yes rfl (congrArg Value.bool hg70) ?_
                        refine wl_val (rn_load1 p_3 rfl hB3 rfl) ?_
                        refine wl_yes rfl (congrArg Value.bool hg70) ?_
                        refine wl_val (rn_leq rfl rfl) ?_
                        refine wl_val (rn_pickT (congrArg Value.bool hg70) (by conv => lhs; whnf)) ?_
                        refine wl_val (rn_assign (by conv => lhs; whnf)) ?_
                        refine wl_nil ?_
                        refine W_seq ?_
                        refine W_seq ?_
                        refine W_region ?_
                        refine wl_val (rn_fieldAddr f_34_0 (by decide) rfl) ?_
                        refine wl_val (rn_load1 p_30 rfl hB3 rfl) ?_
                        refine wl_val (rn_neq rfl rfl) ?_
                        refine wl_nil ?_
                        refine W_cond rfl (fun hc4 => ?_) (fun hc4 => ?_)
                        · have q4 : c.ans.err ≠ 0 := of_decide_eq_true hc4
                          refine W_region ?_
                          refine wl_val (rn_fieldAddr f_34_0 (by decide) rfl) ?_
                          refine wl_val (rn_load1 p_30 rfl hB3 rfl) ?_
                          refine wl_val (rn_build' b_34 rfl rfl (cs := (⟨c.ans.err, 0, 0, mZ⟩ : AnsD).enc) rfl) ?_
                          have hBo := hB3
                          refine wl_storeB s_34 rfl rfl rfl (AnsD.one _) hB3 rfl ?_; intro w17 hE17 hB3 hz17
                          replace hX := hX.mine hE17 hl3
                          replace hB1 := hB1.ext hE17 (fun h => by omega); replace hB5 := hB5.ext hE17 (fun h => by omega); replace hB7 := hB7.ext hE17 (fun h => by omega)
                          replace hT := hT.ext hE17 (B := w.heap.size) (fun j hj => by subst hj; exact hq3) hG
                          replace hR := hR.ext hE17 (B := w.heap.size) (fun j hj => by subst hj; exact hq3) hTw
                          refine wl_nil ?_
                          refine W_seq ?_
                          refine W_region ?_
                          refine wl_val (rn_move (by conv => lhs; whnf)) ?_
                          refine wl_val (rn_not rfl) ?_
                          refine wl_val (rn_move (by conv => lhs; whnf)) ?_
                          refine wl_split (d := 83) rfl (fun hg83 => ?_) (fun hg83 => ?_)
                          · refine wl_no rfl (congrArg Value.bool hg83) ?_
                            refine wl_no rfl (congrArg Value.bool hg83) ?_
                            refine wl_nou rfl rfl ?_
                            refine wl_nou rfl rfl ?_
                            refine wl_nou rfl rfl ?_
                            refine wl_no rfl (congrArg Value.bool hg83) ?_
                            refine wl_val (rn_pickT (congrArg Value.bool hg83) (by conv => lhs; whnf)) ?_
                            refine wl_val (rn_assign (by conv => lhs; whnf)) ?_
                            refine wl_nil ?_
                            refine W_ret ?_
                            first | exact ⟨_, resR1 (res1_tmp rfl), hX, rfl⟩ | exact ⟨_, resR1 (res1_tmp rfl), hX, congrArg Value.bool (decide_eq_true (by rw [htk]; exact if_pos q4))⟩ | exact ⟨_, resR1 (res1_tmp rfl), hX, congrArg Value.bool (decide_eq_true (by rw [htk]; exact if_neg q4))⟩
                          · try have htk : docT (spl 32 (ansR c.ans)) = some (ansB c.ans) := (take_doc _).symm.trans (take_ans ⟨w50, w55⟩ ⟨w60, w65⟩ ⟨w70, by have h : (!decide (c.ans.b ≤ 1000000)) = false := hg83; simpa using h⟩)
                            refine wl_yes rfl (congrArg Value.bool hg83) ?_
                            refine wl_val (rn_move (by conv => lhs; whnf)) ?_
                            refine wl_yes rfl (congrArg Value.bool hg83) ?_
                            refine wl_val (rn_move (by conv => lhs; whnf)) ?_
                            refine wl_split (d := 85) rfl (fun hg85 => ?_) (fun hg85 => ?_)
                            · refine wl_yes rfl (congrArg Value.bool hg85) ?_
                              refine wl_val (rn_loadB s_34 rfl rfl hB5) ?_
                              refine wl_yes rfl (congrArg Value.bool hg85) ?_
                              refine wl_val (rn_loadB s_34 rfl rfl hB3) ?_
                              refine wl_yes rfl (congrArg Value.bool hg85) ?_
                              refine wl_val (rn_eqlS rfl rfl eg_34 (by decide) (ansE_eqs _ _)) ?_
                              refine wl_yes rfl (congrArg Value.bool hg83) ?_
                              refine wl_val (rn_pickT (congrArg Value.bool hg85) (by conv => lhs; whnf)) ?_
                              refine wl_val (rn_pickF (congrArg Value.bool hg83) (by conv => lhs; whnf)) ?_
                              refine wl_val (rn_assign (by conv => lhs; whnf)) ?_
                              refine wl_nil ?_
                              refine W_ret ?_
                              first | exact ⟨_, resR1 (res1_tmp rfl), hX, rfl⟩ | exact ⟨_, resR1 (res1_tmp rfl), hX, congrArg Value.bool (decide_eq_true (by rw [htk]; exact if_pos q4))⟩ | exact ⟨_, resR1 (res1_tmp rfl), hX, congrArg Value.bool (decide_eq_true (by rw [htk]; exact if_neg q4))⟩
                            · exact absurd hg85 (by rw [htk]; simp)
                        · have q4 : ¬ c.ans.err ≠ 0 := of_decide_eq_false hc4
                          refine W_skip ?_
                          refine W_seq ?_
                          refine W_region ?_
                          refine wl_val (rn_move (by conv => lhs; whnf)) ?_
                          refine wl_val (rn_not rfl) ?_
                          refine wl_val (rn_move (by conv => lhs; whnf)) ?_
                          refine wl_split (d := 83) rfl (fun hg83 => ?_) (fun hg83 => ?_)
                          · refine wl_no rfl (congrArg Value.bool hg83) ?_
                            refine wl_no rfl (congrArg Value.bool hg83) ?_
                            refine wl_nou rfl rfl ?_
                            refine wl_nou rfl rfl ?_
                            refine wl_nou rfl rfl ?_
                            refine wl_no rfl (congrArg Value.bool hg83) ?_
                            refine wl_val (rn_pickT (congrArg Value.bool hg83) (by conv => lhs; whnf)) ?_
                            refine wl_val (rn_assign (by conv => lhs; whnf)) ?_
                            refine wl_nil ?_
                            refine W_ret ?_
                            first | exact ⟨_, resR1 (res1_tmp rfl), hX, rfl⟩ | exact ⟨_, resR1 (res1_tmp rfl), hX, congrArg Value.bool (decide_eq_true (by rw [htk]; exact if_pos q4))⟩ | exact ⟨_, resR1 (res1_tmp rfl), hX, congrArg Value.bool (decide_eq_true (by rw [htk]; exact if_neg q4))⟩
                          · try have htk : docT (spl 32 (ansR c.ans)) = some (ansB c.ans) := (take_doc _).symm.trans (take_ans ⟨w50, w55⟩ ⟨w60, w65⟩ ⟨w70, by have h : (!decide (c.ans.b ≤ 1000000)) = false := hg83; simpa using h⟩)
                            refine wl_yes rfl (congrArg Value.bool hg83) ?_
                            refine wl_val (rn_move (by conv => lhs; whnf)) ?_
                            refine wl_yes rfl (congrArg Value.bool hg83) ?_
                            refine wl_val (rn_move (by conv => lhs; whnf)) ?_
                            refine wl_split (d := 85) rfl (fun hg85 => ?_) (fun hg85 => ?_)
                            · refine wl_yes rfl (congrArg Value.bool hg85) ?_
                              refine wl_val (rn_loadB s_34 rfl rfl hB5) ?_
                              refine wl_yes rfl (congrArg Value.bool hg85) ?_
                              refine wl_val (rn_loadB s_34 rfl rfl hB3) ?_
                              refine wl_yes rfl (congrArg Value.bool hg85) ?_
                              refine wl_val (rn_eqlS rfl rfl eg_34 (by decide) (ansE_eqs _ _)) ?_
                              refine wl_yes rfl (congrArg Value.bool hg83) ?_
                              refine wl_val (rn_pickT (congrArg Value.bool hg85) (by conv => lhs; whnf)) ?_
                              refine wl_val (rn_pickF (congrArg Value.bool hg83) (by conv => lhs; whnf)) ?_
                              refine wl_val (rn_assign (by conv => lhs; whnf)) ?_
                              refine wl_nil ?_
                              refine W_ret ?_
                              first | exact ⟨_, resR1 (res1_tmp rfl), hX, rfl⟩ | exact ⟨_, resR1 (res1_tmp rfl), hX, congrArg Value.bool (decide_eq_true (by rw [htk]; exact if_pos q4))⟩ | exact ⟨_, resR1 (res1_tmp rfl), hX, congrArg Value.bool (decide_eq_true (by rw [htk]; exact if_neg q4))⟩
                            · exact absurd hg85 (by rw [htk]; simp)
                      · refine wl_no rfl (congrArg Value.bool hg70) ?_
                        refine wl_no rfl (congrArg Value.bool hg70) ?_
                        refine wl_no rfl (congrArg Value.bool hg70) ?_
                        refine wl_val (rn_pickF (congrArg Value.bool hg70) (by conv => lhs; whnf)) ?_
                        refine wl_val (rn_assign (by conv => lhs; whnf)) ?_
                        refine wl_nil ?_
                        refine W_seq ?_
                        refine W_seq ?_
                        refine W_region ?_
                        refine wl_val (rn_fieldAddr f_34_0 (by decide) rfl) ?_
                        refine wl_val (rn_load1 p_30 rfl hB3 rfl) ?_
                        refine wl_val (rn_neq rfl rfl) ?_
                        refine wl_nil ?_
                        refine W_cond rfl (fun hc4 => ?_) (fun hc4 => ?_)
                        · have q4 : c.ans.err ≠ 0 := of_decide_eq_true hc4
                          refine W_region ?_
                          refine wl_val (rn_fieldAddr f_34_0 (by decide) rfl) ?_
                          refine wl_val (rn_load1 p_30 rfl hB3 rfl) ?_
                          refine wl_val (rn_build' b_34 rfl rfl (cs := (⟨c.ans.err, 0, 0, mZ⟩ : AnsD).enc) rfl) ?_
                          have hBo := hB3
                          refine wl_storeB s_34 rfl rfl rfl (AnsD.one _) hB3 rfl ?_; intro w18 hE18 hB3 hz18
                          replace hX := hX.mine hE18 hl3
                          replace hB1 := hB1.ext hE18 (fun h => by omega); replace hB5 := hB5.ext hE18 (fun h => by omega); replace hB7 := hB7.ext hE18 (fun h => by omega)
                          replace hT := hT.ext hE18 (B := w.heap.size) (fun j hj => by subst hj; exact hq3) hG
                          replace hR := hR.ext hE18 (B := w.heap.size) (fun j hj => by subst hj; exact hq3) hTw
                          refine wl_nil ?_
                          refine W_seq ?_
                          refine W_region ?_
                          refine wl_val (rn_move (by conv => lhs; whnf)) ?_
                          refine wl_val (rn_not rfl) ?_
                          refine wl_val (rn_move (by conv => lhs; whnf)) ?_
                          refine wl_split (d := 83) rfl (fun hg83 => ?_) (fun hg83 => ?_)
                          · refine wl_no rfl (congrArg Value.bool hg83) ?_
                            refine wl_no rfl (congrArg Value.bool hg83) ?_
                            refine wl_nou rfl rfl ?_
                            refine wl_nou rfl rfl ?_
                            refine wl_nou rfl rfl ?_
                            refine wl_no rfl (congrArg Value.bool hg83) ?_
                            refine wl_val (rn_pickT (congrArg Value.bool hg83) (by conv => lhs; whnf)) ?_
                            refine wl_val (rn_assign (by conv => lhs; whnf)) ?_
                            refine wl_nil ?_
                            refine W_ret ?_
                            first | exact ⟨_, resR1 (res1_tmp rfl), hX, rfl⟩ | exact ⟨_, resR1 (res1_tmp rfl), hX, congrArg Value.bool (decide_eq_true (by rw [htk]; exact if_pos q4))⟩ | exact ⟨_, resR1 (res1_tmp rfl), hX, congrArg Value.bool (decide_eq_true (by rw [htk]; exact if_neg q4))⟩
                          · try have htk : docT (spl 32 (ansR c.ans)) = some (ansB c.ans) := (take_doc _).symm.trans (take_ans ⟨w50, w55⟩ ⟨w60, w65⟩ ⟨w70, by have h : (!decide (c.ans.b ≤ 1000000)) = false := hg83; simpa using h⟩)
                            exact absurd hg83 (by decide)
                        · have q4 : ¬ c.ans.err ≠ 0 := of_decide_eq_false hc4
                          refine W_skip ?_
                          refine W_seq ?_
                          refine W_region ?_
                          refine wl_val (rn_move (by conv => lhs; whnf)) ?_
                          refine wl_val (rn_not rfl) ?_
                          refine wl_val (rn_move (by conv => lhs; whnf)) ?_
                          refine wl_split (d := 83) rfl (fun hg83 => ?_) (fun hg83 => ?_)
                          · refine wl_no rfl (congrArg Value.bool hg83) ?_
                            refine wl_no rfl (congrArg Value.bool hg83) ?_
                            refine wl_nou rfl rfl ?_
                            refine wl_nou rfl rfl ?_
                            refine wl_nou rfl rfl ?_
                            refine wl_no rfl (congrArg Value.bool hg83) ?_
                            refine wl_val (rn_pickT (congrArg Value.bool hg83) (by conv => lhs; whnf)) ?_
                            refine wl_val (rn_assign (by conv => lhs; whnf)) ?_
                            refine wl_nil ?_
                            refine W_ret ?_
                            first | exact ⟨_, resR1 (res1_tmp rfl), hX, rfl⟩ | exact ⟨_, resR1 (res1_tmp rfl), hX, congrArg Value.bool (decide_eq_true (by rw [htk]; exact if_pos q4))⟩ | exact ⟨_, resR1 (res1_tmp rfl), hX, congrArg Value.bool (decide_eq_true (by rw [htk]; exact if_neg q4))⟩
                          · try have htk : docT (spl 32 (ansR c.ans)) = some (ansB c.ans) := (take_doc _).symm.trans (take_ans ⟨w50, w55⟩ ⟨w60, w65⟩ ⟨w70, by have h : (!decide (c.ans.b ≤ 1000000)) = false := hg83; simpa using h⟩)
                            exact absurd hg83 (by decide)
                    · refine wl_no rfl (congrArg Value.bool hg65) ?_
                      refine wl_no rfl (congrArg Value.bool hg65) ?_
                      refine wl_no rfl (congrArg Value.bool hg65) ?_
                      refine wl_val (rn_pickF (congrArg Value.bool hg65) (by conv => lhs; whnf)) ?_
                      refine wl_val (rn_move (by conv => lhs; whnf)) ?_
                      refine wl_no rfl rfl ?_
                      refine wl_no rfl rfl ?_
                      refine wl_no rfl rfl ?_
                      refine wl_val (rn_pickF rfl (by conv => lhs; whnf)) ?_
                      refine wl_val (rn_assign (by conv => lhs; whnf)) ?_
                      refine wl_nil ?_
                      refine W_seq ?_
                      refine W_seq ?_
                      refine W_region ?_
                      refine wl_val (rn_fieldAddr f_34_0 (by decide) rfl) ?_
                      refine wl_val (rn_load1 p_30 rfl hB3 rfl) ?_
                      refine wl_val (rn_neq rfl rfl) ?_
                      refine wl_nil ?_
                      refine W_cond rfl (fun hc4 => ?_) (fun hc4 => ?_)
                      · have q4 : c.ans.err ≠ 0 := of_decide_eq_true hc4
                        refine W_region ?_
                        refine wl_val (rn_fieldAddr f_34_0 (by decide) rfl) ?_
                        refine wl_val (rn_load1 p_30 rfl hB3 rfl) ?_
                        refine wl_val (rn_build' b_34 rfl rfl (cs := (⟨c.ans.err, 0, 0, mZ⟩ : AnsD).enc) rfl) ?_
                        have hBo := hB3
                        refine wl_storeB s_34 rfl rfl rfl (AnsD.one _) hB3 rfl ?_; intro w19 hE19 hB3 hz19
                        replace hX := hX.mine hE19 hl3
                        replace hB1 := hB1.ext hE19 (fun h => by omega); replace hB5 := hB5.ext hE19 (fun h => by omega); replace hB7 := hB7.ext hE19 (fun h => by omega)
                        replace hT := hT.ext hE19 (B := w.heap.size) (fun j hj => by subst hj; exact hq3) hG
                        replace hR := hR.ext hE19 (B := w.heap.size) (fun j hj => by subst hj; exact hq3) hTw
                        refine wl_nil ?_
                        refine W_seq ?_
                        refine W_region ?_
                        refine wl_val (rn_move (by conv => lhs; whnf)) ?_
                        refine wl_val (rn_not rfl) ?_
                        refine wl_val (rn_move (by conv => lhs; whnf)) ?_
                        refine wl_split (d := 83) rfl (fun hg83 => ?_) (fun hg83 => ?_)
                        · refine wl_no rfl (congrArg Value.bool hg83) ?_
                          refine wl_no rfl (congrArg Value.bool hg83) ?_
                          refine wl_nou rfl rfl ?_
                          refine wl_nou rfl rfl ?_
                          refine wl_nou rfl rfl ?_
                          refine wl_no rfl (congrArg Value.bool hg83) ?_
                          refine wl_val (rn_pickT (congrArg Value.bool hg83) (by conv => lhs; whnf)) ?_
                          refine wl_val (rn_assign (by conv => lhs; whnf)) ?_
                          refine wl_nil ?_
                          refine W_ret ?_
                          first | exact ⟨_, resR1 (res1_tmp rfl), hX, rfl⟩ | exact ⟨_, resR1 (res1_tmp rfl), hX, congrArg Value.bool (decide_eq_true (by rw [htk]; exact if_pos q4))⟩ | exact ⟨_, resR1 (res1_tmp rfl), hX, congrArg Value.bool (decide_eq_true (by rw [htk]; exact if_neg q4))⟩
                        · try have htk : docT (spl 32 (ansR c.ans)) = some (ansB c.ans) := (take_doc _).symm.trans (take_ans ⟨w50, w55⟩ ⟨w60, w65⟩ ⟨w70, by have h : (!decide (c.ans.b ≤ 1000000)) = false := hg83; simpa using h⟩)
                          exact absurd hg83 (by decide)
                      · have q4 : ¬ c.ans.err ≠ 0 := of_decide_eq_false hc4
                        refine W_skip ?_
                        refine W_seq ?_
                        refine W_region ?_
                        refine wl_val (rn_move (by conv => lhs; whnf)) ?_
                        refine wl_val (rn_not rfl) ?_
                        refine wl_val (rn_move (by conv => lhs; whnf)) ?_
                        refine wl_split (d := 83) rfl (fun hg83 => ?_) (fun hg83 => ?_)
                        · refine wl_no rfl (congrArg Value.bool hg83) ?_
                          refine wl_no rfl (congrArg Value.bool hg83) ?_
                          refine wl_nou rfl rfl ?_
                          refine wl_nou rfl rfl ?_
                          refine wl_nou rfl rfl ?_
                          refine wl_no rfl (congrArg Value.bool hg83) ?_
                          refine wl_val (rn_pickT (congrArg Value.bool hg83) (by conv => lhs; whnf)) ?_
                          refine wl_val (rn_assign (by conv => lhs; whnf)) ?_
                          refine wl_nil ?_
                          refine W_ret ?_
                          first | exact ⟨_, resR1 (res1_tmp rfl), hX, rfl⟩ | exact ⟨_, resR1 (res1_tmp rfl), hX, congrArg Value.bool (decide_eq_true (by rw [htk]; exact if_pos q4))⟩ | exact ⟨_, resR1 (res1_tmp rfl), hX, congrArg Value.bool (decide_eq_true (by rw [htk]; exact if_neg q4))⟩
                        · try have htk : docT (spl 32 (ansR c.ans)) = some (ansB c.ans) := (take_doc _).symm.trans (take_ans ⟨w50, w55⟩ ⟨w60, w65⟩ ⟨w70, by have h : (!decide (c.ans.b ≤ 1000000)) = false := hg83; simpa using h⟩)
                          exact absurd hg83 (by decide)
                  · refine wl_no rfl (congrArg Value.bool hg60) ?_
                    refine wl_no rfl (congrArg Value.bool hg60) ?_
                    refine wl_no rfl (congrArg Value.bool hg60) ?_
                    refine wl_val (rn_pickF (congrArg Value.bool hg60) (by conv => lhs; whnf)) ?_
                    refine wl_val (rn_move (by conv => lhs; whnf)) ?_
                    refine wl_no rfl rfl ?_
                    refine wl_no rfl rfl ?_
                    refine wl_no rfl rfl ?_
                    refine wl_val (rn_pickF rfl (by conv => lhs; whnf)) ?_
                    refine wl_val (rn_move (by conv => lhs; whnf)) ?_
                    refine wl_no rfl rfl ?_
                    refine wl_no rfl rfl ?_
                    refine wl_no rfl rfl ?_
                    refine wl_val (rn_pickF rfl (by conv => lhs; whnf)) ?_
                    refine wl_val (rn_assign (by conv => lhs; whnf)) ?_
                    refine wl_nil ?_
                    refine W_seq ?_
                    refine W_seq ?_
                    refine W_region ?_
                    refine wl_val (rn_fieldAddr f_34_0 (by decide) rfl) ?_
                    refine wl_val (rn_load1 p_30 rfl hB3 rfl) ?_
                    refine wl_val (rn_neq rfl rfl) ?_
                    refine wl_nil ?_
                    refine W_cond rfl (fun hc4 => ?_) (fun hc4 => ?_)
                    · have q4 : c.ans.err ≠ 0 := of_decide_eq_true hc4
                      refine W_region ?_
                      refine wl_val (rn_fieldAddr f_34_0 (by decide) rfl) ?_
                      refine wl_val (rn_load1 p_30 rfl hB3 rfl) ?_
                      refine wl_val (rn_build' b_34 rfl rfl (cs := (⟨c.ans.err, 0, 0, mZ⟩ : AnsD).enc) rfl) ?_
                      have hBo := hB3
                      refine wl_storeB s_34 rfl rfl rfl (AnsD.one _) hB3 rfl ?_; intro w20 hE20 hB3 hz20
                      replace hX := hX.mine hE20 hl3
                      replace hB1 := hB1.ext hE20 (fun h => by omega); replace hB5 := hB5.ext hE20 (fun h => by omega); replace hB7 := hB7.ext hE20 (fun h => by omega)
                      replace hT := hT.ext hE20 (B := w.heap.size) (fun j hj => by subst hj; exact hq3) hG
                      replace hR := hR.ext hE20 (B := w.heap.size) (fun j hj => by subst hj; exact hq3) hTw
                      refine wl_nil ?_
                      refine W_seq ?_
                      refine W_region ?_
                      refine wl_val (rn_move (by conv => lhs; whnf)) ?_
                      refine wl_val (rn_not rfl) ?_
                      refine wl_val (rn_move (by conv => lhs; whnf)) ?_
                      refine wl_split (d := 83) rfl (fun hg83 => ?_) (fun hg83 => ?_)
                      · refine wl_no rfl (congrArg Value.bool hg83) ?_
                        refine wl_no rfl (congrArg Value.bool hg83) ?_
                        refine wl_nou rfl rfl ?_
                        refine wl_nou rfl rfl ?_
                        refine wl_nou rfl rfl ?_
                        refine wl_no rfl (congrArg Value.bool hg83) ?_
                        refine wl_val (rn_pickT (congrArg Value.bool hg83) (by conv => lhs; whnf)) ?_
                        refine wl_val (rn_assign (by conv => lhs; whnf)) ?_
                        refine wl_nil ?_
                        refine W_ret ?_
                        first | exact ⟨_, resR1 (res1_tmp rfl), hX, rfl⟩ | exact ⟨_, resR1 (res1_tmp rfl), hX, congrArg Value.bool (decide_eq_true (by rw [htk]; exact if_pos q4))⟩ | exact ⟨_, resR1 (res1_tmp rfl), hX, congrArg Value.bool (decide_eq_true (by rw [htk]; exact if_neg q4))⟩
                      · try have htk : docT (spl 32 (ansR c.ans)) = some (ansB c.ans) := (take_doc _).symm.trans (take_ans ⟨w50, w55⟩ ⟨w60, w65⟩ ⟨w70, by have h : (!decide (c.ans.b ≤ 1000000)) = false := hg83; simpa using h⟩)
                        exact absurd hg83 (by decide)
                    · have q4 : ¬ c.ans.err ≠ 0 := of_decide_eq_false hc4
                      refine W_skip ?_
                      refine W_seq ?_
                      refine W_region ?_
                      refine wl_val (rn_move (by conv => lhs; whnf)) ?_
                      refine wl_val (rn_not rfl) ?_
                      refine wl_val (rn_move (by conv => lhs; whnf)) ?_
                      refine wl_split (d := 83) rfl (fun hg83 => ?_) (fun hg83 => ?_)
                      · refine wl_no rfl (congrArg Value.bool hg83) ?_
                        refine wl_no rfl (congrArg Value.bool hg83) ?_
                        refine wl_nou rfl rfl ?_
                        refine wl_nou rfl rfl ?_
                        refine wl_nou rfl rfl ?_
                        refine wl_no rfl (congrArg Value.bool hg83) ?_
                        refine wl_val (rn_pickT (congrArg Value.bool hg83) (by conv => lhs; whnf)) ?_
                        refine wl_val (rn_assign (by conv => lhs; whnf)) ?_
                        refine wl_nil ?_
                        refine W_ret ?_
                        first | exact ⟨_, resR1 (res1_tmp rfl), hX, rfl⟩ | exact ⟨_, resR1 (res1_tmp rfl), hX, congrArg Value.bool (decide_eq_true (by rw [htk]; exact if_pos q4))⟩ | exact ⟨_, resR1 (res1_tmp rfl), hX, congrArg Value.bool (decide_eq_true (by rw [htk]; exact if_neg q4))⟩
                      · try have htk : docT (spl 32 (ansR c.ans)) = some (ansB c.ans) := (take_doc _).symm.trans (take_ans ⟨w50, w55⟩ ⟨w60, w65⟩ ⟨w70, by have h : (!decide (c.ans.b ≤ 1000000)) = false := hg83; simpa using h⟩)
                        exact absurd hg83 (by decide)
                · refine wl_no rfl (congrArg Value.bool hg55) ?_
                  refine wl_no rfl (congrArg Value.bool hg55) ?_
                  refine wl_no rfl (congrArg Value.bool hg55) ?_
                  refine wl_val (rn_pickF (congrArg Value.bool hg55) (by conv => lhs; whnf)) ?_
                  refine wl_val (rn_move (by conv => lhs; whnf)) ?_
                  refine wl_no rfl rfl ?_
                  refine wl_no rfl rfl ?_
                  refine wl_no rfl rfl ?_
                  refine wl_val (rn_pickF rfl (by conv => lhs; whnf)) ?_
                  refine wl_val (rn_move (by conv => lhs; whnf)) ?_
                  refine wl_no rfl rfl ?_
                  refine wl_no rfl rfl ?_
                  refine wl_no rfl rfl ?_
                  refine wl_val (rn_pickF rfl (by conv => lhs; whnf)) ?_
                  refine wl_val (rn_move (by conv => lhs; whnf)) ?_
                  refine wl_no rfl rfl ?_
                  refine wl_no rfl rfl ?_
                  refine wl_no rfl rfl ?_
                  refine wl_val (rn_pickF rfl (by conv => lhs; whnf)) ?_
                  refine wl_val (rn_assign (by conv => lhs; whnf)) ?_
                  refine wl_nil ?_
                  refine W_seq ?_
                  refine W_seq ?_
                  refine W_region ?_
                  refine wl_val (rn_fieldAddr f_34_0 (by decide) rfl) ?_
                  refine wl_val (rn_load1 p_30 rfl hB3 rfl) ?_
                  refine wl_val (rn_neq rfl rfl) ?_
                  refine wl_nil ?_
                  refine W_cond rfl (fun hc4 => ?_) (fun hc4 => ?_)
                  · have q4 : c.ans.err ≠ 0 := of_decide_eq_true hc4
                    refine W_region ?_
                    refine wl_val (rn_fieldAddr f_34_0 (by decide) rfl) ?_
                    refine wl_val (rn_load1 p_30 rfl hB3 rfl) ?_
                    refine wl_val (rn_build' b_34 rfl rfl (cs := (⟨c.ans.err, 0, 0, mZ⟩ : AnsD).enc) rfl) ?_
                    have hBo := hB3
                    refine wl_storeB s_34 rfl rfl rfl (AnsD.one _) hB3 rfl ?_; intro w21 hE21 hB3 hz21
                    replace hX := hX.mine hE21 hl3
                    replace hB1 := hB1.ext hE21 (fun h => by omega); replace hB5 := hB5.ext hE21 (fun h => by omega); replace hB7 := hB7.ext hE21 (fun h => by omega)
                    replace hT := hT.ext hE21 (B := w.heap.size) (fun j hj => by subst hj; exact hq3) hG
                    replace hR := hR.ext hE21 (B := w.heap.size) (fun j hj => by subst hj; exact hq3) hTw
                    refine wl_nil ?_
                    refine W_seq ?_
                    refine W_region ?_
                    refine wl_val (rn_move (by conv => lhs; whnf)) ?_
                    refine wl_val (rn_not rfl) ?_
                    refine wl_val (rn_move (by conv => lhs; whnf)) ?_
                    refine wl_split (d := 83) rfl (fun hg83 => ?_) (fun hg83 => ?_)
                    · refine wl_no rfl (congrArg Value.bool hg83) ?_
                      refine wl_no rfl (congrArg Value.bool hg83) ?_
                      refine wl_nou rfl rfl ?_
                      refine wl_nou rfl rfl ?_
                      refine wl_nou rfl rfl ?_
                      refine wl_no rfl (congrArg Value.bool hg83) ?_
                      refine wl_val (rn_pickT (congrArg Value.bool hg83) (by conv => lhs; whnf)) ?_
                      refine wl_val (rn_assign (by conv => lhs; whnf)) ?_
                      refine wl_nil ?_
                      refine W_ret ?_
                      first | exact ⟨_, resR1 (res1_tmp rfl), hX, rfl⟩ | exact ⟨_, resR1 (res1_tmp rfl), hX, congrArg Value.bool (decide_eq_true (by rw [htk]; exact if_pos q4))⟩ | exact ⟨_, resR1 (res1_tmp rfl), hX, congrArg Value.bool (decide_eq_true (by rw [htk]; exact if_neg q4))⟩
                    · try have htk : docT (spl 32 (ansR c.ans)) = some (ansB c.ans) := (take_doc _).symm.trans (take_ans ⟨w50, w55⟩ ⟨w60, w65⟩ ⟨w70, by have h : (!decide (c.ans.b ≤ 1000000)) = false := hg83; simpa using h⟩)
                      exact absurd hg83 (by decide)
                  · have q4 : ¬ c.ans.err ≠ 0 := of_decide_eq_false hc4
                    refine W_skip ?_
                    refine W_seq ?_
                    refine W_region ?_
                    refine wl_val (rn_move (by conv => lhs; whnf)) ?_
                    refine wl_val (rn_not rfl) ?_
                    refine wl_val (rn_move (by conv => lhs; whnf)) ?_
                    refine wl_split (d := 83) rfl (fun hg83 => ?_) (fun hg83 => ?_)
                    · refine wl_no rfl (congrArg Value.bool hg83) ?_
                      refine wl_no rfl (congrArg Value.bool hg83) ?_
                      refine wl_nou rfl rfl ?_
                      refine wl_nou rfl rfl ?_
                      refine wl_nou rfl rfl ?_
                      refine wl_no rfl (congrArg Value.bool hg83) ?_
                      refine wl_val (rn_pickT (congrArg Value.bool hg83) (by conv => lhs; whnf)) ?_
                      refine wl_val (rn_assign (by conv => lhs; whnf)) ?_
                      refine wl_nil ?_
                      refine W_ret ?_
                      first | exact ⟨_, resR1 (res1_tmp rfl), hX, rfl⟩ | exact ⟨_, resR1 (res1_tmp rfl), hX, congrArg Value.bool (decide_eq_true (by rw [htk]; exact if_pos q4))⟩ | exact ⟨_, resR1 (res1_tmp rfl), hX, congrArg Value.bool (decide_eq_true (by rw [htk]; exact if_neg q4))⟩
                    · try have htk : docT (spl 32 (ansR c.ans)) = some (ansB c.ans) := (take_doc _).symm.trans (take_ans ⟨w50, w55⟩ ⟨w60, w65⟩ ⟨w70, by have h : (!decide (c.ans.b ≤ 1000000)) = false := hg83; simpa using h⟩)
                      exact absurd hg83 (by decide)
              · refine wl_no rfl (congrArg Value.bool hg50) ?_
                refine wl_no rfl (congrArg Value.bool hg50) ?_
                refine wl_no rfl (congrArg Value.bool hg50) ?_
                refine wl_val (rn_pickF (congrArg Value.bool hg50) (by conv => lhs; whnf)) ?_
                refine wl_val (rn_move (by conv => lhs; whnf)) ?_
                refine wl_no rfl rfl ?_
                refine wl_no rfl rfl ?_
                refine wl_no rfl rfl ?_
                refine wl_val (rn_pickF rfl (by conv => lhs; whnf)) ?_
                refine wl_val (rn_move (by conv => lhs; whnf)) ?_
                refine wl_no rfl rfl ?_
                refine wl_no rfl rfl ?_
                refine wl_no rfl rfl ?_
                refine wl_val (rn_pickF rfl (by conv => lhs; whnf)) ?_
                refine wl_val (rn_move (by conv => lhs; whnf)) ?_
                refine wl_no rfl rfl ?_
                refine wl_no rfl rfl ?_
                refine wl_no rfl rfl ?_
                refine wl_val (rn_pickF rfl (by conv => lhs; whnf)) ?_
                refine wl_val (rn_move (by conv => lhs; whnf)) ?_
                refine wl_no rfl rfl ?_
                refine wl_no rfl rfl ?_
                refine wl_no rfl rfl ?_
                refine wl_val (rn_pickF rfl (by conv => lhs; whnf)) ?_
                refine wl_val (rn_assign (by conv => lhs; whnf)) ?_
                refine wl_nil ?_
                refine W_seq ?_
                refine W_seq ?_
                refine W_region ?_
                refine wl_val (rn_fieldAddr f_34_0 (by decide) rfl) ?_
                refine wl_val (rn_load1 p_30 rfl hB3 rfl) ?_
                refine wl_val (rn_neq rfl rfl) ?_
                refine wl_nil ?_
                refine W_cond rfl (fun hc4 => ?_) (fun hc4 => ?_)
                · have q4 : c.ans.err ≠ 0 := of_decide_eq_true hc4
                  refine W_region ?_
                  refine wl_val (rn_fieldAddr f_34_0 (by decide) rfl) ?_
                  refine wl_val (rn_load1 p_30 rfl hB3 rfl) ?_
                  refine wl_val (rn_build' b_34 rfl rfl (cs := (⟨c.ans.err, 0, 0, mZ⟩ : AnsD).enc) rfl) ?_
                  have hBo := hB3
                  refine wl_storeB s_34 rfl rfl rfl (AnsD.one _) hB3 rfl ?_; intro w22 hE22 hB3 hz22
                  replace hX := hX.mine hE22 hl3
                  replace hB1 := hB1.ext hE22 (fun h => by omega); replace hB5 := hB5.ext hE22 (fun h => by omega); replace hB7 := hB7.ext hE22 (fun h => by omega)
                  replace hT := hT.ext hE22 (B := w.heap.size) (fun j hj => by subst hj; exact hq3) hG
                  replace hR := hR.ext hE22 (B := w.heap.size) (fun j hj => by subst hj; exact hq3) hTw
                  refine wl_nil ?_
                  refine W_seq ?_
                  refine W_region ?_
                  refine wl_val (rn_move (by conv => lhs; whnf)) ?_
                  refine wl_val (rn_not rfl) ?_
                  refine wl_val (rn_move (by conv => lhs; whnf)) ?_
                  refine wl_split (d := 83) rfl (fun hg83 => ?_) (fun hg83 => ?_)
                  · refine wl_no rfl (congrArg Value.bool hg83) ?_
                    refine wl_no rfl (congrArg Value.bool hg83) ?_
                    refine wl_nou rfl rfl ?_
                    refine wl_nou rfl rfl ?_
                    refine wl_nou rfl rfl ?_
                    refine wl_no rfl (congrArg Value.bool hg83) ?_
                    refine wl_val (rn_pickT (congrArg Value.bool hg83) (by conv => lhs; whnf)) ?_
                    refine wl_val (rn_assign (by conv => lhs; whnf)) ?_
                    refine wl_nil ?_
                    refine W_ret ?_
                    first | exact ⟨_, resR1 (res1_tmp rfl), hX, rfl⟩ | exact ⟨_, resR1 (res1_tmp rfl), hX, congrArg Value.bool (decide_eq_true (by rw [htk]; exact if_pos q4))⟩ | exact ⟨_, resR1 (res1_tmp rfl), hX, congrArg Value.bool (decide_eq_true (by rw [htk]; exact if_neg q4))⟩
                  · try have htk : docT (spl 32 (ansR c.ans)) = some (ansB c.ans) := (take_doc _).symm.trans (take_ans ⟨w50, w55⟩ ⟨w60, w65⟩ ⟨w70, by have h : (!decide (c.ans.b ≤ 1000000)) = false := hg83; simpa using h⟩)
                    exact absurd hg83 (by decide)
                · have q4 : ¬ c.ans.err ≠ 0 := of_decide_eq_false hc4
                  refine W_skip ?_
                  refine W_seq ?_
                  refine W_region ?_
                  refine wl_val (rn_move (by conv => lhs; whnf)) ?_
                  refine wl_val (rn_not rfl) ?_
                  refine wl_val (rn_move (by conv => lhs; whnf)) ?_
                  refine wl_split (d := 83) rfl (fun hg83 => ?_) (fun hg83 => ?_)
                  · refine wl_no rfl (congrArg Value.bool hg83) ?_
                    refine wl_no rfl (congrArg Value.bool hg83) ?_
                    refine wl_nou rfl rfl ?_
                    refine wl_nou rfl rfl ?_
                    refine wl_nou rfl rfl ?_
                    refine wl_no rfl (congrArg Value.bool hg83) ?_
                    refine wl_val (rn_pickT (congrArg Value.bool hg83) (by conv => lhs; whnf)) ?_
                    refine wl_val (rn_assign (by conv => lhs; whnf)) ?_
                    refine wl_nil ?_
                    refine W_ret ?_
                    first | exact ⟨_, resR1 (res1_tmp rfl), hX, rfl⟩ | exact ⟨_, resR1 (res1_tmp rfl), hX, congrArg Value.bool (decide_eq_true (by rw [htk]; exact if_pos q4))⟩ | exact ⟨_, resR1 (res1_tmp rfl), hX, congrArg Value.bool (decide_eq_true (by rw [htk]; exact if_neg q4))⟩
                  · try have htk : docT (spl 32 (ansR c.ans)) = some (ansB c.ans) := (take_doc _).symm.trans (take_ans ⟨w50, w55⟩ ⟨w60, w65⟩ ⟨w70, by have h : (!decide (c.ans.b ≤ 1000000)) = false := hg83; simpa using h⟩)
                    exact absurd hg83 (by decide)
end Go.Proofs.YthcclgoidchkdaaDoorC

/- The row of a law that lists variables; each rule holds of whatever program. -/
set_option linter.unusedVariables false
set_option linter.unusedSimpArgs false
namespace Go.Proofs.YthcclgoidchkdaaDoorC
open Go.ChangeShapes Go.WideShapes Go.ChangeAt Go.RowKit
/-- A law that returns true, and leaves what was as it was: its row, where variables are laid. -/
theorem law_liftedL {laidL : List (String × DataW Unit)} {a : Assume} {C : Checked} {os : Os} {f : FuncId} {fn : Func} {s : ChangeSpec} {conds : List PathCond} {apart fresh handsOn : Bool} {H : Type} {enc : TypeId × Value → H} {tb : TypeId}
    (own : ownKnob C.prog.godebug = none) (started : os.Started) (noInit : C.prog.inits.idxOf? f = none) (hfn : C.prog.funcs[f]? = some fn)
    (witness : ∃ (w : World) (tape : Tape) (i : Input), w.os = os ∧ (w.forCall tape i).Shaped C.prog ∧ i.vars = [] ∧ Input.okWide C.prog (w.forCall tape i) .any w.heap.size f i ∧
      ((s.pre enc C.prog fn conds apart (w.forCall tape i).memory i.args ∧ laidMetH C.prog laidL (w.forCall tape i).memory) ∧ sizedMet enc C.prog fn (OpenSpec.ofChange s) apart (w.forCall tape i).memory i.args) ∧ a.holds C.prog (lone (Frame.enter C.prog f i.args .normal) [] (w.forCall tape i)))
    (laid : laidOutB C.prog = true) (hts : (fn.params.toList.all fun t => C.prog.readableRec t && decide (t < C.prog.types.size)) = true) (hres : fn.resultTypes.toList = [tb]) (htb : C.prog.underlying tb = some .bool) (hvars : s.vars = [])
    (hs : ∀ ds : List (DataW H), ds.length = fn.params.toList.length → s.fn H ds = { results := [.lit (.bool true)], args := ds })
    (contract : ∀ (W : World) (base : Nat) (args : Array Value) (ds : List (DataW H)) (ps : List MemPlace), (∀ (j : Nat) t v, fn.params[j]? = some t → args[j]? = some v → Value.okWide C.prog W .any base t v) →
      DataW.TrodAll enc C.prog W 0 (fun _ => true) true fn.params.toList args.toList ds ps → laidMetH C.prog laidL W → Fn C.prog f args W fun v _ => v = .bool true) :
    ReturnsInHanded a C os f .any (fun w args => (s.pre enc C.prog fn conds apart w args ∧ laidMetH C.prog laidL w) ∧ sizedMet enc C.prog fn (OpenSpec.ofChange s) apart w args) (s.post enc C.prog fn apart fresh handsOn false) := by
  refine returnsInHanded_of_change_and (X := fun w _ => laidMetH C.prog laidL w) (fun _ _ _ hh h => h.of_heap hh) own started noInit hfn witness ?_
  intro W base args ds gs before hval hW _ _ hL _
  have hW' := hW
  obtain ⟨p, q, hA, hV, rfl, _, _⟩ := hW
  rw [hvars] at hV
  obtain ⟨rfl, rfl⟩ := trodVars_none hV
  refine Calls.mono (contract W base args ds p hval hA hL) fun e W' ⟨v, he, hE, hv⟩ => ?_
  subst hv
  refine ⟨_, he, ?_⟩
  have hlen : ∀ (ts : List TypeId) (vs : List Value) (ds : List (DataW H)) (ps : List MemPlace), DataW.TrodAll enc C.prog W 0 (fun _ => true) true ts vs ds ps → ds.length = ts.length := by
    intro ts
    induction ts with
    | nil => intro vs ds ps h; cases vs <;> cases ds <;> first | rfl | exact h.elim
    | cons t ts ih =>
      intro vs ds ps h
      cases vs with
      | nil => exact h.elim
      | cons v vs =>
        cases ds with
        | nil => exact h.elim
        | cons d ds => obtain ⟨p, q, _, h2, _⟩ := h; simp [ih _ _ _ h2]
  have hfn' : s.fn H (ds ++ []) = { results := [.lit (.bool true)], args := ds } := by rw [List.append_nil]; exact hs ds (hlen _ _ _ _ hA)
  refine ⟨ds, [], p ++ [], [], p, [], hW', ?_, ?_, ?_, hE.below.frame _, fun h => by cases h⟩
  · rw [hfn', hres]
    have : fn.resultTypes.size = 1 := by rw [← Array.length_toList, hres]; rfl
    rw [this]
    exact trodAll_mk1 (shut_bool htb true)
  · rw [hfn']
    exact trodAll_stays laid hE.below _ _ _ _ hts hA (fun x hx => by simpa using hW'.lt x (by simp [hx]))
  · rw [hfn', hvars]; rfl
end Go.Proofs.YthcclgoidchkdaaDoorC

/- What the rows of the laws on texts share: how their arguments read. -/
set_option linter.unusedVariables false
set_option linter.unusedSimpArgs false
namespace Go.Proofs.YthcclgoidchkdaaDoor
open Go.RowKit Go.Proofs.YthcclgoidchkdaaDoorC Go.ChangeShapes
theorem own3 : ownKnob Tryd.prog.godebug = none := by kernel_rfl
theorem laidOut3 : laidOutB Tryd.prog = true := by kernel_rfl
theorem u8_rng {n : Int} (h : (Lit.int .u8 n).wf = true) : 0 ≤ n ∧ n ≤ 255 := by
  have h1 : IntKind.u8.min = 0 := rfl
  have h2 : IntKind.u8.max = 255 := rfl
  have h : (decide (IntKind.u8.min ≤ n) && decide (n ≤ IntKind.u8.max)) = true := h
  rw [h1, h2, Bool.and_eq_true] at h
  exact ⟨of_decide_eq_true h.1, of_decide_eq_true h.2⟩
end Go.Proofs.YthcclgoidchkdaaDoor

/- How arguments of calls, operations, numbers read; the library's table of powers, off the row. -/
set_option linter.unusedVariables false
set_option linter.unusedSimpArgs false
namespace Go.Proofs.YthcclgoidchkdaaDoor
open Go.RowKit Go.Proofs.YthcclgoidchkdaaDoorC Go.ChangeShapes
theorem call_flat : flatT Tryd.prog 5 38 = some [.int .i64, .int .i64, .int .i64, .int .i64, .str, .str, .bool, .int .i64, .int .i64, .int .i64, .str, .str, .bool, .int .i64, .int .i64] := by kernel_rfl
theorem laidMet_tail {P : Program} {W : World} {x : String × DataW Unit} {r : List (String × DataW Unit)} (h : laidMet P (x :: r) W) : laidMet P r W := by
  obtain ⟨ps, ⟨g, t, cs, fuel, p, q, _, _, _, _, hq, rfl⟩, hn, hp⟩ := h
  exact ⟨q, hq, (List.nodup_append.1 hn).2.1, fun b off hb => hp b off (by simp [hb])⟩
theorem laidMet_mem {P : Program} {W : World} : ∀ {L : List (String × DataW Unit)}, laidMet P L W → ∀ x ∈ L, ∃ r, laidMet P (x :: r) W
  | [], _, x, hx => by cases hx
  | y :: r, h, x, hx => by
    rcases List.mem_cons.1 hx with rfl | hx
    · exact ⟨r, h⟩
    · exact laidMet_mem (laidMet_tail h) x hx
theorem tab_ty : (Tryd.prog.globalNamed "internal/strconv.uint64pow10").bind (fun g => (Tryd.prog.globals[g]?).map (·.type)) = some 262 := by kernel_rfl
theorem tab_data : (Rows.laid_internal_strconv_uint64pow10 : DataW Unit) = Lib.tabData .u64 Lib.pow10Tab := by kernel_rfl
/-- The table stands, where the row's list names it. -/
theorem tab_of {L : List (String × DataW Unit)} {W : World} (hp : (L.all fun x => x.2.handleName?.isNone) = true) (h : laidMetH Tryd.prog L W) (hm : ("internal/strconv.uint64pow10", Rows.laid_internal_strconv_uint64pow10) ∈ L) : Tab W := by
  rw [MakeChecks.laidMetH_plain _ _ _ hp] at h
  obtain ⟨r, h⟩ := laidMet_mem h _ hm
  rw [tab_data] at h
  cases hg : Tryd.prog.globalNamed "internal/strconv.uint64pow10" with
  | none => have := tab_ty; rw [hg] at this; cases this
  | some g =>
    have hty := tab_ty
    rw [hg] at hty
    exact Lib.tabIs_of_head hg hty (n := 20) (e := 150) (by kernel_rfl) (by kernel_rfl) (by kernel_rfl) (by kernel_rfl) h
end Go.Proofs.YthcclgoidchkdaaDoor

/- The library's two errors, off the row. -/
set_option linter.unusedVariables false
set_option linter.unusedSimpArgs false
namespace Go.Proofs.YthcclgoidchkdaaDoor
open Go.RowKit Go.Proofs.YthcclgoidchkdaaDoorC Go.ChangeShapes
theorem err_at {P : Program} {n name : String} {d : DataW Unit} {r : List (String × DataW Unit)} {W : World} {g : Nat} {ti : TypeId} {ms : Array (String × TypeId)} (hg : P.globalNamed n = some g) (hty : (P.globals[g]?).map (·.type) = some ti) (hi : P.underlying ti = some (.interface ms))
    (h : laidMet P ((n, .iface name d) :: r) W) : ∃ t p, W.cell? ⟨g, 0, none⟩ = some (.iface t p) := by
  obtain ⟨ps, ⟨g', t, cs, fuel, p, q, h1, h2, h3, h4, h5, h6⟩, _, _⟩ := h
  rw [hg] at h1; cases h1
  rw [hty] at h2; cases h2
  obtain ⟨f', u, v, hc, _⟩ := iface_of_trod hi h4
  refine ⟨u, v, ?_⟩
  unfold World.var? at h3
  rw [hg] at h3
  simp only [Option.bind_some] at h3
  cases hh : W.heap[g]? with
  | none => rw [hh] at h3; cases h3
  | some o =>
    rw [hh] at h3
    cases o with
    | cells c a b =>
      simp only [Option.some.injEq] at h3
      subst h3
      have : c = #[.iface u v] := by rw [← Array.toList_inj]; simpa using hc
      simp [World.cell?, hh, this]
    | _ => cases h3
theorem errs_of {L : List (String × DataW Unit)} {W : World} (hp : (L.all fun x => x.2.handleName?.isNone) = true) (h : laidMetH Tryd.prog L W) (h1 : ("strconv.ErrSyntax", Rows.laid_strconv_ErrSyntax) ∈ L) (h2 : ("strconv.ErrRange", Rows.laid_strconv_ErrRange) ∈ L) : ErrS W := by
  rw [MakeChecks.laidMetH_plain _ _ _ hp] at h
  obtain ⟨r1, k1⟩ := laidMet_mem h _ h1
  obtain ⟨r2, k2⟩ := laidMet_mem h _ h2
  exact ⟨err_at (n := "strconv.ErrSyntax") (ti := 146) (by kernel_rfl) (by kernel_rfl) Tryd.underlying146 k1, err_at (n := "strconv.ErrRange") (ti := 146) (by kernel_rfl) (by kernel_rfl) Tryd.underlying146 k2⟩
/-- A struct of flat fields reads as its cells. -/
theorem open_agg {H : Type} {enc : TypeId × Value → H} {P : Program} {w : World} {base : Nat} {spare : Nat → Bool} {held : Bool} {t : TypeId} {n : Nat} {ks : List FK} (hf : flatT P n t = some ks) {fs : Array Field} (ht : P.underlying t = some (.struct fs)) {v : Value} {d : DataW H} {p : List MemPlace} {W : World} {r : Reach} {b0 : Nat} (h : DataW.Trod enc P w base spare held t v d p) (hv : Value.okWide P W r b0 t v) :
    ∃ cs : List Value, v = .agg cs.toArray ∧ flatOk ks cs := by
  obtain ⟨cs, rfl, _⟩ := WideShapes.okWide_struct ht hv
  obtain ⟨fuel, h⟩ := h
  have := flat_of_trod n t ks fuel _ _ hf h
  exact ⟨cs.toList, by simp, this⟩
end Go.Proofs.YthcclgoidchkdaaDoor

/- How calls read, with their numbers' bounds. -/
set_option linter.unusedVariables false
set_option linter.unusedSimpArgs false
namespace Go.Proofs.YthcclgoidchkdaaDoor
open Go.RowKit Go.Proofs.YthcclgoidchkdaaDoorC Go.ChangeShapes
theorem i64_rng {n : Int} (h : (Lit.int .i64 n).wf = true) : I64 n := by
  simp only [Lit.wf, IntKind.min, IntKind.max, IntKind.signed, IntKind.bits, Bool.and_eq_true, decide_eq_true_eq] at h
  exact ⟨by simpa using h.1, by simpa using h.2⟩
theorem callW_of (cs : List Value) (hr : flatOk [.int .i64, .int .i64, .int .i64, .int .i64, .str, .str, .bool, .int .i64, .int .i64, .int .i64, .str, .str, .bool, .int .i64, .int .i64] cs) : ∃ c : CallD, cs = c.enc ∧ CallI c := by
  obtain ⟨_, r1, e1, ⟨a1, rfl, w1⟩, h1⟩ := hr.cons
  obtain ⟨_, r2, e2, ⟨a2, rfl, w2⟩, h2⟩ := h1.cons
  obtain ⟨_, r3, e3, ⟨a3, rfl, _⟩, h3⟩ := h2.cons
  obtain ⟨_, r4, e4, ⟨a4, rfl, _⟩, h4⟩ := h3.cons
  obtain ⟨_, r5, e5, ⟨a5, rfl, _⟩, h5⟩ := h4.cons
  obtain ⟨_, r6, e6, ⟨a6, rfl, _⟩, h6⟩ := h5.cons
  obtain ⟨_, r7, e7, ⟨a7, rfl⟩, h7⟩ := h6.cons
  obtain ⟨_, r8, e8, ⟨a8, rfl, w8⟩, h8⟩ := h7.cons
  obtain ⟨_, r9, e9, ⟨a9, rfl, w9⟩, h9⟩ := h8.cons
  obtain ⟨_, r10, e10, ⟨a10, rfl, w10⟩, h10⟩ := h9.cons
  obtain ⟨_, r11, e11, ⟨a11, rfl, _⟩, h11⟩ := h10.cons
  obtain ⟨_, r12, e12, ⟨a12, rfl, _⟩, h12⟩ := h11.cons
  obtain ⟨_, r13, e13, ⟨a13, rfl⟩, h13⟩ := h12.cons
  obtain ⟨_, r14, e14, ⟨a14, rfl, w14⟩, h14⟩ := h13.cons
  obtain ⟨_, r15, e15, ⟨a15, rfl, w15⟩, h15⟩ := h14.cons
  have e16 := h15.nil
  exact ⟨⟨a1, a2, ⟨a3, a4, a5, a6, a7⟩, ⟨a8, a9, a10, ⟨a11, a12, a13⟩⟩, a14, a15⟩, by rw [e1, e2, e3, e4, e5, e6, e7, e8, e9, e10, e11, e12, e13, e14, e15, e16]; rfl, ⟨i64_rng w1, i64_rng w2, i64_rng w14, i64_rng w15, i64_rng w8, i64_rng w9, i64_rng w10⟩⟩
theorem callsW_of : ∀ (rows : List (List Value)), (∀ r ∈ rows, flatOk [.int .i64, .int .i64, .int .i64, .int .i64, .str, .str, .bool, .int .i64, .int .i64, .int .i64, .str, .str, .bool, .int .i64, .int .i64] r) → ∃ l : List CallD, rows = l.map CallD.enc ∧ ∀ c ∈ l, CallI c
  | [], _ => ⟨[], rfl, fun c h => by cases h⟩
  | r :: rows, h => by
    obtain ⟨l, hl, hw⟩ := callsW_of rows (fun x hx => h x (by simp [hx]))
    obtain ⟨c, hc, hi⟩ := callW_of r (h r (by simp))
    exact ⟨c :: l, by rw [hl, hc]; rfl, fun x hx => by rcases List.mem_cons.1 hx with rfl | hx; exact hi; exact hw x hx⟩
end Go.Proofs.YthcclgoidchkdaaDoor
