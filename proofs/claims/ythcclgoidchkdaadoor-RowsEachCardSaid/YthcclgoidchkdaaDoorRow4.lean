/- Layer 27: the laws of answers and rows. -/
import Derived.Test.YthcclgoidchkdaaDoorRow3
set_option linter.unusedVariables false
set_option linter.unusedSimpArgs false
set_option maxRecDepth 100000
namespace Go.Proofs.YthcclgoidchkdaaDoorC
open Go.RowKit
theorem itoa1 {n : Nat} (h : n < 10) : Lib.itoa (n : Int) = [UInt8.ofNat (48 + n)] := by rw [itoa_nat, Lib.decDigits_one h]
abbrev cAw : CallD := ⟨0, 1, ⟨4, 2, [], [], false⟩, ⟨7, 0, 0, mZ⟩, 3, 4⟩
theorem aw_row : rowR cAw = [48, 32, 49, 32, 51, 32, 52, 32, 112, 111, 108, 108, 32, 50, 32, 61, 32, 101, 114, 114, 111, 114, 32, 55] := by
  have h0 : Lib.itoa 0 = [48] := itoa1 (n := 0) (by decide)
  have h1 : Lib.itoa 1 = [49] := itoa1 (n := 1) (by decide)
  have h3 : Lib.itoa 3 = [51] := itoa1 (n := 3) (by decide)
  have h4 : Lib.itoa 4 = [52] := itoa1 (n := 4) (by decide)
  have h7 : Lib.itoa 7 = [55] := itoa1 (n := 7) (by decide)
  have h2 : Lib.decDigits 2 = [50] := Lib.decDigits_one (by decide)
  have hl : lineQ ⟨4, 2, [], [], false⟩ = [112, 111, 108, 108, 32, 50] := by
    unfold lineQ; rw [if_pos (by decide +kernel)]
    have := line4 2 [] []
    rw [h2] at this; exact this
  unfold rowR
  rw [tx4, ansR_err (by decide)]
  simp only [h0, h1, h3, h4, h7, hl]
  rfl
theorem aw_ok : CallOk cAw := ⟨by constructor <;> decide, by constructor <;> decide, by constructor <;> decide, by constructor <;> decide, by simp, by simp, ⟨by constructor <;> decide, by constructor <;> decide, by constructor <;> decide, by simp, by simp⟩⟩
/-- A call's numbers are such. -/
structure CallI (c : CallD) : Prop where
  th : I64 c.thread
  pl : I64 c.place
  fr : I64 c.from_
  to : I64 c.to_
  e : I64 c.ans.err
  x : I64 c.ans.a
  y : I64 c.ans.b
structure CallS (c : CallD) : Prop where
  t : c.op.text.length ≤ 300
  p : c.op.payload.length ≤ 300
  mt : c.ans.msg.topic.length ≤ 300
  mp : c.ans.msg.payload.length ≤ 300
theorem CallI.ok {c : CallD} (h : CallI c) (hs : CallS c) : CallOk c := ⟨h.th, h.pl, h.fr, h.to, by have := hs.t; omega, by have := hs.p; omega, ⟨h.e, h.x, h.y, by have := hs.mt; omega, by have := hs.mp; omega⟩⟩
-- bellman/bellmanlaw27.awake
theorem awake27_ok (w : World) (hT : Tab w) : Fn Tryd.prog 27 #[] w fun u w' => u = .bool true := by
  have hX := Ext.refl Non w
  refine fn_of_W (args := []) Tryd.func27 rfl (by kernel_rfl) rfl ?_
  refine W_seq ?_
  refine W_region ?_
  refine wl_val (rn_assign (by conv => lhs; whnf)) ?_
  refine wl_nil ?_
  refine W_seq ?_
  refine W_region ?_
  refine wl_val (rn_build' b_29 rfl rfl (cs := (⟨4, 2, [], [], false⟩ : OpD).enc) rfl) ?_
  refine wl_val (rn_build' b_34 rfl rfl (cs := (⟨7, 0, 0, mZ⟩ : AnsD).enc) rfl) ?_
  refine wl_val (rn_build' b_38 rfl rfl (cs := cAw.enc) rfl) ?_
  refine wl_call e_54 rfl (row_ok w cAw aw_ok hT) ?_; intro v4 w1 hE1 hR1
  replace hX := hX.tr hE1
  subst hR1; rw [aw_row]
  refine wl_val (rn_seql rfl rfl) ?_
  refine wl_val (rn_assign (by conv => lhs; whnf)) ?_
  refine wl_nil ?_
  refine W_ret ?_
  exact ⟨_, resR1 (res1_tmp rfl), hX, rfl⟩
-- bellman/bellmanlaw27.long
set_option maxHeartbeats 1600000 in
theorem long27_ok (w : World) (c : CallD) : Fn Tryd.prog 28 #[.agg c.enc.toArray] w fun u w' => ∃ b : Bool, u = .bool b ∧ (b = false → CallS c) := by
  have hX := Ext.refl Non w
  refine fn_of_W (args := [_]) Tryd.func28 rfl (by kernel_rfl) rfl ?_
  refine W_seq ?_
  refine W_region ?_
  refine wl_boxS rfl ?_; intro b1 w1 hb1 hE1 hB1
  have hq1 : w.heap.size ≤ b1 := Nat.le_trans hX.size hb1
  have hl1 : Mine Non w b1 := .inr hq1
  replace hX := hX.tr hE1
  refine wl_val (rn_assign (by conv => lhs; whnf)) ?_
  refine wl_nil ?_
  refine W_seq ?_
  refine W_region ?_
  refine wl_val (rn_fieldAddr f_38_2 (by decide) rfl) ?_
  refine wl_val (rn_fieldAddr f_29_2 (by decide) rfl) ?_
  refine wl_val (rn_load1 p_9 rfl hB1 rfl) ?_
  refine wl_call e_32 rfl (long_ok w1 c.op.text) ?_; intro v6 w2 hE2 hR2
  replace hX := hX.tr hE2
  replace hB1 := hB1.ext hE2 id
  subst hR2
  refine wl_val (rn_move (by conv => lhs; whnf)) ?_
  refine wl_split (d := 7) rfl (fun hg7 => ?_) (fun hg7 => ?_)
  · refine wl_no rfl (congrArg Value.bool hg7) ?_
    refine wl_no rfl (congrArg Value.bool hg7) ?_
    refine wl_no rfl (congrArg Value.bool hg7) ?_
    refine wl_no rfl (congrArg Value.bool hg7) ?_
    refine wl_val (rn_pickT (congrArg Value.bool hg7) (by conv => lhs; whnf)) ?_
    refine wl_val (rn_move (by conv => lhs; whnf)) ?_
    refine wl_no rfl rfl ?_
    refine wl_no rfl rfl ?_
    refine wl_no rfl rfl ?_
    refine wl_no rfl rfl ?_
    refine wl_no rfl rfl ?_
    refine wl_val (rn_pickT rfl (by conv => lhs; whnf)) ?_
    refine wl_val (rn_move (by conv => lhs; whnf)) ?_
    refine wl_no rfl rfl ?_
    refine wl_no rfl rfl ?_
    refine wl_no rfl rfl ?_
    refine wl_no rfl rfl ?_
    refine wl_no rfl rfl ?_
    refine wl_val (rn_pickT rfl (by conv => lhs; whnf)) ?_
    refine wl_val (rn_assign (by conv => lhs; whnf)) ?_
    refine wl_nil ?_
    refine W_ret ?_
    first | exact ⟨_, resR1 (res1_tmp rfl), hX, ⟨_, rfl, fun h => ⟨by omega, by omega, by omega, by have := of_decide_eq_false h; omega⟩⟩⟩ | exact ⟨_, resR1 (res1_tmp rfl), hX, ⟨_, rfl, fun h => (by cases h)⟩⟩ | exact ⟨_, resR1 (res1_tmp rfl), hX, ⟨_, rfl, fun h => absurd h (by rw [hg13]; decide)⟩⟩ | exact ⟨_, resR1 (res1_tmp rfl), hX, ⟨_, rfl, fun h => absurd h (by rw [hg20]; decide)⟩⟩
  · have l7 := of_decide_eq_false hg7
    refine wl_yes rfl (congrArg Value.bool hg7) ?_
    refine wl_val (rn_fieldAddr f_38_2 (by decide) rfl) ?_
    refine wl_yes rfl (congrArg Value.bool hg7) ?_
    refine wl_val (rn_fieldAddr f_29_3 (by decide) rfl) ?_
    refine wl_yes rfl (congrArg Value.bool hg7) ?_
    refine wl_val (rn_load1 p_9 rfl hB1 rfl) ?_
    refine wl_yes rfl (congrArg Value.bool hg7) ?_
    refine wl_call e_32 rfl (long_ok w2 c.op.payload) ?_; intro v11 w3 hE3 hR3
    replace hX := hX.tr hE3
    replace hB1 := hB1.ext hE3 id
    subst hR3
    refine wl_val (rn_pickF (congrArg Value.bool hg7) (by conv => lhs; whnf)) ?_
    refine wl_val (rn_move (by conv => lhs; whnf)) ?_
    refine wl_split (d := 13) rfl (fun hg13 => ?_) (fun hg13 => ?_)
    · refine wl_no rfl (congrArg Value.bool hg13) ?_
      refine wl_no rfl (congrArg Value.bool hg13) ?_
      refine wl_no rfl (congrArg Value.bool hg13) ?_
      refine wl_no rfl (congrArg Value.bool hg13) ?_
      refine wl_no rfl (congrArg Value.bool hg13) ?_
      refine wl_val (rn_pickT (congrArg Value.bool hg13) (by conv => lhs; whnf)) ?_
      refine wl_val (rn_move (by conv => lhs; whnf)) ?_
      refine wl_no rfl rfl ?_
      refine wl_no rfl rfl ?_
      refine wl_no rfl rfl ?_
      refine wl_no rfl rfl ?_
      refine wl_no rfl rfl ?_
      refine wl_val (rn_pickT rfl (by conv => lhs; whnf)) ?_
      refine wl_val (rn_assign (by conv => lhs; whnf)) ?_
      refine wl_nil ?_
      refine W_ret ?_
      first | exact ⟨_, resR1 (res1_tmp rfl), hX, ⟨_, rfl, fun h => ⟨by omega, by omega, by omega, by have := of_decide_eq_false h; omega⟩⟩⟩ | exact ⟨_, resR1 (res1_tmp rfl), hX, ⟨_, rfl, fun h => (by cases h)⟩⟩ | exact ⟨_, resR1 (res1_tmp rfl), hX, ⟨_, rfl, fun h => absurd h (by rw [hg13]; decide)⟩⟩ | exact ⟨_, resR1 (res1_tmp rfl), hX, ⟨_, rfl, fun h => absurd h (by rw [hg20]; decide)⟩⟩
    · have l13 := of_decide_eq_false hg13
      refine wl_yes rfl (congrArg Value.bool hg13) ?_
      refine wl_val (rn_fieldAddr f_38_3 (by decide) rfl) ?_
      refine wl_yes rfl (congrArg Value.bool hg13) ?_
      refine wl_val (rn_fieldAddr f_34_3 (by decide) rfl) ?_
      refine wl_yes rfl (congrArg Value.bool hg13) ?_
      refine wl_val (rn_fieldAddr f_32_0 (by decide) rfl) ?_
      refine wl_yes rfl (congrArg Value.bool hg13) ?_
      refine wl_val (rn_load1 p_9 rfl hB1 rfl) ?_
      refine wl_yes rfl (congrArg Value.bool hg13) ?_
      refine wl_call e_32 rfl (long_ok w3 c.ans.msg.topic) ?_; intro v18 w4 hE4 hR4
      replace hX := hX.tr hE4
      replace hB1 := hB1.ext hE4 id
      subst hR4
      refine wl_val (rn_pickF (congrArg Value.bool hg13) (by conv => lhs; whnf)) ?_
      refine wl_val (rn_move (by conv => lhs; whnf)) ?_
      refine wl_split (d := 20) rfl (fun hg20 => ?_) (fun hg20 => ?_)
      · refine wl_no rfl (congrArg Value.bool hg20) ?_
        refine wl_no rfl (congrArg Value.bool hg20) ?_
        refine wl_no rfl (congrArg Value.bool hg20) ?_
        refine wl_no rfl (congrArg Value.bool hg20) ?_
        refine wl_no rfl (congrArg Value.bool hg20) ?_
        refine wl_val (rn_pickT (congrArg Value.bool hg20) (by conv => lhs; whnf)) ?_
        refine wl_val (rn_assign (by conv => lhs; whnf)) ?_
        refine wl_nil ?_
        refine W_ret ?_
        first | exact ⟨_, resR1 (res1_tmp rfl), hX, ⟨_, rfl, fun h => ⟨by omega, by omega, by omega, by have := of_decide_eq_false h; omega⟩⟩⟩ | exact ⟨_, resR1 (res1_tmp rfl), hX, ⟨_, rfl, fun h => (by cases h)⟩⟩ | exact ⟨_, resR1 (res1_tmp rfl), hX, ⟨_, rfl, fun h => absurd h (by rw [hg13]; decide)⟩⟩ | exact ⟨_, resR1 (res1_tmp rfl), hX, ⟨_, rfl, fun h => absurd h (by rw [hg20]; decide)⟩⟩
      · have l20 := of_decide_eq_false hg20
        refine wl_yes rfl (congrArg Value.bool hg20) ?_
        refine wl_val (rn_fieldAddr f_38_3 (by decide) rfl) ?_
        refine wl_yes rfl (congrArg Value.bool hg20) ?_
        refine wl_val (rn_fieldAddr f_34_3 (by decide) rfl) ?_
        refine wl_yes rfl (congrArg Value.bool hg20) ?_
        refine wl_val (rn_fieldAddr f_32_1 (by decide) rfl) ?_
        refine wl_yes rfl (congrArg Value.bool hg20) ?_
        refine wl_val (rn_load1 p_9 rfl hB1 rfl) ?_
        refine wl_yes rfl (congrArg Value.bool hg20) ?_
        refine wl_call e_32 rfl (long_ok w4 c.ans.msg.payload) ?_; intro v25 w5 hE5 hR5
        replace hX := hX.tr hE5
        replace hB1 := hB1.ext hE5 id
        subst hR5
        refine wl_val (rn_pickF (congrArg Value.bool hg20) (by conv => lhs; whnf)) ?_
        refine wl_val (rn_assign (by conv => lhs; whnf)) ?_
        refine wl_nil ?_
        refine W_ret ?_
        first | exact ⟨_, resR1 (res1_tmp rfl), hX, ⟨_, rfl, fun h => ⟨by omega, by omega, by omega, by have := of_decide_eq_false h; omega⟩⟩⟩ | exact ⟨_, resR1 (res1_tmp rfl), hX, ⟨_, rfl, fun h => (by cases h)⟩⟩ | exact ⟨_, resR1 (res1_tmp rfl), hX, ⟨_, rfl, fun h => absurd h (by rw [hg13]; decide)⟩⟩ | exact ⟨_, resR1 (res1_tmp rfl), hX, ⟨_, rfl, fun h => absurd h (by rw [hg20]; decide)⟩⟩
end Go.Proofs.YthcclgoidchkdaaDoorC
