/- A script's lines: its head. -/
import Derived.Test.YthcclgoidchkdaaDoorBunT8
import Derived.Test.YthcclgoidchkdaaDoorBunT3
import Derived.Test.YthcclgoidchkdaaDoorBunT5
set_option linter.unusedVariables false
set_option linter.unusedSimpArgs false
set_option maxRecDepth 100000
namespace Go.Proofs.YthcclgoidchkdaaDoorC
open Go.RowKit
theorem pre1_word {wd rest : Str} (h : ¬ (32 : UInt8) ∈ wd) : pre1 32 (wd ++ 32 :: rest) = wd := by
  unfold pre1
  induction wd with
  | nil => rfl
  | cons c wd ih =>
    simp only [List.mem_cons, not_or] at h
    rw [List.cons_append, List.takeWhile_cons, if_pos (by simpa using fun e => h.1 e.symm), ih h.2]
theorem fi_word {wd rest : Str} (h : ¬ (32 : UInt8) ∈ wd) : fi (wd ++ 32 :: rest) 32 = (wd.length : Int) := by
  unfold fi; rw [if_pos (by simp), pre1_word h]
-- bellman/script.number
theorem snumber_ok (w : World) (n lo hi : Int) (h0 : 0 ≤ n) (h9 : n ≤ 9999) (hl : lo ≤ n) (hh : n ≤ hi) (hTb : Tab w) (hR : ErrS w) : Fn Tryd.prog 187 #[Sv (Lib.itoa n), .int .i64 lo, .int .i64 hi] w fun u w' => u = .tuple #[.int .i64 n, .bool true] := by
  have hil := itoa_len (n := n) ⟨by omega, by omega⟩
  have hX := Ext.refl Non w
  refine fn_of_W (args := [_, _, _]) Tryd.func187 rfl (by kernel_rfl) rfl ?_
  refine W_seq ?_
  refine W_region ?_
  refine wl_val (rn_assign (by conv => lhs; whnf)) ?_
  refine wl_val (rn_assign (by conv => lhs; whnf)) ?_
  refine wl_nil ?_
  refine W_seq ?_
  refine W_region ?_
  refine wl_val (rn_move (by conv => lhs; whnf)) ?_
  refine wl_call e_147 rfl (atoi_ok w (Lib.itoa n) (by omega) hR) ?_; intro v12 w1 hE1 hR1
  replace hX := hX.tr hE1
  replace hTb := hTb.non hE1
  obtain ⟨n1, e, rfl, hA⟩ := hR1
  obtain ⟨rfl, rfl⟩ : e = .nilIface ∧ n = n1 := by rcases hA with ⟨h1, h2⟩ | ⟨_, h2⟩; rw [atoi_itoa ⟨by omega, by omega⟩] at h2; injection h2 with h2; exact ⟨h1, h2⟩; exact absurd (atoi_itoa (n := n) ⟨by omega, by omega⟩) (h2 n)
  refine wl_val (rn_move (by conv => lhs; whnf)) ?_
  refine wl_val (rn_extract rfl rfl) ?_
  refine wl_val (rn_extract rfl rfl) ?_
  refine wl_val (rn_assign (by conv => lhs; whnf)) ?_
  refine wl_val (rn_assign (by conv => lhs; whnf)) ?_
  refine wl_nil ?_
  refine W_seq ?_
  refine W_region ?_
  refine wl_val (rn_move (by conv => lhs; whnf)) ?_
  refine wl_val (rn_move (by conv => lhs; whnf)) ?_
  refine wl_val (rn_errE (by kernel_rfl) rfl (.inl rfl)) ?_
  refine wl_val (rn_move (by conv => lhs; whnf)) ?_
  refine wl_yes rfl rfl ?_
  refine wl_val (rn_move (by conv => lhs; whnf)) ?_
  refine wl_yes rfl rfl ?_
  refine wl_call e_93 rfl (itoa_ok w1 n (by omega) hTb) ?_; intro v20 w2 hE2 hR2
  replace hX := hX.tr hE2
  replace hTb := hTb.non hE2
  subst hR2
  refine wl_yes rfl rfl ?_
  refine wl_val (rn_move (by conv => lhs; whnf)) ?_
  refine wl_yes rfl rfl ?_
  refine wl_val (rn_seql rfl rfl) ?_
  refine wl_val (rn_pickT rfl (by conv => lhs; whnf)) ?_
  refine wl_val (rn_move (by conv => lhs; whnf)) ?_
  refine wl_split (d := 24) rfl (fun hg24 => ?_) (fun hg24 => ?_)
  · refine wl_yes rfl (congrArg Value.bool hg24) ?_
    refine wl_val (rn_move (by conv => lhs; whnf)) ?_
    refine wl_yes rfl (congrArg Value.bool hg24) ?_
    refine wl_val (rn_move (by conv => lhs; whnf)) ?_
    refine wl_yes rfl (congrArg Value.bool hg24) ?_
    refine wl_val (rn_geq rfl rfl) ?_
    refine wl_val (rn_pickT (congrArg Value.bool hg24) (by conv => lhs; whnf)) ?_
    refine wl_val (rn_move (by conv => lhs; whnf)) ?_
    refine wl_split (d := 29) rfl (fun hg29 => ?_) (fun hg29 => ?_)
    · refine wl_yes rfl (congrArg Value.bool hg29) ?_
      refine wl_val (rn_move (by conv => lhs; whnf)) ?_
      refine wl_yes rfl (congrArg Value.bool hg29) ?_
      refine wl_val (rn_move (by conv => lhs; whnf)) ?_
      refine wl_yes rfl (congrArg Value.bool hg29) ?_
      refine wl_val (rn_leq rfl rfl) ?_
      refine wl_val (rn_pickT (congrArg Value.bool hg29) (by conv => lhs; whnf)) ?_
      refine wl_val (rn_assign (by conv => lhs; whnf)) ?_
      refine wl_val (rn_assign (by conv => lhs; whnf)) ?_
      refine wl_nil ?_
      refine W_ret ?_
      exact ⟨_, resR2 (res1_tmp rfl) (res1_tmp rfl), hX, by rw [decide_eq_true hh] <;> rfl⟩
    · exact absurd (of_decide_eq_false hg29) (by omega)
  · exact absurd hg24 (by simp)
-- internal/stringslite.Cut
theorem lcutW_ok (w : World) (wd rest : Str) (hw : ¬ (32 : UInt8) ∈ wd) (hn : wd.length + rest.length ≤ 1000000) : Fn Tryd.prog 217 #[Sv (wd ++ 32 :: rest), Sv [32]] w fun u w' => u = .tuple #[Sv wd, Sv rest, .bool true] := by
  have hX := Ext.refl Non w
  refine fn_of_W (args := [_, _]) Tryd.func217 rfl (by kernel_rfl) rfl ?_
  refine W_seq ?_
  refine W_region ?_
  refine wl_val (rn_assign (by conv => lhs; whnf)) ?_
  refine wl_val (rn_assign (by conv => lhs; whnf)) ?_
  refine wl_val (rn_assign (by conv => lhs; whnf)) ?_
  refine wl_nil ?_
  refine W_seq ?_
  refine W_seq ?_
  refine W_region ?_
  refine wl_val (rn_move (by conv => lhs; whnf)) ?_
  refine wl_val (rn_move (by conv => lhs; whnf)) ?_
  refine wl_call e_214 rfl (index_ok w (wd ++ 32 :: rest) 32) ?_; intro v10 w1 hE1 hR1
  replace hX := hX.tr hE1
  subst hR1; rw [fi_word hw]
  refine wl_val (rn_assign (by conv => lhs; whnf)) ?_
  refine wl_nil ?_
  refine W_seq ?_
  refine W_region ?_
  refine wl_val (rn_move (by conv => lhs; whnf)) ?_
  refine wl_val (rn_geq rfl rfl) ?_
  refine wl_nil ?_
  refine W_cond rfl (fun hc0 => ?_) (fun hc0 => ?_)
  · refine W_seq ?_
    refine W_drawE mixed ?_; intro w2 hE2
    replace hX := hX.tr hE2
    have hS := Ext.refl Non w2
    refine wd_take 0 _ _ rfl (by kernel_rfl) hS (yd_do fun A hA => rn_move (by conv => lhs; whnf)) ?_
    refine wd_take 1 _ _ rfl (by kernel_rfl) hS (yd_do fun A hA => rn_move (by conv => lhs; whnf)) ?_
    refine wd_take 2 _ _ rfl (by kernel_rfl) hS (yd_do fun A hA => Rn.cast (rn_sslice us_9 (l := 0) (h := wd.length) rfl rfl ⟨_, rfl⟩ (by omega) (by simp)) (v' := Sv wd) (congrArg Sv (by simp))) ?_
    refine wd_take 3 _ _ rfl (by kernel_rfl) hS (yd_do fun A hA => rn_move (by conv => lhs; whnf)) ?_
    refine wd_take 4 _ _ rfl (by kernel_rfl) hS (yd_do fun A hA => rn_move (by conv => lhs; whnf)) ?_
    refine wd_take 5 _ _ rfl (by kernel_rfl) hS (yd_do fun A hA => rn_move (by conv => lhs; whnf)) ?_
    refine wd_take 6 _ _ rfl (by kernel_rfl) hS (yd_do fun A hA => rn_slen us_9 rfl) ?_
    refine wd_take 7 _ _ rfl (by kernel_rfl) hS (yd_do fun A hA => rn_add rfl rfl (by simp only [List.length_cons, List.length_nil]; omega)) ?_
    refine wd_take 8 _ _ rfl (by kernel_rfl) hS (yd_do fun A hA => Rn.cast (rn_sslice us_9 (l := wd.length + 1) (h := (wd ++ 32 :: rest).length) rfl ⟨_, rfl⟩ rfl (by simp) (Nat.le_refl _)) (v' := Sv rest) (congrArg Sv (by rw [List.drop_append, List.drop_of_length_le (Nat.le_succ _), List.nil_append, show wd.length + 1 - wd.length = 1 by omega, List.drop_succ_cons, List.drop_zero]; exact List.take_of_length_le (by simp only [List.length_append, List.length_cons]; omega)))) ?_
    refine wd_take 9 _ _ rfl (by kernel_rfl) hS (yd_do fun A hA => rn_assign (by conv => lhs; whnf)) ?_
    refine wd_take 10 _ _ rfl (by kernel_rfl) hS (yd_do fun A hA => rn_assign (by conv => lhs; whnf)) ?_
    refine wd_take 11 _ _ rfl (by kernel_rfl) hS (yd_do fun A hA => rn_assign (by conv => lhs; whnf)) ?_
    refine wd_done (by kernel_rfl) ?_ _
    replace hX := hX.tr hS
    refine W_ret ?_
    exact ⟨_, resR3 (res1_tmp rfl) (res1_tmp rfl) (res1_tmp rfl), hX, rfl⟩
  · exact absurd (of_decide_eq_false hc0) (by omega)
-- strings.Cut
theorem cutW_ok (w : World) (wd rest : Str) (hw : ¬ (32 : UInt8) ∈ wd) (hn : wd.length + rest.length ≤ 1000000) : Fn Tryd.prog 186 #[Sv (wd ++ 32 :: rest), Sv [32]] w fun u w' => u = .tuple #[Sv wd, Sv rest, .bool true] := by
  have hX := Ext.refl Non w
  refine fn_of_W (args := [_, _]) Tryd.func186 rfl (by kernel_rfl) rfl ?_
  refine W_seq ?_
  refine W_region ?_
  refine wl_val (rn_assign (by conv => lhs; whnf)) ?_
  refine wl_val (rn_assign (by conv => lhs; whnf)) ?_
  refine wl_val (rn_assign (by conv => lhs; whnf)) ?_
  refine wl_nil ?_
  refine W_seq ?_
  refine W_region ?_
  refine wl_val (rn_move (by conv => lhs; whnf)) ?_
  refine wl_val (rn_move (by conv => lhs; whnf)) ?_
  refine wl_call e_217 rfl (lcutW_ok w wd rest hw hn) ?_; intro v9 w1 hE1 hR1
  replace hX := hX.tr hE1
  subst hR1
  refine wl_val (rn_extract rfl rfl) ?_
  refine wl_val (rn_extract rfl rfl) ?_
  refine wl_val (rn_extract rfl rfl) ?_
  refine wl_val (rn_assign (by conv => lhs; whnf)) ?_
  refine wl_val (rn_assign (by conv => lhs; whnf)) ?_
  refine wl_val (rn_assign (by conv => lhs; whnf)) ?_
  refine wl_nil ?_
  refine W_ret ?_
  exact ⟨_, resR3 (res1_tmp rfl) (res1_tmp rfl) (res1_tmp rfl), hX, rfl⟩
-- bellman/script.head
theorem head_ok (w : World) (b0 k : Nat) (cs : List Value) (hB0 : IsBox w b0 cs) (hk : k < cs.length) (wd : Str) (n lo hi : Int) (hw : ¬ (32 : UInt8) ∈ wd) (hwl : wd.length ≤ 100) (h0 : 0 ≤ n) (h9 : n ≤ 9999) (hl : lo ≤ n) (hh : n ≤ hi) (hTb : Tab w) (hR : ErrS w) : FnM Tryd.prog (fun i => i = b0) 151 #[Sv (wd ++ 32 :: Lib.itoa n), Sv wd, .pointer (some ⟨b0, k, none⟩), .int .i64 lo, .int .i64 hi] w fun u w' => u = .int .i64 0 ∧ IsBox w' b0 (cs.set k (.int .i64 n)) := by
  have hl0 : Mine (fun i => i = b0) w b0 := .inl rfl
  have hil := itoa_len (n := n) ⟨by omega, by omega⟩
  have hX := Ext.refl (fun i => i = b0) w
  refine fnM_of_W (args := [_, _, _, _, _]) Tryd.func151 rfl (by kernel_rfl) rfl ?_
  refine W_seq ?_
  refine W_region ?_
  refine wl_val (rn_assign (by conv => lhs; whnf)) ?_
  refine wl_nil ?_
  refine W_seq ?_
  refine W_region ?_
  refine wl_val (rn_move (by conv => lhs; whnf)) ?_
  refine wl_call e_186 rfl (cutW_ok w wd (Lib.itoa n) hw (by omega)) ?_; intro v18 w1 hE1 hR1
  replace hX := hX.tr hE1
  replace hB0 := hB0.ext hE1 id
  subst hR1
  refine wl_val (rn_move (by conv => lhs; whnf)) ?_
  refine wl_val (rn_extract rfl rfl) ?_
  refine wl_val (rn_extract rfl rfl) ?_
  refine wl_val (rn_extract rfl rfl) ?_
  refine wl_val (rn_assign (by conv => lhs; whnf)) ?_
  refine wl_val (rn_assign (by conv => lhs; whnf)) ?_
  refine wl_val (rn_assign (by conv => lhs; whnf)) ?_
  refine wl_nil ?_
  refine W_seq ?_
  refine W_region ?_
  refine wl_val (rn_move (by conv => lhs; whnf)) ?_
  refine wl_val (rn_move (by conv => lhs; whnf)) ?_
  refine wl_val (rn_move (by conv => lhs; whnf)) ?_
  refine wl_call e_187 rfl (snumber_ok w1 n lo hi h0 h9 hl hh (hTb.non hE1) (hR.non hE1)) ?_; intro v26 w2 hE2 hR2
  replace hX := hX.tr hE2
  replace hB0 := hB0.ext hE2 id
  subst hR2
  refine wl_val (rn_move (by conv => lhs; whnf)) ?_
  refine wl_val (rn_extract rfl rfl) ?_
  refine wl_val (rn_extract rfl rfl) ?_
  refine wl_val (rn_assign (by conv => lhs; whnf)) ?_
  refine wl_val (rn_assign (by conv => lhs; whnf)) ?_
  refine wl_nil ?_
  refine W_seq ?_
  refine W_seq ?_
  refine W_region ?_
  refine wl_val (rn_move (by conv => lhs; whnf)) ?_
  refine wl_val (rn_move (by conv => lhs; whnf)) ?_
  refine wl_val (rn_sneq rfl rfl) ?_
  refine wl_val (rn_move (by conv => lhs; whnf)) ?_
  refine wl_split (d := 32) rfl (fun hg32 => ?_) (fun hg32 => ?_)
  · exact absurd hg32 (by simp)
  · refine wl_yes rfl (congrArg Value.bool hg32) ?_
    refine wl_val (rn_move (by conv => lhs; whnf)) ?_
    refine wl_yes rfl (congrArg Value.bool hg32) ?_
    refine wl_val (rn_not rfl) ?_
    refine wl_val (rn_pickF (congrArg Value.bool hg32) (by conv => lhs; whnf)) ?_
    refine wl_nil ?_
    refine W_cond rfl (fun hc0 => ?_) (fun hc0 => ?_)
    · exact absurd hc0 (by decide)
    · refine W_skip ?_
      refine W_seq ?_
      refine W_region ?_
      refine wl_val (rn_move (by conv => lhs; whnf)) ?_
      refine wl_val (rn_move (by conv => lhs; whnf)) ?_
      refine wl_val (rn_nilCheck rfl) ?_
      refine wl_store1 (b := b0) p_3 rfl rfl rfl rfl hB0 hk ?_; intro w3 hE3 hB0 hz3
      replace hX := hX.mine hE3 hl0
      refine wl_nil ?_
      refine W_seq ?_
      refine W_region ?_
      refine wl_val (rn_assign (by conv => lhs; whnf)) ?_
      refine wl_nil ?_
      refine W_ret ?_
      exact ⟨_, resR1 (res1_tmp rfl), hX, ⟨rfl, hB0⟩⟩
-- (*bellman/script.reader).line
theorem lineS_ok (w : World) (b0 : Nat) (r : ScS) (vT vP : Value) (hB0 : IsBox w b0 (rdB r vT vP)) (n : Int) (hc : (Cmd.subs n).ok r) (B : Nat) (hBb : B ≤ b0) (hG : ∃ g, Tryd.prog.globalNamed "internal/strconv.uint64pow10" = some g ∧ g < B) (h1B : 1 < B) (hTb : Tab w) (hR : ErrS w) : FnM Tryd.prog (fun i => i = b0) 108 #[.pointer (some ⟨b0, 0, none⟩), Sv (sSubs ++ 32 :: Lib.itoa n)] w fun u w' => u = .int .i64 0 ∧ IsBox w' b0 (rdB ((Cmd.subs n).app r) vT vP) := by
  have hl0 : Mine (fun i => i = b0) w b0 := .inl rfl
  obtain ⟨hd, ha, hn0, hn8⟩ := hc
  have hil := itoa_len (n := n) ⟨by omega, by omega⟩
  have hX := Ext.refl (fun i => i = b0) w
  refine fnM_of_W (args := [_, _]) Tryd.func108 rfl (by kernel_rfl) rfl ?_
  refine W_seq ?_
  refine W_region ?_
  refine wl_val (rn_assign (by conv => lhs; whnf)) ?_
  refine wl_nil ?_
  refine W_seq ?_
  refine W_region ?_
  refine wl_val (rn_move (by conv => lhs; whnf)) ?_
  refine wl_val (rn_nilCheck rfl) ?_
  refine wl_val (rn_fieldAddr f_174_1 (by decide) rfl) ?_
  refine wl_val (rn_load1 p_3 rfl hB0 rfl) ?_
  refine wl_val (rn_add rfl rfl (by omega)) ?_
  refine wl_val (rn_nilCheck rfl) ?_
  refine wl_val (rn_fieldAddr f_174_1 (by decide) rfl) ?_
  have hBo := hB0
  refine wl_store1 (b := b0) p_3 rfl (by conv => lhs; whnf) rfl rfl hB0 (Nat.le_of_ble_eq_true rfl) ?_; intro w1 hE1 hB0 hz1
  replace hX := hX.mine hE1 hl0
  replace hTb := hTb.ext hE1 (B := B) (fun j hj => by subst hj; exact hBb) hG
  replace hR := hR.ext hE1 (B := B) (fun j hj => by subst hj; exact hBb) h1B
  refine wl_nil ?_
  refine W_seq ?_
  refine W_region ?_
  refine wl_val (rn_move (by conv => lhs; whnf)) ?_
  refine wl_call e_97 rfl (split_ok w1 (sSubs ++ 32 :: Lib.itoa n) (by simp only [List.length_append, List.length_cons, List.length_nil]; omega)) ?_; intro v14 w2 hE2 hR2
  replace hX := hX.tr hE2
  replace hB0 := hB0.ext hE2 id
  replace hTb := hTb.non hE2
  replace hR := hR.non hE2
  skip
  refine wl_val (rn_assign (by conv => lhs; whnf)) ?_
  refine wl_nil ?_
  refine W_seq ?_
  refine W_block ?_   -- block 0
  refine W_seq ?_
  refine W_region ?_
  refine wl_val (rn_move (by conv => lhs; whnf)) ?_
  refine wl_val (rn_nilCheck rfl) ?_
  refine wl_val (rn_fieldAddr f_174_2 (by decide) rfl) ?_
  refine wl_val (rn_load1 p_4 rfl hB0 rfl) ?_
  refine wl_val (rn_assign (by conv => lhs; whnf)) ?_
  refine wl_nil ?_
  refine W_cond rfl (fun hc0 => ?_) (fun hc0 => ?_)
  · exact absurd hc0 (by rw [hd]; decide)
  · refine W_seq ?_
    refine W_region ?_
    refine wl_val (rn_move (by conv => lhs; whnf)) ?_
    refine wl_val (rn_nilCheck rfl) ?_
    refine wl_val (rn_fieldAddr f_174_1 (by decide) rfl) ?_
    refine wl_val (rn_load1 p_3 rfl hB0 rfl) ?_
    refine wl_val (rn_eql rfl rfl) ?_
    refine wl_val (rn_assign (by conv => lhs; whnf)) ?_
    refine wl_nil ?_
    refine W_cond rfl (fun hc1 => ?_) (fun hc1 => ?_)
    · refine W_seq ?_
      refine W_region ?_
      refine wl_val (rn_move (by conv => lhs; whnf)) ?_
      refine wl_val (rn_move (by conv => lhs; whnf)) ?_
      refine wl_val (rn_nilCheck rfl) ?_
      refine wl_val (rn_fieldAddr f_174_0 (by decide) rfl) ?_
      refine wl_val (rn_fieldAddr f_107_0 (by decide) rfl) ?_
      refine wl_callM e_151 rfl (head_ok w2 b0 0 _ hB0 (Nat.le_of_ble_eq_true rfl) sSubs n 0 8 (by decide) (by decide) (by omega) (by omega) (by omega) (by omega) hTb hR) ?_; rintro v31 w3 hE3 ⟨rfl, hB0⟩
      replace hX := hX.mine hE3 hl0
      refine wl_val (rn_assign (by conv => lhs; whnf)) ?_
      refine wl_nil ?_
      refine W_ret ?_
      exact ⟨_, resR1 (res1_tmp rfl), hX, ⟨rfl, hB0⟩⟩
    · exact absurd (of_decide_eq_false hc1) (by omega)
-- (*bellman/script.reader).line
theorem lineC_ok (w : World) (b0 : Nat) (r : ScS) (vT vP : Value) (hB0 : IsBox w b0 (rdB r vT vP)) (n : Int) (hc : (Cmd.cap n).ok r) (B : Nat) (hBb : B ≤ b0) (hG : ∃ g, Tryd.prog.globalNamed "internal/strconv.uint64pow10" = some g ∧ g < B) (h1B : 1 < B) (hTb : Tab w) (hR : ErrS w) : FnM Tryd.prog (fun i => i = b0) 108 #[.pointer (some ⟨b0, 0, none⟩), Sv (sCap ++ 32 :: Lib.itoa n)] w fun u w' => u = .int .i64 0 ∧ IsBox w' b0 (rdB ((Cmd.cap n).app r) vT vP) := by
  have hl0 : Mine (fun i => i = b0) w b0 := .inl rfl
  obtain ⟨hd, ha, hn0, hn8⟩ := hc
  have hil := itoa_len (n := n) ⟨by omega, by omega⟩
  have hX := Ext.refl (fun i => i = b0) w
  refine fnM_of_W (args := [_, _]) Tryd.func108 rfl (by kernel_rfl) rfl ?_
  refine W_seq ?_
  refine W_region ?_
  refine wl_val (rn_assign (by conv => lhs; whnf)) ?_
  refine wl_nil ?_
  refine W_seq ?_
  refine W_region ?_
  refine wl_val (rn_move (by conv => lhs; whnf)) ?_
  refine wl_val (rn_nilCheck rfl) ?_
  refine wl_val (rn_fieldAddr f_174_1 (by decide) rfl) ?_
  refine wl_val (rn_load1 p_3 rfl hB0 rfl) ?_
  refine wl_val (rn_add rfl rfl (by omega)) ?_
  refine wl_val (rn_nilCheck rfl) ?_
  refine wl_val (rn_fieldAddr f_174_1 (by decide) rfl) ?_
  have hBo := hB0
  refine wl_store1 (b := b0) p_3 rfl (by conv => lhs; whnf) rfl rfl hB0 (Nat.le_of_ble_eq_true rfl) ?_; intro w1 hE1 hB0 hz1
  replace hX := hX.mine hE1 hl0
  replace hTb := hTb.ext hE1 (B := B) (fun j hj => by subst hj; exact hBb) hG
  replace hR := hR.ext hE1 (B := B) (fun j hj => by subst hj; exact hBb) h1B
  refine wl_nil ?_
  refine W_seq ?_
  refine W_region ?_
  refine wl_val (rn_move (by conv => lhs; whnf)) ?_
  refine wl_call e_97 rfl (split_ok w1 (sCap ++ 32 :: Lib.itoa n) (by simp only [List.length_append, List.length_cons, List.length_nil]; omega)) ?_; intro v14 w2 hE2 hR2
  replace hX := hX.tr hE2
  replace hB0 := hB0.ext hE2 id
  replace hTb := hTb.non hE2
  replace hR := hR.non hE2
  skip
  refine wl_val (rn_assign (by conv => lhs; whnf)) ?_
  refine wl_nil ?_
  refine W_seq ?_
  refine W_block ?_   -- block 0
  refine W_seq ?_
  refine W_region ?_
  refine wl_val (rn_move (by conv => lhs; whnf)) ?_
  refine wl_val (rn_nilCheck rfl) ?_
  refine wl_val (rn_fieldAddr f_174_2 (by decide) rfl) ?_
  refine wl_val (rn_load1 p_4 rfl hB0 rfl) ?_
  refine wl_val (rn_assign (by conv => lhs; whnf)) ?_
  refine wl_nil ?_
  refine W_cond rfl (fun hc0 => ?_) (fun hc0 => ?_)
  · exact absurd hc0 (by rw [hd]; decide)
  · refine W_seq ?_
    refine W_region ?_
    refine wl_val (rn_move (by conv => lhs; whnf)) ?_
    refine wl_val (rn_nilCheck rfl) ?_
    refine wl_val (rn_fieldAddr f_174_1 (by decide) rfl) ?_
    refine wl_val (rn_load1 p_3 rfl hB0 rfl) ?_
    refine wl_val (rn_eql rfl rfl) ?_
    refine wl_val (rn_assign (by conv => lhs; whnf)) ?_
    refine wl_nil ?_
    refine W_cond rfl (fun hc1 => ?_) (fun hc1 => ?_)
    · exact absurd (of_decide_eq_true hc1) (by omega)
    · refine W_seq ?_
      refine W_region ?_
      refine wl_val (rn_move (by conv => lhs; whnf)) ?_
      refine wl_val (rn_nilCheck rfl) ?_
      refine wl_val (rn_fieldAddr f_174_1 (by decide) rfl) ?_
      refine wl_val (rn_load1 p_3 rfl hB0 rfl) ?_
      refine wl_val (rn_eql rfl rfl) ?_
      refine wl_val (rn_assign (by conv => lhs; whnf)) ?_
      refine wl_nil ?_
      refine W_cond rfl (fun hc2 => ?_) (fun hc2 => ?_)
      · refine W_seq ?_
        refine W_region ?_
        refine wl_val (rn_move (by conv => lhs; whnf)) ?_
        refine wl_val (rn_move (by conv => lhs; whnf)) ?_
        refine wl_val (rn_nilCheck rfl) ?_
        refine wl_val (rn_fieldAddr f_174_0 (by decide) rfl) ?_
        refine wl_val (rn_fieldAddr f_107_1 (by decide) rfl) ?_
        refine wl_callM e_151 rfl (head_ok w2 b0 1 _ hB0 (Nat.le_of_ble_eq_true rfl) sCap n 1 16 (by decide) (by decide) (by omega) (by omega) (by omega) (by omega) hTb hR) ?_; rintro v43 w3 hE3 ⟨rfl, hB0⟩
        replace hX := hX.mine hE3 hl0
        refine wl_val (rn_assign (by conv => lhs; whnf)) ?_
        refine wl_nil ?_
        refine W_ret ?_
        exact ⟨_, resR1 (res1_tmp rfl), hX, ⟨rfl, hB0⟩⟩
      · exact absurd (of_decide_eq_false hc2) (by omega)
end Go.Proofs.YthcclgoidchkdaaDoorC

/- A drawn region's quiet operation taken first, beside others that are listed; of whatever program. -/
set_option linter.unusedVariables false
set_option linter.unusedSimpArgs false
namespace Go.Proofs.YthcclgoidchkdaaDoorC
open Go.RowKit
variable {ro : Option Nat} {P : Program} {n : Nat} {Q : Post} {σ : Env} {D : List Deferred} {w : World} {S : World → Prop} {K : Ops} {ex : Nat → Bool}
/-- D's operations come behind number i; so do all that may leave S. -/
structure BehL (ops : List Oper) (ex : Nat → Bool) (i : Nat) (D : List Nat) (listed : Array Bool) : Prop where
  inc : ∀ j oj, ops[j]? = some oj → ex j = true → listed.getD j true = false → j ∈ D
  cls : ∀ j oj, ops[j]? = some oj → j ∈ D → ∃ e ∈ oj.after, Region.binds .any e = true ∧ (e.on = i ∨ e.on ∈ D)
  non : ∀ j, j ∈ D → listed.getD j true = false
theorem wx_firstL {ops : List Oper} {i : Nat} {oi : Oper} {v : Value} {DL : List Nat} (hi : ops[i]? = some oi) (hsel : Region.noSelect ops.toArray = true) : ∀ (f : Nat) (listed : Array Bool) (σ : Env) (w : World),
    BehL ops ex i DL listed →
    (∀ j oj, ops.toArray[j]? = some oj → j ≠ i → listed.getD j true = false → (∀ e ∈ oj.after, Region.binds .any e = true → e.on ≠ i) → oi.apart ops.toArray oj = true) →
    i ∈ Region.ready .any ops.toArray listed → Yd P ops S oi v σ → S w →
    wx P ops ex S K f (listed.setIfInBounds i true) (put σ oi.dst v) w → wx P ops ex S K (f + 1) listed σ w
  | 0, listed, σ, w, _, _, hr, hy, hS, H => by
    refine ⟨fun h => (by rw [h] at hr; cases hr), fun j hj o ho => ?_⟩
    by_cases hji : j = i
    · subst hji; rw [hi] at ho; cases ho; exact hy.step hS ⟨fun _ => hS, H⟩
    · have := ready_mono hj hji
      rw [H.1] at this; cases this
  | f + 1, listed, σ, w, hB, hfree, hr, hy, hS, H => by
    refine ⟨fun h => (by rw [h] at hr; cases hr), fun j hj oj hoj => ?_⟩
    by_cases hji : j = i
    · subst hji; rw [hi] at hoj; cases hoj; exact hy.step hS ⟨fun _ => hS, H⟩
    · have hoj' : ops.toArray[j]? = some oj := by simpa using hoj
      have h1 := H.2 j (ready_mono hj hji) oj hoj
      obtain ⟨hjun, oj', hoj2, hall⟩ := mem_ready.1 hj
      rw [hoj'] at hoj2; cases hoj2
      have lst : ∀ k, listed.getD k true = false → ∀ e ∈ oj.after, Region.binds .any e = true → e.on ≠ k := fun k h0 e he hb heq => by
        have h1 := hall e he hb
        rw [heq] at h1
        rcases Nat.lt_or_ge k listed.size with h' | h'
        · simp [h'] at h0 h1; rw [h0] at h1; cases h1
        · simp [Array.getElem?_eq_none h'] at h1
      have hnot : ∀ e ∈ oj.after, Region.binds .any e = true → e.on ≠ i := lst i (mem_ready.1 hr).1
      have hjD : ¬ j ∈ DL := fun hm => by
        obtain ⟨e, he, hb, h⟩ := hB.cls j oj hoj hm
        rcases h with h | h
        · exact hnot e he hb h
        · exact lst e.on (hB.non _ h) e he hb rfl
      have hex : ex j = false := by
        cases hx : ex j with
        | false => rfl
        | true => exact absurd (hB.inc j oj hoj hx hjun) hjD
      have h2 := step1_swap (hfree j oj hoj' hji hjun hnot) (fun cs b => Region.noSelect_spec hsel i oi cs b (by simpa using hi)) (fun cs b => Region.noSelect_spec hsel j oj cs b hoj') hy h1
      have hfree' : ∀ k ok, ops.toArray[k]? = some ok → k ≠ i → (listed.setIfInBounds j true).getD k true = false →
          (∀ e ∈ ok.after, Region.binds .any e = true → e.on ≠ i) → oi.apart ops.toArray ok = true := fun k ok hk hki hun hno => by
        refine hfree k ok hk hki ?_ hno
        by_cases hjk : j = k
        · subst hjk; exact hjun
        · rw [getD_set_ne true hjk] at hun; exact hun
      have hB' : BehL ops ex i DL (listed.setIfInBounds j true) := ⟨fun k ok hk hx hun => hB.inc k ok hk hx (by by_cases hjk : j = k; (subst hjk; exact hjun); (rw [getD_set_ne true hjk] at hun; exact hun)), hB.cls, fun k hk => by rw [getD_set_ne true (show j ≠ k from fun e => hjD (by rw [e]; exact hk))]; exact hB.non k hk⟩
      refine step1_mono (fun σ' w' h3 => ⟨h3.2.1, wx_firstL hi hsel f (listed.setIfInBounds j true) σ' w' hB' hfree' (ready_mono hr (Ne.symm hji)) h3.1 (h3.2.1 hex) ?_⟩) h2
      rw [Array.setIfInBounds_comm _ _ hji]
      exact h3.2.2
def behBL (ops : List Oper) (ex : Nat → Bool) (i : Nat) (D : List Nat) (listed : Array Bool) : Bool :=
  ((List.range ops.length).all fun j => (!ex j || D.contains j || listed.getD j true) && (!D.contains j || match ops[j]? with | some o => o.after.any (fun e => Region.binds .any e && (e.on == i || D.contains e.on)) | none => true)) && D.all fun j => listed.getD j true == false
theorem BehL.of {ops : List Oper} {i : Nat} {D : List Nat} {listed : Array Bool} (h : behBL ops ex i D listed = true) : BehL ops ex i D listed := by
  unfold behBL at h
  rw [Bool.and_eq_true, List.all_eq_true, List.all_eq_true] at h
  have key : ∀ j oj, ops[j]? = some oj → ((!ex j || D.contains j || listed.getD j true) && (!D.contains j || oj.after.any (fun e => Region.binds .any e && (e.on == i || D.contains e.on)))) = true := fun j oj hj => by
    have := h.1 j (List.mem_range.2 (List.getElem?_eq_some_iff.1 hj).1)
    rw [hj] at this; exact this
  refine ⟨fun j oj hj hx hun => ?_, fun j oj hj hm => ?_, fun j hj => by simpa using h.2 j hj⟩
  · have := key j oj hj
    rw [hx, hun] at this; simp at this; exact this.1
  · have := key j oj hj
    have hc : D.contains j = true := by simpa using hm
    rw [hc] at this
    simp only [Bool.and_eq_true, Bool.not_true, Bool.false_or] at this
    obtain ⟨k, hk, h2⟩ := Array.any_eq_true.1 this.2
    rw [Bool.and_eq_true, Bool.or_eq_true] at h2
    exact ⟨_, Array.getElem_mem hk, h2.1, h2.2.imp (fun h => by simpa using h) (fun h => by simpa using h)⟩
/-- Take number i first. 'side' is for the kernel to reckon. -/
theorem wx_takeL {ops : List Oper} {f : Nat} {listed : Array Bool} (i : Nat) (DL : List Nat) (oi : Oper) (v : Value) (hi : ops[i]? = some oi)
    (side : (Region.noSelect ops.toArray && Region.free .any ops.toArray listed i && (Region.ready .any ops.toArray listed).contains i && behBL ops ex i DL listed) = true)
    (hS : S w) (hy : Yd P ops S oi v σ) (h : wx P ops ex S K f (listed.setIfInBounds i true) (put σ oi.dst v) w) : wx P ops ex S K (f + 1) listed σ w := by
  simp only [Bool.and_eq_true] at side
  exact wx_firstL hi side.1.1.1 f listed σ w (BehL.of side.2) (Region.free_spec (by simpa using hi) side.1.1.2) (by simpa using side.1.2) hy hS h
end Go.Proofs.YthcclgoidchkdaaDoorC

/- A script's lines: threads, operations, picks. -/
set_option linter.unusedVariables false
set_option linter.unusedSimpArgs false
set_option maxRecDepth 100000
namespace Go.Proofs.YthcclgoidchkdaaDoorC
open Go.RowKit
theorem words_line {x : OpD} (h : plainR x = true) : ∃ t, spl 32 (lineR x) = nameR x :: t ∧ ¬ nameR x = sPicks ∧ ¬ nameR x = sThread := by
  have hp := (plain_iff x).1 h
  have hn := name_nb x
  have hi := itoa_nb' x.sub
  have hw : ∀ a ∈ wordsR x, ¬ (32 : UInt8) ∈ a := by
    intro a ha
    unfold wordsR at ha
    split at ha
    · simp only [List.mem_cons, List.not_mem_nil, or_false] at ha
      rcases ha with rfl | rfl | rfl; exact hn; exact wordR_nb _; exact wordR_nb _
    · split at ha
      · simp only [List.mem_cons, List.not_mem_nil, or_false] at ha
        rcases ha with rfl | rfl | rfl; exact hn; exact hi; exact wordR_nb _
      · simp only [List.mem_cons, List.not_mem_nil, or_false] at ha
        rcases ha with rfl | rfl; exact hn; exact hi
  have hne : wordsR x ≠ [] := by unfold wordsR; (repeat' split) <;> simp
  have hs := spl_join _ hne hw
  change spl 32 (lineR x) = _ at hs
  have h1 : ∃ t, wordsR x = nameR x :: t := by unfold wordsR; (repeat' split) <;> exact ⟨_, rfl⟩
  obtain ⟨t, ht⟩ := h1
  refine ⟨t, by rw [hs, ht], ?_, ?_⟩
  · unfold nameR; (repeat' split) <;> decide
  · unfold nameR; (repeat' split) <;> decide
theorem rows_set (ini : List (Value × List OpD)) (pv v' : Value) (pt : List OpD) : ((ini ++ (some (pv, pt)).toList).map fun p => [p.1]).set ini.length [v'] = (ini.map fun p => [p.1]) ++ [[v']] := by
  rw [List.map_append]
  simp
-- (*bellman/script.reader).line
set_option maxHeartbeats 1600000 in
theorem lineT_ok (w : World) (X : Nat → Prop) (b0 : Nat) (r : ScS) {vT vP : Value} {oT oP oL : Option Nat} {ini : List (Value × List OpD)} {lst : Option (Value × List OpD)} (h : RdP X w b0 r vT vP oT oP oL ini lst) (hXo : ∀ i, X i → i < w.heap.size) (hat : r.at_ ≤ 1000000) (hc : Cmd.thread.ok r) (B : Nat) (hBD : ∀ i, Dy b0 oT oP oL i → B ≤ i) (hG : ∃ g, Tryd.prog.globalNamed "internal/strconv.uint64pow10" = some g ∧ g < B) (h1B : 1 < B) (hTb : Tab w) (hR : ErrS w) : FnM Tryd.prog (Dy b0 oT oP oL) 108 #[.pointer (some ⟨b0, 0, none⟩), Sv sThread] w fun u w' => u = .int .i64 0 ∧ RdN X w' b0 (Cmd.thread.app r) w.heap.size (Dy b0 oT oP oL) := by
  have hB0 := h.box
  have hl0 : Mine (Dy b0 oT oP oL) w b0 := .inl (.inl rfl)
  have htl : r.s.threads.length = (ini ++ lst.toList).length := by rw [h.thr, List.length_map]
  obtain ⟨aT, cT, hvT⟩ := id h.own.len; rw [List.length_map] at hvT; subst hvT
  obtain ⟨hd, ha, hth⟩ := hc
  have hX := Ext.refl (Dy b0 oT oP oL) w
  refine fnM_of_W (args := [_, _]) Tryd.func108 rfl (by kernel_rfl) rfl ?_
  refine W_seq ?_
  refine W_region ?_
  refine wl_val (rn_assign (by conv => lhs; whnf)) ?_
  refine wl_nil ?_
  refine W_seq ?_
  refine W_region ?_
  refine wl_val (rn_move (by conv => lhs; whnf)) ?_
  refine wl_val (rn_nilCheck rfl) ?_
  refine wl_val (rn_fieldAddr f_174_1 (by decide) rfl) ?_
  refine wl_val (rn_load1 p_3 rfl hB0 rfl) ?_
  refine wl_val (rn_add rfl rfl (by omega)) ?_
  refine wl_val (rn_nilCheck rfl) ?_
  refine wl_val (rn_fieldAddr f_174_1 (by decide) rfl) ?_
  have hBo := hB0
  refine wl_store1 (b := b0) p_3 rfl (by conv => lhs; whnf) rfl rfl hB0 (Nat.le_of_ble_eq_true rfl) ?_; intro w1 hE1 hB0 hz1
  replace hX := hX.mine hE1 hl0
  replace h := h.setBox hE1 hB0 (r' := ⟨r.s, r.at_ + 1, r.done⟩) rfl rfl
  replace hTb := hTb.ext hE1 (B := B) (fun j hj => by subst hj; exact hBD _ (.inl rfl)) hG
  replace hR := hR.ext hE1 (B := B) (fun j hj => by subst hj; exact hBD _ (.inl rfl)) h1B
  refine wl_nil ?_
  refine W_seq ?_
  refine W_region ?_
  refine wl_val (rn_move (by conv => lhs; whnf)) ?_
  refine wl_call e_97 rfl (split_ok w1 sThread (by decide)) ?_; intro v14 w2 hE2 hR2
  replace hX := hX.tr hE2
  replace hB0 := hB0.ext hE2 id
  replace h := h.non hE2
  replace hTb := hTb.non hE2
  replace hR := hR.non hE2
  have hs := hR2; rw [spl_not (show ¬ (32 : UInt8) ∈ sThread by decide)] at hs; obtain ⟨a14, c14, hv14, _⟩ := id hs.len; subst hv14; obtain ⟨bb, oo, ea⟩ := hs.base (by simp); subst ea; simp only [List.length_map] at hs ⊢
  refine wl_val (rn_assign (by conv => lhs; whnf)) ?_
  refine wl_nil ?_
  refine W_seq ?_
  refine W_block ?_   -- block 0
  refine W_seq ?_
  refine W_region ?_
  refine wl_val (rn_move (by conv => lhs; whnf)) ?_
  refine wl_val (rn_nilCheck rfl) ?_
  refine wl_val (rn_fieldAddr f_174_2 (by decide) rfl) ?_
  refine wl_val (rn_load1 p_4 rfl hB0 rfl) ?_
  refine wl_val (rn_assign (by conv => lhs; whnf)) ?_
  refine wl_nil ?_
  refine W_cond rfl (fun hc0 => ?_) (fun hc0 => ?_)
  · exact absurd hc0 (by rw [hd]; decide)
  · refine W_seq ?_
    refine W_region ?_
    refine wl_val (rn_move (by conv => lhs; whnf)) ?_
    refine wl_val (rn_nilCheck rfl) ?_
    refine wl_val (rn_fieldAddr f_174_1 (by decide) rfl) ?_
    refine wl_val (rn_load1 p_3 rfl hB0 rfl) ?_
    refine wl_val (rn_eql rfl rfl) ?_
    refine wl_val (rn_assign (by conv => lhs; whnf)) ?_
    refine wl_nil ?_
    refine W_cond rfl (fun hc1 => ?_) (fun hc1 => ?_)
    · exact absurd (of_decide_eq_true hc1) (by omega)
    · refine W_seq ?_
      refine W_region ?_
      refine wl_val (rn_move (by conv => lhs; whnf)) ?_
      refine wl_val (rn_nilCheck rfl) ?_
      refine wl_val (rn_fieldAddr f_174_1 (by decide) rfl) ?_
      refine wl_val (rn_load1 p_3 rfl hB0 rfl) ?_
      refine wl_val (rn_eql rfl rfl) ?_
      refine wl_val (rn_assign (by conv => lhs; whnf)) ?_
      refine wl_nil ?_
      refine W_cond rfl (fun hc2 => ?_) (fun hc2 => ?_)
      · exact absurd (of_decide_eq_true hc2) (by omega)
      · refine W_seq ?_
        refine W_region ?_
        refine wl_val (rn_move (by conv => lhs; whnf)) ?_
        refine wl_val (rn_indexAddr sl_68 rfl rfl (by simp)) ?_
        refine wl_val (rn_load p_9 rfl (hs.at0 (eS_at (i := 0) rfl) rfl)) ?_
        refine wl_val (rn_seql rfl rfl) ?_
        refine wl_val (rn_assign (by conv => lhs; whnf)) ?_
        refine wl_nil ?_
        refine W_cond rfl (fun hc3 => ?_) (fun hc3 => ?_)
        · exact absurd (of_decide_eq_true hc3) (by decide)
        · refine W_seq ?_
          refine W_region ?_
          refine wl_val (rn_move (by conv => lhs; whnf)) ?_
          refine wl_val (rn_indexAddr sl_68 rfl rfl (by simp)) ?_
          refine wl_val (rn_load p_9 rfl (hs.at0 (eS_at (i := 0) rfl) rfl)) ?_
          refine wl_val (rn_seql rfl rfl) ?_
          refine wl_val (rn_assign (by conv => lhs; whnf)) ?_
          refine wl_nil ?_
          refine W_cond rfl (fun hc4 => ?_) (fun hc4 => ?_)
          · refine W_seq ?_
            refine W_seq ?_
            refine W_region ?_
            refine wl_val (rn_move (by conv => lhs; whnf)) ?_
            refine wl_val (rn_len sl_68 rfl) ?_
            refine wl_val (rn_gtr rfl rfl) ?_
            refine wl_val (rn_move (by conv => lhs; whnf)) ?_
            refine wl_split (d := 61) rfl (fun hg61 => ?_) (fun hg61 => ?_)
            · exact absurd (of_decide_eq_true hg61) (by simp)
            · refine wl_yes rfl (congrArg Value.bool hg61) ?_
              refine wl_val (rn_move (by conv => lhs; whnf)) ?_
              refine wl_yes rfl (congrArg Value.bool hg61) ?_
              refine wl_val (rn_nilCheck rfl) ?_
              refine wl_yes rfl (congrArg Value.bool hg61) ?_
              refine wl_val (rn_fieldAddr f_174_0 (by decide) rfl) ?_
              refine wl_yes rfl (congrArg Value.bool hg61) ?_
              refine wl_val (rn_fieldAddr f_107_2 (by decide) rfl) ?_
              refine wl_yes rfl (congrArg Value.bool hg61) ?_
              refine wl_val (rn_load1 p_105 rfl hB0 rfl) ?_
              refine wl_yes rfl (congrArg Value.bool hg61) ?_
              refine wl_val (rn_len sl_105 rfl) ?_
              refine wl_yes rfl (congrArg Value.bool hg61) ?_
              refine wl_val (rn_geq rfl rfl) ?_
              refine wl_val (rn_pickF (congrArg Value.bool hg61) (by conv => lhs; whnf)) ?_
              refine wl_nil ?_
              refine W_cond rfl (fun hc5 => ?_) (fun hc5 => ?_)
              · exact absurd (of_decide_eq_true hc5) (by omega)
              · refine W_skip ?_
                refine W_seq ?_
                refine W_region ?_
                refine wl_val (rn_move (by conv => lhs; whnf)) ?_
                refine wl_val (rn_move (by conv => lhs; whnf)) ?_
                refine wl_val (rn_nilCheck rfl) ?_
                refine wl_val (rn_fieldAddr f_174_0 (by decide) rfl) ?_
                refine wl_val (rn_fieldAddr f_107_2 (by decide) rfl) ?_
                refine wl_val (rn_load1 p_105 rfl hB0 rfl) ?_
                refine wl_lit1 (r := [.slice none 0 0]) sl_105 rfl rfl rfl rfl (by decide) ?_; intro v76 w3 b76 hb76 hE3 hO76
                replace hX := hX.tr hE3
                replace hB0 := hB0.ext hE3 id
                replace h := h.non hE3
                replace hTb := hTb.non hE3
                replace hR := hR.non hE3
                replace hs := hs.ext hE3 (fun _ h => h.elim)
                have hXz := hX.size
                have hBlt := hB0.lt
                refine wl_app sl_105 rfl rfl rfl h.own (hO76.sl (M := Non) id) (fun r hr => by simp only [List.mem_singleton] at hr; subst hr; exact one1 rfl) (by simp only [List.length_map, List.length_append, List.length_cons, List.length_nil]; rw [← List.length_append, ← htl]; omega) (by simp only [List.length_map, List.length_append, List.length_cons, List.length_nil, big]; rw [← List.length_append, ← htl]; omega) ?_; intro v77 w4 o77 hE4 hO77 hf77
                have hEa := hE4
                replace hB0 := hB0.ext hE4 (fun e => (h.neT _ e).1 rfl)
                replace hX := hX.mineO hE4 (fun j hj => .inl (.inr (.inl hj)))
                obtain ⟨a77, c77, hv77⟩ := id hO77.len; subst hv77
                refine wl_val (rn_nilCheck rfl) ?_
                refine wl_val (rn_fieldAddr f_174_0 (by decide) rfl) ?_
                refine wl_val (rn_fieldAddr f_107_2 (by decide) rfl) ?_
                refine wl_store1 (b := b0) p_105 rfl rfl rfl rfl hB0 (Nat.le_of_ble_eq_true rfl) ?_; intro w5 hE5 hB0 hz5
                replace hX := hX.mine hE5 hl0
                have hEb := hE5
                refine wl_nil ?_
                refine W_seq ?_
                refine W_region ?_
                refine wl_val (rn_assign (by conv => lhs; whnf)) ?_
                refine wl_nil ?_
                refine W_ret ?_
                exact ⟨_, resR1 (res1_tmp rfl), hX, ⟨rfl, _, _, _, _, _, _, _, h.thread (fun i hi => Nat.lt_of_lt_of_le (hXo i hi) hXz) hEa hO77 hf77 hEb (r' := Cmd.thread.app r) hB0 rfl rfl, fun i hi => by rcases hi with hi | hi | hi | hi; exact .inl (.inl hi); (rcases hf77 i hi with q | q; exact .inl (.inr (.inl q)); exact .inr (Nat.le_trans hXz q)); exact .inl (.inr (.inr (.inl hi))); cases hi⟩⟩
          · exact absurd rfl (of_decide_eq_false hc4)
-- (*bellman/script.reader).operation
set_option maxHeartbeats 1600000 in
theorem operation_ok (w : World) (X : Nat → Prop) (b0 : Nat) (r : ScS) {vT vP : Value} {oT oP oL : Option Nat} {ini : List (Value × List OpD)} {lst : Option (Value × List OpD)} (h : RdP X w b0 r vT vP oT oP oL ini lst) (hXo : ∀ i, X i → i < w.heap.size) (hat : r.at_ ≤ 1000000) (x : OpD) (hth : r.s.threads ≠ []) (hon : r.s.ops.length < 64) (hxp : plainR x = true) (hxt : x.text.length ≤ 300) (hxl : x.payload.length ≤ 300) (htl4 : r.s.threads.length ≤ 4) (B : Nat) (hBD : ∀ i, Dy b0 oT oP oL i → B ≤ i) (hG : ∃ g, Tryd.prog.globalNamed "internal/strconv.uint64pow10" = some g ∧ g < B) (h1B : 1 < B) (hTb : Tab w) (hR : ErrS w) : FnM Tryd.prog (Dy b0 oT oP oL) 153 #[.pointer (some ⟨b0, 0, none⟩), Sv (lineR x)] w fun u w' => u = .int .i64 0 ∧ ∀ r' : ScS, r'.s.subs = r.s.subs → r'.s.cap = r.s.cap → r'.at_ = r.at_ → r'.done = r.done → r'.s.picks = r.s.picks → r'.s.threads = pushOp r.s.threads x → RdN X w' b0 r' w.heap.size (Dy b0 oT oP oL) := by
  have hB0 := h.box
  have hl0 : Mine (Dy b0 oT oP oL) w b0 := .inl (.inl rfl)
  have hll := lineR_len hxp
  obtain ⟨pv, pt, rfl⟩ : ∃ pv pt, lst = some (pv, pt) := by cases hl : lst with | none => (exact absurd (by rw [h.thr, hl, (h.lno hl).1]; rfl) hth) | some p => exact ⟨p.1, p.2, rfl⟩
  obtain ⟨bT, spT, hoT, hW⟩ : ∃ bT spT, oT = some bT ∧ Ow w vT bT 1 ((ini ++ (some (pv, pt)).toList).map fun p => [p.1]) spT := by rcases h.own with ⟨_, e, _⟩ | ⟨bT, spT, e, hW⟩; exact absurd e (by simp); exact ⟨bT, spT, e, hW⟩
  obtain ⟨cT, hvT, hcT⟩ := id hW.val; rw [List.length_map] at hvT; subst hvT
  have htl : r.s.threads.length = ini.length + 1 := by rw [h.thr, List.length_map]; simp
  have hlen : (ini ++ (some (pv, pt)).toList).length = ini.length + 1 := by simp
  skip
  have hX := Ext.refl (Dy b0 oT oP oL) w
  refine fnM_of_W (args := [_, _]) Tryd.func153 rfl (by kernel_rfl) rfl ?_
  refine W_seq ?_
  refine W_region ?_
  refine wl_val (rn_assign (by conv => lhs; whnf)) ?_
  refine wl_nil ?_
  refine W_seq ?_
  refine W_region ?_
  refine wl_val (rn_move (by conv => lhs; whnf)) ?_
  refine wl_call e_51 rfl (parse_ok w (lineR x) (by omega) hTb hR) ?_; intro v10 w1 hE1 hR1
  replace hX := hX.tr hE1
  replace hB0 := hB0.ext hE1 id
  replace h := h.non hE1
  replace hW := hW.ext hE1 id
  replace hTb := hTb.non hE1
  replace hR := hR.non hE1
  subst hR1; rw [parse_line hxp]
  refine wl_val (rn_move (by conv => lhs; whnf)) ?_
  refine wl_val (rn_extract rfl rfl) ?_
  refine wl_val (rn_extract rfl rfl) ?_
  refine wl_alloc z_29 ?_; intro b5 w2 hb5 hE2 hB5
  have hn0_5 : b0 < b5 := Nat.lt_of_lt_of_le hB0.lt hb5
  have hq5 : w.heap.size ≤ b5 := Nat.le_trans hX.size hb5
  have hl5 : Mine (Dy b0 oT oP oL) w b5 := .inr hq5
  have hpre5 := h
  replace hX := hX.tr hE2
  replace hB0 := hB0.ext hE2 id
  replace h := h.non hE2
  replace hW := hW.ext hE2 id
  replace hTb := hTb.non hE2
  replace hR := hR.non hE2
  have hBo := hB5
  refine wl_storeB s_29 rfl rfl rfl (OpD.one x) hB5 rfl ?_; intro w3 hE3 hB5 hz3
  replace hX := hX.mine hE3 hl5
  replace hB0 := hB0.ext hE3 (fun h => by omega)
  replace h := hpre5.non ((hE2.of_non.trans hE3).fresh (fun i hi => by subst hi; exact hb5))
  replace hW := hW.ext hE3 (fun e => by have := hpre5.lt bT (.inr (.inl hoT)); omega)
  replace hTb := hTb.ext hE3 (B := B) (fun j hj => by subst hj; have := hBD b0 (.inl rfl); omega) hG
  replace hR := hR.ext hE3 (B := B) (fun j hj => by subst hj; have := hBD b0 (.inl rfl); omega) h1B
  refine wl_val (rn_assign (by conv => lhs; whnf)) ?_
  refine wl_nil ?_
  refine W_seq ?_
  refine W_seq ?_
  refine W_region ?_
  refine wl_val (rn_move (by conv => lhs; whnf)) ?_
  refine wl_val (rn_neq rfl rfl) ?_
  refine wl_nil ?_
  refine W_cond rfl (fun hc0 => ?_) (fun hc0 => ?_)
  · exact absurd (of_decide_eq_true hc0) (by simp)
  · refine W_skip ?_
    refine W_seq ?_
    refine W_seq ?_
    refine W_region ?_
    refine wl_val (rn_move (by conv => lhs; whnf)) ?_
    refine wl_val (rn_nilCheck rfl) ?_
    refine wl_val (rn_fieldAddr f_174_0 (by decide) rfl) ?_
    refine wl_val (rn_loadS s_107 (vs := [.int .i64 r.s.subs, .int .i64 r.s.cap, .slice (some ⟨bT, 0, none⟩) (ini ++ (some (pv, pt)).toList).length cT, vP]) rfl rfl (hB0.part rfl (Nat.le_of_ble_eq_true rfl))) ?_
    refine wl_call e_109 rfl (merge_ok w3 r.s h.scm (by omega) (by omega)) ?_; intro v20 w4 hE4 hR4
    replace hX := hX.tr hE4
    replace hB0 := hB0.ext hE4 id; replace hB5 := hB5.ext hE4 id
    replace h := h.non hE4
    replace hW := hW.ext hE4 id
    replace hTb := hTb.non hE4
    replace hR := hR.non hE4
    obtain ⟨o20, hO20, _⟩ := hR4
    obtain ⟨a20, c20, hv20⟩ := id hO20.len; rw [List.length_map] at hv20; subst hv20
    refine wl_val (rn_len sl_22 rfl) ?_
    refine wl_val (rn_geq rfl rfl) ?_
    refine wl_nil ?_
    refine W_cond rfl (fun hc1 => ?_) (fun hc1 => ?_)
    · exact absurd (of_decide_eq_true hc1) (by omega)
    · refine W_skip ?_
      refine W_seq ?_
      refine W_drawE mixed ?_; intro w5 hE5
      replace hX := hX.tr hE5
      replace hB0 := hB0.ext hE5 id; replace hB5 := hB5.ext hE5 id
      replace h := h.non hE5
      replace hW := hW.ext hE5 id
      replace hTb := hTb.non hE5
      replace hR := hR.non hE5
      have hS := Ext.refl Non w5
      refine wd_take 0 _ _ rfl (by kernel_rfl) hS (yd_do fun A hA => rn_move (by conv => lhs; whnf)) ?_
      refine wd_take 1 _ _ rfl (by kernel_rfl) hS (yd_do fun A hA => rn_nilCheck rfl) ?_
      refine wd_take 2 _ _ rfl (by kernel_rfl) hS (yd_do fun A hA => rn_fieldAddr f_174_0 (by decide) rfl) ?_
      refine wd_take 3 _ _ rfl (by kernel_rfl) hS (yd_do fun A hA => rn_fieldAddr f_107_2 (by decide) rfl) ?_
      refine wd_take 4 _ _ rfl (by kernel_rfl) hS (yd_do fun A hA => rn_load1 p_105 rfl (hB0.ext hA id) rfl) ?_
      refine wd_take 5 _ _ rfl (by kernel_rfl) hS (yd_do fun A hA => rn_move (by conv => lhs; whnf)) ?_
      refine wd_take 6 _ _ rfl (by kernel_rfl) hS (yd_do fun A hA => rn_nilCheck rfl) ?_
      refine wd_take 7 _ _ rfl (by kernel_rfl) hS (yd_do fun A hA => rn_fieldAddr f_174_0 (by decide) rfl) ?_
      refine wd_take 8 _ _ rfl (by kernel_rfl) hS (yd_do fun A hA => rn_fieldAddr f_107_2 (by decide) rfl) ?_
      refine wd_take 9 _ _ rfl (by kernel_rfl) hS (yd_do fun A hA => rn_load1 p_105 rfl (hB0.ext hA id) rfl) ?_
      refine wd_take 10 _ _ rfl (by kernel_rfl) hS (yd_do fun A hA => rn_len sl_105 rfl) ?_
      refine wd_take 11 _ _ rfl (by kernel_rfl) hS (yd_do fun A hA => Rn.cast (rn_sub rfl rfl (by rw [hlen]; omega)) (v' := .int .i64 (ini.length : Nat)) (congrArg (Value.int .i64) (by rw [hlen]; omega))) ?_
      refine wd_take 12 _ _ rfl (by kernel_rfl) hS (yd_do fun A hA => rn_indexAddr sl_105 rfl rfl (by rw [hlen]; omega)) ?_
      refine wd_take 13 _ _ rfl (by kernel_rfl) hS (yd_do fun A hA => rn_assign (by conv => lhs; whnf)) ?_
      refine wd_done (by kernel_rfl) ?_ _
      replace hX := hX.tr hS
      replace hB0 := hB0.ext hS id; replace hB5 := hB5.ext hS id
      replace h := h.non hS
      replace hW := hW.ext hS id
      replace hTb := hTb.non hS
      replace hR := hR.non hS
      refine W_seq ?_
      refine W_drawX (fun j => j == 0 || j == 1 || j == 2 || j == 6 || j == 7 || j == 8) mixed ?_; intro w6 hE6
      replace hX := hX.tr hE6
      replace hB0 := hB0.ext hE6 id; replace hB5 := hB5.ext hE6 id
      replace h := h.non hE6
      replace hW := hW.ext hE6 id
      replace hTb := hTb.non hE6
      replace hR := hR.non hE6
      have hS := Ext.refl Non w6
      refine wx_takeP 0 _ _ rfl rfl (by kernel_rfl) (yd_do fun A _ => rn_move (by conv => lhs; whnf)) ?_
      refine wx_takeP 1 _ _ rfl rfl (by kernel_rfl) (yd_do fun A _ => rn_move (by conv => lhs; whnf)) ?_
      refine wx_takeP 2 _ _ rfl rfl (by kernel_rfl) (yd_do fun A _ => rn_nilCheck rfl) ?_
      refine wx_takeL 3 [6, 7, 8] _ _ rfl (by kernel_rfl) hS (yd_do fun A hA => rn_load p_22 rfl (((h.own.sl (M := Non) (fun _ _ h => h)).ext hA (fun _ h => h.elim)).at0 (map_at (i := ini.length) (x := (pv, pt)) (by simp)) rfl)) ?_
      refine wx_takeL 4 [5, 6, 7, 8] _ _ rfl (by kernel_rfl) hS (yd_do fun A hA => rn_loadB s_29 rfl rfl (hB5.ext hA id)) ?_
      refine wx_only 5 _ rfl (by kernel_rfl) ?_
      refine s1_do ?_
      refine wl_lit1 (r := x.enc) sl_22 rfl rfl rfl rfl (by decide) ?_; intro v41 w7 b41 hb41 hE7 hO41
      replace hS := hS.tr hE7
      refine wl_nil ⟨fun _ => hS, ?_⟩
      have hptl : pt.length < 64 := by have e : r.s.ops.length = (ini.map (fun p => p.2)).flatten.length + pt.length := (by unfold ScD.ops; rw [h.thr]; simp); omega
      replace hX := hX.tr hS
      replace hB0 := hB0.ext hS id; replace hB5 := hB5.ext hS id
      replace h := h.non hS
      replace hW := hW.ext hS id
      replace hTb := hTb.non hS
      replace hR := hR.non hS
      refine wx_only 6 _ rfl (by kernel_rfl) ?_
      refine s1_do ?_
      have hXz := hX.size
      have hlz := h
      refine wl_app sl_22 rfl rfl rfl (h.lsl _ rfl) (hO41.sl (M := Non) id) (fun r hr => by simp only [List.mem_singleton] at hr; subst hr; exact OpD.one x) (by simp only [List.length_map, List.length_cons, List.length_nil]; omega) (by simp only [List.length_map, List.length_cons, List.length_nil, big]; omega) ?_; intro v42 w8 o42 hE8 hO42 hf42
      have hEa := hE8
      replace hX := hX.mineO hE8 (fun j hj => .inl (.inr (.inr (.inr hj))))
      replace hW := hW.ext hE8 (fun e => (h.neT _ hoT).2.2 e)
      obtain ⟨a42, c42, hv42⟩ := id hO42.len; subst hv42
      refine wl_nil ⟨fun h => absurd h (by decide), ?_⟩
      refine wx_only 7 _ rfl (by kernel_rfl) ?_
      refine s1_do ?_
      refine wl_val (rn_nilCheck rfl) ?_
      refine wl_nil ⟨fun h => absurd h (by decide), ?_⟩
      refine wx_only 8 _ rfl (by kernel_rfl) ?_
      refine s1_do ?_
      refine wl_storeE (b := bT) (i := ini.length) p_22 rfl rfl rfl rfl hW (by rw [List.length_map, hlen]; omega) ?_; intro w9 hE9 hW2
      replace hX := hX.mine hE9 (.inl (.inr (.inl hoT)))
      have hEb := hE9
      refine wl_nil ⟨fun h => absurd h (by decide), ?_⟩
      refine wx_done (by kernel_rfl) ?_ _
      refine W_seq ?_
      refine W_region ?_
      refine wl_val (rn_assign (by conv => lhs; whnf)) ?_
      refine wl_nil ?_
      refine W_ret ?_
      exact ⟨_, resR1 (res1_tmp rfl), hX, ⟨rfl, fun r' e1 e2 e3 e4 e5 e6 => ⟨_, _, _, _, _, _, _, hlz.op rfl (fun i hi => Nat.lt_of_lt_of_le (hXo i hi) hXz) hEa hO42 hf42 (hEb.mono (fun i e => by rw [e]; exact hoT)) (.inr ⟨bT, _, hoT, by rw [rows_set] at hW2; exact hW2⟩) (r' := r') (by unfold rdB; rw [e1, e2, e3, e4]) (by rw [e6, h.thr, List.map_append]; exact push_snoc _ _ _) e5, fun i hi => by rcases hi with hi | hi | hi | hi; exact .inl (.inl hi); exact .inl (.inr (.inl hi)); exact .inl (.inr (.inr (.inl hi))); (rcases hf42 i hi with q | q; exact .inl (.inr (.inr (.inr q))); exact .inr (Nat.le_trans hXz q))⟩⟩⟩
end Go.Proofs.YthcclgoidchkdaaDoorC

/- A script's lines: picks; any line. -/
set_option linter.unusedVariables false
set_option linter.unusedSimpArgs false
set_option maxRecDepth 100000
namespace Go.Proofs.YthcclgoidchkdaaDoorC
open Go.RowKit
theorem picks_join (l : List Int) : picksL l = Lib.join (sPicks :: l.map Lib.itoa) [32] := by
  unfold picksL
  rw [Lib.join_cons]
  simp only [Lib.joinTail, List.map_map]
  rfl
theorem spl_picks (l : List Int) : spl 32 (picksL l) = sPicks :: l.map Lib.itoa := by
  rw [picks_join]
  refine spl_join _ (by simp) (fun a ha => ?_)
  rcases List.mem_cons.1 ha with rfl | ha
  · decide
  · obtain ⟨p, _, rfl⟩ := List.mem_map.1 ha
    exact itoa_nb' p
theorem RdN.base {X : Nat → Prop} {B : World} {b : Nat} {r : ScS} {n m : Nat} {D : Nat → Prop} (h : RdN X B b r n D) (hm : m ≤ n) : RdN X B b r m D := by
  obtain ⟨vT, vP, oT, oP, oL, ini, lst, h1, h2⟩ := h
  exact ⟨vT, vP, oT, oP, oL, ini, lst, h1, fun i hi => (h2 i hi).imp id (fun h => Nat.le_trans hm h)⟩
theorem picks_len (l : List Int) (h : ∀ p ∈ l, 0 ≤ p ∧ p ≤ 9999) : (picksL l).length ≤ 5 + 5 * l.length := pkS_len l h
-- strings.genSplit
set_option maxHeartbeats 1600000 in
theorem genSplitN_ok (w : World) (s : Str) (hn : s.length ≤ 1000000) : Fn Tryd.prog 145 #[Sv s, Sv [32], .int .i64 0, .int .i64 (-1)] w fun u w' => Sl (fun i => i < w.heap.size) w' u 1 ((spl 32 s).map eS1) := by
  have hcl := List.count_le_length (a := (32 : UInt8)) (l := s)
  have hX := Ext.refl Non w
  refine fn_of_W (args := [_, _, _, _]) Tryd.func145 rfl (by kernel_rfl) rfl ?_
  refine W_seq ?_
  refine W_region ?_
  refine wl_val (rn_assign (by conv => lhs; whnf)) ?_
  refine wl_nil ?_
  refine W_seq ?_
  refine W_seq ?_
  refine W_region ?_
  refine wl_val (rn_move (by conv => lhs; whnf)) ?_
  refine wl_val (rn_eql rfl rfl) ?_
  refine wl_nil ?_
  refine W_condF rfl ?_
  refine W_skip ?_
  refine W_seq ?_
  refine W_seq ?_
  refine W_region ?_
  refine wl_val (rn_move (by conv => lhs; whnf)) ?_
  refine wl_val (rn_seql rfl rfl) ?_
  refine wl_nil ?_
  refine W_cond rfl (fun hc1 => ?_) (fun hc1 => ?_)
  · exact absurd (of_decide_eq_true hc1) (by simp)
  · refine W_skip ?_
    refine W_seq ?_
    refine W_seq ?_
    refine W_region ?_
    refine wl_val (rn_move (by conv => lhs; whnf)) ?_
    refine wl_val (rn_lss rfl rfl) ?_
    refine wl_nil ?_
    refine W_condT rfl ?_
    refine W_region ?_
    refine wl_val (rn_move (by conv => lhs; whnf)) ?_
    refine wl_val (rn_move (by conv => lhs; whnf)) ?_
    refine wl_call e_180 rfl (scount_ok w s 32) ?_; intro v23 w1 hE1 hR1
    replace hX := hX.tr hE1
    subst hR1
    refine wl_val (Rn.cast (rn_add rfl rfl (by omega)) (v' := .int .i64 ((s.count 32 + 1 : Nat) : Int)) rfl) ?_
    refine wl_val (rn_assign (by conv => lhs; whnf)) ?_
    refine wl_nil ?_
    refine W_seq ?_
    refine W_region ?_
    refine wl_val (rn_move (by conv => lhs; whnf)) ?_
    refine wl_val (rn_move (by conv => lhs; whnf)) ?_
    refine wl_val (rn_slen us_9 rfl) ?_
    refine wl_val (rn_add rfl rfl (by omega)) ?_
    refine wl_val (Rn.cast (rn_min2 rfl rfl) (v' := .int .i64 ((s.count 32 + 1 : Nat) : Int)) (congrArg (Value.int .i64) (by split <;> omega))) ?_
    refine wl_val (rn_assign (by conv => lhs; whnf)) ?_
    refine wl_nil ?_
    refine W_seq ?_
    refine W_region ?_
    refine wl_val (rn_move (by conv => lhs; whnf)) ?_
    refine wl_make sl_68 rfl rfl rfl (by omega) (by simp only [big]; omega) ?_; intro w2 b31 hb31 hE2 hO31
    have hq31 : w.heap.size ≤ b31 := Nat.le_trans hX.size hb31
    rw [make_fill] at hO31
    replace hX := hX.tr hE2
    refine wl_val (rn_assign (by conv => lhs; whnf)) ?_
    refine wl_nil ?_
    refine W_seq ?_
    refine W_region ?_
    refine wl_val (rn_move (by conv => lhs; whnf)) ?_
    refine wl_val (Rn.cast (rn_sub rfl rfl (by omega)) (v' := .int .i64 (s.count 32 : Nat)) (congrArg (Value.int .i64) (by omega))) ?_
    refine wl_val (rn_assign (by conv => lhs; whnf)) ?_
    refine wl_nil ?_
    refine W_seq ?_
    refine W_region ?_
    refine wl_val (rn_assign (by conv => lhs; whnf)) ?_
    refine wl_nil ?_
    refine W_seq ?_
    refine W_block ?_   -- block 0
    refine W_loopS (S := Nat × List Str × Str) [0, 1, 2, 3, 9, 10] (fun ⟨i, done, r⟩ => [Sv r, Sv [32], .int .i64 0, .int .i64 (s.count 32 : Nat), .slice (some ⟨b31, 0, none⟩) (s.count 32 + 1) (s.count 32 + 1), .int .i64 (i : Nat)]) (fun ⟨i, done, r⟩ A => (Ext Non w A) ∧ (i ≤ s.count 32 ∧ i = done.length ∧ spl 32 s = done ++ spl 32 r ∧ r.length ≤ 1000000 ∧ Ow A (.slice (some ⟨b31, 0, none⟩) (s.count 32 + 1) (s.count 32 + 1)) b31 1 ((done ++ List.replicate (s.count 32 + 1 - i) []).map eS1) [])) (fun ⟨i, done, r⟩ => s.count 32 - i) (0, [], s) ⟨rfl, rfl, rfl, rfl, rfl, rfl, trivial⟩ ⟨hX, ⟨Nat.zero_le _, rfl, rfl, hn, hO31⟩⟩ ?_
    rintro τ0 ⟨i, done, r⟩ A0 ⟨hX, hI0⟩
    obtain ⟨hI, hdl, hsp, hrn, hO⟩ := hI0
    refine W_seq ?_
    refine W_seq ?_
    refine W_region ?_
    refine wl_val (rn_move (by conv => lhs; whnf)) ?_
    refine wl_val (rn_move (by conv => lhs; whnf)) ?_
    refine wl_val (rn_lss rfl rfl) ?_
    refine wl_nil ?_
    refine W_cond rfl (fun hc3 => ?_) (fun hc3 => ?_)
    · have hlt := of_decide_eq_true hc3; simp only [Int.ofNat_lt] at hlt
      have hmem : (32 : UInt8) ∈ r := by apply Classical.byContradiction; intro hno; have := spl_not hno; have h2 := congrArg List.length hsp; rw [spl_len, List.length_append, this] at h2; simp only [List.length_cons, List.length_nil] at h2; omega
      have hfi := fi_in hmem
      have hplt : (pre1 32 r).length < r.length := (List.getElem?_eq_some_iff.1 (pre1_mem hmem)).1
      refine W_skip ?_
      refine W_block ?_   -- block 1
      refine W_seq ?_
      refine W_region ?_
      refine wl_val (rn_move (by conv => lhs; whnf)) ?_
      refine wl_val (rn_move (by conv => lhs; whnf)) ?_
      refine wl_call e_181 rfl (sindex_ok A0 r 32) ?_; intro v39 w3 hE3 hR3
      replace hX := hX.tr hE3
      replace hO := hO.ext hE3 id
      subst hR3
      refine wl_val (rn_assign (by conv => lhs; whnf)) ?_
      refine wl_nil ?_
      refine W_seq ?_
      refine W_seq ?_
      refine W_region ?_
      refine wl_val (rn_move (by conv => lhs; whnf)) ?_
      refine wl_val (rn_lss rfl rfl) ?_
      refine wl_nil ?_
      refine W_cond rfl (fun hc4 => ?_) (fun hc4 => ?_)
      · exact absurd (of_decide_eq_true hc4) (by have := (fi_ge r 32).2 hmem; omega)
      · refine W_skip ?_
        refine W_seq ?_
        refine W_region ?_
        refine wl_val (rn_move (by conv => lhs; whnf)) ?_
        refine wl_val (rn_move (by conv => lhs; whnf)) ?_
        refine wl_val (rn_move (by conv => lhs; whnf)) ?_
        refine wl_val (rn_move (by conv => lhs; whnf)) ?_
        refine wl_val (rn_move (by conv => lhs; whnf)) ?_
        refine wl_val (Rn.cast (rn_add rfl rfl (by omega)) (v' := .int .i64 ((pre1 32 r).length : Nat)) (congrArg (Value.int .i64) (by rw [hfi]; omega))) ?_
        refine wl_val (Rn.cast (rn_sslice us_9 (l := 0) (h := (pre1 32 r).length) rfl rfl ⟨_, rfl⟩ (by omega) (by omega)) (v' := Sv (pre1 32 r)) (congrArg Sv (by rw [List.drop_zero, Nat.sub_zero, pre1_take]))) ?_
        refine wl_val (rn_indexAddr sl_68 rfl rfl (by omega)) ?_
        refine wl_storeE p_9 (i := i) (u := Sv (pre1 32 r)) rfl rfl rfl rfl hO (by simp only [List.length_map, List.length_append, List.length_replicate]; omega) ?_; intro w4 hE4 hO
        replace hX := hX.mine hE4 (.inr hq31)
        rw [show s.count 32 + 1 - i = (s.count 32 + 1 - (i + 1)) + 1 by omega, hdl, set_fill, ← hdl] at hO
        refine wl_nil ?_
        refine W_seq ?_
        refine W_region ?_
        refine wl_val (rn_move (by conv => lhs; whnf)) ?_
        refine wl_val (rn_move (by conv => lhs; whnf)) ?_
        refine wl_val (rn_move (by conv => lhs; whnf)) ?_
        refine wl_val (rn_slen us_9 rfl) ?_
        refine wl_val (Rn.cast (rn_add rfl rfl (by simp only [List.length_singleton]; omega)) (v' := .int .i64 (((pre1 32 r).length + 1 : Nat) : Int)) (congrArg (Value.int .i64) (by rw [hfi]; simp))) ?_
        refine wl_val (Rn.cast (rn_sslice us_9 (l := (pre1 32 r).length + 1) (h := r.length) rfl ⟨_, rfl⟩ rfl (by omega) (by omega)) (v' := Sv (r.drop ((pre1 32 r).length + 1))) (congrArg Sv (List.take_of_length_le (by rw [List.length_drop]; exact Nat.le_refl _)))) ?_
        refine wl_val (rn_assign (by conv => lhs; whnf)) ?_
        refine wl_nil ?_
        refine W_region ?_
        refine wl_val (rn_move (by conv => lhs; whnf)) ?_
        refine wl_val (rn_add rfl rfl (by omega)) ?_
        refine wl_val (rn_assign (by conv => lhs; whnf)) ?_
        refine wl_nil ?_
        exact ⟨rfl, (i + 1, done ++ [pre1 32 r], r.drop ((pre1 32 r).length + 1)), ⟨rfl, rfl, rfl, rfl, rfl, rfl, trivial⟩, ⟨hX, ⟨hlt, by simp [hdl], by rw [hsp, spl_cut hmem]; simp, by rw [List.length_drop]; omega, hO⟩⟩, by show s.count 32 - (i + 1) < s.count 32 - i; omega⟩
    · have hge := of_decide_eq_false hc3; simp only [Int.ofNat_lt, Nat.not_lt] at hge
      have hie : s.count 32 = i := by omega
      have hno : ¬ (32 : UInt8) ∈ r := by intro hm; have h2 := congrArg List.length hsp; rw [spl_len, List.length_append, spl_cut hm, List.length_cons] at h2; have := List.length_pos_iff.2 (spl_ne 32 (r.drop ((pre1 32 r).length + 1))); omega
      rw [spl_not hno] at hsp
      refine W_exit ?_   -- exit 0
      refine W_seq ?_
      refine W_region ?_
      refine wl_val (rn_move (by conv => lhs; whnf)) ?_
      refine wl_val (rn_move (by conv => lhs; whnf)) ?_
      refine wl_val (rn_move (by conv => lhs; whnf)) ?_
      refine wl_val (rn_indexAddr sl_68 rfl rfl (by omega)) ?_
      refine wl_storeE p_9 (i := i) (u := Sv r) rfl rfl rfl rfl hO (by simp only [List.length_map, List.length_append, List.length_replicate]; omega) ?_; intro w5 hE5 hO
      replace hX := hX.mine hE5 (.inr hq31)
      rw [show s.count 32 + 1 - i = 0 + 1 by omega, hdl, set_fill] at hO
      refine wl_nil ?_
      refine W_seq ?_
      refine W_region ?_
      refine wl_val (rn_move (by conv => lhs; whnf)) ?_
      refine wl_val (rn_move (by conv => lhs; whnf)) ?_
      refine wl_val (rn_add rfl rfl (by omega)) ?_
      refine wl_val (rn_slice0 sl_68 (h := i + 1) (m := s.count 32 + 1) rfl rfl ⟨_, rfl⟩ rfl (by simp) (by omega) (by omega)) ?_
      refine wl_val (rn_assign (by conv => lhs; whnf)) ?_
      refine wl_nil ?_
      refine W_ret ?_
      exact ⟨_, resR1 (res1_tmp rfl), hX, by have h := (hO.sl (M := fun i => i < w.heap.size) (fun h => by have h : b31 < w.heap.size := h; omega)); rw [hsp]; simp only [List.replicate_zero, List.append_nil] at h; rw [hie] at h; show Sl (fun i => i < w.heap.size) _ (.slice (some ⟨b31, 0, none⟩) (i + 1) (s.count 32 + 1)) 1 _; rw [hie]; exact h⟩
-- strings.Split
theorem splitN_ok (w : World) (s : Str) (hn : s.length ≤ 1000000) : Fn Tryd.prog 97 #[Sv s, Sv [32]] w fun u w' => Sl (fun i => i < w.heap.size) w' u 1 ((spl 32 s).map eS1) := by
  have hX := Ext.refl Non w
  refine fn_of_W (args := [_, _]) Tryd.func97 rfl (by kernel_rfl) rfl ?_
  refine W_seq ?_
  refine W_region ?_
  refine wl_val (rn_assign (by conv => lhs; whnf)) ?_
  refine wl_nil ?_
  refine W_seq ?_
  refine W_region ?_
  refine wl_val (rn_move (by conv => lhs; whnf)) ?_
  refine wl_val (rn_move (by conv => lhs; whnf)) ?_
  refine wl_call e_145 rfl (genSplitN_ok w s hn) ?_; intro v7 w1 hE1 hR1
  replace hX := hX.tr hE1
  have hS7 := hR1
  refine wl_val (rn_assign (by conv => lhs; whnf)) ?_
  refine wl_nil ?_
  refine W_ret ?_
  exact ⟨_, resR1 (res1_tmp rfl), hX, hS7⟩
-- (*bellman/script.reader).line
set_option maxHeartbeats 1600000 in
theorem lineO_ok (w : World) (X : Nat → Prop) (b0 : Nat) (r : ScS) {vT vP : Value} {oT oP oL : Option Nat} {ini : List (Value × List OpD)} {lst : Option (Value × List OpD)} (h : RdP X w b0 r vT vP oT oP oL ini lst) (hXo : ∀ i, X i → i < w.heap.size) (hat : r.at_ ≤ 1000000) (hat1 : r.at_ + 1 ≤ 1000000) (x : OpD) (hc : (Cmd.op x).ok r) (htl4 : r.s.threads.length ≤ 4) (B : Nat) (hBD : ∀ i, Dy b0 oT oP oL i → B ≤ i) (hG : ∃ g, Tryd.prog.globalNamed "internal/strconv.uint64pow10" = some g ∧ g < B) (h1B : 1 < B) (hTb : Tab w) (hR : ErrS w) : FnM Tryd.prog (Dy b0 oT oP oL) 108 #[.pointer (some ⟨b0, 0, none⟩), Sv (lineR x)] w fun u w' => u = .int .i64 0 ∧ RdN X w' b0 ((Cmd.op x).app r) w.heap.size (Dy b0 oT oP oL) := by
  have hB0 := h.box
  have hl0 : Mine (Dy b0 oT oP oL) w b0 := .inl (.inl rfl)
  have htl : r.s.threads.length = (ini ++ lst.toList).length := by rw [h.thr, List.length_map]
  obtain ⟨aT, cT, hvT⟩ := id h.own.len; rw [List.length_map] at hvT; subst hvT
  obtain ⟨hd, ha, hth, hon, hxp, hxt, hxl⟩ := hc
  have hll := lineR_len hxp
  have htp : 0 < r.s.threads.length := List.length_pos_iff.2 hth
  have hX := Ext.refl (Dy b0 oT oP oL) w
  refine fnM_of_W (args := [_, _]) Tryd.func108 rfl (by kernel_rfl) rfl ?_
  refine W_seq ?_
  refine W_region ?_
  refine wl_val (rn_assign (by conv => lhs; whnf)) ?_
  refine wl_nil ?_
  refine W_seq ?_
  refine W_region ?_
  refine wl_val (rn_move (by conv => lhs; whnf)) ?_
  refine wl_val (rn_nilCheck rfl) ?_
  refine wl_val (rn_fieldAddr f_174_1 (by decide) rfl) ?_
  refine wl_val (rn_load1 p_3 rfl hB0 rfl) ?_
  refine wl_val (rn_add rfl rfl (by omega)) ?_
  refine wl_val (rn_nilCheck rfl) ?_
  refine wl_val (rn_fieldAddr f_174_1 (by decide) rfl) ?_
  have hBo := hB0
  refine wl_store1 (b := b0) p_3 rfl (by conv => lhs; whnf) rfl rfl hB0 (Nat.le_of_ble_eq_true rfl) ?_; intro w1 hE1 hB0 hz1
  replace hX := hX.mine hE1 hl0
  replace h := h.setBox hE1 hB0 (r' := ⟨r.s, r.at_ + 1, r.done⟩) rfl rfl
  replace hTb := hTb.ext hE1 (B := B) (fun j hj => by subst hj; exact hBD _ (.inl rfl)) hG
  replace hR := hR.ext hE1 (B := B) (fun j hj => by subst hj; exact hBD _ (.inl rfl)) h1B
  refine wl_nil ?_
  refine W_seq ?_
  refine W_region ?_
  refine wl_val (rn_move (by conv => lhs; whnf)) ?_
  refine wl_call e_97 rfl (split_ok w1 (lineR x) (by omega)) ?_; intro v14 w2 hE2 hR2
  replace hX := hX.tr hE2
  replace hB0 := hB0.ext hE2 id
  replace h := h.non hE2
  replace hTb := hTb.non hE2
  replace hR := hR.non hE2
  have hs := hR2; obtain ⟨tw, htw, hn1, hn2⟩ := words_line hxp; rw [htw] at hs; obtain ⟨a14, c14, hv14, _⟩ := id hs.len; subst hv14; obtain ⟨bb, oo, ea⟩ := hs.base (by simp); subst ea; simp only [List.length_map] at hs ⊢
  refine wl_val (rn_assign (by conv => lhs; whnf)) ?_
  refine wl_nil ?_
  refine W_seq ?_
  refine W_block ?_   -- block 0
  refine W_seq ?_
  refine W_region ?_
  refine wl_val (rn_move (by conv => lhs; whnf)) ?_
  refine wl_val (rn_nilCheck rfl) ?_
  refine wl_val (rn_fieldAddr f_174_2 (by decide) rfl) ?_
  refine wl_val (rn_load1 p_4 rfl hB0 rfl) ?_
  refine wl_val (rn_assign (by conv => lhs; whnf)) ?_
  refine wl_nil ?_
  refine W_cond rfl (fun hc0 => ?_) (fun hc0 => ?_)
  · exact absurd hc0 (by rw [hd]; decide)
  · refine W_seq ?_
    refine W_region ?_
    refine wl_val (rn_move (by conv => lhs; whnf)) ?_
    refine wl_val (rn_nilCheck rfl) ?_
    refine wl_val (rn_fieldAddr f_174_1 (by decide) rfl) ?_
    refine wl_val (rn_load1 p_3 rfl hB0 rfl) ?_
    refine wl_val (rn_eql rfl rfl) ?_
    refine wl_val (rn_assign (by conv => lhs; whnf)) ?_
    refine wl_nil ?_
    refine W_cond rfl (fun hc1 => ?_) (fun hc1 => ?_)
    · exact absurd (of_decide_eq_true hc1) (by omega)
    · refine W_seq ?_
      refine W_region ?_
      refine wl_val (rn_move (by conv => lhs; whnf)) ?_
      refine wl_val (rn_nilCheck rfl) ?_
      refine wl_val (rn_fieldAddr f_174_1 (by decide) rfl) ?_
      refine wl_val (rn_load1 p_3 rfl hB0 rfl) ?_
      refine wl_val (rn_eql rfl rfl) ?_
      refine wl_val (rn_assign (by conv => lhs; whnf)) ?_
      refine wl_nil ?_
      refine W_cond rfl (fun hc2 => ?_) (fun hc2 => ?_)
      · exact absurd (of_decide_eq_true hc2) (by omega)
      · refine W_seq ?_
        refine W_region ?_
        refine wl_val (rn_move (by conv => lhs; whnf)) ?_
        refine wl_val (rn_indexAddr sl_68 rfl rfl (by simp)) ?_
        refine wl_val (rn_load p_9 rfl (hs.at0 (eS_at (i := 0) rfl) rfl)) ?_
        refine wl_val (rn_seql rfl rfl) ?_
        refine wl_val (rn_assign (by conv => lhs; whnf)) ?_
        refine wl_nil ?_
        refine W_cond rfl (fun hc3 => ?_) (fun hc3 => ?_)
        · exact absurd (of_decide_eq_true hc3) hn1
        · refine W_seq ?_
          refine W_region ?_
          refine wl_val (rn_move (by conv => lhs; whnf)) ?_
          refine wl_val (rn_indexAddr sl_68 rfl rfl (by simp)) ?_
          refine wl_val (rn_load p_9 rfl (hs.at0 (eS_at (i := 0) rfl) rfl)) ?_
          refine wl_val (rn_seql rfl rfl) ?_
          refine wl_val (rn_assign (by conv => lhs; whnf)) ?_
          refine wl_nil ?_
          refine W_cond rfl (fun hc4 => ?_) (fun hc4 => ?_)
          · exact absurd (of_decide_eq_true hc4) hn2
          · refine W_seq ?_
            refine W_region ?_
            refine wl_val (rn_move (by conv => lhs; whnf)) ?_
            refine wl_val (rn_nilCheck rfl) ?_
            refine wl_val (rn_fieldAddr f_174_0 (by decide) rfl) ?_
            refine wl_val (rn_fieldAddr f_107_2 (by decide) rfl) ?_
            refine wl_val (rn_load1 p_105 rfl hB0 rfl) ?_
            refine wl_val (rn_len sl_105 rfl) ?_
            refine wl_val (rn_eql rfl rfl) ?_
            refine wl_val (rn_assign (by conv => lhs; whnf)) ?_
            refine wl_nil ?_
            refine W_cond rfl (fun hc5 => ?_) (fun hc5 => ?_)
            · exact absurd (of_decide_eq_true hc5) (by omega)
            · refine W_skip ?_
              refine W_seq ?_
              refine W_region ?_
              refine wl_val (rn_move (by conv => lhs; whnf)) ?_
              refine wl_val (rn_move (by conv => lhs; whnf)) ?_
              refine wl_callM e_153 rfl (operation_ok w2 X b0 ⟨r.s, r.at_ + 1, r.done⟩ h (fun i hi => Nat.lt_of_lt_of_le (hXo i hi) hX.size) (by show r.at_ + 1 ≤ 1000000; have := hat1; omega) x hth hon hxp hxt hxl htl4 B hBD hG h1B hTb hR) ?_; rintro v91 w3 hE3 ⟨rfl, hN⟩
              have hXz := hX.size
              replace hX := hX.trans hE3
              refine wl_val (rn_assign (by conv => lhs; whnf)) ?_
              refine wl_nil ?_
              refine W_ret ?_
              exact ⟨_, resR1 (res1_tmp rfl), hX, ⟨rfl, (hN ((Cmd.op x).app r) rfl rfl rfl rfl rfl rfl).base hXz⟩⟩
-- (*bellman/script.reader).picks
set_option maxHeartbeats 1600000 in
theorem picks_ok (w : World) (X : Nat → Prop) (b0 : Nat) (r : ScS) {vT vP : Value} {oT oP oL : Option Nat} {ini : List (Value × List OpD)} {lst : Option (Value × List OpD)} (h : RdP X w b0 r vT vP oT oP oL ini lst) (hXo : ∀ i, X i → i < w.heap.size) (hat : r.at_ ≤ 1000000) (l : List Int) (hl0 : l ≠ []) (hl4 : l.length ≤ 4096) (hpr : ∀ p ∈ l, 0 ≤ p ∧ p ≤ 9999) (hpk : r.s.picks = []) {v : Value} (hs : Sl (fun i => Dy b0 oT oP oL i ∨ w.heap.size ≤ i) w v 1 ((l.map Lib.itoa).map eS1)) (B : Nat) (hBD : ∀ i, Dy b0 oT oP oL i → B ≤ i) (hG : ∃ g, Tryd.prog.globalNamed "internal/strconv.uint64pow10" = some g ∧ g < B) (h1B : 1 < B) (hTb : Tab w) (hR : ErrS w) : FnM Tryd.prog (Dy b0 oT oP oL) 152 #[.pointer (some ⟨b0, 0, none⟩), v] w fun u w' => u = .int .i64 0 ∧ RdN X w' b0 (⟨{ r.s with picks := r.s.picks ++ l }, r.at_, true⟩) w.heap.size (Dy b0 oT oP oL) := by
  have hB0 := h.box
  have hl0b : Mine (Dy b0 oT oP oL) w b0 := .inl (.inl rfl)
  have hlp : 0 < l.length := List.length_pos_iff.2 hl0
  obtain ⟨aw, cw, rfl, _⟩ := id hs.len
  simp only [List.length_map] at hs ⊢
  obtain ⟨bb, oo, ea⟩ := hs.base (by intro e; have := congrArg List.length e; simp only [List.length_map, List.length_nil] at this; omega); subst ea
  have hl0 := hl0b
  have hblt0 := hB0.lt
  have hX := Ext.refl (Dy b0 oT oP oL) w
  refine fnM_of_W (args := [_, _]) Tryd.func152 rfl (by kernel_rfl) rfl ?_
  refine W_seq ?_
  refine W_region ?_
  refine wl_val (rn_assign (by conv => lhs; whnf)) ?_
  refine wl_nil ?_
  refine W_seq ?_
  refine W_seq ?_
  refine W_region ?_
  refine wl_val (rn_move (by conv => lhs; whnf)) ?_
  refine wl_val (rn_len sl_68 rfl) ?_
  refine wl_val (rn_eql rfl rfl) ?_
  refine wl_val (rn_move (by conv => lhs; whnf)) ?_
  refine wl_split (d := 12) rfl (fun hg12 => ?_) (fun hg12 => ?_)
  · exact absurd (of_decide_eq_true hg12) (by omega)
  · refine wl_yes rfl (congrArg Value.bool hg12) ?_
    refine wl_val (rn_move (by conv => lhs; whnf)) ?_
    refine wl_yes rfl (congrArg Value.bool hg12) ?_
    refine wl_val (rn_len sl_68 rfl) ?_
    refine wl_yes rfl (congrArg Value.bool hg12) ?_
    refine wl_val (rn_gtr rfl rfl) ?_
    refine wl_val (rn_pickF (congrArg Value.bool hg12) (by conv => lhs; whnf)) ?_
    refine wl_nil ?_
    refine W_cond rfl (fun hc0 => ?_) (fun hc0 => ?_)
    · exact absurd (of_decide_eq_true hc0) (by omega)
    · refine W_skip ?_
      refine W_seq ?_
      refine W_seq ?_
      refine W_region ?_
      refine wl_val (rn_move (by conv => lhs; whnf)) ?_
      refine wl_val (rn_len sl_68 rfl) ?_
      refine wl_val (rn_move (by conv => lhs; whnf)) ?_
      refine wl_nil ?_
      refine W_block ?_   -- block 0
      refine W_loopS (S := Nat × Value × Option Nat) [0, 17, 18, 19] (fun ⟨k, vq, oq⟩ => [.pointer (some ⟨b0, 0, none⟩), .slice (some ⟨bb, oo, none⟩) l.length cw, .int .i64 (l.length : Nat), .int .i64 (k : Nat)]) (fun ⟨k, vq, oq⟩ A => (Ext (Dy b0 oT oP oL) w A) ∧ (IsBox A b0 (rdB r vT vq)) ∧ (Mine (Dy b0 oT oP oL) w b0) ∧ (k ≤ l.length ∧ RdP X A b0 ⟨{ r.s with picks := r.s.picks ++ l.take k }, r.at_, r.done⟩ vT vq oT oq oL ini lst ∧ (∀ i, Dy b0 oT oq oL i → Dy b0 oT oP oL i ∨ w.heap.size ≤ i) ∧ Tab A ∧ ErrS A ∧ Sl (fun i => Dy b0 oT oP oL i ∨ w.heap.size ≤ i) A (.slice (some ⟨bb, oo, none⟩) l.length cw) 1 ((l.map Lib.itoa).map eS1))) (fun ⟨k, vq, oq⟩ => l.length - k) (0, vP, oP) ⟨rfl, rfl, rfl, rfl, trivial⟩ ⟨hX, hB0, hl0, ⟨Nat.zero_le _, (by rw [List.take_zero, List.append_nil]; exact h), fun i hi => .inl hi, hTb, hR, hs⟩⟩ ?_
      rintro τ0 ⟨k, vq, oq⟩ A0 ⟨hX, hB0, hl0, hI0⟩
      obtain ⟨hkl, h, hsub, hTb, hR, hs⟩ := hI0
      obtain ⟨aq, cq, hvq⟩ := id h.pk.len; rw [List.length_map] at hvq; subst hvq
      have hpkl : (r.s.picks ++ l.take k).length ≤ 4096 := by rw [hpk, List.nil_append, List.length_take]; omega
      have hBs : ∀ i, (Dy b0 oT oP oL i ∨ w.heap.size ≤ i) → B ≤ i := fun i hi => by rcases hi with hi | hi; exact hBD i hi; have := hBD b0 (.inl rfl); have := hblt0; omega
      refine W_seq ?_
      refine W_region ?_
      refine wl_val (rn_lss rfl rfl) ?_
      refine wl_nil ?_
      refine W_seq ?_
      refine W_cond rfl (fun hc1 => ?_) (fun hc1 => ?_)
      · have hlt := of_decide_eq_true hc1; simp only [Int.ofNat_lt] at hlt
        obtain ⟨p, hp⟩ : ∃ p, l[k]? = some p := ⟨_, List.getElem?_eq_getElem hlt⟩
        have hpp := hpr p (List.mem_of_getElem? hp)
        refine W_skip ?_
        refine W_seq ?_
        refine W_block ?_   -- block 1
        refine W_seq ?_
        refine W_region ?_
        refine wl_val (rn_indexAddr sl_68 rfl rfl (by omega)) ?_
        refine wl_val (rn_load p_9 rfl (hs.at0 (eS_at (x := Lib.itoa p) (by simp [hp])) rfl)) ?_
        refine wl_val (rn_assign (by conv => lhs; whnf)) ?_
        refine wl_nil ?_
        refine W_seq ?_
        refine W_region ?_
        refine wl_val (rn_move (by conv => lhs; whnf)) ?_
        refine wl_call e_187 rfl (snumber_ok A0 p 0 9999 hpp.1 hpp.2 hpp.1 hpp.2 hTb hR) ?_; intro v25 w1 hE1 hR1
        replace hX := hX.tr hE1
        replace hB0 := hB0.ext hE1 id
        replace h := h.non hE1
        replace hs := hs.ext hE1 (fun _ h => h.elim)
        replace hTb := hTb.non hE1
        replace hR := hR.non hE1
        subst hR1
        refine wl_val (rn_move (by conv => lhs; whnf)) ?_
        refine wl_val (rn_extract rfl rfl) ?_
        refine wl_val (rn_extract rfl rfl) ?_
        refine wl_val (rn_assign (by conv => lhs; whnf)) ?_
        refine wl_val (rn_assign (by conv => lhs; whnf)) ?_
        refine wl_nil ?_
        refine W_seq ?_
        refine W_seq ?_
        refine W_region ?_
        refine wl_val (rn_move (by conv => lhs; whnf)) ?_
        refine wl_val (rn_not rfl) ?_
        refine wl_nil ?_
        refine W_cond rfl (fun hc2 => ?_) (fun hc2 => ?_)
        · exact absurd hc2 (by decide)
        · refine W_skip ?_
          refine W_region ?_
          refine wl_val (rn_move (by conv => lhs; whnf)) ?_
          refine wl_val (rn_move (by conv => lhs; whnf)) ?_
          refine wl_val (rn_nilCheck rfl) ?_
          refine wl_val (rn_fieldAddr f_174_0 (by decide) rfl) ?_
          refine wl_val (rn_fieldAddr f_107_3 (by decide) rfl) ?_
          refine wl_val (rn_load1 p_39 rfl hB0 rfl) ?_
          refine wl_val (rn_move (by conv => lhs; whnf)) ?_
          refine wl_lit1 (r := [.int .i64 p]) sl_39 rfl rfl rfl rfl (by decide) ?_; intro v37 w2 b37 hb37 hE2 hO37
          replace hX := hX.tr hE2
          replace hB0 := hB0.ext hE2 id
          replace h := h.non hE2
          replace hs := hs.ext hE2 (fun _ h => h.elim)
          replace hTb := hTb.non hE2
          replace hR := hR.non hE2
          have hXz := hX.size
          refine wl_app sl_39 rfl rfl rfl h.pk (hO37.sl (M := Non) id) (fun r hr => by simp only [List.mem_singleton] at hr; subst hr; exact one1 rfl) (by simp only [List.length_map, List.length_cons, List.length_nil]; omega) (by simp only [List.length_map, List.length_cons, List.length_nil, big]; omega) ?_; intro v38 w3 o38 hE3 hO38 hf38
          have hEa := hE3
          replace hB0 := hB0.ext hE3 (fun e => (h.neP _ e).1 rfl)
          replace hX := hX.mineO hE3 (fun j hj => hsub j (.inr (.inr (.inl hj))))
          replace hs := hs.ext hE3 (fun j hj => hsub j (.inr (.inr (.inl hj))))
          replace hTb := hTb.ext hE3 (B := B) (fun j hj => hBs j (hsub j (.inr (.inr (.inl hj))))) hG; replace hR := hR.ext hE3 (B := B) (fun j hj => hBs j (hsub j (.inr (.inr (.inl hj))))) h1B
          obtain ⟨a38, c38, hv38⟩ := id hO38.len; subst hv38
          refine wl_val (rn_nilCheck rfl) ?_
          refine wl_val (rn_fieldAddr f_174_0 (by decide) rfl) ?_
          refine wl_val (rn_fieldAddr f_107_3 (by decide) rfl) ?_
          refine wl_store1 (b := b0) p_39 rfl rfl rfl rfl hB0 (Nat.le_of_ble_eq_true rfl) ?_; intro w4 hE4 hB0 hz4
          replace hX := hX.mine hE4 hl0
          have hEb := hE4
          replace hs := hs.ext hE4 (fun j hj => .inl (.inl hj)); replace hTb := hTb.ext hE4 (B := B) (fun j hj => by subst hj; exact hBD _ (.inl rfl)) hG; replace hR := hR.ext hE4 (B := B) (fun j hj => by subst hj; exact hBD _ (.inl rfl)) h1B
          replace h := h.picks (l := [p]) (fun i hi => Nat.lt_of_lt_of_le (hXo i hi) hXz) hEa hO38 hf38 hEb (r' := ⟨{ r.s with picks := (r.s.picks ++ l.take k) ++ [p] }, r.at_, r.done⟩) hB0 rfl rfl
          replace hsub : ∀ i, Dy b0 oT o38 oL i → Dy b0 oT oP oL i ∨ w.heap.size ≤ i := fun i hi => by rcases hi with hi | hi | hi | hi; exact .inl (.inl hi); exact .inl (.inr (.inl hi)); (rcases hf38 i hi with q | q; exact hsub i (.inr (.inr (.inl q))); exact .inr (Nat.le_trans hXz q)); exact .inl (.inr (.inr (.inr hi)))
          refine wl_nil ?_
          refine W_region ?_
          refine wl_val (rn_add rfl rfl (by omega)) ?_
          refine wl_val (rn_move (by conv => lhs; whnf)) ?_
          refine wl_nil ?_
          exact ⟨rfl, (k + 1, _, o38), ⟨rfl, rfl, rfl, rfl, trivial⟩, ⟨hX, hB0, hl0, ⟨hlt, (by rw [List.take_add_one, hp, Option.toList_some, ← List.append_assoc]; exact h), hsub, hTb, hR, hs⟩⟩, by show l.length - (k + 1) < l.length - k; omega⟩
      · have hge := of_decide_eq_false hc1; simp only [Int.ofNat_lt, Nat.not_lt] at hge
        rw [List.take_of_length_le hge] at h hB0
        refine W_exit ?_   -- exit 0
        refine W_seq ?_
        refine W_region ?_
        refine wl_val (rn_move (by conv => lhs; whnf)) ?_
        refine wl_val (rn_nilCheck rfl) ?_
        refine wl_val (rn_fieldAddr f_174_2 (by decide) rfl) ?_
        refine wl_store1 (b := b0) p_4 rfl rfl rfl rfl hB0 (Nat.le_of_ble_eq_true rfl) ?_; intro w5 hE5 hB0 hz5
        replace hX := hX.mine hE5 hl0
        replace h := h.setBox hE5 (r' := ⟨{ r.s with picks := r.s.picks ++ l }, r.at_, true⟩) hB0 rfl rfl
        refine wl_nil ?_
        refine W_seq ?_
        refine W_region ?_
        refine wl_val (rn_assign (by conv => lhs; whnf)) ?_
        refine wl_nil ?_
        refine W_ret ?_
        exact ⟨_, resR1 (res1_tmp rfl), hX, ⟨rfl, _, _, _, _, _, _, _, h, hsub⟩⟩
-- (*bellman/script.reader).line
set_option maxHeartbeats 1600000 in
theorem lineK_ok (w : World) (X : Nat → Prop) (b0 : Nat) (r : ScS) {vT vP : Value} {oT oP oL : Option Nat} {ini : List (Value × List OpD)} {lst : Option (Value × List OpD)} (h : RdP X w b0 r vT vP oT oP oL ini lst) (hXo : ∀ i, X i → i < w.heap.size) (hat : r.at_ ≤ 1000000) (hat1 : r.at_ + 1 ≤ 1000000) (l : List Int) (hc : (Cmd.picks l).ok r) (B : Nat) (hBD : ∀ i, Dy b0 oT oP oL i → B ≤ i) (hG : ∃ g, Tryd.prog.globalNamed "internal/strconv.uint64pow10" = some g ∧ g < B) (h1B : 1 < B) (hTb : Tab w) (hR : ErrS w) : FnM Tryd.prog (Dy b0 oT oP oL) 108 #[.pointer (some ⟨b0, 0, none⟩), Sv (picksL l)] w fun u w' => u = .int .i64 0 ∧ RdN X w' b0 ((Cmd.picks l).app r) w.heap.size (Dy b0 oT oP oL) := by
  have hB0 := h.box
  have hl0 : Mine (Dy b0 oT oP oL) w b0 := .inl (.inl rfl)
  have htl : r.s.threads.length = (ini ++ lst.toList).length := by rw [h.thr, List.length_map]
  obtain ⟨aT, cT, hvT⟩ := id h.own.len; rw [List.length_map] at hvT; subst hvT
  obtain ⟨hd, ha, hln, hl4, hpk, hpr⟩ := hc
  have hpl := picks_len l hpr
  have hzw : w.heap.size ≤ w.heap.size := Nat.le_refl _
  have hX := Ext.refl (Dy b0 oT oP oL) w
  refine fnM_of_W (args := [_, _]) Tryd.func108 rfl (by kernel_rfl) rfl ?_
  refine W_seq ?_
  refine W_region ?_
  refine wl_val (rn_assign (by conv => lhs; whnf)) ?_
  refine wl_nil ?_
  refine W_seq ?_
  refine W_region ?_
  refine wl_val (rn_move (by conv => lhs; whnf)) ?_
  refine wl_val (rn_nilCheck rfl) ?_
  refine wl_val (rn_fieldAddr f_174_1 (by decide) rfl) ?_
  refine wl_val (rn_load1 p_3 rfl hB0 rfl) ?_
  refine wl_val (rn_add rfl rfl (by omega)) ?_
  refine wl_val (rn_nilCheck rfl) ?_
  refine wl_val (rn_fieldAddr f_174_1 (by decide) rfl) ?_
  have hBo := hB0
  refine wl_store1 (b := b0) p_3 rfl (by conv => lhs; whnf) rfl rfl hB0 (Nat.le_of_ble_eq_true rfl) ?_; intro w1 hE1 hB0 hz1
  replace hX := hX.mine hE1 hl0
  replace h := h.setBox hE1 hB0 (r' := ⟨r.s, r.at_ + 1, r.done⟩) rfl rfl
  replace hTb := hTb.ext hE1 (B := B) (fun j hj => by subst hj; exact hBD _ (.inl rfl)) hG
  replace hR := hR.ext hE1 (B := B) (fun j hj => by subst hj; exact hBD _ (.inl rfl)) h1B
  refine wl_nil ?_
  refine W_seq ?_
  refine W_region ?_
  refine wl_val (rn_move (by conv => lhs; whnf)) ?_
  have hz14 := h.lt
  refine wl_call e_97 rfl (splitN_ok w1 (picksL l) (by omega)) ?_; intro v14 w2 hE2 hR2
  replace hX := hX.tr hE2
  replace hB0 := hB0.ext hE2 id
  replace h := h.non hE2
  replace hTb := hTb.non hE2
  replace hR := hR.non hE2
  have hs := (hR2).sub (M' := fun i => Dy b0 oT oP oL i ∨ (World.heap w2).size ≤ i) (fun i hi hlt => hi.elim (fun hi => hz14 i hi) (fun hi => absurd hlt (Nat.not_lt.2 hi))); rw [spl_picks] at hs; obtain ⟨a14, c14, hv14, _⟩ := id hs.len; subst hv14; obtain ⟨bb, oo, ea⟩ := hs.base (by simp); subst ea; simp only [List.length_map] at hs ⊢; have hcap := sl_cap hs; have hlen1 : 1 ≤ (sPicks :: l.map Lib.itoa).length := by simp
  refine wl_val (rn_assign (by conv => lhs; whnf)) ?_
  refine wl_nil ?_
  refine W_seq ?_
  refine W_block ?_   -- block 0
  refine W_seq ?_
  refine W_region ?_
  refine wl_val (rn_move (by conv => lhs; whnf)) ?_
  refine wl_val (rn_nilCheck rfl) ?_
  refine wl_val (rn_fieldAddr f_174_2 (by decide) rfl) ?_
  refine wl_val (rn_load1 p_4 rfl hB0 rfl) ?_
  refine wl_val (rn_assign (by conv => lhs; whnf)) ?_
  refine wl_nil ?_
  refine W_cond rfl (fun hc0 => ?_) (fun hc0 => ?_)
  · exact absurd hc0 (by rw [hd]; decide)
  · refine W_seq ?_
    refine W_region ?_
    refine wl_val (rn_move (by conv => lhs; whnf)) ?_
    refine wl_val (rn_nilCheck rfl) ?_
    refine wl_val (rn_fieldAddr f_174_1 (by decide) rfl) ?_
    refine wl_val (rn_load1 p_3 rfl hB0 rfl) ?_
    refine wl_val (rn_eql rfl rfl) ?_
    refine wl_val (rn_assign (by conv => lhs; whnf)) ?_
    refine wl_nil ?_
    refine W_cond rfl (fun hc1 => ?_) (fun hc1 => ?_)
    · exact absurd (of_decide_eq_true hc1) (by omega)
    · refine W_seq ?_
      refine W_region ?_
      refine wl_val (rn_move (by conv => lhs; whnf)) ?_
      refine wl_val (rn_nilCheck rfl) ?_
      refine wl_val (rn_fieldAddr f_174_1 (by decide) rfl) ?_
      refine wl_val (rn_load1 p_3 rfl hB0 rfl) ?_
      refine wl_val (rn_eql rfl rfl) ?_
      refine wl_val (rn_assign (by conv => lhs; whnf)) ?_
      refine wl_nil ?_
      refine W_cond rfl (fun hc2 => ?_) (fun hc2 => ?_)
      · exact absurd (of_decide_eq_true hc2) (by omega)
      · refine W_seq ?_
        refine W_region ?_
        refine wl_val (rn_move (by conv => lhs; whnf)) ?_
        refine wl_val (rn_indexAddr sl_68 rfl rfl (by simp)) ?_
        refine wl_val (rn_load p_9 rfl (hs.at0 (eS_at (i := 0) rfl) rfl)) ?_
        refine wl_val (rn_seql rfl rfl) ?_
        refine wl_val (rn_assign (by conv => lhs; whnf)) ?_
        refine wl_nil ?_
        refine W_cond rfl (fun hc3 => ?_) (fun hc3 => ?_)
        · refine W_seq ?_
          refine W_region ?_
          refine wl_val (rn_move (by conv => lhs; whnf)) ?_
          refine wl_val (rn_move (by conv => lhs; whnf)) ?_
          refine wl_val (rn_slice sl_68 (l := 1) (h := (sPicks :: l.map Lib.itoa).length) (m := c14) rfl ⟨_, rfl⟩ rfl rfl (by simp) (by omega) (by omega) (by omega)) ?_
          refine wl_callM e_152 rfl (picks_ok w2 X b0 ⟨r.s, r.at_ + 1, r.done⟩ h (fun i hi => Nat.lt_of_lt_of_le (hXo i hi) hX.size) (by show r.at_ + 1 ≤ 1000000; exact hat1) l hln hl4 hpr hpk (sl_tail hs) B hBD hG h1B hTb hR) ?_; rintro v52 w3 hE3 ⟨rfl, hN⟩
          have hXz := hX.size
          replace hX := hX.trans hE3
          refine wl_val (rn_assign (by conv => lhs; whnf)) ?_
          refine wl_nil ?_
          refine W_ret ?_
          exact ⟨_, resR1 (res1_tmp rfl), hX, ⟨rfl, hN.base hXz⟩⟩
        · exact absurd rfl (of_decide_eq_false hc3)
end Go.Proofs.YthcclgoidchkdaaDoorC

/- A script's reader beside an iterator; pieces of a text. -/
set_option linter.unusedVariables false
set_option linter.unusedSimpArgs false
namespace Go.Proofs.YthcclgoidchkdaaDoorC
open Go.RowKit
section
variable {X : Nat → Prop} {A : World} {b : Nat} {r : ScS} {vT vP : Value} {oT oP oL : Option Nat} {ini : List (Value × List OpD)} {lst : Option (Value × List OpD)}
/-- What changes is another's. -/
theorem RdP.extX (h : RdP X A b r vT vP oT oP oL ini lst) {M : Nat → Prop} {B : World} (hE : Ext M A B) (hm : ∀ i, M i → X i) : RdP X B b r vT vP oT oP oL ini lst :=
  ⟨h.box.ext hE (fun e => h.nx b (.inl rfl) (hm b e)), h.thr, h.own.ext hE (fun i hi e => h.nx i (.inr (.inl hi)) (hm i e)), h.pk.ext hE (fun i hi e => h.nx i (.inr (.inr (.inl hi))) (hm i e)), fun p hp => (h.inn p hp).ext hE (fun i hi => .inl (hm i hi)),
    fun p hp => (h.lsl p hp).ext hE (fun i hi e => h.nx i (.inr (.inr (.inr hi))) (hm i e)), h.lno, h.neT, h.neP, h.neL, h.nx⟩
/-- Others become more. -/
theorem RdP.subX (h : RdP X A b r vT vP oT oP oL ini lst) {X' : Nat → Prop} (hs : ∀ p ∈ ini, Sl (fun i => X' i ∨ Dy b oT oP oL i) A p.1 5 (p.2.map OpD.enc)) (hn : ∀ i, Dy b oT oP oL i → ¬ X' i) : RdP X' A b r vT vP oT oP oL ini lst :=
  ⟨h.box, h.thr, h.own, h.pk, hs, h.lsl, h.lno, h.neT, h.neP, h.neL, hn⟩
theorem RdP.thrsX (h : RdP X A b r vT vP oT oP oL ini lst) : Thr X A vT (ini ++ lst.toList) := by
  refine ⟨h.own.sl (M := X) (fun i hi e => h.nx i (.inr (.inl hi)) e), fun p hp => ?_⟩
  rcases List.mem_append.1 hp with hp | hp
  · exact (h.inn p hp).sub (fun i hi _ => .inl hi)
  · cases hl : lst with
    | none => rw [hl] at hp; cases hp
    | some q =>
      rw [hl] at hp
      simp only [Option.toList_some, List.mem_singleton] at hp
      subst hp
      exact (h.lsl _ hl).sl (M := X) (fun i hi e => h.nx i (.inr (.inr (.inr hi))) e)
theorem RdP.scmX (h : RdP X A b r vT vP oT oP oL ini lst) : ScM X A [.int .i64 r.s.subs, .int .i64 r.s.cap, vT, vP] r.s := ⟨vT, vP, _, rfl, h.thr, h.thrsX, h.pk.sl (M := X) (fun i hi e => h.nx i (.inr (.inr (.inl hi))) e)⟩
end
theorem RdN.non {X : Nat → Prop} {A B : World} {b : Nat} {r : ScS} {n : Nat} {D : Nat → Prop} (h : RdN X A b r n D) (hE : Ext Non A B) : RdN X B b r n D := by
  obtain ⟨vT, vP, oT, oP, oL, ini, lst, h1, h2⟩ := h
  exact ⟨vT, vP, oT, oP, oL, ini, lst, h1.non hE, h2⟩
theorem RdN.extX {X : Nat → Prop} {A B : World} {b : Nat} {r : ScS} {n : Nat} {D : Nat → Prop} (h : RdN X A b r n D) {M : Nat → Prop} (hE : Ext M A B) (hm : ∀ i, M i → X i) : RdN X B b r n D := by
  obtain ⟨vT, vP, oT, oP, oL, ini, lst, h1, h2⟩ := h
  exact ⟨vT, vP, oT, oP, oL, ini, lst, h1.extX hE hm, h2⟩
theorem RdN.weaken {X : Nat → Prop} {B : World} {b : Nat} {r : ScS} {n m : Nat} {D D' : Nat → Prop} (h : RdN X B b r n D) (hD : ∀ i, D i → D' i ∨ m ≤ i) (hm : m ≤ n) : RdN X B b r m D' := by
  obtain ⟨vT, vP, oT, oP, oL, ini, lst, h1, h2⟩ := h
  exact ⟨vT, vP, oT, oP, oL, ini, lst, h1, fun i hi => (h2 i hi).elim (fun h => hD i h) (fun h => .inr (Nat.le_trans hm h))⟩
theorem Stab.rdN {n0 : Nat} (F : Nat → Prop) (b : Nat) (r : ScS) (n : Nat) (D : Nat → Prop) : Stab n0 (fun N A => RdN (fun i => N i ∨ F i) A b r n D) := fun N A B hN hA h hE => by
  obtain ⟨vT, vP, oT, oP, oL, ini, lst, h1, h2⟩ := h
  have hlt := h1.lt
  have h3 := h1.extX hE (fun i hi => .inl hi)
  refine ⟨vT, vP, oT, oP, oL, ini, lst, h3.subX (fun p hp => ?_) (fun i hi hx => ?_), h2⟩
  · have q := (h1.inn p hp)
    have q2 : Sl (fun i => N i ∨ (F i ∨ Dy b oT oP oL i)) A p.1 5 (p.2.map OpD.enc) := q.sub (fun i hi _ => by rcases hi with hi | hi | hi; exact .inl (.inl hi); exact .inl (.inr hi); exact .inr hi)
    have q3 := Stab.slB (n0 := n0) (fun i => F i ∨ Dy b oT oP oL i) p.1 5 (p.2.map OpD.enc) N A B hN hA q2 hE
    exact q3.sub (fun i hi _ => by rcases hi with (hi | hi) | hi; exact .inl hi; exact .inr (.inl hi); exact .inr (.inr hi))
  · rcases hx with hx | hx
    · rcases hx with hx | hx
      · exact h1.nx i hi (.inl hx)
      · have := hlt i hi; omega
    · exact h1.nx i hi (.inr hx)
/-! ### pieces -/
def splA (s : Str) : List Str := (spl 10 s).dropLast.map (· ++ [10]) ++ [(spl 10 s).getLast (spl_ne 10 s)]
theorem splA_cut {s : Str} (h : (10 : UInt8) ∈ s) : splA s = (pre1 10 s ++ [10]) :: splA (s.drop ((pre1 10 s).length + 1)) := by
  unfold splA
  have e := spl_cut h
  have hne := spl_ne 10 (s.drop ((pre1 10 s).length + 1))
  simp only [e, List.dropLast_cons_of_ne_nil hne, List.map_cons, List.cons_append, List.getLast_cons hne]
theorem splA_not {s : Str} (h : ¬ (10 : UInt8) ∈ s) : splA s = [s] := by
  unfold splA
  have e := spl_not h
  simp only [e, List.dropLast_singleton, List.map_nil, List.nil_append, List.getLast_singleton]
theorem pre1_line {a rest : Str} (h : ¬ (10 : UInt8) ∈ a) : pre1 10 (a ++ 10 :: rest) = a := by
  unfold pre1
  induction a with
  | nil => rfl
  | cons c a ih =>
    simp only [List.mem_cons, not_or] at h
    rw [List.cons_append, List.takeWhile_cons, if_pos (by simpa using fun e => h.1 e.symm), ih h.2]
theorem take_pre1 {s : Str} (h : (10 : UInt8) ∈ s) : s.take ((pre1 10 s).length + 1) = pre1 10 s ++ [10] := by
  rw [List.take_add_one, pre1_take, pre1_mem h]; rfl
theorem splA_lines : ∀ l : List Cmd, splA (linesC l) = l.map (fun c => c.text ++ [10]) ++ [[]]
  | [] => by rw [show linesC [] = [] from rfl, splA_not (by simp)]; rfl
  | c :: l => by
    have ih := splA_lines l
    have hnl := cmd_nl c
    have e : linesC (c :: l) = c.text ++ 10 :: linesC l := by simp [linesC]
    rw [e, splA_cut (by simp), pre1_line hnl]
    have e2 : (c.text ++ 10 :: linesC l).drop (c.text.length + 1) = linesC l := by
      rw [List.drop_append, List.drop_of_length_le (Nat.le_succ _), List.nil_append, show c.text.length + 1 - c.text.length = 1 by omega, List.drop_succ_cons, List.drop_zero]
    rw [e2, ih]; rfl
theorem piece_at {l : List Cmd} {i : Nat} {x : Str} (h : (splA (linesC l))[i]? = some x) : (x = [] ∧ i = l.length) ∨ ∃ c, l[i]? = some c ∧ x = c.text ++ [10] := by
  rw [splA_lines] at h
  by_cases hi : i < l.length
  · rw [List.getElem?_append_left (by simpa using hi), List.getElem?_map] at h
    obtain ⟨c, hc, rfl⟩ := Option.map_eq_some_iff.1 h
    exact .inr ⟨c, hc, rfl⟩
  · rw [List.getElem?_append_right (by simpa using hi), List.length_map] at h
    have : i - l.length = 0 := by
      apply Classical.byContradiction; intro h0
      rw [List.getElem?_eq_none (by simp; omega)] at h; cases h
    rw [this] at h
    simp only [List.getElem?_cons_zero, Option.some.injEq] at h
    exact .inl ⟨h.symm, by omega⟩
end Go.Proofs.YthcclgoidchkdaaDoorC
