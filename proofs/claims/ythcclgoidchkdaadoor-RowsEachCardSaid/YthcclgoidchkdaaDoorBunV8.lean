/- Rows and answers as texts: the program's and the document's. -/
import Derived.Test.YthcclgoidchkdaaDoorBunV7
import Derived.Test.YthcclgoidchkdaaDoorBunV4
set_option linter.unusedVariables false
set_option linter.unusedSimpArgs false
set_option maxRecDepth 100000
namespace Go.Proofs.YthcclgoidchkdaaDoorC
open Go.RowKit
-- (*strings.Builder).WriteString
theorem writeString_ok (w : World) (b0 : Nat) {v : Value} {o : Option Nat} (l s : Str) (hb : Bld w b0 v o l) (hn : l.length + s.length ≤ 1000000) : FnM Tryd.prog (fun i => i = b0 ∨ o = some i) 102 #[.pointer (some ⟨b0, 0, none⟩), Sv s] w fun u w' => (∃ x, u = .tuple #[.int .i64 x, .nilIface]) ∧ ∃ v' o', Bld w' b0 v' o' (l ++ s) ∧ (∀ j, o' = some j → o = some j ∨ w.heap.size ≤ j) := by
  obtain ⟨p, hp, hZ⟩ := hb.cell
  have hO := hb.own; have hR := hb.row; have hne := hb.ne
  have hB0 := hZ.box
  have hl0 : Mine (fun i => i = b0 ∨ o = some i) w b0 := .inl (.inl rfl)
  have hblt := hb.lt
  have hX := Ext.refl (fun i => i = b0 ∨ o = some i) w
  refine fnM_of_W (args := [_, _]) Tryd.func102 rfl (by kernel_rfl) rfl ?_
  refine W_seq ?_
  refine W_region ?_
  refine wl_val (rn_assign (by conv => lhs; whnf)) ?_
  refine wl_val (rn_assign (by conv => lhs; whnf)) ?_
  refine wl_nil ?_
  refine W_seq ?_
  refine W_region ?_
  refine wl_val (rn_move (by conv => lhs; whnf)) ?_
  refine wl_callM e_140 rfl (copyCheck_ok w b0 hp hZ) ?_; rintro v7 w1 hE1 ⟨_, hZ⟩
  replace hX := hX.mine hE1 hl0; replace hB0 := hZ.box; replace hR := ownsRow_ext hR hO hE1 hne; replace hO := hO.ext hE1 hne
  refine wl_nil ?_
  refine W_seq ?_
  refine W_region ?_
  refine wl_val (rn_move (by conv => lhs; whnf)) ?_
  refine wl_val (rn_move (by conv => lhs; whnf)) ?_
  refine wl_val (rn_nilCheck rfl) ?_
  refine wl_val (rn_fieldAddr f_144_1 (by decide) rfl) ?_
  refine wl_val (rn_load1 p_23 rfl hB0 rfl) ?_
  refine wl_val (rn_move (by conv => lhs; whnf)) ?_
  have hXo := hX
  refine wl_appTs (l2 := s) sl_23 (by kernel_rfl) us_9 rfl rfl hO hR (by omega) ?_; intro v14 w2 o14 hE2 hO14 hR14 hf14
  replace hX := hX.mineO hE2 (fun j hj => .inl (.inr hj)); replace hZ := hZ.ext hE2 (fun h => hne _ h rfl); replace hB0 := hZ.box
  refine wl_val (rn_nilCheck rfl) ?_
  refine wl_val (rn_fieldAddr f_144_1 (by decide) rfl) ?_
  obtain ⟨a14, c14, hv14⟩ := id hO14.len; subst hv14
  have hZlt := hZ.box.lt
  have hne14 : ∀ j, o14 = some j → j ≠ b0 := fun j hj e => by rcases hf14 j hj with h | h; exact hne j h e; have := hXo.size; omega
  refine wl_store1T (b := b0) p_23 rfl rfl rfl rfl hZ (Nat.le_of_ble_eq_true rfl) ?_; intro w3 hE3 hZ hz3
  replace hX := hX.mine hE3 hl0; replace hR14 := ownsRow_ext hR14 hO14 hE3 hne14; replace hO14 := hO14.ext hE3 hne14
  refine wl_nil ?_
  refine W_seq ?_
  refine W_region ?_
  refine wl_val (rn_move (by conv => lhs; whnf)) ?_
  refine wl_val (rn_slen us_9 rfl) ?_
  refine wl_val (rn_assign (by conv => lhs; whnf)) ?_
  refine wl_val (rn_assign (by conv => lhs; whnf)) ?_
  refine wl_nil ?_
  refine W_ret ?_
  exact ⟨_, resR2 (res1_tmp rfl) (res1_tmp rfl), hX, ⟨⟨_, rfl⟩, _, o14, ⟨⟨_, .inr rfl, hZ⟩, hO14, hR14, hne14⟩, fun j hj => (hf14 j hj).imp id (fun h => Nat.le_trans hXo.size h)⟩⟩
-- bellman/bellmanref27.Text
set_option maxHeartbeats 1600000 in
theorem rtextI_ok (w : World) (n : Int) (hn : I64 n) : Fn Tryd.prog 77 #[.int .i64 n] w fun u w' => u = Sv (Lib.itoa n) := by
  have hX := Ext.refl Non w
  refine fn_of_W (args := [_]) Tryd.func77 rfl (by kernel_rfl) rfl ?_
  refine W_seq ?_
  refine W_region ?_
  refine wl_val (rn_assign (by conv => lhs; whnf)) ?_
  refine wl_nil ?_
  refine W_seq ?_
  refine W_seq ?_
  refine W_region ?_
  refine wl_val (rn_move (by conv => lhs; whnf)) ?_
  refine wl_val (rn_lss rfl rfl) ?_
  refine wl_nil ?_
  refine W_cond rfl (fun hc0 => ?_) (fun hc0 => ?_)
  · have q := of_decide_eq_true hc0
    obtain ⟨K, hK1, rfl⟩ : ∃ K : Nat, 1 ≤ K ∧ n = -(K : Int) := ⟨n.natAbs, by omega, by omega⟩
    have hKl := dec_len19 (m := K) (by have := hn.1; omega)
    refine W_seq ?_
    refine W_region ?_
    refine wl_val (rn_assign (by conv => lhs; whnf)) ?_
    refine wl_nil ?_
    refine W_seq ?_
    refine W_block ?_   -- block 0
    refine W_loopS (S := Nat × Str) [0, 3] (fun ⟨k, s⟩ => [.int .i64 (-(k : Int)), Sv s]) (fun ⟨k, s⟩ A => (Ext Non w A) ∧ (k ≤ K ∧ (k = 0 → s = Lib.decDigits K) ∧ (1 ≤ k → Lib.decDigits K = Lib.decDigits k ++ s))) (fun ⟨k, s⟩ => k) (K, []) ⟨rfl, rfl, trivial⟩ ⟨hX, ⟨Nat.le_refl _, fun h => absurd h (by omega), fun _ => (List.append_nil _).symm⟩⟩ ?_
    rintro τ0 ⟨k, s⟩ A0 ⟨hX, hI0⟩
    obtain ⟨hkK, hI1, hI2⟩ := hI0
    have hr1 := hn.1
    refine W_seq ?_
    refine W_seq ?_
    refine W_region ?_
    refine wl_val (rn_move (by conv => lhs; whnf)) ?_
    refine wl_val (rn_lss rfl rfl) ?_
    refine wl_nil ?_
    refine W_cond rfl (fun hc1 => ?_) (fun hc1 => ?_)
    · have q1 := of_decide_eq_true hc1
      have hk1 : 1 ≤ k := by omega
      have hd := hI2 hk1
      have hlk := congrArg List.length hd; rw [List.length_append] at hlk
      have hd1 : (Lib.decDigits (k % 10)).length = 1 := by rw [Lib.decDigits_one (by omega)]; rfl
      refine W_skip ?_
      refine W_block ?_   -- block 1
      refine W_seq ?_
      refine W_region ?_
      refine wl_val (rn_move (by conv => lhs; whnf)) ?_
      refine wl_val (Rn.cast (rn_tmod rfl rfl (by decide)) (v' := .int .i64 (-((k % 10 : Nat) : Int))) (congrArg (Value.int .i64) (negmod k))) ?_
      refine wl_val (Rn.cast (rn_neg rfl (by omega)) (v' := .int .i64 ((k % 10 : Nat) : Int)) (congrArg (Value.int .i64) (by omega))) ?_
      refine wl_val (rn_assign (by conv => lhs; whnf)) ?_
      refine wl_nil ?_
      refine W_seq ?_
      refine W_region ?_
      refine wl_val (rn_move (by conv => lhs; whnf)) ?_
      refine wl_val (rn_move (by conv => lhs; whnf)) ?_
      refine wl_val (rn_add rfl rfl (by omega)) ?_
      refine wl_val (Rn.cast (rn_sslice us_9 (l := k % 10) (h := k % 10 + 1) (a := digs) rfl ⟨_, rfl⟩ ⟨_, rfl⟩ (by omega) (show k % 10 + 1 ≤ 10 by omega)) (v' := Sv (Lib.decDigits (k % 10))) (congrArg Sv ((one_at (digs_at (by omega))).trans (Lib.decDigits_one (by omega)).symm))) ?_
      refine wl_val (rn_move (by conv => lhs; whnf)) ?_
      refine wl_val (rn_sadd rfl rfl (by omega)) ?_
      refine wl_val (rn_assign (by conv => lhs; whnf)) ?_
      refine wl_nil ?_
      refine W_region ?_
      refine wl_val (rn_move (by conv => lhs; whnf)) ?_
      refine wl_val (Rn.cast (rn_quo rfl rfl (by decide) (by show _ ≤ (-(k : Int)).tdiv 10 ∧ (-(k : Int)).tdiv 10 ≤ _; rw [negquo]; omega)) (v' := .int .i64 (-((k / 10 : Nat) : Int))) (congrArg (Value.int .i64) (negquo k))) ?_
      refine wl_val (rn_assign (by conv => lhs; whnf)) ?_
      refine wl_nil ?_
      exact ⟨rfl, (k / 10, Lib.decDigits (k % 10) ++ s), ⟨rfl, rfl, trivial⟩, ⟨hX, ⟨by omega, fun h => by rw [hd, Nat.mod_eq_of_lt (show k < 10 by omega)], fun h => by rw [hd, dec_snoc (n := k) (by omega), List.append_assoc]⟩⟩, by show k / 10 < k; omega⟩
    · have q1 := of_decide_eq_false hc1
      obtain rfl : k = 0 := by omega
      have hs := hI1 rfl
      have hsl := congrArg List.length hs
      refine W_exit ?_   -- exit 0
      refine W_seq ?_
      refine W_region ?_
      refine wl_val (rn_move (by conv => lhs; whnf)) ?_
      refine wl_val (rn_sadd rfl rfl (by simp only [List.length_cons, List.length_nil]; omega)) ?_
      refine wl_val (rn_assign (by conv => lhs; whnf)) ?_
      refine wl_nil ?_
      refine W_ret ?_
      exact ⟨_, resR1 (res1_tmp rfl), hX, by rw [itoa_neg hK1, ← hs]; rfl⟩
  · have q := of_decide_eq_false hc0
    obtain ⟨K, rfl⟩ : ∃ K : Nat, n = (K : Int) := ⟨n.toNat, by omega⟩
    have hKl := dec_len19 (m := K) (by have := hn.2; omega)
    refine W_skip ?_
    refine W_seq ?_
    refine W_region ?_
    refine wl_val (rn_move (by conv => lhs; whnf)) ?_
    refine wl_val (rn_remN (b := 10) rfl rfl (by decide)) ?_
    refine wl_val (rn_move (by conv => lhs; whnf)) ?_
    refine wl_val (rn_remN (b := 10) rfl rfl (by decide)) ?_
    refine wl_val (rn_add rfl rfl (by omega)) ?_
    refine wl_val (Rn.cast (rn_sslice us_9 (l := K % 10) (h := K % 10 + 1) (a := digs) rfl ⟨_, rfl⟩ ⟨_, rfl⟩ (by omega) (show K % 10 + 1 ≤ 10 by omega)) (v' := Sv (Lib.decDigits (K % 10))) (congrArg Sv ((one_at (digs_at (by omega))).trans (Lib.decDigits_one (by omega)).symm))) ?_
    refine wl_val (rn_assign (by conv => lhs; whnf)) ?_
    refine wl_nil ?_
    refine W_seq ?_
    refine W_block ?_   -- block 2
    refine W_loopS (S := Nat × Str) [0, 5] (fun ⟨k, s⟩ => [.int .i64 (k : Nat), Sv s]) (fun ⟨k, s⟩ A => (Ext Non w A) ∧ (k ≤ K ∧ (k < 10 → s = Lib.decDigits K) ∧ (10 ≤ k → Lib.decDigits K = Lib.decDigits (k / 10) ++ s))) (fun ⟨k, s⟩ => k) (K, Lib.decDigits (K % 10)) ⟨rfl, rfl, trivial⟩ ⟨hX, ⟨Nat.le_refl _, fun h => by rw [Nat.mod_eq_of_lt h], fun h => dec_snoc (by omega)⟩⟩ ?_
    rintro τ1 ⟨k, s⟩ A1 ⟨hX, hI1⟩
    obtain ⟨hkK, hI1, hI2⟩ := hI1
    have hr1 := hn.2
    refine W_seq ?_
    refine W_seq ?_
    refine W_region ?_
    refine wl_val (rn_move (by conv => lhs; whnf)) ?_
    refine wl_val (rn_geq rfl rfl) ?_
    refine wl_nil ?_
    refine W_cond rfl (fun hc2 => ?_) (fun hc2 => ?_)
    · have q2 := of_decide_eq_true hc2
      have hk10 : 10 ≤ k := by omega
      have hd := hI2 hk10
      have hlk := congrArg List.length hd; rw [List.length_append] at hlk
      have hd1 : (Lib.decDigits (k / 10 % 10)).length = 1 := by rw [Lib.decDigits_one (by omega)]; rfl
      refine W_skip ?_
      refine W_block ?_   -- block 3
      refine W_seq ?_
      refine W_region ?_
      refine wl_val (rn_move (by conv => lhs; whnf)) ?_
      refine wl_val (rn_quoN (b := 10) rfl rfl (by decide) (wrap_id (by omega))) ?_
      refine wl_val (rn_assign (by conv => lhs; whnf)) ?_
      refine wl_nil ?_
      refine W_region ?_
      refine wl_val (rn_move (by conv => lhs; whnf)) ?_
      refine wl_val (rn_remN (b := 10) rfl rfl (by decide)) ?_
      refine wl_val (rn_move (by conv => lhs; whnf)) ?_
      refine wl_val (rn_remN (b := 10) rfl rfl (by decide)) ?_
      refine wl_val (rn_add rfl rfl (by omega)) ?_
      refine wl_val (Rn.cast (rn_sslice us_9 (l := k / 10 % 10) (h := k / 10 % 10 + 1) (a := digs) rfl ⟨_, rfl⟩ ⟨_, rfl⟩ (by omega) (show k / 10 % 10 + 1 ≤ 10 by omega)) (v' := Sv (Lib.decDigits (k / 10 % 10))) (congrArg Sv ((one_at (digs_at (by omega))).trans (Lib.decDigits_one (by omega)).symm))) ?_
      refine wl_val (rn_move (by conv => lhs; whnf)) ?_
      refine wl_val (rn_sadd rfl rfl (by omega)) ?_
      refine wl_val (rn_assign (by conv => lhs; whnf)) ?_
      refine wl_nil ?_
      exact ⟨rfl, (k / 10, Lib.decDigits (k / 10 % 10) ++ s), ⟨rfl, rfl, trivial⟩, ⟨hX, ⟨by omega, fun h => by rw [hd, Nat.mod_eq_of_lt h], fun h => by rw [hd, dec_snoc (n := k / 10) (by omega), List.append_assoc]⟩⟩, by show k / 10 < k; omega⟩
    · have q2 := of_decide_eq_false hc2
      have hs := hI1 (by omega)
      refine W_exit ?_   -- exit 2
      refine W_seq ?_
      refine W_region ?_
      refine wl_val (rn_move (by conv => lhs; whnf)) ?_
      refine wl_val (rn_assign (by conv => lhs; whnf)) ?_
      refine wl_nil ?_
      refine W_ret ?_
      exact ⟨_, resR1 (res1_tmp rfl), hX, by rw [itoa_nat, ← hs] <;> rfl⟩
-- bellman/rows.Answer
set_option maxHeartbeats 3200000 in
theorem answer_ok (w : World) (a : AnsD) (hok : AnsOk a) (hT : Tab w) : Fn Tryd.prog 53 #[.agg a.enc.toArray] w fun u w' => u = Sv (ansR a) := by
  obtain ⟨e, x, y, ⟨t, p, k⟩⟩ := a
  obtain ⟨he, hx, hy, ht, hp⟩ := hok
  simp only at he hx hy ht hp
  have hle := itoa_len he; have hlx := itoa_len hx; have hly := itoa_len hy; have hlt := wordR_len t; have hlp := wordR_len p
  have hG := hT.gl (Nat.le_refl w.heap.size)
  have hX := Ext.refl Non w
  refine fn_of_W (args := [_]) Tryd.func53 rfl (by kernel_rfl) rfl ?_
  refine W_seq ?_
  refine W_region ?_
  refine wl_boxS rfl ?_; intro b1 w1 hb1 hE1 hB1
  have hq1 : w.heap.size ≤ b1 := Nat.le_trans hX.size hb1
  have hl1 : Mine Non w b1 := .inr hq1
  replace hX := hX.tr hE1
  replace hT := hT.non hE1
  refine wl_val (rn_assign (by conv => lhs; whnf)) ?_
  refine wl_nil ?_
  refine W_seq ?_
  refine W_seq ?_
  refine W_region ?_
  refine wl_val (rn_fieldAddr f_34_0 (by decide) rfl) ?_
  refine wl_val (rn_load1 p_30 rfl hB1 rfl) ?_
  refine wl_val (rn_neq rfl rfl) ?_
  refine wl_nil ?_
  refine W_cond rfl (fun hc0 => ?_) (fun hc0 => ?_)
  · refine W_seq ?_
    refine W_region ?_
    refine wl_val (rn_fieldAddr f_34_0 (by decide) rfl) ?_
    refine wl_val (rn_load1 p_30 rfl hB1 rfl) ?_
    refine wl_call e_93 rfl (itoa_ok w1 e he hT) ?_; intro v10 w2 hE2 hR2
    replace hX := hX.tr hE2
    replace hB1 := hB1.ext hE2 id
    replace hT := hT.non hE2
    subst hR2
    refine wl_val (rn_sadd rfl rfl (by first | omega | (simp only [List.length_append, List.length_cons, List.length_nil]; omega))) ?_
    refine wl_val (rn_assign (by conv => lhs; whnf)) ?_
    refine wl_nil ?_
    refine W_ret ?_
    exact ⟨_, resR1 (res1_tmp rfl), hX, by rw [ansR_err (of_decide_eq_true hc0)]; rfl⟩
  · obtain rfl : e = 0 := Classical.not_not.1 (of_decide_eq_false hc0)
    refine W_skip ?_
    refine W_seq ?_
    refine W_drawX (fun j => false) mixed ?_; intro w3 hE3
    replace hX := hX.tr hE3
    replace hB1 := hB1.ext hE3 id
    replace hT := hT.non hE3
    have hS := Ext.refl Non w3
    refine wx_take 0 [1, 2, 5, 6, 7] _ _ rfl (by kernel_rfl) hS (yd_do fun A hA => rn_fieldAddr f_34_1 (by decide) rfl) ?_
    refine wx_take 1 [2, 5, 6, 7] _ _ rfl (by kernel_rfl) hS (yd_do fun A hA => rn_load1 p_3 rfl (hB1.ext hA id) rfl) ?_
    refine wx_take 3 [4, 5, 6, 7] _ _ rfl (by kernel_rfl) hS (yd_do fun A hA => rn_fieldAddr f_34_2 (by decide) rfl) ?_
    refine wx_take 4 [5, 6, 7] _ _ rfl (by kernel_rfl) hS (yd_do fun A hA => rn_load1 p_3 rfl (hB1.ext hA id) rfl) ?_
    refine wx_only 2 _ rfl (by kernel_rfl) ?_
    refine s1_do ?_
    refine wl_call e_93 rfl (itoa_ok w3 x hx (hT.non hS)) ?_; intro v14 w4 hE4 hR4
    replace hS := hS.tr hE4
    subst hR4
    refine wl_nil ⟨fun _ => hS, ?_⟩
    refine wx_only 5 _ rfl (by kernel_rfl) ?_
    refine s1_do ?_
    refine wl_call e_93 rfl (itoa_ok w4 y hy (hT.non hS)) ?_; intro v17 w5 hE5 hR5
    replace hS := hS.tr hE5
    subst hR5
    refine wl_nil ⟨fun _ => hS, ?_⟩
    refine wx_only 6 _ rfl (by kernel_rfl) ?_
    refine s1_do ?_
    refine wl_lit sl_68 (rows := [sOk, Lib.itoa x, Lib.itoa y].map eS) rfl (by decide) (by decide) rfl rfl (by intro r hr; obtain ⟨x, _, rfl⟩ := List.mem_map.1 hr; rfl) (by intro p hp; simp at hp; rcases hp with rfl | rfl | rfl <;> exact ⟨rfl, Nat.le_of_ble_eq_true rfl⟩) rfl ?_; intro v18 w6 b18 hb18 hE6 hO18
    have hO : OwO w6 v18 (some b18) 1 ([sOk, Lib.itoa x, Lib.itoa y].map eS) := .inr ⟨b18, [], rfl, hO18⟩
    have ho : ∀ i, some b18 = some i → w.heap.size ≤ i := fun i h => by cases h; exact Nat.le_trans hX.size (Nat.le_trans hS.size hb18)
    have ho2 : ∀ i, some b18 = some i → b1 < i := fun i h => by cases h; exact Nat.lt_of_lt_of_le hB1.lt (Nat.le_trans hS.size hb18)
    replace hS := hS.tr hE6
    refine wl_nil ⟨fun _ => hS, ?_⟩
    refine wx_take 7 [] _ _ rfl (by kernel_rfl) hS (yd_do fun A hA => rn_assign (by conv => lhs; whnf)) ?_
    refine wx_done (by kernel_rfl) ?_ _
    replace hX := hX.tr hS
    replace hB1 := hB1.ext hS id
    replace hT := hT.non hS
    refine W_seq ?_
    refine W_seq ?_
    refine W_region ?_
    refine wl_val (rn_fieldAddr f_34_3 (by decide) rfl) ?_
    refine wl_val (rn_loadS s_32 (vs := MsgD.enc ⟨t, p, k⟩) rfl rfl (hB1.part rfl (Nat.le_of_ble_eq_true rfl))) ?_
    refine wl_val (rn_build' b_32 rfl rfl (cs := mZ.enc) rfl) ?_
    refine wl_val (rn_neqS rfl rfl eg_32 (by decide) (msg_eqs _ _)) ?_
    refine wl_nil ?_
    refine W_cond rfl (fun hc1 => ?_) (fun hc1 => ?_)
    · have hz : ¬ (⟨t, p, k⟩ : MsgD) = mZ := by intro h; rw [h] at hc1; exact absurd hc1 (by decide)
      refine W_seq ?_
      refine W_region ?_
      refine wl_val (rn_assign (by conv => lhs; whnf)) ?_
      refine wl_nil ?_
      refine W_seq ?_
      refine W_seq ?_
      refine W_region ?_
      refine wl_val (rn_fieldAddr f_34_3 (by decide) rfl) ?_
      refine wl_val (rn_fieldAddr f_32_2 (by decide) rfl) ?_
      refine wl_val (rn_load1 p_4 rfl hB1 rfl) ?_
      refine wl_nil ?_
      refine W_cond rfl (fun hc2 => ?_) (fun hc2 => ?_)
      · obtain rfl : k = true := hc2
        refine W_region ?_
        refine wl_val (rn_assign (by conv => lhs; whnf)) ?_
        refine wl_nil ?_
        refine W_drawX (fun j => j == 11 || j == 12) mixed ?_; intro w7 hE7
        replace hX := hX.tr hE7
        replace hB1 := hB1.ext hE7 id
        replace hT := hT.non hE7
        replace hO := hO.ext hE7 (fun _ _ h => h)
        have hS := Ext.refl Non w7
        refine wx_take 0 [11, 12] _ _ rfl (by kernel_rfl) hS (yd_do fun A hA => rn_move (by conv => lhs; whnf)) ?_
        refine wx_take 1 [2, 3, 4, 8, 10, 11, 12] _ _ rfl (by kernel_rfl) hS (yd_do fun A hA => rn_fieldAddr f_34_3 (by decide) rfl) ?_
        refine wx_take 2 [3, 4, 8, 10, 11, 12] _ _ rfl (by kernel_rfl) hS (yd_do fun A hA => rn_fieldAddr f_32_0 (by decide) rfl) ?_
        refine wx_take 3 [4, 8, 10, 11, 12] _ _ rfl (by kernel_rfl) hS (yd_do fun A hA => rn_load1 p_9 rfl (hB1.ext hA id) rfl) ?_
        refine wx_take 5 [6, 7, 8, 10, 11, 12] _ _ rfl (by kernel_rfl) hS (yd_do fun A hA => rn_fieldAddr f_34_3 (by decide) rfl) ?_
        refine wx_take 6 [7, 8, 10, 11, 12] _ _ rfl (by kernel_rfl) hS (yd_do fun A hA => rn_fieldAddr f_32_1 (by decide) rfl) ?_
        refine wx_take 7 [8, 10, 11, 12] _ _ rfl (by kernel_rfl) hS (yd_do fun A hA => rn_load1 p_9 rfl (hB1.ext hA id) rfl) ?_
        refine wx_take 9 [10, 11, 12] _ _ rfl (by kernel_rfl) hS (yd_do fun A hA => rn_move (by conv => lhs; whnf)) ?_
        refine wx_only 4 _ rfl (by kernel_rfl) ?_
        refine s1_do ?_
        refine wl_call e_43 rfl (oword_ok w7 t ht) ?_; intro v30 w8 hE8 hR8
        replace hS := hS.tr hE8
        subst hR8
        refine wl_nil ⟨fun _ => hS, ?_⟩
        refine wx_only 8 _ rfl (by kernel_rfl) ?_
        refine s1_do ?_
        refine wl_call e_43 rfl (oword_ok w8 p hp) ?_; intro v34 w9 hE9 hR9
        replace hS := hS.tr hE9
        subst hR9
        refine wl_nil ⟨fun _ => hS, ?_⟩
        refine wx_only 10 _ rfl (by kernel_rfl) ?_
        refine s1_do ?_
        refine wl_lit sl_68 (rows := [wordR t, wordR p, howR true].map eS) rfl (by decide) (by decide) rfl rfl (by intro r hr; obtain ⟨x, _, rfl⟩ := List.mem_map.1 hr; rfl) (by intro p hp; simp at hp; rcases hp with rfl | rfl | rfl <;> exact ⟨rfl, Nat.le_of_ble_eq_true rfl⟩) rfl ?_; intro v36 w10 b36 hb36 hE10 hO36
        replace hS := hS.tr hE10
        refine wl_nil ⟨fun _ => hS, ?_⟩
        replace hX := hX.tr hS
        replace hB1 := hB1.ext hS id
        replace hT := hT.non hS
        replace hO := hO.ext hS (fun _ _ h => h)
        refine wx_only 11 _ rfl (by kernel_rfl) ?_
        refine s1_do ?_
        have hblt := hB1.lt
        have hXo := hX
        refine wl_app sl_68 rfl rfl rfl hO (hO36.sl (M := Non) id) (fun r hr => by obtain ⟨s, _, rfl⟩ := List.mem_map.1 hr; exact one1 rfl) (Nat.le_of_ble_eq_true rfl) (Nat.le_of_ble_eq_true rfl) ?_; intro v37 w11 o37 hE11 hO37 hf37
        replace hX := hX.mineO hE11 (fun i hi => .inr (ho i hi))
        replace hB1 := hB1.ext hE11 (fun e => by have := ho2 _ e; omega)
        replace hT := hT.ext hE11 (B := w.heap.size) (fun j hj => ho j hj) hG
        replace hO := hO37
        refine wl_nil ⟨fun h => absurd h (by decide), ?_⟩
        refine wx_only 12 _ rfl (by kernel_rfl) ?_
        refine s1_do ?_
        refine wl_val (rn_assign (by conv => lhs; whnf)) ?_
        refine wl_nil ⟨fun h => absurd h (by decide), ?_⟩
        refine wx_done (by kernel_rfl) ?_ _
        refine W_seq ?_
        refine W_region ?_
        refine wl_val (rn_move (by conv => lhs; whnf)) ?_
        refine wl_call e_94 rfl (join_ok w11 [sOk, Lib.itoa x, Lib.itoa y, wordR t, wordR p, howR true] (hO.sl (M := Non) (fun _ _ h => h)) (by simp) (by rw [join6]; simp only [List.length_append, List.length_cons, List.length_nil]; have := howR_len true; omega) (Nat.le_of_ble_eq_true rfl)) ?_; intro v39 w12 hE12 hR12
        replace hX := hX.tr hE12
        replace hB1 := hB1.ext hE12 id
        replace hT := hT.non hE12
        replace hO := hO.ext hE12 (fun _ _ h => h)
        subst hR12
        refine wl_val (rn_assign (by conv => lhs; whnf)) ?_
        refine wl_nil ?_
        refine W_ret ?_
        first | exact ⟨_, resR1 (res1_tmp rfl), hX, by unfold ansR ansW; rw [if_neg (by simp), if_neg hz]; rfl⟩ | exact ⟨_, resR1 (res1_tmp rfl), hX, by unfold ansR ansW; rw [if_neg (by simp), if_pos hz]; rfl⟩
      · obtain rfl : k = false := hc2
        refine W_skip ?_
        refine W_drawX (fun j => j == 11 || j == 12) mixed ?_; intro w13 hE13
        replace hX := hX.tr hE13
        replace hB1 := hB1.ext hE13 id
        replace hT := hT.non hE13
        replace hO := hO.ext hE13 (fun _ _ h => h)
        have hS := Ext.refl Non w13
        refine wx_take 0 [11, 12] _ _ rfl (by kernel_rfl) hS (yd_do fun A hA => rn_move (by conv => lhs; whnf)) ?_
        refine wx_take 1 [2, 3, 4, 8, 10, 11, 12] _ _ rfl (by kernel_rfl) hS (yd_do fun A hA => rn_fieldAddr f_34_3 (by decide) rfl) ?_
        refine wx_take 2 [3, 4, 8, 10, 11, 12] _ _ rfl (by kernel_rfl) hS (yd_do fun A hA => rn_fieldAddr f_32_0 (by decide) rfl) ?_
        refine wx_take 3 [4, 8, 10, 11, 12] _ _ rfl (by kernel_rfl) hS (yd_do fun A hA => rn_load1 p_9 rfl (hB1.ext hA id) rfl) ?_
        refine wx_take 5 [6, 7, 8, 10, 11, 12] _ _ rfl (by kernel_rfl) hS (yd_do fun A hA => rn_fieldAddr f_34_3 (by decide) rfl) ?_
        refine wx_take 6 [7, 8, 10, 11, 12] _ _ rfl (by kernel_rfl) hS (yd_do fun A hA => rn_fieldAddr f_32_1 (by decide) rfl) ?_
        refine wx_take 7 [8, 10, 11, 12] _ _ rfl (by kernel_rfl) hS (yd_do fun A hA => rn_load1 p_9 rfl (hB1.ext hA id) rfl) ?_
        refine wx_take 9 [10, 11, 12] _ _ rfl (by kernel_rfl) hS (yd_do fun A hA => rn_move (by conv => lhs; whnf)) ?_
        refine wx_only 4 _ rfl (by kernel_rfl) ?_
        refine s1_do ?_
        refine wl_call e_43 rfl (oword_ok w13 t ht) ?_; intro v30 w14 hE14 hR14
        replace hS := hS.tr hE14
        subst hR14
        refine wl_nil ⟨fun _ => hS, ?_⟩
        refine wx_only 8 _ rfl (by kernel_rfl) ?_
        refine s1_do ?_
        refine wl_call e_43 rfl (oword_ok w14 p hp) ?_; intro v34 w15 hE15 hR15
        replace hS := hS.tr hE15
        subst hR15
        refine wl_nil ⟨fun _ => hS, ?_⟩
        refine wx_only 10 _ rfl (by kernel_rfl) ?_
        refine s1_do ?_
        refine wl_lit sl_68 (rows := [wordR t, wordR p, howR false].map eS) rfl (by decide) (by decide) rfl rfl (by intro r hr; obtain ⟨x, _, rfl⟩ := List.mem_map.1 hr; rfl) (by intro p hp; simp at hp; rcases hp with rfl | rfl | rfl <;> exact ⟨rfl, Nat.le_of_ble_eq_true rfl⟩) rfl ?_; intro v36 w16 b36 hb36 hE16 hO36
        replace hS := hS.tr hE16
        refine wl_nil ⟨fun _ => hS, ?_⟩
        replace hX := hX.tr hS
        replace hB1 := hB1.ext hS id
        replace hT := hT.non hS
        replace hO := hO.ext hS (fun _ _ h => h)
        refine wx_only 11 _ rfl (by kernel_rfl) ?_
        refine s1_do ?_
        have hblt := hB1.lt
        have hXo := hX
        refine wl_app sl_68 rfl rfl rfl hO (hO36.sl (M := Non) id) (fun r hr => by obtain ⟨s, _, rfl⟩ := List.mem_map.1 hr; exact one1 rfl) (Nat.le_of_ble_eq_true rfl) (Nat.le_of_ble_eq_true rfl) ?_; intro v37 w17 o37 hE17 hO37 hf37
        replace hX := hX.mineO hE17 (fun i hi => .inr (ho i hi))
        replace hB1 := hB1.ext hE17 (fun e => by have := ho2 _ e; omega)
        replace hT := hT.ext hE17 (B := w.heap.size) (fun j hj => ho j hj) hG
        replace hO := hO37
        refine wl_nil ⟨fun h => absurd h (by decide), ?_⟩
        refine wx_only 12 _ rfl (by kernel_rfl) ?_
        refine s1_do ?_
        refine wl_val (rn_assign (by conv => lhs; whnf)) ?_
        refine wl_nil ⟨fun h => absurd h (by decide), ?_⟩
        refine wx_done (by kernel_rfl) ?_ _
        refine W_seq ?_
        refine W_region ?_
        refine wl_val (rn_move (by conv => lhs; whnf)) ?_
        refine wl_call e_94 rfl (join_ok w17 [sOk, Lib.itoa x, Lib.itoa y, wordR t, wordR p, howR false] (hO.sl (M := Non) (fun _ _ h => h)) (by simp) (by rw [join6]; simp only [List.length_append, List.length_cons, List.length_nil]; have := howR_len false; omega) (Nat.le_of_ble_eq_true rfl)) ?_; intro v39 w18 hE18 hR18
        replace hX := hX.tr hE18
        replace hB1 := hB1.ext hE18 id
        replace hT := hT.non hE18
        replace hO := hO.ext hE18 (fun _ _ h => h)
        subst hR18
        refine wl_val (rn_assign (by conv => lhs; whnf)) ?_
        refine wl_nil ?_
        refine W_ret ?_
        first | exact ⟨_, resR1 (res1_tmp rfl), hX, by unfold ansR ansW; rw [if_neg (by simp), if_neg hz]; rfl⟩ | exact ⟨_, resR1 (res1_tmp rfl), hX, by unfold ansR ansW; rw [if_neg (by simp), if_pos hz]; rfl⟩
    · have hz : (⟨t, p, k⟩ : MsgD) = mZ := by simpa using hc1
      refine W_skip ?_
      refine W_seq ?_
      refine W_region ?_
      refine wl_val (rn_move (by conv => lhs; whnf)) ?_
      refine wl_call e_94 rfl (join_ok w6 [sOk, Lib.itoa x, Lib.itoa y] (hO.sl (M := Non) (fun _ _ h => h)) (by simp) (by rw [join3]; simp only [List.length_append, List.length_cons, List.length_nil]; omega) (Nat.le_of_ble_eq_true rfl)) ?_; intro v39 w19 hE19 hR19
      replace hX := hX.tr hE19
      replace hB1 := hB1.ext hE19 id
      replace hT := hT.non hE19
      replace hO := hO.ext hE19 (fun _ _ h => h)
      subst hR19
      refine wl_val (rn_assign (by conv => lhs; whnf)) ?_
      refine wl_nil ?_
      refine W_ret ?_
      first | exact ⟨_, resR1 (res1_tmp rfl), hX, by unfold ansR ansW; rw [if_neg (by simp), if_neg hz]; rfl⟩ | exact ⟨_, resR1 (res1_tmp rfl), hX, by unfold ansR ansW; rw [if_neg (by simp), if_pos hz]; rfl⟩
-- bellman/bellmanref27.Answer
set_option maxHeartbeats 3200000 in
theorem ranswer_ok (w : World) (a : AnsD) (hok : AnsOk a) : Fn Tryd.prog 55 #[.agg a.enc.toArray] w fun u w' => u = Sv (ansR a) := by
  obtain ⟨e, x, y, ⟨t, p, k⟩⟩ := a
  obtain ⟨he, hx, hy, ht, hp⟩ := hok
  simp only at he hx hy ht hp
  have hle := itoa_len he; have hlx := itoa_len hx; have hly := itoa_len hy; have hlt := wordR_len t; have hlp := wordR_len p
  have hX := Ext.refl Non w
  refine fn_of_W (args := [_]) Tryd.func55 rfl (by kernel_rfl) rfl ?_
  refine W_seq ?_
  refine W_region ?_
  refine wl_boxS rfl ?_; intro b1 w1 hb1 hE1 hB1
  have hq1 : w.heap.size ≤ b1 := Nat.le_trans hX.size hb1
  have hl1 : Mine Non w b1 := .inr hq1
  replace hX := hX.tr hE1
  refine wl_val (rn_assign (by conv => lhs; whnf)) ?_
  refine wl_nil ?_
  refine W_seq ?_
  refine W_seq ?_
  refine W_region ?_
  refine wl_val (rn_fieldAddr f_34_0 (by decide) rfl) ?_
  refine wl_val (rn_load1 p_30 rfl hB1 rfl) ?_
  refine wl_val (rn_neq rfl rfl) ?_
  refine wl_nil ?_
  refine W_cond rfl (fun hc0 => ?_) (fun hc0 => ?_)
  · refine W_seq ?_
    refine W_region ?_
    refine wl_val (rn_fieldAddr f_34_0 (by decide) rfl) ?_
    refine wl_val (rn_load1 p_30 rfl hB1 rfl) ?_
    refine wl_call e_77 rfl (rtextI_ok w1 e he) ?_; intro v9 w2 hE2 hR2
    replace hX := hX.tr hE2
    replace hB1 := hB1.ext hE2 id
    subst hR2
    refine wl_val (rn_sadd rfl rfl (by first | omega | (simp only [List.length_append, List.length_cons, List.length_nil]; omega))) ?_
    refine wl_val (rn_assign (by conv => lhs; whnf)) ?_
    refine wl_nil ?_
    refine W_ret ?_
    exact ⟨_, resR1 (res1_tmp rfl), hX, by rw [ansR_err (of_decide_eq_true hc0)]; rfl⟩
  · obtain rfl : e = 0 := Classical.not_not.1 (of_decide_eq_false hc0)
    refine W_skip ?_
    refine W_seq ?_
    refine W_drawE mixed ?_; intro w3 hE3
    replace hX := hX.tr hE3
    replace hB1 := hB1.ext hE3 id
    have hS := Ext.refl Non w3
    refine wd_take 0 _ _ rfl (by kernel_rfl) hS (yd_do fun A hA => rn_fieldAddr f_34_1 (by decide) rfl) ?_
    refine wd_take 1 _ _ rfl (by kernel_rfl) hS (yd_do fun A hA => rn_load1 p_3 rfl (hB1.ext hA id) rfl) ?_
    refine wd_take 5 _ _ rfl (by kernel_rfl) hS (yd_do fun A hA => rn_fieldAddr f_34_2 (by decide) rfl) ?_
    refine wd_take 6 _ _ rfl (by kernel_rfl) hS (yd_do fun A hA => rn_load1 p_3 rfl (hB1.ext hA id) rfl) ?_
    refine wd_only 2 _ rfl (by kernel_rfl) ?_
    refine s1_do ?_
    refine wl_call e_77 rfl (rtextI_ok w3 x hx) ?_; intro v13 w4 hE4 hR4
    replace hS := hS.tr hE4
    subst hR4
    refine wl_nil ⟨hS, ?_⟩
    refine wd_take 3 _ _ rfl (by kernel_rfl) hS (yd_do fun A hA => rn_sadd rfl rfl (by first | omega | (simp only [List.length_append, List.length_cons, List.length_nil]; omega))) ?_
    refine wd_take 4 _ _ rfl (by kernel_rfl) hS (yd_do fun A hA => rn_sadd rfl rfl (by first | omega | (simp only [List.length_append, List.length_cons, List.length_nil]; omega))) ?_
    refine wd_only 7 _ rfl (by kernel_rfl) ?_
    refine s1_do ?_
    refine wl_call e_77 rfl (rtextI_ok w4 y hy) ?_; intro v18 w5 hE5 hR5
    replace hS := hS.tr hE5
    subst hR5
    refine wl_nil ⟨hS, ?_⟩
    refine wd_take 8 _ _ rfl (by kernel_rfl) hS (yd_do fun A hA => rn_sadd rfl rfl (by first | omega | (simp only [List.length_append, List.length_cons, List.length_nil]; omega))) ?_
    refine wd_take 9 _ _ rfl (by kernel_rfl) hS (yd_do fun A hA => rn_assign (by conv => lhs; whnf)) ?_
    refine wd_done (by kernel_rfl) ?_ _
    replace hX := hX.tr hS
    replace hB1 := hB1.ext hS id
    refine W_seq ?_
    refine W_seq ?_
    refine W_region ?_
    refine wl_val (rn_fieldAddr f_34_3 (by decide) rfl) ?_
    refine wl_val (rn_fieldAddr f_32_0 (by decide) rfl) ?_
    refine wl_val (rn_load1 p_9 rfl hB1 rfl) ?_
    refine wl_val (rn_seql rfl rfl) ?_
    refine wl_val (rn_move (by conv => lhs; whnf)) ?_
    refine wl_split (d := 24) rfl (fun hg24 => ?_) (fun hg24 => ?_)
    · have ht0 : t = [] := of_decide_eq_true hg24
      refine wl_yes rfl (congrArg Value.bool hg24) ?_
      refine wl_val (rn_fieldAddr f_34_3 (by decide) rfl) ?_
      refine wl_yes rfl (congrArg Value.bool hg24) ?_
      refine wl_val (rn_fieldAddr f_32_1 (by decide) rfl) ?_
      refine wl_yes rfl (congrArg Value.bool hg24) ?_
      refine wl_val (rn_load1 p_9 rfl hB1 rfl) ?_
      refine wl_yes rfl (congrArg Value.bool hg24) ?_
      refine wl_val (rn_seql rfl rfl) ?_
      refine wl_val (rn_pickT (congrArg Value.bool hg24) (by conv => lhs; whnf)) ?_
      refine wl_val (rn_move (by conv => lhs; whnf)) ?_
      refine wl_split (d := 30) rfl (fun hg30 => ?_) (fun hg30 => ?_)
      · have hp0 : p = [] := of_decide_eq_true hg30
        refine wl_yes rfl (congrArg Value.bool hg30) ?_
        refine wl_val (rn_fieldAddr f_34_3 (by decide) rfl) ?_
        refine wl_yes rfl (congrArg Value.bool hg30) ?_
        refine wl_val (rn_fieldAddr f_32_2 (by decide) rfl) ?_
        refine wl_yes rfl (congrArg Value.bool hg30) ?_
        refine wl_val (rn_load1 p_4 rfl hB1 rfl) ?_
        refine wl_yes rfl (congrArg Value.bool hg30) ?_
        refine wl_val (rn_not rfl) ?_
        refine wl_val (rn_pickT (congrArg Value.bool hg30) (by conv => lhs; whnf)) ?_
        refine wl_nil ?_
        refine W_cond rfl (fun hc1 => ?_) (fun hc1 => ?_)
        · have hk0 : k = false := by simpa using hc1
          have hz : (⟨t, p, k⟩ : MsgD) = mZ := by rw [ht0, hp0, hk0]
          refine W_seq ?_
          refine W_region ?_
          refine wl_val (rn_move (by conv => lhs; whnf)) ?_
          refine wl_val (rn_assign (by conv => lhs; whnf)) ?_
          refine wl_nil ?_
          refine W_ret ?_
          first | exact ⟨_, resR1 (res1_tmp rfl), hX, by rw [ansR_3 hz]; rfl⟩ | exact ⟨_, resR1 (res1_tmp rfl), hX, by rw [ansR_6 hz, hk]; rfl⟩
        · have hk0 : k = true := by simpa using hc1
          have hz : ¬ (⟨t, p, k⟩ : MsgD) = mZ := fun h => by have := congrArg MsgD.kept h; rw [hk0] at this; cases this
          refine W_skip ?_
          refine W_seq ?_
          refine W_drawE mixed ?_; intro w6 hE6
          replace hX := hX.tr hE6
          replace hB1 := hB1.ext hE6 id
          have hS := Ext.refl Non w6
          refine wd_take 0 _ _ rfl (by kernel_rfl) hS (yd_do fun A hA => rn_move (by conv => lhs; whnf)) ?_
          refine wd_take 1 _ _ rfl (by kernel_rfl) hS (yd_do fun A hA => rn_sadd rfl rfl (by first | omega | (simp only [List.length_append, List.length_cons, List.length_nil]; omega))) ?_
          refine wd_take 2 _ _ rfl (by kernel_rfl) hS (yd_do fun A hA => rn_fieldAddr f_34_3 (by decide) rfl) ?_
          refine wd_take 3 _ _ rfl (by kernel_rfl) hS (yd_do fun A hA => rn_fieldAddr f_32_0 (by decide) rfl) ?_
          refine wd_take 4 _ _ rfl (by kernel_rfl) hS (yd_do fun A hA => rn_load1 p_9 rfl (hB1.ext hA id) rfl) ?_
          refine wd_take 8 _ _ rfl (by kernel_rfl) hS (yd_do fun A hA => rn_fieldAddr f_34_3 (by decide) rfl) ?_
          refine wd_take 9 _ _ rfl (by kernel_rfl) hS (yd_do fun A hA => rn_fieldAddr f_32_1 (by decide) rfl) ?_
          refine wd_take 10 _ _ rfl (by kernel_rfl) hS (yd_do fun A hA => rn_load1 p_9 rfl (hB1.ext hA id) rfl) ?_
          refine wd_only 5 _ rfl (by kernel_rfl) ?_
          refine s1_do ?_
          refine wl_call e_46 rfl (rword_ok w6 t ht) ?_; intro v42 w7 hE7 hR7
          replace hS := hS.tr hE7
          subst hR7
          refine wl_nil ⟨hS, ?_⟩
          refine wd_take 6 _ _ rfl (by kernel_rfl) hS (yd_do fun A hA => rn_sadd rfl rfl (by first | omega | (simp only [List.length_append, List.length_cons, List.length_nil]; omega))) ?_
          refine wd_take 7 _ _ rfl (by kernel_rfl) hS (yd_do fun A hA => rn_sadd rfl rfl (by first | omega | (simp only [List.length_append, List.length_cons, List.length_nil]; omega))) ?_
          refine wd_only 11 _ rfl (by kernel_rfl) ?_
          refine s1_do ?_
          refine wl_call e_46 rfl (rword_ok w7 p hp) ?_; intro v48 w8 hE8 hR8
          replace hS := hS.tr hE8
          subst hR8
          refine wl_nil ⟨hS, ?_⟩
          refine wd_take 12 _ _ rfl (by kernel_rfl) hS (yd_do fun A hA => rn_sadd rfl rfl (by first | omega | (simp only [List.length_append, List.length_cons, List.length_nil]; omega))) ?_
          refine wd_take 13 _ _ rfl (by kernel_rfl) hS (yd_do fun A hA => rn_assign (by conv => lhs; whnf)) ?_
          refine wd_done (by kernel_rfl) ?_ _
          replace hX := hX.tr hS
          replace hB1 := hB1.ext hS id
          refine W_seq ?_
          refine W_seq ?_
          refine W_region ?_
          refine wl_val (rn_fieldAddr f_34_3 (by decide) rfl) ?_
          refine wl_val (rn_fieldAddr f_32_2 (by decide) rfl) ?_
          refine wl_val (rn_load1 p_4 rfl hB1 rfl) ?_
          refine wl_nil ?_
          refine W_cond rfl (fun hc2 => ?_) (fun hc2 => ?_)
          · have hk : k = true := hc2
            refine W_seq ?_
            refine W_region ?_
            refine wl_val (rn_move (by conv => lhs; whnf)) ?_
            refine wl_val (rn_sadd rfl rfl (by first | omega | (simp only [List.length_append, List.length_cons, List.length_nil]; omega))) ?_
            refine wl_val (rn_assign (by conv => lhs; whnf)) ?_
            refine wl_nil ?_
            refine W_ret ?_
            first | exact ⟨_, resR1 (res1_tmp rfl), hX, by rw [ansR_3 hz]; rfl⟩ | exact ⟨_, resR1 (res1_tmp rfl), hX, by rw [ansR_6 hz, hk]; rfl⟩
          · have hk : k = false := hc2
            refine W_skip ?_
            refine W_seq ?_
            refine W_region ?_
            refine wl_val (rn_move (by conv => lhs; whnf)) ?_
            refine wl_val (rn_sadd rfl rfl (by first | omega | (simp only [List.length_append, List.length_cons, List.length_nil]; omega))) ?_
            refine wl_val (rn_assign (by conv => lhs; whnf)) ?_
            refine wl_nil ?_
            refine W_ret ?_
            first | exact ⟨_, resR1 (res1_tmp rfl), hX, by rw [ansR_3 hz]; rfl⟩ | exact ⟨_, resR1 (res1_tmp rfl), hX, by rw [ansR_6 hz, hk]; rfl⟩
      · have hz : ¬ (⟨t, p, k⟩ : MsgD) = mZ := fun h => of_decide_eq_false hg30 (congrArg MsgD.payload h)
        refine wl_no rfl (congrArg Value.bool hg30) ?_
        refine wl_no rfl (congrArg Value.bool hg30) ?_
        refine wl_no rfl (congrArg Value.bool hg30) ?_
        refine wl_no rfl (congrArg Value.bool hg30) ?_
        refine wl_val (rn_pickF (congrArg Value.bool hg30) (by conv => lhs; whnf)) ?_
        refine wl_nil ?_
        refine W_condF rfl ?_
        refine W_skip ?_
        refine W_seq ?_
        refine W_drawE mixed ?_; intro w9 hE9
        replace hX := hX.tr hE9
        replace hB1 := hB1.ext hE9 id
        have hS := Ext.refl Non w9
        refine wd_take 0 _ _ rfl (by kernel_rfl) hS (yd_do fun A hA => rn_move (by conv => lhs; whnf)) ?_
        refine wd_take 1 _ _ rfl (by kernel_rfl) hS (yd_do fun A hA => rn_sadd rfl rfl (by first | omega | (simp only [List.length_append, List.length_cons, List.length_nil]; omega))) ?_
        refine wd_take 2 _ _ rfl (by kernel_rfl) hS (yd_do fun A hA => rn_fieldAddr f_34_3 (by decide) rfl) ?_
        refine wd_take 3 _ _ rfl (by kernel_rfl) hS (yd_do fun A hA => rn_fieldAddr f_32_0 (by decide) rfl) ?_
        refine wd_take 4 _ _ rfl (by kernel_rfl) hS (yd_do fun A hA => rn_load1 p_9 rfl (hB1.ext hA id) rfl) ?_
        refine wd_take 8 _ _ rfl (by kernel_rfl) hS (yd_do fun A hA => rn_fieldAddr f_34_3 (by decide) rfl) ?_
        refine wd_take 9 _ _ rfl (by kernel_rfl) hS (yd_do fun A hA => rn_fieldAddr f_32_1 (by decide) rfl) ?_
        refine wd_take 10 _ _ rfl (by kernel_rfl) hS (yd_do fun A hA => rn_load1 p_9 rfl (hB1.ext hA id) rfl) ?_
        refine wd_only 5 _ rfl (by kernel_rfl) ?_
        refine s1_do ?_
        refine wl_call e_46 rfl (rword_ok w9 t ht) ?_; intro v42 w10 hE10 hR10
        replace hS := hS.tr hE10
        subst hR10
        refine wl_nil ⟨hS, ?_⟩
        refine wd_take 6 _ _ rfl (by kernel_rfl) hS (yd_do fun A hA => rn_sadd rfl rfl (by first | omega | (simp only [List.length_append, List.length_cons, List.length_nil]; omega))) ?_
        refine wd_take 7 _ _ rfl (by kernel_rfl) hS (yd_do fun A hA => rn_sadd rfl rfl (by first | omega | (simp only [List.length_append, List.length_cons, List.length_nil]; omega))) ?_
        refine wd_only 11 _ rfl (by kernel_rfl) ?_
        refine s1_do ?_
        refine wl_call e_46 rfl (rword_ok w10 p hp) ?_; intro v48 w11 hE11 hR11
        replace hS := hS.tr hE11
        subst hR11
        refine wl_nil ⟨hS, ?_⟩
        refine wd_take 12 _ _ rfl (by kernel_rfl) hS (yd_do fun A hA => rn_sadd rfl rfl (by first | omega | (simp only [List.length_append, List.length_cons, List.length_nil]; omega))) ?_
        refine wd_take 13 _ _ rfl (by kernel_rfl) hS (yd_do fun A hA => rn_assign (by conv => lhs; whnf)) ?_
        refine wd_done (by kernel_rfl) ?_ _
        replace hX := hX.tr hS
        replace hB1 := hB1.ext hS id
        refine W_seq ?_
        refine W_seq ?_
        refine W_region ?_
        refine wl_val (rn_fieldAddr f_34_3 (by decide) rfl) ?_
        refine wl_val (rn_fieldAddr f_32_2 (by decide) rfl) ?_
        refine wl_val (rn_load1 p_4 rfl hB1 rfl) ?_
        refine wl_nil ?_
        refine W_cond rfl (fun hc2 => ?_) (fun hc2 => ?_)
        · have hk : k = true := hc2
          refine W_seq ?_
          refine W_region ?_
          refine wl_val (rn_move (by conv => lhs; whnf)) ?_
          refine wl_val (rn_sadd rfl rfl (by first | omega | (simp only [List.length_append, List.length_cons, List.length_nil]; omega))) ?_
          refine wl_val (rn_assign (by conv => lhs; whnf)) ?_
          refine wl_nil ?_
          refine W_ret ?_
          first | exact ⟨_, resR1 (res1_tmp rfl), hX, by rw [ansR_3 hz]; rfl⟩ | exact ⟨_, resR1 (res1_tmp rfl), hX, by rw [ansR_6 hz, hk]; rfl⟩
        · have hk : k = false := hc2
          refine W_skip ?_
          refine W_seq ?_
          refine W_region ?_
          refine wl_val (rn_move (by conv => lhs; whnf)) ?_
          refine wl_val (rn_sadd rfl rfl (by first | omega | (simp only [List.length_append, List.length_cons, List.length_nil]; omega))) ?_
          refine wl_val (rn_assign (by conv => lhs; whnf)) ?_
          refine wl_nil ?_
          refine W_ret ?_
          first | exact ⟨_, resR1 (res1_tmp rfl), hX, by rw [ansR_3 hz]; rfl⟩ | exact ⟨_, resR1 (res1_tmp rfl), hX, by rw [ansR_6 hz, hk]; rfl⟩
    · have hz : ¬ (⟨t, p, k⟩ : MsgD) = mZ := fun h => of_decide_eq_false hg24 (congrArg MsgD.topic h)
      refine wl_no rfl (congrArg Value.bool hg24) ?_
      refine wl_no rfl (congrArg Value.bool hg24) ?_
      refine wl_no rfl (congrArg Value.bool hg24) ?_
      refine wl_no rfl (congrArg Value.bool hg24) ?_
      refine wl_val (rn_pickF (congrArg Value.bool hg24) (by conv => lhs; whnf)) ?_
      refine wl_val (rn_move (by conv => lhs; whnf)) ?_
      refine wl_no rfl rfl ?_
      refine wl_no rfl rfl ?_
      refine wl_no rfl rfl ?_
      refine wl_no rfl rfl ?_
      refine wl_val (rn_pickF rfl (by conv => lhs; whnf)) ?_
      refine wl_nil ?_
      refine W_condF rfl ?_
      refine W_skip ?_
      refine W_seq ?_
      refine W_drawE mixed ?_; intro w12 hE12
      replace hX := hX.tr hE12
      replace hB1 := hB1.ext hE12 id
      have hS := Ext.refl Non w12
      refine wd_take 0 _ _ rfl (by kernel_rfl) hS (yd_do fun A hA => rn_move (by conv => lhs; whnf)) ?_
      refine wd_take 1 _ _ rfl (by kernel_rfl) hS (yd_do fun A hA => rn_sadd rfl rfl (by first | omega | (simp only [List.length_append, List.length_cons, List.length_nil]; omega))) ?_
      refine wd_take 2 _ _ rfl (by kernel_rfl) hS (yd_do fun A hA => rn_fieldAddr f_34_3 (by decide) rfl) ?_
      refine wd_take 3 _ _ rfl (by kernel_rfl) hS (yd_do fun A hA => rn_fieldAddr f_32_0 (by decide) rfl) ?_
      refine wd_take 4 _ _ rfl (by kernel_rfl) hS (yd_do fun A hA => rn_load1 p_9 rfl (hB1.ext hA id) rfl) ?_
      refine wd_take 8 _ _ rfl (by kernel_rfl) hS (yd_do fun A hA => rn_fieldAddr f_34_3 (by decide) rfl) ?_
      refine wd_take 9 _ _ rfl (by kernel_rfl) hS (yd_do fun A hA => rn_fieldAddr f_32_1 (by decide) rfl) ?_
      refine wd_take 10 _ _ rfl (by kernel_rfl) hS (yd_do fun A hA => rn_load1 p_9 rfl (hB1.ext hA id) rfl) ?_
      refine wd_only 5 _ rfl (by kernel_rfl) ?_
      refine s1_do ?_
      refine wl_call e_46 rfl (rword_ok w12 t ht) ?_; intro v42 w13 hE13 hR13
      replace hS := hS.tr hE13
      subst hR13
      refine wl_nil ⟨hS, ?_⟩
      refine wd_take 6 _ _ rfl (by kernel_rfl) hS (yd_do fun A hA => rn_sadd rfl rfl (by first | omega | (simp only [List.length_append, List.length_cons, List.length_nil]; omega))) ?_
      refine wd_take 7 _ _ rfl (by kernel_rfl) hS (yd_do fun A hA => rn_sadd rfl rfl (by first | omega | (simp only [List.length_append, List.length_cons, List.length_nil]; omega))) ?_
      refine wd_only 11 _ rfl (by kernel_rfl) ?_
      refine s1_do ?_
      refine wl_call e_46 rfl (rword_ok w13 p hp) ?_; intro v48 w14 hE14 hR14
      replace hS := hS.tr hE14
      subst hR14
      refine wl_nil ⟨hS, ?_⟩
      refine wd_take 12 _ _ rfl (by kernel_rfl) hS (yd_do fun A hA => rn_sadd rfl rfl (by first | omega | (simp only [List.length_append, List.length_cons, List.length_nil]; omega))) ?_
      refine wd_take 13 _ _ rfl (by kernel_rfl) hS (yd_do fun A hA => rn_assign (by conv => lhs; whnf)) ?_
      refine wd_done (by kernel_rfl) ?_ _
      replace hX := hX.tr hS
      replace hB1 := hB1.ext hS id
      refine W_seq ?_
      refine W_seq ?_
      refine W_region ?_
      refine wl_val (rn_fieldAddr f_34_3 (by decide) rfl) ?_
      refine wl_val (rn_fieldAddr f_32_2 (by decide) rfl) ?_
      refine wl_val (rn_load1 p_4 rfl hB1 rfl) ?_
      refine wl_nil ?_
      refine W_cond rfl (fun hc2 => ?_) (fun hc2 => ?_)
      · have hk : k = true := hc2
        refine W_seq ?_
        refine W_region ?_
        refine wl_val (rn_move (by conv => lhs; whnf)) ?_
        refine wl_val (rn_sadd rfl rfl (by first | omega | (simp only [List.length_append, List.length_cons, List.length_nil]; omega))) ?_
        refine wl_val (rn_assign (by conv => lhs; whnf)) ?_
        refine wl_nil ?_
        refine W_ret ?_
        first | exact ⟨_, resR1 (res1_tmp rfl), hX, by rw [ansR_3 hz]; rfl⟩ | exact ⟨_, resR1 (res1_tmp rfl), hX, by rw [ansR_6 hz, hk]; rfl⟩
      · have hk : k = false := hc2
        refine W_skip ?_
        refine W_seq ?_
        refine W_region ?_
        refine wl_val (rn_move (by conv => lhs; whnf)) ?_
        refine wl_val (rn_sadd rfl rfl (by first | omega | (simp only [List.length_append, List.length_cons, List.length_nil]; omega))) ?_
        refine wl_val (rn_assign (by conv => lhs; whnf)) ?_
        refine wl_nil ?_
        refine W_ret ?_
        first | exact ⟨_, resR1 (res1_tmp rfl), hX, by rw [ansR_3 hz]; rfl⟩ | exact ⟨_, resR1 (res1_tmp rfl), hX, by rw [ansR_6 hz, hk]; rfl⟩
-- bellman/bellmanref27.Row
set_option maxHeartbeats 3200000 in
theorem rrow_ok (w : World) (c : CallD) (hc : CallOk c) : Fn Tryd.prog 30 #[.agg c.enc.toArray] w fun u w' => u = Sv (rowR c) := by
  obtain ⟨q1, q2, q3, q4, ht, hp0, hok⟩ := hc
  have hl1 := itoa_len q1; have hl2 := itoa_len q2; have hl3 := itoa_len q3; have hl4 := itoa_len q4; have hlq := lineQ_len ht hp0; have hla := ansR_len hok
  have hX := Ext.refl Non w
  refine fn_of_W (args := [_]) Tryd.func30 rfl (by kernel_rfl) rfl ?_
  refine W_seq ?_
  refine W_region ?_
  refine wl_boxS rfl ?_; intro b1 w1 hb1 hE1 hB1
  have hq1 : w.heap.size ≤ b1 := Nat.le_trans hX.size hb1
  have hl1 : Mine Non w b1 := .inr hq1
  replace hX := hX.tr hE1
  refine wl_val (rn_assign (by conv => lhs; whnf)) ?_
  refine wl_nil ?_
  refine W_seq ?_
  refine W_drawE mixed ?_; intro w2 hE2
  replace hX := hX.tr hE2
  replace hB1 := hB1.ext hE2 id
  have hS := Ext.refl Non w2
  refine wd_take 0 _ _ rfl (by kernel_rfl) hS (yd_do fun A hA => rn_fieldAddr f_38_0 (by decide) rfl) ?_
  refine wd_take 1 _ _ rfl (by kernel_rfl) hS (yd_do fun A hA => rn_load1 p_3 rfl (hB1.ext hA id) rfl) ?_
  refine wd_take 4 _ _ rfl (by kernel_rfl) hS (yd_do fun A hA => rn_fieldAddr f_38_1 (by decide) rfl) ?_
  refine wd_take 5 _ _ rfl (by kernel_rfl) hS (yd_do fun A hA => rn_load1 p_3 rfl (hB1.ext hA id) rfl) ?_
  refine wd_take 9 _ _ rfl (by kernel_rfl) hS (yd_do fun A hA => rn_fieldAddr f_38_4 (by decide) rfl) ?_
  refine wd_take 10 _ _ rfl (by kernel_rfl) hS (yd_do fun A hA => rn_load1 p_3 rfl (hB1.ext hA id) rfl) ?_
  refine wd_take 14 _ _ rfl (by kernel_rfl) hS (yd_do fun A hA => rn_fieldAddr f_38_5 (by decide) rfl) ?_
  refine wd_take 15 _ _ rfl (by kernel_rfl) hS (yd_do fun A hA => rn_load1 p_3 rfl (hB1.ext hA id) rfl) ?_
  refine wd_only 2 _ rfl (by kernel_rfl) ?_
  refine s1_do ?_
  refine wl_call e_77 rfl (rtextI_ok w2 _ q1) ?_; intro v8 w3 hE3 hR3
  replace hS := hS.tr hE3
  subst hR3
  refine wl_nil ⟨hS, ?_⟩
  refine wd_take 3 _ _ rfl (by kernel_rfl) hS (yd_do fun A hA => rn_sadd rfl rfl (by first | omega | (simp only [List.length_append, List.length_cons, List.length_nil]; omega))) ?_
  refine wd_only 6 _ rfl (by kernel_rfl) ?_
  refine s1_do ?_
  refine wl_call e_77 rfl (rtextI_ok w3 _ q2) ?_; intro v12 w4 hE4 hR4
  replace hS := hS.tr hE4
  subst hR4
  refine wl_nil ⟨hS, ?_⟩
  refine wd_take 7 _ _ rfl (by kernel_rfl) hS (yd_do fun A hA => rn_sadd rfl rfl (by first | omega | (simp only [List.length_append, List.length_cons, List.length_nil]; omega))) ?_
  refine wd_take 8 _ _ rfl (by kernel_rfl) hS (yd_do fun A hA => rn_sadd rfl rfl (by first | omega | (simp only [List.length_append, List.length_cons, List.length_nil]; omega))) ?_
  refine wd_only 11 _ rfl (by kernel_rfl) ?_
  refine s1_do ?_
  refine wl_call e_77 rfl (rtextI_ok w4 _ q3) ?_; intro v17 w5 hE5 hR5
  replace hS := hS.tr hE5
  subst hR5
  refine wl_nil ⟨hS, ?_⟩
  refine wd_take 12 _ _ rfl (by kernel_rfl) hS (yd_do fun A hA => rn_sadd rfl rfl (by first | omega | (simp only [List.length_append, List.length_cons, List.length_nil]; omega))) ?_
  refine wd_take 13 _ _ rfl (by kernel_rfl) hS (yd_do fun A hA => rn_sadd rfl rfl (by first | omega | (simp only [List.length_append, List.length_cons, List.length_nil]; omega))) ?_
  refine wd_only 16 _ rfl (by kernel_rfl) ?_
  refine s1_do ?_
  refine wl_call e_77 rfl (rtextI_ok w5 _ q4) ?_; intro v22 w6 hE6 hR6
  replace hS := hS.tr hE6
  subst hR6
  refine wl_nil ⟨hS, ?_⟩
  refine wd_take 17 _ _ rfl (by kernel_rfl) hS (yd_do fun A hA => rn_sadd rfl rfl (by first | omega | (simp only [List.length_append, List.length_cons, List.length_nil]; omega))) ?_
  refine wd_take 18 _ _ rfl (by kernel_rfl) hS (yd_do fun A hA => rn_sadd rfl rfl (by first | omega | (simp only [List.length_append, List.length_cons, List.length_nil]; omega))) ?_
  refine wd_take 19 _ _ rfl (by kernel_rfl) hS (yd_do fun A hA => rn_assign (by conv => lhs; whnf)) ?_
  refine wd_done (by kernel_rfl) ?_ _
  replace hX := hX.tr hS
  replace hB1 := hB1.ext hS id
  refine W_seq ?_
  refine W_region ?_
  refine wl_val (rn_fieldAddr f_38_2 (by decide) rfl) ?_
  refine wl_val (rn_loadS s_29 (vs := c.op.enc) rfl rfl (hB1.part rfl (Nat.le_of_ble_eq_true rfl))) ?_
  refine wl_call e_48 rfl (rline_ok w6 c.op ht hp0) ?_; intro v28 w7 hE7 hR7
  replace hX := hX.tr hE7
  replace hB1 := hB1.ext hE7 id
  subst hR7
  refine wl_val (rn_move (by conv => lhs; whnf)) ?_
  refine wl_val (rn_extract rfl rfl) ?_
  refine wl_val (rn_extract rfl rfl) ?_
  refine wl_val (rn_assign (by conv => lhs; whnf)) ?_
  refine wl_val (rn_assign (by conv => lhs; whnf)) ?_
  refine wl_nil ?_
  refine W_seq ?_
  refine W_seq ?_
  refine W_region ?_
  refine wl_val (rn_move (by conv => lhs; whnf)) ?_
  refine wl_val (rn_neq rfl rfl) ?_
  refine wl_nil ?_
  refine W_cond rfl (fun hc0 => ?_) (fun hc0 => ?_)
  · have hq : lineQ c.op = [63] := if_neg (fun h => by rw [if_pos h] at hc0; exact absurd hc0 (by decide))
    refine W_region ?_
    refine wl_val (rn_assign (by conv => lhs; whnf)) ?_
    refine wl_nil ?_
    refine W_seq ?_
    refine W_region ?_
    refine wl_val (rn_move (by conv => lhs; whnf)) ?_
    refine wl_val (rn_move (by conv => lhs; whnf)) ?_
    refine wl_val (rn_sadd rfl rfl (by first | omega | (simp only [List.length_append, List.length_cons, List.length_nil]; omega))) ?_
    refine wl_val (rn_sadd rfl rfl (by first | omega | (simp only [List.length_append, List.length_cons, List.length_nil]; omega))) ?_
    refine wl_val (rn_fieldAddr f_38_3 (by decide) rfl) ?_
    refine wl_val (rn_loadS s_34 (vs := c.ans.enc) rfl rfl (hB1.part rfl (Nat.le_of_ble_eq_true rfl))) ?_
    refine wl_call e_55 rfl (ranswer_ok w7 c.ans hok) ?_; intro v39 w8 hE8 hR8
    replace hX := hX.tr hE8
    replace hB1 := hB1.ext hE8 id
    subst hR8
    refine wl_val (rn_sadd rfl rfl (by first | omega | (simp only [List.length_append, List.length_cons, List.length_nil]; omega))) ?_
    refine wl_val (rn_assign (by conv => lhs; whnf)) ?_
    refine wl_nil ?_
    refine W_ret ?_
    exact ⟨_, resR1 (res1_tmp rfl), hX, by unfold rowR; rw [hq, tx4]; rfl⟩
  · have hp : plainR c.op = true := by apply Classical.byContradiction; intro hp; rw [if_neg hp] at hc0; exact absurd hc0 (by decide)
    have hq : lineQ c.op = (if plainR c.op = true then lineR c.op else []) := by unfold lineQ; rw [if_pos hp, if_pos hp]
    refine W_skip ?_
    refine W_seq ?_
    refine W_region ?_
    refine wl_val (rn_move (by conv => lhs; whnf)) ?_
    refine wl_val (rn_move (by conv => lhs; whnf)) ?_
    refine wl_val (rn_sadd rfl rfl (by first | omega | (simp only [List.length_append, List.length_cons, List.length_nil]; omega))) ?_
    refine wl_val (rn_sadd rfl rfl (by first | omega | (simp only [List.length_append, List.length_cons, List.length_nil]; omega))) ?_
    refine wl_val (rn_fieldAddr f_38_3 (by decide) rfl) ?_
    refine wl_val (rn_loadS s_34 (vs := c.ans.enc) rfl rfl (hB1.part rfl (Nat.le_of_ble_eq_true rfl))) ?_
    refine wl_call e_55 rfl (ranswer_ok w7 c.ans hok) ?_; intro v39 w9 hE9 hR9
    replace hX := hX.tr hE9
    replace hB1 := hB1.ext hE9 id
    subst hR9
    refine wl_val (rn_sadd rfl rfl (by first | omega | (simp only [List.length_append, List.length_cons, List.length_nil]; omega))) ?_
    refine wl_val (rn_assign (by conv => lhs; whnf)) ?_
    refine wl_nil ?_
    refine W_ret ?_
    exact ⟨_, resR1 (res1_tmp rfl), hX, by unfold rowR; rw [hq, tx4]; rfl⟩
-- bellman/rows.Row
set_option maxHeartbeats 3200000 in
theorem row_ok (w : World) (c : CallD) (hc : CallOk c) (hT : Tab w) : Fn Tryd.prog 54 #[.agg c.enc.toArray] w fun u w' => u = Sv (rowR c) := by
  obtain ⟨q1, q2, q3, q4, ht, hp0, hok⟩ := hc
  have hl1 := itoa_len q1; have hl2 := itoa_len q2; have hl3 := itoa_len q3; have hl4 := itoa_len q4; have hlq := lineQ_len ht hp0; have hla := ansR_len hok
  have hG := hT.gl (Nat.le_refl w.heap.size)
  have hall : ∀ n ∈ [c.thread, c.place, c.from_, c.to_], I64 n := by intro n hn; simp only [List.mem_cons, List.not_mem_nil, or_false] at hn; rcases hn with rfl | rfl | rfl | rfl; exact q1; exact q2; exact q3; exact q4
  have hX := Ext.refl Non w
  refine fn_of_W (args := [_]) Tryd.func54 rfl (by kernel_rfl) rfl ?_
  refine W_seq ?_
  refine W_region ?_
  refine wl_boxS rfl ?_; intro b1 w1 hb1 hE1 hB1
  have hq1 : w.heap.size ≤ b1 := Nat.le_trans hX.size hb1
  have hl1 : Mine Non w b1 := .inr hq1
  replace hX := hX.tr hE1
  replace hT := hT.non hE1
  refine wl_val (rn_assign (by conv => lhs; whnf)) ?_
  refine wl_nil ?_
  refine W_seq ?_
  refine W_region ?_
  refine wl_val (rn_fieldAddr f_38_2 (by decide) rfl) ?_
  refine wl_val (rn_loadS s_29 (vs := c.op.enc) rfl rfl (hB1.part rfl (Nat.le_of_ble_eq_true rfl))) ?_
  refine wl_call e_47 rfl (line_ok w1 c.op ht hp0 hT) ?_; intro v11 w2 hE2 hR2
  replace hX := hX.tr hE2
  replace hB1 := hB1.ext hE2 id
  replace hT := hT.non hE2
  subst hR2
  refine wl_val (rn_move (by conv => lhs; whnf)) ?_
  refine wl_val (rn_extract rfl rfl) ?_
  refine wl_val (rn_extract rfl rfl) ?_
  refine wl_val (rn_assign (by conv => lhs; whnf)) ?_
  refine wl_val (rn_assign (by conv => lhs; whnf)) ?_
  refine wl_nil ?_
  refine W_seq ?_
  refine W_seq ?_
  refine W_region ?_
  refine wl_val (rn_move (by conv => lhs; whnf)) ?_
  refine wl_val (rn_neq rfl rfl) ?_
  refine wl_nil ?_
  refine W_cond rfl (fun hc0 => ?_) (fun hc0 => ?_)
  · have hq : lineQ c.op = [63] := if_neg (fun h => by rw [if_pos h] at hc0; exact absurd hc0 (by decide))
    refine W_region ?_
    refine wl_val (rn_assign (by conv => lhs; whnf)) ?_
    refine wl_nil ?_
    refine W_seq ?_
    refine W_region ?_
    refine wl_allocT z_144 ?_; intro b5 w3 hb5 hE3 hZ5
    have hq5 : w.heap.size ≤ b5 := Nat.le_trans hX.size hb5
    have hn15 : b1 < b5 := Nat.lt_of_lt_of_le hB1.lt hb5
    have hL := Bld.fresh hZ5
    replace hX := hX.tr hE3
    replace hB1 := hB1.ext hE3 id
    replace hT := hT.non hE3
    refine wl_nil ?_
    refine W_seq ?_
    refine W_seq ?_
    refine W_region ?_
    refine wl_val (rn_fieldAddr f_38_0 (by decide) rfl) ?_
    refine wl_val (rn_load1 p_3 rfl hB1 rfl) ?_
    refine wl_val (rn_fieldAddr f_38_1 (by decide) rfl) ?_
    refine wl_val (rn_load1 p_3 rfl hB1 rfl) ?_
    refine wl_val (rn_fieldAddr f_38_4 (by decide) rfl) ?_
    refine wl_val (rn_load1 p_3 rfl hB1 rfl) ?_
    refine wl_val (rn_fieldAddr f_38_5 (by decide) rfl) ?_
    refine wl_val (rn_load1 p_3 rfl hB1 rfl) ?_
    have h5lt := hL.lt
    refine wl_lit sl_39 (rows := [c.thread, c.place, c.from_, c.to_].map eI1) rfl (by decide) (by decide) rfl rfl (by intro r hr; obtain ⟨x, _, rfl⟩ := List.mem_map.1 hr; rfl) (by intro p hp; simp at hp; rcases hp with rfl | rfl | rfl | rfl <;> exact ⟨rfl, Nat.le_of_ble_eq_true rfl⟩) rfl ?_; intro v24 w4 b24 hb24 hE4 hO24
    obtain ⟨c24, hv24, _⟩ := id hO24.val; subst hv24
    have hS24 := hO24.sl (M := fun i => i ≠ b24) (fun h => h rfl)
    have hn524 : b5 < b24 := Nat.lt_of_lt_of_le h5lt hb24
    have hb24 := hO24.box.lt
    replace hX := hX.tr hE4
    replace hB1 := hB1.ext hE4 id
    replace hT := hT.non hE4
    replace hL := hL.ext hE4 id (fun _ _ h => h)
    refine wl_val (rn_len sl_39 rfl) ?_
    refine wl_val (rn_move (by conv => lhs; whnf)) ?_
    refine wl_nil ?_
    refine W_block ?_   -- block 0
    refine W_loopS (S := Nat × Value × Option Nat) [1, 3, 5, 24, 25, 26] (fun ⟨i, vb, ob⟩ => [.pointer (some ⟨b1, 0, none⟩), Sv (lineQ c.op), .pointer (some ⟨b5, 0, none⟩), .slice (some ⟨b24, 0, none⟩) [c.thread, c.place, c.from_, c.to_].length c24, .int .i64 ([c.thread, c.place, c.from_, c.to_].length : Nat), .int .i64 (i : Nat)]) (fun ⟨i, vb, ob⟩ A => (Ext Non w A) ∧ (IsBox A b1 c.enc) ∧ (Mine Non w b1) ∧ (i ≤ [c.thread, c.place, c.from_, c.to_].length ∧ Bld A b5 vb ob (tx ([c.thread, c.place, c.from_, c.to_].take i)) ∧ Sl (fun i => i ≠ b24) A (.slice (some ⟨b24, 0, none⟩) [c.thread, c.place, c.from_, c.to_].length c24) 1 ([c.thread, c.place, c.from_, c.to_].map eI1) ∧ b24 < A.heap.size ∧ Tab A ∧ ∀ j, ob = some j → w.heap.size ≤ j ∧ j ≠ b24 ∧ b1 < j)) (fun ⟨i, vb, ob⟩ => 4 - i) (0, .slice none 0 0, none) ⟨rfl, by rw [hq] <;> rfl, rfl, rfl, rfl, rfl, trivial⟩ ⟨hX, hB1, hl1, ⟨Nat.zero_le _, hL, hS24, hb24, hT, fun j h => by cases h⟩⟩ ?_
    rintro τ0 ⟨i, vb, ob⟩ A0 ⟨hX, hB1, hl1, hI0⟩
    obtain ⟨hI, hL, hS24, hb24, hT, ho⟩ := hI0
    have htl := tx_len ([c.thread, c.place, c.from_, c.to_].take i) (fun n hn => hall n (List.mem_of_mem_take hn))
    rw [List.length_take] at htl
    simp only [List.length_cons, List.length_nil] at htl
    refine W_seq ?_
    refine W_region ?_
    refine wl_val (rn_lss rfl rfl) ?_
    refine wl_nil ?_
    refine W_seq ?_
    refine W_cond rfl (fun hc1 => ?_) (fun hc1 => ?_)
    · have hlt := of_decide_eq_true hc1; simp only [Int.ofNat_lt] at hlt
      obtain ⟨n, hcc⟩ : ∃ n, [c.thread, c.place, c.from_, c.to_][i]? = some n := ⟨_, List.getElem?_eq_getElem hlt⟩
      have hnn := hall n (List.mem_of_getElem? hcc)
      have hnl := itoa_len hnn
      refine W_skip ?_
      refine W_seq ?_
      refine W_block ?_   -- block 1
      refine W_seq ?_
      refine W_region ?_
      refine wl_val (rn_indexAddr sl_39 rfl rfl (by omega)) ?_
      refine wl_val (rn_load p_3 rfl (hS24.at0 (map_at hcc) rfl)) ?_
      refine wl_val (rn_assign (by conv => lhs; whnf)) ?_
      refine wl_nil ?_
      refine W_region ?_
      refine wl_val (rn_move (by conv => lhs; whnf)) ?_
      refine wl_call e_93 rfl (itoa_ok A0 n hnn hT) ?_; intro v31 w5 hE5 hR5
      replace hX := hX.tr hE5
      replace hB1 := hB1.ext hE5 id
      replace hT := hT.non hE5
      replace hL := hL.ext hE5 id (fun _ _ h => h)
      replace hS24 := hS24.ext hE5 (fun _ h => h.elim)
      replace hb24 := Nat.lt_of_lt_of_le hb24 hE5.size
      subst hR5
      refine wl_val (rn_sadd rfl rfl (by first | omega | (simp only [List.length_append, List.length_cons, List.length_nil]; omega))) ?_
      have hXo := hX
      refine wl_callM e_102 rfl (writeString_ok w5 b5 _ (Lib.itoa n ++ [32]) hL (by simp only [List.length_append, List.length_cons, List.length_nil]; omega)) ?_; rintro v33 w6 hE6 ⟨⟨_, rfl⟩, vb33, ob33, hL, hf33⟩
      have hb1lt := hB1.lt; have hb24o := hb24
      replace hX := hX.own2 hE6 (fun i h => by rcases h with h | h; exact .inr (by omega); exact .inr (ho i h).1)
      replace hS24 := hS24.ext hE6 (fun i h => by rcases h with h | h; omega; exact (ho i h).2.1)
      replace hB1 := hB1.ext hE6 (fun h => by rcases h with h | h; omega; have := (ho _ h).2.2; omega)
      replace hT := hT.ext hE6 (B := w.heap.size) (fun i h => by rcases h with h | h; omega; exact (ho i h).1) hG
      replace hb24 := Nat.lt_of_lt_of_le hb24 hE6.size
      replace ho : ∀ j, ob33 = some j → w.heap.size ≤ j ∧ j ≠ b24 ∧ b1 < j := fun j hj => by rcases hf33 j hj with h | h; exact ho j h; have := hXo.size; exact ⟨by omega, by omega, by omega⟩
      refine wl_nil ?_
      refine W_region ?_
      refine wl_val (rn_add rfl rfl (by simp only [List.length_cons, List.length_nil] at hlt; omega)) ?_
      refine wl_val (rn_move (by conv => lhs; whnf)) ?_
      refine wl_nil ?_
      exact ⟨rfl, (i + 1, _, _), ⟨rfl, rfl, rfl, rfl, rfl, rfl, trivial⟩, ⟨hX, hB1, hl1, ⟨hlt, by rw [tx_step hcc]; exact hL, hS24, hb24, hT, ho⟩⟩, by show 4 - (i + 1) < 4 - i; simp only [List.length_cons, List.length_nil] at hlt; omega⟩
    · have hge := of_decide_eq_false hc1; simp only [Int.ofNat_lt, Nat.not_lt] at hge
      rw [List.take_of_length_le hge] at hL
      have htx := tx_len _ hall
      simp only [List.length_cons, List.length_nil] at htx
      refine W_exit ?_   -- exit 0
      refine W_seq ?_
      refine W_drawF (fun i => b1 + 1 ≤ i) mixed ?_; intro w7 hE7
      replace hX := hX.tr hE7
      replace hB1 := hB1.ext hE7 id
      replace hT := hT.non hE7
      replace hL := hL.ext hE7 id (fun _ _ h => h)
      replace hS24 := hS24.ext hE7 (fun _ h => h.elim)
      replace hb24 := Nat.lt_of_lt_of_le hb24 hE7.size
      have hS := Ext.refl (fun i => b1 + 1 ≤ i) w7
      refine wd_take 1 _ _ rfl (by kernel_rfl) hS (yd_do fun A hA => rn_move (by conv => lhs; whnf)) ?_
      refine wd_take 4 _ _ rfl (by kernel_rfl) hS (yd_do fun A hA => rn_fieldAddr f_38_3 (by decide) rfl) ?_
      refine wd_take 5 _ _ rfl (by kernel_rfl) hS (yd_do fun A hA => rn_loadS s_34 (vs := c.ans.enc) rfl rfl ((hB1.ext hA (fun e => by omega)).part rfl (Nat.le_of_ble_eq_true rfl))) ?_
      refine wd_only 0 _ rfl (by kernel_rfl) ?_
      refine s1_do ?_
      refine wl_callM e_88 rfl (bstring_ok w7 b5 (B := b1 + 1) hL (by omega) (fun j hj => (ho j hj).2.2)) ?_; rintro v35 w8 hE8 rfl
      replace hS := hS.trans hE8
      refine wl_nil ⟨hS, ?_⟩
      refine wd_take 2 _ _ rfl (by kernel_rfl) hS (yd_do fun A hA => rn_sadd rfl rfl (by first | omega | (simp only [List.length_append, List.length_cons, List.length_nil]; omega))) ?_
      refine wd_take 3 _ _ rfl (by kernel_rfl) hS (yd_do fun A hA => rn_sadd rfl rfl (by first | omega | (simp only [List.length_append, List.length_cons, List.length_nil]; omega))) ?_
      refine wd_only 6 _ rfl (by kernel_rfl) ?_
      refine s1_do ?_
      refine wl_call e_53 rfl (answer_ok w8 c.ans hok (hT.ext hS (B := w.heap.size) (fun j hj => by have : b1 + 1 ≤ j := hj; omega) hG)) ?_; intro v41 w9 hE9 hR9
      replace hS := hS.tr hE9
      subst hR9
      refine wl_nil ⟨hS, ?_⟩
      refine wd_take 7 _ _ rfl (by kernel_rfl) hS (yd_do fun A hA => rn_sadd rfl rfl (by first | omega | (simp only [List.length_append, List.length_cons, List.length_nil]; omega))) ?_
      refine wd_take 8 _ _ rfl (by kernel_rfl) hS (yd_do fun A hA => rn_assign (by conv => lhs; whnf)) ?_
      refine wd_done (by kernel_rfl) ?_ _
      replace hX := hX.own2 hS (fun i h => .inr (by have : b1 + 1 ≤ i := h; omega))
      refine W_ret ?_
      exact ⟨_, resR1 (res1_tmp rfl), hX, rfl⟩
  · have hp : plainR c.op = true := by apply Classical.byContradiction; intro hp; rw [if_neg hp] at hc0; exact absurd hc0 (by decide)
    have hq : lineQ c.op = (if plainR c.op = true then lineR c.op else []) := by unfold lineQ; rw [if_pos hp, if_pos hp]
    refine W_skip ?_
    refine W_seq ?_
    refine W_region ?_
    refine wl_allocT z_144 ?_; intro b5 w10 hb5 hE10 hZ5
    have hq5 : w.heap.size ≤ b5 := Nat.le_trans hX.size hb5
    have hn15 : b1 < b5 := Nat.lt_of_lt_of_le hB1.lt hb5
    have hL := Bld.fresh hZ5
    replace hX := hX.tr hE10
    replace hB1 := hB1.ext hE10 id
    replace hT := hT.non hE10
    refine wl_nil ?_
    refine W_seq ?_
    refine W_seq ?_
    refine W_region ?_
    refine wl_val (rn_fieldAddr f_38_0 (by decide) rfl) ?_
    refine wl_val (rn_load1 p_3 rfl hB1 rfl) ?_
    refine wl_val (rn_fieldAddr f_38_1 (by decide) rfl) ?_
    refine wl_val (rn_load1 p_3 rfl hB1 rfl) ?_
    refine wl_val (rn_fieldAddr f_38_4 (by decide) rfl) ?_
    refine wl_val (rn_load1 p_3 rfl hB1 rfl) ?_
    refine wl_val (rn_fieldAddr f_38_5 (by decide) rfl) ?_
    refine wl_val (rn_load1 p_3 rfl hB1 rfl) ?_
    have h5lt := hL.lt
    refine wl_lit sl_39 (rows := [c.thread, c.place, c.from_, c.to_].map eI1) rfl (by decide) (by decide) rfl rfl (by intro r hr; obtain ⟨x, _, rfl⟩ := List.mem_map.1 hr; rfl) (by intro p hp; simp at hp; rcases hp with rfl | rfl | rfl | rfl <;> exact ⟨rfl, Nat.le_of_ble_eq_true rfl⟩) rfl ?_; intro v24 w11 b24 hb24 hE11 hO24
    obtain ⟨c24, hv24, _⟩ := id hO24.val; subst hv24
    have hS24 := hO24.sl (M := fun i => i ≠ b24) (fun h => h rfl)
    have hn524 : b5 < b24 := Nat.lt_of_lt_of_le h5lt hb24
    have hb24 := hO24.box.lt
    replace hX := hX.tr hE11
    replace hB1 := hB1.ext hE11 id
    replace hT := hT.non hE11
    replace hL := hL.ext hE11 id (fun _ _ h => h)
    refine wl_val (rn_len sl_39 rfl) ?_
    refine wl_val (rn_move (by conv => lhs; whnf)) ?_
    refine wl_nil ?_
    refine W_block ?_   -- block 0
    refine W_loopS (S := Nat × Value × Option Nat) [1, 3, 5, 24, 25, 26] (fun ⟨i, vb, ob⟩ => [.pointer (some ⟨b1, 0, none⟩), Sv (lineQ c.op), .pointer (some ⟨b5, 0, none⟩), .slice (some ⟨b24, 0, none⟩) [c.thread, c.place, c.from_, c.to_].length c24, .int .i64 ([c.thread, c.place, c.from_, c.to_].length : Nat), .int .i64 (i : Nat)]) (fun ⟨i, vb, ob⟩ A => (Ext Non w A) ∧ (IsBox A b1 c.enc) ∧ (Mine Non w b1) ∧ (i ≤ [c.thread, c.place, c.from_, c.to_].length ∧ Bld A b5 vb ob (tx ([c.thread, c.place, c.from_, c.to_].take i)) ∧ Sl (fun i => i ≠ b24) A (.slice (some ⟨b24, 0, none⟩) [c.thread, c.place, c.from_, c.to_].length c24) 1 ([c.thread, c.place, c.from_, c.to_].map eI1) ∧ b24 < A.heap.size ∧ Tab A ∧ ∀ j, ob = some j → w.heap.size ≤ j ∧ j ≠ b24 ∧ b1 < j)) (fun ⟨i, vb, ob⟩ => 4 - i) (0, .slice none 0 0, none) ⟨rfl, by rw [hq] <;> rfl, rfl, rfl, rfl, rfl, trivial⟩ ⟨hX, hB1, hl1, ⟨Nat.zero_le _, hL, hS24, hb24, hT, fun j h => by cases h⟩⟩ ?_
    rintro τ0 ⟨i, vb, ob⟩ A0 ⟨hX, hB1, hl1, hI0⟩
    obtain ⟨hI, hL, hS24, hb24, hT, ho⟩ := hI0
    have htl := tx_len ([c.thread, c.place, c.from_, c.to_].take i) (fun n hn => hall n (List.mem_of_mem_take hn))
    rw [List.length_take] at htl
    simp only [List.length_cons, List.length_nil] at htl
    refine W_seq ?_
    refine W_region ?_
    refine wl_val (rn_lss rfl rfl) ?_
    refine wl_nil ?_
    refine W_seq ?_
    refine W_cond rfl (fun hc1 => ?_) (fun hc1 => ?_)
    · have hlt := of_decide_eq_true hc1; simp only [Int.ofNat_lt] at hlt
      obtain ⟨n, hcc⟩ : ∃ n, [c.thread, c.place, c.from_, c.to_][i]? = some n := ⟨_, List.getElem?_eq_getElem hlt⟩
      have hnn := hall n (List.mem_of_getElem? hcc)
      have hnl := itoa_len hnn
      refine W_skip ?_
      refine W_seq ?_
      refine W_block ?_   -- block 1
      refine W_seq ?_
      refine W_region ?_
      refine wl_val (rn_indexAddr sl_39 rfl rfl (by omega)) ?_
      refine wl_val (rn_load p_3 rfl (hS24.at0 (map_at hcc) rfl)) ?_
      refine wl_val (rn_assign (by conv => lhs; whnf)) ?_
      refine wl_nil ?_
      refine W_region ?_
      refine wl_val (rn_move (by conv => lhs; whnf)) ?_
      refine wl_call e_93 rfl (itoa_ok A0 n hnn hT) ?_; intro v31 w12 hE12 hR12
      replace hX := hX.tr hE12
      replace hB1 := hB1.ext hE12 id
      replace hT := hT.non hE12
      replace hL := hL.ext hE12 id (fun _ _ h => h)
      replace hS24 := hS24.ext hE12 (fun _ h => h.elim)
      replace hb24 := Nat.lt_of_lt_of_le hb24 hE12.size
      subst hR12
      refine wl_val (rn_sadd rfl rfl (by first | omega | (simp only [List.length_append, List.length_cons, List.length_nil]; omega))) ?_
      have hXo := hX
      refine wl_callM e_102 rfl (writeString_ok w12 b5 _ (Lib.itoa n ++ [32]) hL (by simp only [List.length_append, List.length_cons, List.length_nil]; omega)) ?_; rintro v33 w13 hE13 ⟨⟨_, rfl⟩, vb33, ob33, hL, hf33⟩
      have hb1lt := hB1.lt; have hb24o := hb24
      replace hX := hX.own2 hE13 (fun i h => by rcases h with h | h; exact .inr (by omega); exact .inr (ho i h).1)
      replace hS24 := hS24.ext hE13 (fun i h => by rcases h with h | h; omega; exact (ho i h).2.1)
      replace hB1 := hB1.ext hE13 (fun h => by rcases h with h | h; omega; have := (ho _ h).2.2; omega)
      replace hT := hT.ext hE13 (B := w.heap.size) (fun i h => by rcases h with h | h; omega; exact (ho i h).1) hG
      replace hb24 := Nat.lt_of_lt_of_le hb24 hE13.size
      replace ho : ∀ j, ob33 = some j → w.heap.size ≤ j ∧ j ≠ b24 ∧ b1 < j := fun j hj => by rcases hf33 j hj with h | h; exact ho j h; have := hXo.size; exact ⟨by omega, by omega, by omega⟩
      refine wl_nil ?_
      refine W_region ?_
      refine wl_val (rn_add rfl rfl (by simp only [List.length_cons, List.length_nil] at hlt; omega)) ?_
      refine wl_val (rn_move (by conv => lhs; whnf)) ?_
      refine wl_nil ?_
      exact ⟨rfl, (i + 1, _, _), ⟨rfl, rfl, rfl, rfl, rfl, rfl, trivial⟩, ⟨hX, hB1, hl1, ⟨hlt, by rw [tx_step hcc]; exact hL, hS24, hb24, hT, ho⟩⟩, by show 4 - (i + 1) < 4 - i; simp only [List.length_cons, List.length_nil] at hlt; omega⟩
    · have hge := of_decide_eq_false hc1; simp only [Int.ofNat_lt, Nat.not_lt] at hge
      rw [List.take_of_length_le hge] at hL
      have htx := tx_len _ hall
      simp only [List.length_cons, List.length_nil] at htx
      refine W_exit ?_   -- exit 0
      refine W_seq ?_
      refine W_drawF (fun i => b1 + 1 ≤ i) mixed ?_; intro w14 hE14
      replace hX := hX.tr hE14
      replace hB1 := hB1.ext hE14 id
      replace hT := hT.non hE14
      replace hL := hL.ext hE14 id (fun _ _ h => h)
      replace hS24 := hS24.ext hE14 (fun _ h => h.elim)
      replace hb24 := Nat.lt_of_lt_of_le hb24 hE14.size
      have hS := Ext.refl (fun i => b1 + 1 ≤ i) w14
      refine wd_take 1 _ _ rfl (by kernel_rfl) hS (yd_do fun A hA => rn_move (by conv => lhs; whnf)) ?_
      refine wd_take 4 _ _ rfl (by kernel_rfl) hS (yd_do fun A hA => rn_fieldAddr f_38_3 (by decide) rfl) ?_
      refine wd_take 5 _ _ rfl (by kernel_rfl) hS (yd_do fun A hA => rn_loadS s_34 (vs := c.ans.enc) rfl rfl ((hB1.ext hA (fun e => by omega)).part rfl (Nat.le_of_ble_eq_true rfl))) ?_
      refine wd_only 0 _ rfl (by kernel_rfl) ?_
      refine s1_do ?_
      refine wl_callM e_88 rfl (bstring_ok w14 b5 (B := b1 + 1) hL (by omega) (fun j hj => (ho j hj).2.2)) ?_; rintro v35 w15 hE15 rfl
      replace hS := hS.trans hE15
      refine wl_nil ⟨hS, ?_⟩
      refine wd_take 2 _ _ rfl (by kernel_rfl) hS (yd_do fun A hA => rn_sadd rfl rfl (by first | omega | (simp only [List.length_append, List.length_cons, List.length_nil]; omega))) ?_
      refine wd_take 3 _ _ rfl (by kernel_rfl) hS (yd_do fun A hA => rn_sadd rfl rfl (by first | omega | (simp only [List.length_append, List.length_cons, List.length_nil]; omega))) ?_
      refine wd_only 6 _ rfl (by kernel_rfl) ?_
      refine s1_do ?_
      refine wl_call e_53 rfl (answer_ok w15 c.ans hok (hT.ext hS (B := w.heap.size) (fun j hj => by have : b1 + 1 ≤ j := hj; omega) hG)) ?_; intro v41 w16 hE16 hR16
      replace hS := hS.tr hE16
      subst hR16
      refine wl_nil ⟨hS, ?_⟩
      refine wd_take 7 _ _ rfl (by kernel_rfl) hS (yd_do fun A hA => rn_sadd rfl rfl (by first | omega | (simp only [List.length_append, List.length_cons, List.length_nil]; omega))) ?_
      refine wd_take 8 _ _ rfl (by kernel_rfl) hS (yd_do fun A hA => rn_assign (by conv => lhs; whnf)) ?_
      refine wd_done (by kernel_rfl) ?_ _
      replace hX := hX.own2 hS (fun i h => .inr (by have : b1 + 1 ≤ i := h; omega))
      refine W_ret ?_
      exact ⟨_, resR1 (res1_tmp rfl), hX, rfl⟩
end Go.Proofs.YthcclgoidchkdaaDoorC
