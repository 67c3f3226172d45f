/- The stripe of a text, of a filter, of a topic; the lock of a queue. -/
import Derived.Test.YtfdfphaiefbflaaStr1
import Derived.Test.YtfdfphaiefbflaaSet4
set_option linter.unusedVariables false
set_option linter.unusedSimpArgs false
set_option maxRecDepth 100000
namespace Go.Proofs.YtfdfphaiefbflaaC
open Go.RowKit
/-- The sum of a text's bytes. -/
def bsum (l : Str) : Nat := (l.map UInt8.toNat).sum
theorem bsum_take {l : Str} {i : Nat} {x : UInt8} (h : l[i]? = some x) : bsum (l.take (i + 1)) = bsum (l.take i) + x.toNat := by
  rw [List.take_add_one, h]; simp [bsum]
theorem bsum_le (l : Str) : bsum l ≤ 255 * l.length := by
  induction l with
  | nil => simp [bsum]
  | cons x l ih => have := UInt8.toNat_lt x; simp only [bsum, List.map_cons, List.sum_cons, List.length_cons] at *; omega
def stripeOf (s : Str) : Nat := bsum (pre1 47 s) % 4
def queueOf (n : Int) : Int := if n < 1 ∨ n > 8 then -1 else 3 + n
-- bellman/stripe.Of
set_option maxHeartbeats 800000 in
theorem of16_ok (w : World) (s : Str) (hn : s.length ≤ 1000000) : Fn Try.prog 23 #[Sv s] w fun u w' => u = .int .i64 (stripeOf s : Nat) := by
  have hpl := pre1_le 47 s
  have hbs := fun i => bsum_le ((pre1 47 s).take i)
  have hX := Ext.refl Non w
  refine fn_of_W (args := [_]) Try.func23 rfl (by kernel_rfl) rfl ?_
  refine W_seq ?_
  refine W_region ?_
  refine wl_val (rn_assign (by conv => lhs; whnf)) ?_
  refine wl_nil ?_
  refine W_seq ?_
  refine W_region ?_
  refine wl_val (rn_move (by conv => lhs; whnf)) ?_
  refine wl_call e_70 rfl (cut_ok w s 47 hn) ?_; intro v11 w1 hE1 hR1
  replace hX := hX.tr hE1
  subst hR1
  refine wl_val (rn_move (by conv => lhs; whnf)) ?_
  refine wl_val (rn_extract rfl rfl) ?_
  refine wl_val (rn_extract rfl rfl) ?_
  refine wl_val (rn_extract rfl rfl) ?_
  refine wl_val (rn_assign (by conv => lhs; whnf)) ?_
  refine wl_val (rn_assign (by conv => lhs; whnf)) ?_
  refine wl_val (rn_assign (by conv => lhs; whnf)) ?_
  refine wl_nil ?_
  refine W_seq ?_
  refine W_region ?_
  refine wl_val (rn_assign (by conv => lhs; whnf)) ?_
  refine wl_nil ?_
  refine W_seq ?_
  refine W_seq ?_
  refine W_region ?_
  refine wl_val (rn_move (by conv => lhs; whnf)) ?_
  refine wl_bytes us_9 sl_108 ui_5 rfl (by omega) ?_; intro v16 w16 hE16 hBs
  replace hX := hX.tr hE16
  obtain ⟨a16, c16, hv16, _⟩ := hBs.len; rw [List.length_map] at hv16; subst hv16
  refine wl_val (rn_len sl_108 rfl) ?_
  refine wl_val (rn_move (by conv => lhs; whnf)) ?_
  refine wl_nil ?_
  refine W_block ?_   -- block 0
  refine W_loopS (S := Nat) [6, 16, 17, 18] (fun i => [.int .i64 (bsum ((pre1 47 s).take i) : Nat), .slice a16 (pre1 47 s).length c16, .int .i64 ((pre1 47 s).length : Nat), .int .i64 (i : Nat)]) (fun i A => (Ext Non w A) ∧ (Ext Non w16 A ∧ i ≤ (pre1 47 s).length)) (fun i => (pre1 47 s).length - i) 0 ⟨rfl, rfl, rfl, rfl, trivial⟩ ⟨hX, ⟨Ext.refl _ _, Nat.zero_le _⟩⟩ ?_
  rintro τ0 i A0 ⟨hX, hI0⟩
  obtain ⟨hV, hil⟩ := hI0
  refine W_seq ?_
  refine W_region ?_
  refine wl_val (rn_lss rfl rfl) ?_
  refine wl_nil ?_
  refine W_seq ?_
  refine W_cond rfl (fun hc0 => ?_) (fun hc0 => ?_)
  · have hlt := of_decide_eq_true hc0; simp only [Int.ofNat_lt] at hlt
    obtain ⟨x, hi⟩ : ∃ x, (pre1 47 s)[i]? = some x := ⟨_, List.getElem?_eq_getElem hlt⟩
    obtain ⟨b, o, ea⟩ := hBs.base (by intro e; have := congrArg List.length e; simp only [List.length_map, List.length_nil] at this; omega); subst ea
    have hbt := bsum_take hi
    have hbi := hbs i
    have hx8 := UInt8.toNat_lt x
    simp only [List.length_take] at hbi
    refine W_skip ?_
    refine W_seq ?_
    refine W_block ?_   -- block 1
    refine W_seq ?_
    refine W_region ?_
    refine wl_val (rn_indexAddr sl_108 rfl rfl (by omega)) ?_
    refine wl_val (rn_load p_5 rfl ((hBs.ext hV (fun _ h => h)).at0 (eB8_at hi) rfl)) ?_
    refine wl_val (rn_assign (by conv => lhs; whnf)) ?_
    refine wl_nil ?_
    refine W_region ?_
    refine wl_val (rn_move (by conv => lhs; whnf)) ?_
    refine wl_val (rn_move (by conv => lhs; whnf)) ?_
    refine wl_val (rn_convert ui_5 ui_3 rfl (wrap_id (by omega))) ?_
    refine wl_val (rn_add rfl rfl (by omega)) ?_
    refine wl_val (rn_assign (by conv => lhs; whnf)) ?_
    refine wl_nil ?_
    refine W_region ?_
    refine wl_val (rn_add rfl rfl (by omega)) ?_
    refine wl_val (rn_move (by conv => lhs; whnf)) ?_
    refine wl_nil ?_
    
    exact ⟨rfl, i + 1, ⟨(congrArg (Value.int .i64) (show ((bsum ((pre1 47 s).take i) : Nat) : Int) + ((x.toNat : Nat) : Int) = ((bsum ((pre1 47 s).take (i + 1)) : Nat) : Int) by rw [hbt]; omega)), rfl, rfl, rfl, trivial⟩, ⟨hX, ⟨hV, hlt⟩⟩, by omega⟩
  · have hge := of_decide_eq_false hc0; simp only [Int.ofNat_lt, Nat.not_lt] at hge
    have hie : i = (pre1 47 s).length := by omega
    subst hie
    have hbi := hbs (pre1 47 s).length
    rw [List.take_length] at hbi
    refine W_exit ?_   -- exit 0
    refine W_seq ?_
    refine W_region ?_
    refine wl_val (rn_move (by conv => lhs; whnf)) ?_
    refine wl_val (rn_rem (a := bsum ((pre1 47 s).take (pre1 47 s).length)) (b := 4) rfl rfl (by decide) (by rw [List.take_length]; omega)) ?_
    refine wl_val (rn_assign (by conv => lhs; whnf)) ?_
    refine wl_nil ?_
    refine W_ret ?_
    exact ⟨_, resR1 (res1_tmp rfl), hX, by rw [List.take_length]; rfl⟩
-- bellman/stripe.Queue
theorem queue_ok (w : World) (n : Int) : Fn Try.prog 58 #[.int .i64 n] w fun u w' => u = .int .i64 (queueOf n) := by
  have hX := Ext.refl Non w
  refine fn_of_W (args := [_]) Try.func58 rfl (by kernel_rfl) rfl ?_
  refine W_seq ?_
  refine W_region ?_
  refine wl_val (rn_assign (by conv => lhs; whnf)) ?_
  refine wl_nil ?_
  refine W_seq ?_
  refine W_seq ?_
  refine W_region ?_
  refine wl_val (rn_move (by conv => lhs; whnf)) ?_
  refine wl_val (rn_lss rfl rfl) ?_
  refine wl_val (rn_move (by conv => lhs; whnf)) ?_
  refine wl_split (d := 5) rfl (fun hg5 => ?_) (fun hg5 => ?_)
  · have hq : queueOf n = -1 := by unfold queueOf; rw [if_pos (.inl (of_decide_eq_true hg5))]
    refine wl_no rfl (congrArg Value.bool hg5) ?_
    refine wl_no rfl (congrArg Value.bool hg5) ?_
    refine wl_val (rn_pickT (congrArg Value.bool hg5) (by conv => lhs; whnf)) ?_
    refine wl_nil ?_
    refine W_condT rfl ?_
    refine W_seq ?_
    refine W_region ?_
    refine wl_val (rn_assign (by conv => lhs; whnf)) ?_
    refine wl_nil ?_
    refine W_ret ?_
    exact ⟨_, resR1 (res1_tmp rfl), hX, by rw [hq]; rfl⟩
  · have hq1 := of_decide_eq_false hg5
    refine wl_yes rfl (congrArg Value.bool hg5) ?_
    refine wl_val (rn_move (by conv => lhs; whnf)) ?_
    refine wl_yes rfl (congrArg Value.bool hg5) ?_
    refine wl_val (rn_gtr rfl rfl) ?_
    refine wl_val (rn_pickF (congrArg Value.bool hg5) (by conv => lhs; whnf)) ?_
    refine wl_nil ?_
    refine W_cond rfl (fun hc0 => ?_) (fun hc0 => ?_)
    · have hq : queueOf n = -1 := by unfold queueOf; rw [if_pos (.inr (of_decide_eq_true hc0))]
      refine W_seq ?_
      refine W_region ?_
      refine wl_val (rn_assign (by conv => lhs; whnf)) ?_
      refine wl_nil ?_
      refine W_ret ?_
      exact ⟨_, resR1 (res1_tmp rfl), hX, by rw [hq]; rfl⟩
    · have hq2 := of_decide_eq_false hc0
      have hq : queueOf n = 3 + n := by unfold queueOf; rw [if_neg (by omega)]
      refine W_skip ?_
      refine W_seq ?_
      refine W_region ?_
      refine wl_val (rn_move (by conv => lhs; whnf)) ?_
      refine wl_val (rn_add rfl rfl (by omega)) ?_
      refine wl_val (rn_assign (by conv => lhs; whnf)) ?_
      refine wl_nil ?_
      refine W_ret ?_
      exact ⟨_, resR1 (res1_tmp rfl), hX, by rw [hq]; rfl⟩
-- bellman/stripe.ForTopic
theorem forTopic_ok (w : World) (s : Str) (hn : s.length ≤ 1000000) : Fn Try.prog 61 #[Sv s] w fun u w' => Sl Non w' u 1 ([(stripeOf s : Int)].map eI1) := by
  have hX := Ext.refl Non w
  refine fn_of_W (args := [_]) Try.func61 rfl (by kernel_rfl) rfl ?_
  refine W_seq ?_
  refine W_region ?_
  refine wl_val (rn_assign (by conv => lhs; whnf)) ?_
  refine wl_nil ?_
  refine W_seq ?_
  refine W_region ?_
  refine wl_val (rn_move (by conv => lhs; whnf)) ?_
  refine wl_call e_23 rfl (of16_ok w s hn) ?_; intro v4 w1 hE1 hR1
  replace hX := hX.tr hE1
  subst hR1
  refine wl_lit1 (r := eI1 (stripeOf s : Int)) sl_36 rfl rfl rfl rfl (by decide) ?_; intro v5 w2 b5 hb5 hE2 hO5
  replace hX := hX.tr hE2
  refine wl_val (rn_assign (by conv => lhs; whnf)) ?_
  refine wl_nil ?_
  refine W_ret ?_
  exact ⟨_, resR1 (res1_tmp rfl), hX, hO5.sl (M := Non) id⟩
-- bellman/stripe.ForFilter
theorem forFilter_ok (w : World) (s : Str) (hn : s.length ≤ 1000000) : Fn Try.prog 22 #[Sv s] w fun u w' => Sl Non w' u 1 ((if (decide (pre1 47 s = [43]) || decide (pre1 47 s = [35])) = true then [0, 1, 2, 3] else [(stripeOf s : Int)]).map eI1) := by
  have hX := Ext.refl Non w
  refine fn_of_W (args := [_]) Try.func22 rfl (by kernel_rfl) rfl ?_
  refine W_seq ?_
  refine W_region ?_
  refine wl_val (rn_assign (by conv => lhs; whnf)) ?_
  refine wl_nil ?_
  refine W_seq ?_
  refine W_seq ?_
  refine W_region ?_
  refine wl_val (rn_move (by conv => lhs; whnf)) ?_
  refine wl_call e_69 rfl (twild_ok w s hn) ?_; intro v6 w1 hE1 hR1
  replace hX := hX.tr hE1
  subst hR1
  refine wl_val (rn_not rfl) ?_
  refine wl_nil ?_
  refine W_cond rfl (fun hc0 => ?_) (fun hc0 => ?_)
  · have hw : ¬ (decide (pre1 47 s = [43]) || decide (pre1 47 s = [35])) = true := by revert hc0; generalize (decide (pre1 47 s = [43]) || decide (pre1 47 s = [35])) = t; cases t <;> simp
    refine W_seq ?_
    refine W_region ?_
    refine wl_val (rn_move (by conv => lhs; whnf)) ?_
    refine wl_call e_23 rfl (of16_ok w1 s hn) ?_; intro v9 w2 hE2 hR2
    replace hX := hX.tr hE2
    subst hR2
    refine wl_lit1 (r := eI1 (stripeOf s : Int)) sl_36 rfl rfl rfl rfl (by decide) ?_; intro v10 w3 b10 hb10 hE3 hO10
    replace hX := hX.tr hE3
    refine wl_val (rn_assign (by conv => lhs; whnf)) ?_
    refine wl_nil ?_
    refine W_ret ?_
    exact ⟨_, resR1 (res1_tmp rfl), hX, by rw [if_neg hw]; exact hO10.sl (M := Non) id⟩
  · have hw : (decide (pre1 47 s = [43]) || decide (pre1 47 s = [35])) = true := by revert hc0; generalize (decide (pre1 47 s = [43]) || decide (pre1 47 s = [35])) = t; cases t <;> simp
    refine W_skip ?_
    refine W_seq ?_
    refine W_region ?_
    refine wl_val (rn_assign (by conv => lhs; whnf)) ?_
    refine wl_nil ?_
    refine W_seq ?_
    refine W_seq ?_
    refine W_region ?_
    refine wl_val (rn_move (by conv => lhs; whnf)) ?_
    refine wl_nil ?_
    refine W_block ?_   -- block 0
    refine W_loopS (S := Nat × Value × Option Nat) [3, 11] (fun ⟨i, v, oo⟩ => [v, .int .i64 (i : Nat)]) (fun ⟨i, v, oo⟩ A => (Ext Non w A) ∧ (i ≤ 4 ∧ OwO A v oo 1 ((List.range i).map fun j => eI1 (j : Nat)) ∧ ∀ j, oo = some j → w.heap.size ≤ j)) (fun ⟨i, v, oo⟩ => 4 - i) (0, .slice none 0 0, none) ⟨rfl, rfl, trivial⟩ ⟨hX, ⟨by omega, OwO.nil, by simp⟩⟩ ?_
    rintro τ0 ⟨i, v, oo⟩ A0 ⟨hX, hI0⟩
    obtain ⟨hi4, hO, ho⟩ := hI0
    refine W_seq ?_
    refine W_region ?_
    refine wl_val (rn_lss rfl rfl) ?_
    refine wl_nil ?_
    refine W_seq ?_
    refine W_cond rfl (fun hc1 => ?_) (fun hc1 => ?_)
    · have hlt := of_decide_eq_true hc1
      refine W_skip ?_
      refine W_seq ?_
      refine W_block ?_   -- block 1
      refine W_seq ?_
      refine W_region ?_
      refine wl_val (rn_move (by conv => lhs; whnf)) ?_
      refine wl_val (rn_assign (by conv => lhs; whnf)) ?_
      refine wl_nil ?_
      refine W_region ?_
      refine wl_val (rn_move (by conv => lhs; whnf)) ?_
      refine wl_val (rn_move (by conv => lhs; whnf)) ?_
      refine wl_lit1 (r := [.int .i64 (i : Nat)]) sl_36 rfl rfl rfl rfl (by decide) ?_; intro v16 w4 b16 hb16 hE4 hO16
      replace hX := hX.tr hE4
      replace hO := hO.ext hE4 (fun _ _ h => h)
      have hXo := hX
      refine wl_app sl_36 rfl rfl rfl hO (hO16.sl (M := Non) id) (fun r hr => by simp only [List.mem_singleton] at hr; subst hr; exact one1 rfl) (by simp only [List.length_map, List.length_range, List.length_cons, List.length_nil]; omega) (by simp only [List.length_map, List.length_range, List.length_cons, List.length_nil, big]; omega) ?_; intro v17 w5 o17 hE5 hO17 hf17
      replace hX := hX.mineO hE5 (fun i hi => .inr (ho i hi))
      refine wl_val (rn_assign (by conv => lhs; whnf)) ?_
      refine wl_nil ?_
      refine W_region ?_
      refine wl_val (rn_add rfl rfl (by omega)) ?_
      refine wl_val (rn_move (by conv => lhs; whnf)) ?_
      refine wl_nil ?_
      exact ⟨rfl, (i + 1, v17, o17), ⟨rfl, rfl, trivial⟩, ⟨hX, ⟨by omega, by rw [List.range_succ, List.map_append]; exact hO17, fun j hj => by rcases hf17 j hj with h | h; exact ho j h; exact Nat.le_trans hXo.size h⟩⟩, by show 4 - (i + 1) < 4 - i; omega⟩
    · have hge := of_decide_eq_false hc1
      have hie : i = 4 := by omega
      subst hie
      refine W_exit ?_   -- exit 0
      refine W_seq ?_
      refine W_region ?_
      refine wl_val (rn_move (by conv => lhs; whnf)) ?_
      refine wl_val (rn_assign (by conv => lhs; whnf)) ?_
      refine wl_nil ?_
      refine W_ret ?_
      exact ⟨_, resR1 (res1_tmp rfl), hX, by rw [if_pos hw]; exact hO.sl (M := Non) (fun i hi => id)⟩
end Go.Proofs.YtfdfphaiefbflaaC
