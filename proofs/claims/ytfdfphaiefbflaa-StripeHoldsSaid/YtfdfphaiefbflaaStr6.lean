/- The document's stripes and plans; the laws StripeTells and StripeHolds. -/
import Derived.Test.YtfdfphaiefbflaaStr5
import Derived.Test.YtfdfphaiefbflaaRef2
set_option linter.unusedVariables false
set_option linter.unusedSimpArgs false
set_option maxRecDepth 100000
namespace Go.Proofs.YtfdfphaiefbflaaC
open Go.RowKit
def rp1 (st : List Int) (i : Nat) : List Int := ((List.range i).filter fun j : Nat => decide ((j : Int) ∈ st)).map fun j : Nat => (j : Int)
def rp2 (ks : List Int) (i : Nat) : List Int := ((List.range i).filter fun j : Nat => decide ((j : Int) + 1 ∈ ks)).map fun j : Nat => (j : Int) + 4
theorem rp1_yes {st : List Int} {i : Nat} (h : (i : Int) ∈ st) : rp1 st (i + 1) = rp1 st i ++ [(i : Int)] := by unfold rp1; rw [List.range_succ, List.filter_append, List.map_append]; simp [h]
theorem rp1_no {st : List Int} {i : Nat} (h : ¬ (i : Int) ∈ st) : rp1 st (i + 1) = rp1 st i := by unfold rp1; rw [List.range_succ, List.filter_append, List.map_append]; simp [h]
theorem rp2_yes {st : List Int} {i : Nat} (h : (i : Int) + 1 ∈ st) : rp2 st (i + 1) = rp2 st i ++ [(i : Int) + 4] := by unfold rp2; rw [List.range_succ, List.filter_append, List.map_append]; simp [h]
theorem rp2_no {st : List Int} {i : Nat} (h : ¬ (i : Int) + 1 ∈ st) : rp2 st (i + 1) = rp2 st i := by unfold rp2; rw [List.range_succ, List.filter_append, List.map_append]; simp [h]
theorem rp1_len (st : List Int) (i : Nat) : (rp1 st i).length ≤ i := by unfold rp1; rw [List.length_map]; have := List.length_filter_le (fun j : Nat => decide ((j : Int) ∈ st)) (List.range i); simpa using this
theorem rp2_len (st : List Int) (i : Nat) : (rp2 st i).length ≤ i := by unfold rp2; rw [List.length_map]; have := List.length_filter_le (fun j : Nat => decide ((j : Int) + 1 ∈ st)) (List.range i); simpa using this
def refPlan (st ks : List Int) : List Int := rp1 st 4 ++ rp2 ks 8
theorem mem_rp1 (st : List Int) (i : Nat) (y : Int) : y ∈ rp1 st i ↔ y ∈ st ∧ 0 ≤ y ∧ y < i := by
  unfold rp1; simp only [List.mem_map, List.mem_filter, List.mem_range, decide_eq_true_eq]
  constructor
  · rintro ⟨j, ⟨h1, h2⟩, rfl⟩; exact ⟨h2, by omega, by omega⟩
  · rintro ⟨h1, h2, h3⟩; exact ⟨y.toNat, ⟨by omega, by rw [Int.toNat_of_nonneg h2]; exact h1⟩, Int.toNat_of_nonneg h2⟩
theorem mem_rp2 (ks : List Int) (i : Nat) (y : Int) : y ∈ rp2 ks i ↔ y - 3 ∈ ks ∧ 4 ≤ y ∧ y < i + 4 := by
  unfold rp2; simp only [List.mem_map, List.mem_filter, List.mem_range, decide_eq_true_eq]
  constructor
  · rintro ⟨j, ⟨h1, h2⟩, rfl⟩; exact ⟨by rw [show (j : Int) + 4 - 3 = j + 1 by omega]; exact h2, by omega, by omega⟩
  · rintro ⟨h1, h2, h3⟩; exact ⟨(y - 4).toNat, ⟨by omega, by rw [show (((y - 4).toNat : Nat) : Int) + 1 = y - 3 by omega]; exact h1⟩, by omega⟩
theorem rp1_sorted (st : List Int) (i : Nat) : Sorted ltI (rp1 st i) := by
  unfold rp1 Sorted
  rw [List.pairwise_map]
  refine List.Pairwise.sublist List.filter_sublist ?_
  exact List.pairwise_lt_range.imp fun {a b} h => by simp only [ltI, decide_eq_true_eq]; omega
theorem rp2_sorted (st : List Int) (i : Nat) : Sorted ltI (rp2 st i) := by
  unfold rp2 Sorted
  rw [List.pairwise_map]
  refine List.Pairwise.sublist List.filter_sublist ?_
  exact List.pairwise_lt_range.imp fun {a b} h => by simp only [ltI, decide_eq_true_eq]; omega
theorem refPlan_eq (st subs : List Int) : planOf st (ofL subs) = refPlan st subs := by
  refine sorted_ext lo_int _ _ (planOf_sorted _ _) ?_ fun y => ?_
  · unfold refPlan Sorted
    rw [List.pairwise_append]
    refine ⟨rp1_sorted _ _, rp2_sorted _ _, fun a ha b hb => ?_⟩
    have h1 := (mem_rp1 _ _ _).1 ha; have h2 := (mem_rp2 _ _ _).1 hb
    simp only [ltI, decide_eq_true_eq]; omega
  · unfold refPlan
    rw [planOf_mem, List.mem_append, mem_rp1, mem_rp2]
    constructor
    · rintro (h | ⟨k, hk, h1, h2⟩)
      · exact .inl h
      · right
        have hk := (ofL_mem _ _).1 hk
        unfold queueOf at h1
        split at h1
        · omega
        · subst h1; exact ⟨by rw [show 3 + k - 3 = k by omega]; exact hk, by omega, by omega⟩
    · rintro (h | ⟨h1, h2, h3⟩)
      · exact .inl h
      · refine .inr ⟨y - 3, (ofL_mem _ _).2 h1, ?_, by omega⟩
        unfold queueOf; rw [if_neg (by omega)]; omega
def stripesOf (s : Str) : List Int := if wildB s = true then [0, 1, 2, 3] else [(stripeOf s : Int)]
/-- A topic that a filter matches has its stripe among the filter's. -/
theorem stripe_holds {f t : Str} (h : matchB f t = true) : (stripeOf t : Int) ∈ stripesOf f := by
  unfold stripesOf
  have hlt : stripeOf t < 4 := Nat.mod_lt _ (by decide)
  by_cases hw : wildB f = true
  · rw [if_pos hw]; simp only [List.mem_cons, List.not_mem_nil, or_false]; omega
  · rw [if_neg hw]
    unfold matchB at h
    simp only [Bool.and_eq_true] at h
    have hl := h.2
    obtain ⟨r, hr⟩ := spl_head 47 f; obtain ⟨q, hq⟩ := spl_head 47 t
    have hnw : ¬ pre1 47 f = [43] ∧ ¬ pre1 47 f = [35] := by unfold wildB at hw; simpa using hw
    rw [hr, hq] at hl
    unfold likeB at hl
    rw [if_neg hnw.2] at hl
    simp only [Bool.and_eq_true, Bool.or_eq_true, decide_eq_true_eq] at hl
    have e : pre1 47 f = pre1 47 t := by rcases hl.1 with h | h; exact h; exact absurd h.1 hnw.1
    unfold stripeOf; rw [e]; simp
-- bellman/bellmanref16.has
theorem has16_ok (w : World) (l : List Int) (n : Int) {v : Value} (hs : Sl Non w v 1 (l.map eI1)) (hn : l.length ≤ 1000000) : Fn Try.prog 96 #[v, .int .i64 n] w fun u w' => u = .bool (decide (n ∈ l)) := by
  obtain ⟨a, c, rfl, _⟩ := hs.len
  simp only [List.length_map] at hs ⊢
  have hX := Ext.refl Non w
  refine fn_of_W (args := [_, _]) Try.func96 rfl (by kernel_rfl) rfl ?_
  refine W_seq ?_
  refine W_region ?_
  refine wl_val (rn_assign (by conv => lhs; whnf)) ?_
  refine wl_nil ?_
  refine W_seq ?_
  refine W_seq ?_
  refine W_region ?_
  refine wl_val (rn_assign (by conv => lhs; whnf)) ?_
  refine wl_nil ?_
  refine W_block ?_   -- block 0
  refine W_loopS (S := Nat) [0, 1, 5] (fun i => [.slice a l.length c, .int .i64 n, .int .i64 (i : Nat)]) (fun i A => (Ext Non w A) ∧ (i ≤ l.length ∧ ¬ n ∈ l.take i)) (fun i => l.length - i) 0 ⟨rfl, rfl, rfl, trivial⟩ ⟨hX, ⟨Nat.zero_le _, by simp⟩⟩ ?_
  rintro τ0 i A0 ⟨hX, hI0⟩
  obtain ⟨hil, hno⟩ := hI0
  refine W_seq ?_
  refine W_seq ?_
  refine W_region ?_
  refine wl_val (rn_move (by conv => lhs; whnf)) ?_
  refine wl_val (rn_move (by conv => lhs; whnf)) ?_
  refine wl_val (rn_len sl_36 rfl) ?_
  refine wl_val (rn_lss rfl rfl) ?_
  refine wl_nil ?_
  refine W_cond rfl (fun hc0 => ?_) (fun hc0 => ?_)
  · have hlt := of_decide_eq_true hc0; simp only [Int.ofNat_lt] at hlt
    obtain ⟨x, hi⟩ : ∃ x, (l)[i]? = some x := ⟨_, List.getElem?_eq_getElem hlt⟩
    obtain ⟨bb, oo, ea⟩ := hs.base (by intro e; have := congrArg List.length e; simp only [List.length_map, List.length_nil] at this; omega); subst ea
    refine W_skip ?_
    refine W_seq ?_
    refine W_block ?_   -- block 1
    refine W_seq ?_
    refine W_region ?_
    refine wl_val (rn_move (by conv => lhs; whnf)) ?_
    refine wl_val (rn_move (by conv => lhs; whnf)) ?_
    refine wl_val (rn_indexAddr sl_36 rfl rfl (by omega)) ?_
    refine wl_val (rn_load p_3 rfl ((hs.ext hX (fun _ h => h)).at0 (eI_at hi) rfl)) ?_
    refine wl_val (rn_move (by conv => lhs; whnf)) ?_
    refine wl_val (rn_eql rfl rfl) ?_
    refine wl_nil ?_
    refine W_cond rfl (fun hc1 => ?_) (fun hc1 => ?_)
    · have hcx := of_decide_eq_true hc1
      refine W_seq ?_
      refine W_region ?_
      refine wl_val (rn_assign (by conv => lhs; whnf)) ?_
      refine wl_nil ?_
      refine W_ret ?_
      exact ⟨_, resR1 (res1_tmp rfl), hX, by rw [decide_eq_true (show n ∈ l from hcx ▸ List.mem_of_getElem? hi)]; rfl⟩
    · have hcx := of_decide_eq_false hc1
      refine W_skip ?_
      refine W_region ?_
      refine wl_val (rn_move (by conv => lhs; whnf)) ?_
      refine wl_val (rn_add rfl rfl (by omega)) ?_
      refine wl_val (rn_assign (by conv => lhs; whnf)) ?_
      refine wl_nil ?_
      exact ⟨rfl, i + 1, ⟨rfl, rfl, rfl, trivial⟩, ⟨hX, ⟨hlt, by rw [List.take_add_one, hi]; simp only [Option.toList_some, List.mem_append, List.mem_singleton, not_or]; exact ⟨hno, fun e => hcx e.symm⟩⟩⟩, by omega⟩
  · have hge := of_decide_eq_false hc0; simp only [Int.ofNat_lt, Nat.not_lt] at hge
    rw [List.take_of_length_le hge] at hno
    refine W_exit ?_   -- exit 0
    refine W_seq ?_
    refine W_region ?_
    refine wl_val (rn_assign (by conv => lhs; whnf)) ?_
    refine wl_nil ?_
    refine W_ret ?_
    exact ⟨_, resR1 (res1_tmp rfl), hX, by rw [decide_eq_false hno]; rfl⟩
-- bellman/bellmanref16.Of
set_option maxHeartbeats 800000 in
theorem rof_ok (w : World) (s : Str) (hn : s.length ≤ 1000000) : Fn Try.prog 59 #[Sv s] w fun u w' => u = .int .i64 (stripeOf s : Nat) := by
  have hpl := pre1_le 47 s
  have hbs := fun i => bsum_le ((pre1 47 s).take i)
  have hX := Ext.refl Non w
  refine fn_of_W (args := [_]) Try.func59 rfl (by kernel_rfl) rfl ?_
  refine W_seq ?_
  refine W_region ?_
  refine wl_val (rn_assign (by conv => lhs; whnf)) ?_
  refine wl_nil ?_
  refine W_seq ?_
  refine W_region ?_
  refine wl_val (rn_move (by conv => lhs; whnf)) ?_
  refine wl_call e_68 rfl (rlevels_ok w s hn) ?_; intro v7 w1 hE1 hR1
  replace hX := hX.tr hE1
  have hL := hR1; obtain ⟨a7, c7, hv7_, _⟩ := id hL.len; rw [List.length_map] at hv7_; subst hv7_
  obtain ⟨wL, hwL⟩ : ∃ x, x = w1 := ⟨_, rfl⟩
  rw [← hwL] at hL
  have hV : Ext Non wL w1 := by rw [hwL]; exact Ext.refl _ _
  obtain ⟨r0, hr0⟩ := spl_head 47 s
  have hi0 : (spl 47 s)[0]? = some (pre1 47 s) := by rw [hr0]; rfl
  have hl0 : 0 < (spl 47 s).length := by rw [hr0]; simp
  obtain ⟨bb, oo, ea⟩ := hL.base (by intro e; have := congrArg List.length e; simp only [List.length_map, List.length_nil] at this; omega); subst ea
  refine wl_val (rn_indexAddr sl_52 rfl rfl (by omega)) ?_
  refine wl_val (rn_load p_9 rfl ((hL.ext hV (fun _ h => h)).at0 (eS_at (i := 0) hi0) rfl)) ?_
  refine wl_val (rn_assign (by conv => lhs; whnf)) ?_
  refine wl_nil ?_
  refine W_seq ?_
  refine W_region ?_
  refine wl_val (rn_assign (by conv => lhs; whnf)) ?_
  refine wl_nil ?_
  refine W_seq ?_
  refine W_seq ?_
  refine W_region ?_
  refine wl_val (rn_assign (by conv => lhs; whnf)) ?_
  refine wl_nil ?_
  refine W_block ?_   -- block 0
  refine W_loopS (S := Nat) [3, 4, 5] (fun i => [Sv (pre1 47 s), .int .i64 ((bsum ((pre1 47 s).take i) % 4 : Nat) : Int), .int .i64 (i : Nat)]) (fun i A => (Ext Non w A) ∧ (i ≤ (pre1 47 s).length)) (fun i => (pre1 47 s).length - i) 0 ⟨rfl, rfl, rfl, trivial⟩ ⟨hX, Nat.zero_le _⟩ ?_
  rintro τ0 i A0 ⟨hX, hI0⟩
  have hil := hI0
  refine W_seq ?_
  refine W_seq ?_
  refine W_region ?_
  refine wl_val (rn_move (by conv => lhs; whnf)) ?_
  refine wl_val (rn_move (by conv => lhs; whnf)) ?_
  refine wl_val (rn_slen us_9 rfl) ?_
  refine wl_val (rn_lss rfl rfl) ?_
  refine wl_nil ?_
  refine W_cond rfl (fun hc0 => ?_) (fun hc0 => ?_)
  · have hlt := of_decide_eq_true hc0; simp only [Int.ofNat_lt] at hlt
    obtain ⟨x, hi⟩ : ∃ x, ((pre1 47 s))[i]? = some x := ⟨_, List.getElem?_eq_getElem hlt⟩
    have hbt := bsum_take hi
    have hx8 := UInt8.toNat_lt x
    refine W_skip ?_
    refine W_seq ?_
    refine W_block ?_   -- block 1
    refine W_region ?_
    refine wl_val (rn_move (by conv => lhs; whnf)) ?_
    refine wl_val (rn_move (by conv => lhs; whnf)) ?_
    refine wl_val (rn_move (by conv => lhs; whnf)) ?_
    refine wl_val (rn_sindex us_9 rfl rfl (by omega) hi) ?_
    refine wl_val (rn_convert ui_5 ui_3 rfl (wrap_id (by omega))) ?_
    refine wl_val (rn_add rfl rfl (by omega)) ?_
    refine wl_val (rn_rem (a := bsum ((pre1 47 s).take i) % 4 + x.toNat) (b := 4) rfl rfl (by decide) (by omega)) ?_
    refine wl_val (rn_assign (by conv => lhs; whnf)) ?_
    refine wl_nil ?_
    refine W_region ?_
    refine wl_val (rn_move (by conv => lhs; whnf)) ?_
    refine wl_val (rn_add rfl rfl (by omega)) ?_
    refine wl_val (rn_assign (by conv => lhs; whnf)) ?_
    refine wl_nil ?_
    
    exact ⟨rfl, i + 1, ⟨rfl, (congrArg (fun n : Nat => Value.int .i64 (n : Int)) (show (bsum ((pre1 47 s).take i) % 4 + x.toNat) % 4 = bsum ((pre1 47 s).take (i + 1)) % 4 by rw [hbt]; omega)), rfl, trivial⟩, ⟨hX, hlt⟩, by omega⟩
  · have hge := of_decide_eq_false hc0; simp only [Int.ofNat_lt, Nat.not_lt] at hge
    have hie : i = (pre1 47 s).length := by omega
    subst hie
    refine W_exit ?_   -- exit 0
    refine W_seq ?_
    refine W_region ?_
    refine wl_val (rn_move (by conv => lhs; whnf)) ?_
    refine wl_val (rn_assign (by conv => lhs; whnf)) ?_
    refine wl_nil ?_
    refine W_ret ?_
    exact ⟨_, resR1 (res1_tmp rfl), hX, by rw [List.take_length]; rfl⟩
-- bellman/bellmanref16.ForFilter
theorem rforFilter_ok (w : World) (s : Str) (hn : s.length ≤ 1000000) : Fn Try.prog 60 #[Sv s] w fun u w' => Sl Non w' u 1 ((stripesOf s).map eI1) := by
  have hX := Ext.refl Non w
  refine fn_of_W (args := [_]) Try.func60 rfl (by kernel_rfl) rfl ?_
  refine W_seq ?_
  refine W_region ?_
  refine wl_val (rn_assign (by conv => lhs; whnf)) ?_
  refine wl_nil ?_
  refine W_seq ?_
  refine W_seq ?_
  refine W_region ?_
  refine wl_val (rn_move (by conv => lhs; whnf)) ?_
  refine wl_call e_67 rfl (rwild_ok w s hn) ?_; intro v4 w1 hE1 hR1
  replace hX := hX.tr hE1
  subst hR1
  refine wl_nil ?_
  refine W_cond rfl (fun hc0 => ?_) (fun hc0 => ?_)
  · refine W_seq ?_
    refine W_region ?_
    refine wl_lit sl_36 (rows := [0, 1, 2, 3].map eI1) rfl (by decide) (by decide) rfl rfl (by intro r hr; obtain ⟨x, _, rfl⟩ := List.mem_map.1 hr; rfl) (by intro p hp; simp at hp; rcases hp with rfl | rfl | rfl | rfl <;> exact ⟨rfl, Nat.le_of_ble_eq_true rfl⟩) rfl ?_; intro v5 w2 b5 hb5 hE2 hO5
    replace hX := hX.tr hE2
    refine wl_val (rn_assign (by conv => lhs; whnf)) ?_
    refine wl_nil ?_
    refine W_ret ?_
    exact ⟨_, resR1 (res1_tmp rfl), hX, by unfold stripesOf; rw [if_pos hc0]; exact hO5.sl (M := Non) id⟩
  · refine W_skip ?_
    refine W_seq ?_
    refine W_region ?_
    refine wl_val (rn_move (by conv => lhs; whnf)) ?_
    refine wl_call e_59 rfl (rof_ok w1 s hn) ?_; intro v7 w3 hE3 hR3
    replace hX := hX.tr hE3
    subst hR3
    refine wl_lit1 (r := eI1 (stripeOf s : Int)) sl_36 rfl rfl rfl rfl (by decide) ?_; intro v8 w4 b8 hb8 hE4 hO8
    replace hX := hX.tr hE4
    refine wl_val (rn_assign (by conv => lhs; whnf)) ?_
    refine wl_nil ?_
    refine W_ret ?_
    exact ⟨_, resR1 (res1_tmp rfl), hX, by unfold stripesOf; rw [if_neg (by rw [hc0]; simp)]; exact hO8.sl (M := Non) id⟩
-- bellman/bellmanref16.Plan
set_option maxHeartbeats 800000 in
theorem rplan_ok (w : World) (st ks : List Int) {va vk : Value} (hs : Sl Non w va 1 (st.map eI1)) (hk : Sl Non w vk 1 (ks.map eI1)) (hn : st.length ≤ 1000000) (hnk : ks.length ≤ 1000000) : Fn Try.prog 62 #[va, vk] w fun u w' => Sl Non w' u 1 ((refPlan st ks).map eI1) := by
  have hX := Ext.refl Non w
  refine fn_of_W (args := [_, _]) Try.func62 rfl (by kernel_rfl) rfl ?_
  refine W_seq ?_
  refine W_region ?_
  refine wl_val (rn_assign (by conv => lhs; whnf)) ?_
  refine wl_nil ?_
  refine W_seq ?_
  refine W_region ?_
  refine wl_val (rn_assign (by conv => lhs; whnf)) ?_
  refine wl_nil ?_
  refine W_seq ?_
  refine W_seq ?_
  refine W_region ?_
  refine wl_val (rn_assign (by conv => lhs; whnf)) ?_
  refine wl_nil ?_
  refine W_block ?_   -- block 0
  refine W_loopS (S := Nat × Value × Option Nat) [0, 1, 5, 6] (fun ⟨i, v, oo⟩ => [va, vk, v, .int .i64 (i : Nat)]) (fun ⟨i, v, oo⟩ A => (Ext Non w A) ∧ (i ≤ 4 ∧ OwO A v oo 1 ((rp1 st i).map eI1) ∧ ∀ j, oo = some j → w.heap.size ≤ j)) (fun ⟨i, v, oo⟩ => 4 - i) (0, .slice none 0 0, none) ⟨rfl, rfl, rfl, rfl, trivial⟩ ⟨hX, ⟨by omega, OwO.nil, by simp⟩⟩ ?_
  rintro τ0 ⟨i, v, oo⟩ A0 ⟨hX, hI0⟩
  obtain ⟨hil, hO, ho⟩ := hI0
  have hrl := rp1_len st i
  refine W_seq ?_
  refine W_seq ?_
  refine W_region ?_
  refine wl_val (rn_move (by conv => lhs; whnf)) ?_
  refine wl_val (rn_lss rfl rfl) ?_
  refine wl_nil ?_
  refine W_cond rfl (fun hc0 => ?_) (fun hc0 => ?_)
  · have hlt := of_decide_eq_true hc0
    refine W_skip ?_
    refine W_seq ?_
    refine W_block ?_   -- block 1
    refine W_seq ?_
    refine W_region ?_
    refine wl_val (rn_move (by conv => lhs; whnf)) ?_
    refine wl_val (rn_move (by conv => lhs; whnf)) ?_
    refine wl_call e_96 rfl (has16_ok A0 st (i : Int) (hs.ext hX (fun _ h => h)) hn) ?_; intro v14 w1 hE1 hR1
    replace hX := hX.tr hE1
    replace hO := hO.ext hE1 (fun _ _ h => h)
    subst hR1
    refine wl_nil ?_
    refine W_cond rfl (fun hc1 => ?_) (fun hc1 => ?_)
    · have hm := rp1_yes (of_decide_eq_true hc1)
      refine W_region ?_
      refine wl_val (rn_move (by conv => lhs; whnf)) ?_
      refine wl_val (rn_move (by conv => lhs; whnf)) ?_
      refine wl_lit1 (r := eI1 (i : Int)) sl_36 rfl rfl rfl rfl (by decide) ?_; intro v17 w2 b17 hb17 hE2 hO17
      replace hX := hX.tr hE2
      replace hO := hO.ext hE2 (fun _ _ h => h)
      have hXo := hX
      refine wl_app sl_36 rfl rfl rfl hO (hO17.sl (M := Non) id) (fun r hr => by simp only [List.mem_singleton] at hr; subst hr; exact one1 rfl) (by simp only [List.length_map, List.length_range, List.length_cons, List.length_nil]; omega) (by simp only [List.length_map, List.length_range, List.length_cons, List.length_nil, big]; omega) ?_; intro v18 w3 o18 hE3 hO18 hf18
      replace hX := hX.mineO hE3 (fun i hi => .inr (ho i hi))
      have ho18 : ∀ i, o18 = some i → w.heap.size ≤ i := fun j hj => by rcases hf18 j hj with h | h; exact ho j h; exact Nat.le_trans hXo.size h
      refine wl_val (rn_assign (by conv => lhs; whnf)) ?_
      refine wl_nil ?_
      refine W_region ?_
      refine wl_val (rn_move (by conv => lhs; whnf)) ?_
      refine wl_val (rn_add rfl rfl (by omega)) ?_
      refine wl_val (rn_assign (by conv => lhs; whnf)) ?_
      refine wl_nil ?_
      exact ⟨rfl, (i + 1, v18, o18), ⟨rfl, rfl, rfl, rfl, trivial⟩, ⟨hX, ⟨by omega, by rw [hm, List.map_append]; exact hO18, ho18⟩⟩, by show 4 - (i + 1) < 4 - i; omega⟩
    · have hm := rp1_no (of_decide_eq_false hc1)
      refine W_skip ?_
      refine W_region ?_
      refine wl_val (rn_move (by conv => lhs; whnf)) ?_
      refine wl_val (rn_add rfl rfl (by omega)) ?_
      refine wl_val (rn_assign (by conv => lhs; whnf)) ?_
      refine wl_nil ?_
      exact ⟨rfl, (i + 1, v, oo), ⟨rfl, rfl, rfl, rfl, trivial⟩, ⟨hX, ⟨by omega, by rw [hm]; exact hO, ho⟩⟩, by show 4 - (i + 1) < 4 - i; omega⟩
  · have hge := of_decide_eq_false hc0
    have hie : i = 4 := by omega
    subst hie
    refine W_exit ?_   -- exit 0
    refine W_seq ?_
    refine W_seq ?_
    refine W_region ?_
    refine wl_val (rn_assign (by conv => lhs; whnf)) ?_
    refine wl_nil ?_
    refine W_block ?_   -- block 2
    refine W_loopS (S := Nat × Value × Option Nat) [1, 5, 7] (fun ⟨i, v, oo⟩ => [vk, v, .int .i64 ((i : Int) + 1)]) (fun ⟨i, v, oo⟩ A => (Ext Non w A) ∧ (i ≤ 8 ∧ OwO A v oo 1 ((rp1 st 4 ++ rp2 ks i).map eI1) ∧ ∀ j, oo = some j → w.heap.size ≤ j)) (fun ⟨i, v, oo⟩ => 8 - i) (0, v, oo) ⟨rfl, rfl, rfl, trivial⟩ ⟨hX, ⟨by omega, by simpa [rp2] using hO, ho⟩⟩ ?_
    rintro τ1 ⟨i, v, oo⟩ A1 ⟨hX, hI1⟩
    obtain ⟨hil, hO, ho⟩ := hI1
    have hrl := rp1_len st 4; have hrl2 := rp2_len ks i
    have hrl3 : (rp1 st 4 ++ rp2 ks i).length ≤ 12 := by rw [List.length_append]; omega
    refine W_seq ?_
    refine W_seq ?_
    refine W_region ?_
    refine wl_val (rn_move (by conv => lhs; whnf)) ?_
    refine wl_val (rn_leq rfl rfl) ?_
    refine wl_nil ?_
    refine W_cond rfl (fun hc2 => ?_) (fun hc2 => ?_)
    · have hlt := of_decide_eq_true hc2
      refine W_skip ?_
      refine W_seq ?_
      refine W_block ?_   -- block 3
      refine W_seq ?_
      refine W_region ?_
      refine wl_val (rn_move (by conv => lhs; whnf)) ?_
      refine wl_val (rn_move (by conv => lhs; whnf)) ?_
      refine wl_call e_96 rfl (has16_ok A1 ks ((i : Int) + 1) (hk.ext hX (fun _ h => h)) hnk) ?_; intro v25 w4 hE4 hR4
      replace hX := hX.tr hE4
      replace hO := hO.ext hE4 (fun _ _ h => h)
      subst hR4
      refine wl_nil ?_
      refine W_cond rfl (fun hc3 => ?_) (fun hc3 => ?_)
      · have hm := rp2_yes (of_decide_eq_true hc3)
        refine W_region ?_
        refine wl_val (rn_move (by conv => lhs; whnf)) ?_
        refine wl_val (rn_move (by conv => lhs; whnf)) ?_
        refine wl_val (Rn.cast (rn_add rfl rfl (by omega)) (v' := .int .i64 ((i : Int) + 4)) (congrArg (Value.int .i64) (show (3 : Int) + ((i : Int) + 1) = (i : Int) + 4 by omega))) ?_
        refine wl_lit1 (r := eI1 ((i : Int) + 4)) sl_36 rfl rfl rfl rfl (by decide) ?_; intro v29 w5 b29 hb29 hE5 hO29
        replace hX := hX.tr hE5
        replace hO := hO.ext hE5 (fun _ _ h => h)
        have hXo := hX
        refine wl_app sl_36 rfl rfl rfl hO (hO29.sl (M := Non) id) (fun r hr => by simp only [List.mem_singleton] at hr; subst hr; exact one1 rfl) (by simp only [List.length_map, List.length_range, List.length_cons, List.length_nil]; omega) (by simp only [List.length_map, List.length_range, List.length_cons, List.length_nil, big]; omega) ?_; intro v30 w6 o30 hE6 hO30 hf30
        replace hX := hX.mineO hE6 (fun i hi => .inr (ho i hi))
        have ho30 : ∀ i, o30 = some i → w.heap.size ≤ i := fun j hj => by rcases hf30 j hj with h | h; exact ho j h; exact Nat.le_trans hXo.size h
        refine wl_val (rn_assign (by conv => lhs; whnf)) ?_
        refine wl_nil ?_
        refine W_region ?_
        refine wl_val (rn_move (by conv => lhs; whnf)) ?_
        refine wl_val (rn_add rfl rfl (by omega)) ?_
        refine wl_val (rn_assign (by conv => lhs; whnf)) ?_
        refine wl_nil ?_
        
        exact ⟨rfl, (i + 1, v30, o30), ⟨rfl, rfl, (congrArg (Value.int .i64) (show (i : Int) + 1 + 1 = ((i + 1 : Nat) : Int) + 1 by omega)), trivial⟩, ⟨hX, ⟨by omega, by rw [hm, ← List.append_assoc, List.map_append]; exact hO30, ho30⟩⟩, by show 8 - (i + 1) < 8 - i; omega⟩
      · have hm := rp2_no (of_decide_eq_false hc3)
        refine W_skip ?_
        refine W_region ?_
        refine wl_val (rn_move (by conv => lhs; whnf)) ?_
        refine wl_val (rn_add rfl rfl (by omega)) ?_
        refine wl_val (rn_assign (by conv => lhs; whnf)) ?_
        refine wl_nil ?_
        exact ⟨rfl, (i + 1, v, oo), ⟨rfl, rfl, rfl, trivial⟩, ⟨hX, ⟨by omega, by rw [hm]; exact hO, ho⟩⟩, by show 8 - (i + 1) < 8 - i; omega⟩
    · have hge := of_decide_eq_false hc2
      have hie : i = 8 := by omega
      subst hie
      refine W_exit ?_   -- exit 2
      refine W_seq ?_
      refine W_region ?_
      refine wl_val (rn_move (by conv => lhs; whnf)) ?_
      refine wl_val (rn_assign (by conv => lhs; whnf)) ?_
      refine wl_nil ?_
      refine W_ret ?_
      exact ⟨_, resR1 (res1_tmp rfl), hX, hO.sl (M := Non) (fun i hi => id)⟩
-- bellman/bellmanlaw16.StripeTells
set_option maxHeartbeats 2000000 in
theorem stripeTells_ok (w : World) (s : Str) (sub : Int) (st subs : List Int) {v vb : Value} (hs : Sl Non w v 1 (st.map eI1)) (ht : Sl Non w vb 1 (subs.map eI1)) : Fn Try.prog 12 #[Sv s, .int .i64 sub, v, vb] w fun u w' => u = .bool true := by
  obtain ⟨a, c, rfl, hbig0⟩ := hs.len
  obtain ⟨a2, c2, rfl, hbig1⟩ := ht.len
  simp only [List.length_map] at hs ht hbig0 hbig1 ⊢
  have hls := ofL_len subs
  have hpl := planOf_len st (ofL subs)
  have hq0 : ∀ q : Int, (sub < 1 ∨ sub > 8 → q = -1) → (1 ≤ sub ∧ sub ≤ 8 → q = 3 + sub) → queueOf sub = q := fun q h1 h2 => by unfold queueOf; split; exact (h1 ‹_›).symm; exact (h2 (by omega)).symm
  have hX := Ext.refl Non w
  refine fn_of_W (args := [_, _, _, _]) Try.func12 rfl (by kernel_rfl) rfl ?_
  refine W_seq ?_
  refine W_region ?_
  refine wl_val (rn_assign (by conv => lhs; whnf)) ?_
  refine wl_nil ?_
  refine W_seq ?_
  refine W_seq ?_
  refine W_region ?_
  refine wl_call e_19 rfl (awake16_ok w) ?_; intro v10 w1 hE1 hR1
  replace hX := hX.tr hE1
  subst hR1
  refine wl_val (rn_not rfl) ?_
  refine wl_nil ?_
  refine W_cond rfl (fun hc0 => ?_) (fun hc0 => ?_)
  · exact absurd hc0 (by decide)
  · refine W_skip ?_
    refine W_seq ?_
    refine W_seq ?_
    refine W_region ?_
    refine wl_val (rn_move (by conv => lhs; whnf)) ?_
    refine wl_call e_20 rfl (long_ok w1 s) ?_; intro v13 w2 hE2 hR2
    replace hX := hX.tr hE2
    subst hR2
    refine wl_val (rn_move (by conv => lhs; whnf)) ?_
    refine wl_split (d := 14) rfl (fun hg14 => ?_) (fun hg14 => ?_)
    · refine wl_no rfl (congrArg Value.bool hg14) ?_
      refine wl_no rfl (congrArg Value.bool hg14) ?_
      refine wl_no rfl (congrArg Value.bool hg14) ?_
      refine wl_val (rn_pickT (congrArg Value.bool hg14) (by conv => lhs; whnf)) ?_
      refine wl_val (rn_move (by conv => lhs; whnf)) ?_
      refine wl_no rfl rfl ?_
      refine wl_no rfl rfl ?_
      refine wl_no rfl rfl ?_
      refine wl_val (rn_pickT rfl (by conv => lhs; whnf)) ?_
      refine wl_nil ?_
      refine W_condT rfl ?_
      refine W_seq ?_
      refine W_region ?_
      refine wl_val (rn_assign (by conv => lhs; whnf)) ?_
      refine wl_nil ?_
      refine W_ret ?_
      exact ⟨_, resR1 (res1_tmp rfl), hX, rfl⟩
    · have hns : s.length ≤ 1000000 := by have := of_decide_eq_false hg14; omega
      refine wl_yes rfl (congrArg Value.bool hg14) ?_
      refine wl_val (rn_move (by conv => lhs; whnf)) ?_
      refine wl_yes rfl (congrArg Value.bool hg14) ?_
      refine wl_val (rn_len sl_36 rfl) ?_
      refine wl_yes rfl (congrArg Value.bool hg14) ?_
      refine wl_val (rn_gtr rfl rfl) ?_
      refine wl_val (rn_pickF (congrArg Value.bool hg14) (by conv => lhs; whnf)) ?_
      refine wl_val (rn_move (by conv => lhs; whnf)) ?_
      refine wl_split (d := 19) rfl (fun hg19 => ?_) (fun hg19 => ?_)
      · refine wl_no rfl (congrArg Value.bool hg19) ?_
        refine wl_no rfl (congrArg Value.bool hg19) ?_
        refine wl_no rfl (congrArg Value.bool hg19) ?_
        refine wl_val (rn_pickT (congrArg Value.bool hg19) (by conv => lhs; whnf)) ?_
        refine wl_nil ?_
        refine W_condT rfl ?_
        refine W_seq ?_
        refine W_region ?_
        refine wl_val (rn_assign (by conv => lhs; whnf)) ?_
        refine wl_nil ?_
        refine W_ret ?_
        exact ⟨_, resR1 (res1_tmp rfl), hX, rfl⟩
      · have hna : st.length ≤ 100 := by have := of_decide_eq_false hg19; omega
        refine wl_yes rfl (congrArg Value.bool hg19) ?_
        refine wl_val (rn_move (by conv => lhs; whnf)) ?_
        refine wl_yes rfl (congrArg Value.bool hg19) ?_
        refine wl_val (rn_len sl_36 rfl) ?_
        refine wl_yes rfl (congrArg Value.bool hg19) ?_
        refine wl_val (rn_gtr rfl rfl) ?_
        refine wl_val (rn_pickF (congrArg Value.bool hg19) (by conv => lhs; whnf)) ?_
        refine wl_nil ?_
        refine W_cond rfl (fun hc1 => ?_) (fun hc1 => ?_)
        · refine W_seq ?_
          refine W_region ?_
          refine wl_val (rn_assign (by conv => lhs; whnf)) ?_
          refine wl_nil ?_
          refine W_ret ?_
          exact ⟨_, resR1 (res1_tmp rfl), hX, rfl⟩
        · have hnb : subs.length ≤ 100 := by have := of_decide_eq_false hc1; omega
          refine W_skip ?_
          refine W_seq ?_
          refine W_region ?_
          refine wl_val (rn_assign (by conv => lhs; whnf)) ?_
          refine wl_nil ?_
          refine W_seq ?_
          refine W_seq ?_
          refine W_region ?_
          refine wl_val (rn_move (by conv => lhs; whnf)) ?_
          refine wl_val (rn_geq rfl rfl) ?_
          refine wl_val (rn_move (by conv => lhs; whnf)) ?_
          refine wl_split (d := 26) rfl (fun hg26 => ?_) (fun hg26 => ?_)
          · have hs1 := of_decide_eq_true hg26
            refine wl_yes rfl (congrArg Value.bool hg26) ?_
            refine wl_val (rn_move (by conv => lhs; whnf)) ?_
            refine wl_yes rfl (congrArg Value.bool hg26) ?_
            refine wl_val (rn_leq rfl rfl) ?_
            refine wl_val (rn_pickT (congrArg Value.bool hg26) (by conv => lhs; whnf)) ?_
            refine wl_nil ?_
            refine W_cond rfl (fun hc2 => ?_) (fun hc2 => ?_)
            · have hs2 := of_decide_eq_true hc2
              have hqq : queueOf sub = 3 + sub := hq0 _ (fun h => by have := of_decide_eq_true hc2; omega) (fun _ => rfl)
              refine W_region ?_
              refine wl_val (rn_move (by conv => lhs; whnf)) ?_
              refine wl_val (rn_add rfl rfl (by omega)) ?_
              refine wl_val (rn_assign (by conv => lhs; whnf)) ?_
              refine wl_nil ?_
              refine W_seq ?_
              refine W_region ?_
              refine wl_val (rn_move (by conv => lhs; whnf)) ?_
              refine wl_call e_23 rfl (of16_ok w2 s hns) ?_; intro v33 w3 hE3 hR3
              replace hX := hX.tr hE3
              subst hR3
              refine wl_val (rn_move (by conv => lhs; whnf)) ?_
              refine wl_call e_59 rfl (rof_ok w3 s hns) ?_; intro v35 w4 hE4 hR4
              replace hX := hX.tr hE4
              subst hR4
              refine wl_val (rn_eql rfl rfl) ?_
              refine wl_val (rn_move (by conv => lhs; whnf)) ?_
              refine wl_split (d := 37) rfl (fun hg37 => ?_) (fun hg37 => ?_)
              · refine wl_yes rfl (congrArg Value.bool hg37) ?_
                refine wl_val (rn_move (by conv => lhs; whnf)) ?_
                refine wl_yes rfl (congrArg Value.bool hg37) ?_
                refine wl_call e_22 rfl (forFilter_ok w4 s hns) ?_; intro v39 w5 hE5 hR5
                replace hX := hX.tr hE5
                have hA : Sl Non w5 _ 1 ((stripesOf s).map eI1) := hR5
                obtain ⟨wA, hwA⟩ : ∃ x, x = w5 := ⟨_, rfl⟩
                rw [← hwA] at hA
                have hVA : Ext Non wA w5 := by rw [hwA]; exact Ext.refl _ _
                refine wl_yes rfl (congrArg Value.bool hg37) ?_
                refine wl_val (rn_move (by conv => lhs; whnf)) ?_
                refine wl_yes rfl (congrArg Value.bool hg37) ?_
                refine wl_call e_60 rfl (rforFilter_ok w5 s hns) ?_; intro v41 w6 hE6 hR6
                replace hX := hX.tr hE6
                replace hVA := hVA.tr hE6
                have hB := hR6
                obtain ⟨wB, hwB⟩ : ∃ x, x = w6 := ⟨_, rfl⟩
                rw [← hwB] at hB
                have hVB : Ext Non wB w6 := by rw [hwB]; exact Ext.refl _ _
                refine wl_yes rfl (congrArg Value.bool hg37) ?_
                refine wl_call e_30 rfl (ints_ok w6 (stripesOf s) (stripesOf s) (hA.ext hVA (fun _ h => h)) (hB.ext hVB (fun _ h => h)) (by unfold stripesOf; split <;> simp)) ?_; intro v42 w7 hE7 hR7
                replace hX := hX.tr hE7
                replace hVA := hVA.tr hE7
                replace hVB := hVB.tr hE7
                subst hR7
                refine wl_val (rn_pickT (congrArg Value.bool hg37) (by conv => lhs; whnf)) ?_
                refine wl_val (rn_move (by conv => lhs; whnf)) ?_
                refine wl_split (d := 44) rfl (fun hg44 => ?_) (fun hg44 => ?_)
                · refine wl_yes rfl (congrArg Value.bool hg44) ?_
                  refine wl_val (rn_move (by conv => lhs; whnf)) ?_
                  refine wl_yes rfl (congrArg Value.bool hg44) ?_
                  refine wl_call e_61 rfl (forTopic_ok w7 s hns) ?_; intro v46 w8 hE8 hR8
                  replace hX := hX.tr hE8
                  replace hVA := hVA.tr hE8
                  replace hVB := hVB.tr hE8
                  have hC := hR8
                  obtain ⟨wC, hwC⟩ : ∃ x, x = w8 := ⟨_, rfl⟩
                  rw [← hwC] at hC
                  have hVC : Ext Non wC w8 := by rw [hwC]; exact Ext.refl _ _
                  refine wl_yes rfl (congrArg Value.bool hg44) ?_
                  refine wl_val (rn_move (by conv => lhs; whnf)) ?_
                  refine wl_yes rfl (congrArg Value.bool hg44) ?_
                  refine wl_call e_59 rfl (rof_ok w8 s hns) ?_; intro v48 w9 hE9 hR9
                  replace hX := hX.tr hE9
                  replace hVA := hVA.tr hE9
                  replace hVB := hVB.tr hE9
                  replace hVC := hVC.tr hE9
                  subst hR9
                  refine wl_yes rfl (congrArg Value.bool hg44) ?_
                  refine wl_lit1 (r := eI1 (stripeOf s : Int)) sl_36 rfl rfl rfl rfl (by decide) ?_; intro v49 w10 b49 hb49 hE10 hO49
                  replace hX := hX.tr hE10
                  replace hVA := hVA.tr hE10
                  replace hVB := hVB.tr hE10
                  replace hVC := hVC.tr hE10
                  refine wl_yes rfl (congrArg Value.bool hg44) ?_
                  refine wl_call e_30 rfl (ints_ok w10 [(stripeOf s : Int)] [(stripeOf s : Int)] (hC.ext hVC (fun _ h => h)) (hO49.sl (M := Non) id) (by simp)) ?_; intro v50 w11 hE11 hR11
                  replace hX := hX.tr hE11
                  replace hVA := hVA.tr hE11
                  replace hVB := hVB.tr hE11
                  replace hVC := hVC.tr hE11
                  subst hR11
                  refine wl_val (rn_pickT (congrArg Value.bool hg44) (by conv => lhs; whnf)) ?_
                  refine wl_val (rn_move (by conv => lhs; whnf)) ?_
                  refine wl_split (d := 52) rfl (fun hg52 => ?_) (fun hg52 => ?_)
                  · refine wl_yes rfl (congrArg Value.bool hg52) ?_
                    refine wl_val (rn_move (by conv => lhs; whnf)) ?_
                    refine wl_yes rfl (congrArg Value.bool hg52) ?_
                    refine wl_call e_58 rfl (queue_ok w11 sub) ?_; intro v54 w12 hE12 hR12
                    replace hX := hX.tr hE12
                    replace hVA := hVA.tr hE12
                    replace hVB := hVB.tr hE12
                    replace hVC := hVC.tr hE12
                    subst hR12
                    refine wl_yes rfl (congrArg Value.bool hg52) ?_
                    refine wl_val (rn_move (by conv => lhs; whnf)) ?_
                    refine wl_yes rfl (congrArg Value.bool hg52) ?_
                    refine wl_val (rn_eql rfl rfl) ?_
                    refine wl_val (rn_pickT (congrArg Value.bool hg52) (by conv => lhs; whnf)) ?_
                    refine wl_val (rn_move (by conv => lhs; whnf)) ?_
                    refine wl_split (d := 58) rfl (fun hg58 => ?_) (fun hg58 => ?_)
                    · refine wl_yes rfl (congrArg Value.bool hg58) ?_
                      refine wl_val (rn_move (by conv => lhs; whnf)) ?_
                      refine wl_yes rfl (congrArg Value.bool hg58) ?_
                      refine wl_val (rn_move (by conv => lhs; whnf)) ?_
                      refine wl_yes rfl (congrArg Value.bool hg58) ?_
                      refine wl_call e_25 rfl (of_ok w12 subs (ht.ext hX (fun _ h => h)) (by omega)) ?_; intro v61 w13 hE13 hR13
                      replace hX := hX.tr hE13
                      replace hVA := hVA.tr hE13
                      replace hVB := hVB.tr hE13
                      replace hVC := hVC.tr hE13
                      have hS61 := hR13
                      refine wl_yes rfl (congrArg Value.bool hg58) ?_
                      refine wl_call e_57 rfl (plan_ok w13 st (ofL subs) (hs.ext hX (fun _ h => h)) (hS61.sub (M' := Non) (fun _ h _ => h.elim)) (ofL_sorted _) (by omega) (by omega)) ?_; intro v62 w14 hE14 hR14
                      replace hX := hX.tr hE14
                      replace hVA := hVA.tr hE14
                      replace hVB := hVB.tr hE14
                      replace hVC := hVC.tr hE14
                      have hP := hR14
                      obtain ⟨wP, hwP⟩ : ∃ x, x = w14 := ⟨_, rfl⟩
                      rw [← hwP] at hP
                      have hVP : Ext Non wP w14 := by rw [hwP]; exact Ext.refl _ _
                      refine wl_yes rfl (congrArg Value.bool hg58) ?_
                      refine wl_val (rn_move (by conv => lhs; whnf)) ?_
                      refine wl_yes rfl (congrArg Value.bool hg58) ?_
                      refine wl_val (rn_move (by conv => lhs; whnf)) ?_
                      refine wl_yes rfl (congrArg Value.bool hg58) ?_
                      refine wl_call e_62 rfl (rplan_ok w14 st subs (hs.ext hX (fun _ h => h)) (ht.ext hX (fun _ h => h)) (by omega) (by omega)) ?_; intro v65 w15 hE15 hR15
                      replace hX := hX.tr hE15
                      replace hVA := hVA.tr hE15
                      replace hVB := hVB.tr hE15
                      replace hVC := hVC.tr hE15
                      replace hVP := hVP.tr hE15
                      have hQ := hR15
                      obtain ⟨wQ, hwQ⟩ : ∃ x, x = w15 := ⟨_, rfl⟩
                      rw [← hwQ] at hQ
                      have hVQ : Ext Non wQ w15 := by rw [hwQ]; exact Ext.refl _ _
                      refine wl_yes rfl (congrArg Value.bool hg58) ?_
                      refine wl_call e_30 rfl (ints_ok w15 (planOf st (ofL subs)) (refPlan st subs) (hP.ext hVP (fun _ h => h)) (hQ.ext hVQ (fun _ h => h)) (by omega)) ?_; intro v66 w16 hE16 hR16
                      replace hX := hX.tr hE16
                      replace hVA := hVA.tr hE16
                      replace hVB := hVB.tr hE16
                      replace hVC := hVC.tr hE16
                      replace hVP := hVP.tr hE16
                      replace hVQ := hVQ.tr hE16
                      subst hR16
                      refine wl_val (rn_pickT (congrArg Value.bool hg58) (by conv => lhs; whnf)) ?_
                      refine wl_val (rn_assign (by conv => lhs; whnf)) ?_
                      refine wl_nil ?_
                      refine W_ret ?_
                      exact ⟨_, resR1 (res1_tmp rfl), hX, by rw [decide_eq_true (refPlan_eq st subs)]; rfl⟩
                    · exact absurd hg58 (by rw [hqq]; simp)
                  · exact absurd hg52 (by simp)
                · exact absurd hg44 (by simp)
              · exact absurd hg37 (by simp)
            · have hqq : queueOf sub = -1 := hq0 _ (fun _ => rfl) (fun h => absurd h.2 (of_decide_eq_false hc2))
              refine W_skip ?_
              refine W_seq ?_
              refine W_region ?_
              refine wl_val (rn_move (by conv => lhs; whnf)) ?_
              refine wl_call e_23 rfl (of16_ok w2 s hns) ?_; intro v33 w17 hE17 hR17
              replace hX := hX.tr hE17
              subst hR17
              refine wl_val (rn_move (by conv => lhs; whnf)) ?_
              refine wl_call e_59 rfl (rof_ok w17 s hns) ?_; intro v35 w18 hE18 hR18
              replace hX := hX.tr hE18
              subst hR18
              refine wl_val (rn_eql rfl rfl) ?_
              refine wl_val (rn_move (by conv => lhs; whnf)) ?_
              refine wl_split (d := 37) rfl (fun hg37 => ?_) (fun hg37 => ?_)
              · refine wl_yes rfl (congrArg Value.bool hg37) ?_
                refine wl_val (rn_move (by conv => lhs; whnf)) ?_
                refine wl_yes rfl (congrArg Value.bool hg37) ?_
                refine wl_call e_22 rfl (forFilter_ok w18 s hns) ?_; intro v39 w19 hE19 hR19
                replace hX := hX.tr hE19
                have hA : Sl Non w19 _ 1 ((stripesOf s).map eI1) := hR19
                obtain ⟨wA, hwA⟩ : ∃ x, x = w19 := ⟨_, rfl⟩
                rw [← hwA] at hA
                have hVA : Ext Non wA w19 := by rw [hwA]; exact Ext.refl _ _
                refine wl_yes rfl (congrArg Value.bool hg37) ?_
                refine wl_val (rn_move (by conv => lhs; whnf)) ?_
                refine wl_yes rfl (congrArg Value.bool hg37) ?_
                refine wl_call e_60 rfl (rforFilter_ok w19 s hns) ?_; intro v41 w20 hE20 hR20
                replace hX := hX.tr hE20
                replace hVA := hVA.tr hE20
                have hB := hR20
                obtain ⟨wB, hwB⟩ : ∃ x, x = w20 := ⟨_, rfl⟩
                rw [← hwB] at hB
                have hVB : Ext Non wB w20 := by rw [hwB]; exact Ext.refl _ _
                refine wl_yes rfl (congrArg Value.bool hg37) ?_
                refine wl_call e_30 rfl (ints_ok w20 (stripesOf s) (stripesOf s) (hA.ext hVA (fun _ h => h)) (hB.ext hVB (fun _ h => h)) (by unfold stripesOf; split <;> simp)) ?_; intro v42 w21 hE21 hR21
                replace hX := hX.tr hE21
                replace hVA := hVA.tr hE21
                replace hVB := hVB.tr hE21
                subst hR21
                refine wl_val (rn_pickT (congrArg Value.bool hg37) (by conv => lhs; whnf)) ?_
                refine wl_val (rn_move (by conv => lhs; whnf)) ?_
                refine wl_split (d := 44) rfl (fun hg44 => ?_) (fun hg44 => ?_)
                · refine wl_yes rfl (congrArg Value.bool hg44) ?_
                  refine wl_val (rn_move (by conv => lhs; whnf)) ?_
                  refine wl_yes rfl (congrArg Value.bool hg44) ?_
                  refine wl_call e_61 rfl (forTopic_ok w21 s hns) ?_; intro v46 w22 hE22 hR22
                  replace hX := hX.tr hE22
                  replace hVA := hVA.tr hE22
                  replace hVB := hVB.tr hE22
                  have hC := hR22
                  obtain ⟨wC, hwC⟩ : ∃ x, x = w22 := ⟨_, rfl⟩
                  rw [← hwC] at hC
                  have hVC : Ext Non wC w22 := by rw [hwC]; exact Ext.refl _ _
                  refine wl_yes rfl (congrArg Value.bool hg44) ?_
                  refine wl_val (rn_move (by conv => lhs; whnf)) ?_
                  refine wl_yes rfl (congrArg Value.bool hg44) ?_
                  refine wl_call e_59 rfl (rof_ok w22 s hns) ?_; intro v48 w23 hE23 hR23
                  replace hX := hX.tr hE23
                  replace hVA := hVA.tr hE23
                  replace hVB := hVB.tr hE23
                  replace hVC := hVC.tr hE23
                  subst hR23
                  refine wl_yes rfl (congrArg Value.bool hg44) ?_
                  refine wl_lit1 (r := eI1 (stripeOf s : Int)) sl_36 rfl rfl rfl rfl (by decide) ?_; intro v49 w24 b49 hb49 hE24 hO49
                  replace hX := hX.tr hE24
                  replace hVA := hVA.tr hE24
                  replace hVB := hVB.tr hE24
                  replace hVC := hVC.tr hE24
                  refine wl_yes rfl (congrArg Value.bool hg44) ?_
                  refine wl_call e_30 rfl (ints_ok w24 [(stripeOf s : Int)] [(stripeOf s : Int)] (hC.ext hVC (fun _ h => h)) (hO49.sl (M := Non) id) (by simp)) ?_; intro v50 w25 hE25 hR25
                  replace hX := hX.tr hE25
                  replace hVA := hVA.tr hE25
                  replace hVB := hVB.tr hE25
                  replace hVC := hVC.tr hE25
                  subst hR25
                  refine wl_val (rn_pickT (congrArg Value.bool hg44) (by conv => lhs; whnf)) ?_
                  refine wl_val (rn_move (by conv => lhs; whnf)) ?_
                  refine wl_split (d := 52) rfl (fun hg52 => ?_) (fun hg52 => ?_)
                  · refine wl_yes rfl (congrArg Value.bool hg52) ?_
                    refine wl_val (rn_move (by conv => lhs; whnf)) ?_
                    refine wl_yes rfl (congrArg Value.bool hg52) ?_
                    refine wl_call e_58 rfl (queue_ok w25 sub) ?_; intro v54 w26 hE26 hR26
                    replace hX := hX.tr hE26
                    replace hVA := hVA.tr hE26
                    replace hVB := hVB.tr hE26
                    replace hVC := hVC.tr hE26
                    subst hR26
                    refine wl_yes rfl (congrArg Value.bool hg52) ?_
                    refine wl_val (rn_move (by conv => lhs; whnf)) ?_
                    refine wl_yes rfl (congrArg Value.bool hg52) ?_
                    refine wl_val (rn_eql rfl rfl) ?_
                    refine wl_val (rn_pickT (congrArg Value.bool hg52) (by conv => lhs; whnf)) ?_
                    refine wl_val (rn_move (by conv => lhs; whnf)) ?_
                    refine wl_split (d := 58) rfl (fun hg58 => ?_) (fun hg58 => ?_)
                    · refine wl_yes rfl (congrArg Value.bool hg58) ?_
                      refine wl_val (rn_move (by conv => lhs; whnf)) ?_
                      refine wl_yes rfl (congrArg Value.bool hg58) ?_
                      refine wl_val (rn_move (by conv => lhs; whnf)) ?_
                      refine wl_yes rfl (congrArg Value.bool hg58) ?_
                      refine wl_call e_25 rfl (of_ok w26 subs (ht.ext hX (fun _ h => h)) (by omega)) ?_; intro v61 w27 hE27 hR27
                      replace hX := hX.tr hE27
                      replace hVA := hVA.tr hE27
                      replace hVB := hVB.tr hE27
                      replace hVC := hVC.tr hE27
                      have hS61 := hR27
                      refine wl_yes rfl (congrArg Value.bool hg58) ?_
                      refine wl_call e_57 rfl (plan_ok w27 st (ofL subs) (hs.ext hX (fun _ h => h)) (hS61.sub (M' := Non) (fun _ h _ => h.elim)) (ofL_sorted _) (by omega) (by omega)) ?_; intro v62 w28 hE28 hR28
                      replace hX := hX.tr hE28
                      replace hVA := hVA.tr hE28
                      replace hVB := hVB.tr hE28
                      replace hVC := hVC.tr hE28
                      have hP := hR28
                      obtain ⟨wP, hwP⟩ : ∃ x, x = w28 := ⟨_, rfl⟩
                      rw [← hwP] at hP
                      have hVP : Ext Non wP w28 := by rw [hwP]; exact Ext.refl _ _
                      refine wl_yes rfl (congrArg Value.bool hg58) ?_
                      refine wl_val (rn_move (by conv => lhs; whnf)) ?_
                      refine wl_yes rfl (congrArg Value.bool hg58) ?_
                      refine wl_val (rn_move (by conv => lhs; whnf)) ?_
                      refine wl_yes rfl (congrArg Value.bool hg58) ?_
                      refine wl_call e_62 rfl (rplan_ok w28 st subs (hs.ext hX (fun _ h => h)) (ht.ext hX (fun _ h => h)) (by omega) (by omega)) ?_; intro v65 w29 hE29 hR29
                      replace hX := hX.tr hE29
                      replace hVA := hVA.tr hE29
                      replace hVB := hVB.tr hE29
                      replace hVC := hVC.tr hE29
                      replace hVP := hVP.tr hE29
                      have hQ := hR29
                      obtain ⟨wQ, hwQ⟩ : ∃ x, x = w29 := ⟨_, rfl⟩
                      rw [← hwQ] at hQ
                      have hVQ : Ext Non wQ w29 := by rw [hwQ]; exact Ext.refl _ _
                      refine wl_yes rfl (congrArg Value.bool hg58) ?_
                      refine wl_call e_30 rfl (ints_ok w29 (planOf st (ofL subs)) (refPlan st subs) (hP.ext hVP (fun _ h => h)) (hQ.ext hVQ (fun _ h => h)) (by omega)) ?_; intro v66 w30 hE30 hR30
                      replace hX := hX.tr hE30
                      replace hVA := hVA.tr hE30
                      replace hVB := hVB.tr hE30
                      replace hVC := hVC.tr hE30
                      replace hVP := hVP.tr hE30
                      replace hVQ := hVQ.tr hE30
                      subst hR30
                      refine wl_val (rn_pickT (congrArg Value.bool hg58) (by conv => lhs; whnf)) ?_
                      refine wl_val (rn_assign (by conv => lhs; whnf)) ?_
                      refine wl_nil ?_
                      refine W_ret ?_
                      exact ⟨_, resR1 (res1_tmp rfl), hX, by rw [decide_eq_true (refPlan_eq st subs)]; rfl⟩
                    · exact absurd hg58 (by rw [hqq]; simp)
                  · exact absurd hg52 (by simp)
                · exact absurd hg44 (by simp)
              · exact absurd hg37 (by simp)
          · have hqq : queueOf sub = -1 := hq0 _ (fun _ => rfl) (fun h => absurd h.1 (of_decide_eq_false hg26))
            refine wl_no rfl (congrArg Value.bool hg26) ?_
            refine wl_no rfl (congrArg Value.bool hg26) ?_
            refine wl_val (rn_pickF (congrArg Value.bool hg26) (by conv => lhs; whnf)) ?_
            refine wl_nil ?_
            refine W_condF rfl ?_
            refine W_skip ?_
            refine W_seq ?_
            refine W_region ?_
            refine wl_val (rn_move (by conv => lhs; whnf)) ?_
            refine wl_call e_23 rfl (of16_ok w2 s hns) ?_; intro v33 w31 hE31 hR31
            replace hX := hX.tr hE31
            subst hR31
            refine wl_val (rn_move (by conv => lhs; whnf)) ?_
            refine wl_call e_59 rfl (rof_ok w31 s hns) ?_; intro v35 w32 hE32 hR32
            replace hX := hX.tr hE32
            subst hR32
            refine wl_val (rn_eql rfl rfl) ?_
            refine wl_val (rn_move (by conv => lhs; whnf)) ?_
            refine wl_split (d := 37) rfl (fun hg37 => ?_) (fun hg37 => ?_)
            · refine wl_yes rfl (congrArg Value.bool hg37) ?_
              refine wl_val (rn_move (by conv => lhs; whnf)) ?_
              refine wl_yes rfl (congrArg Value.bool hg37) ?_
              refine wl_call e_22 rfl (forFilter_ok w32 s hns) ?_; intro v39 w33 hE33 hR33
              replace hX := hX.tr hE33
              have hA : Sl Non w33 _ 1 ((stripesOf s).map eI1) := hR33
              obtain ⟨wA, hwA⟩ : ∃ x, x = w33 := ⟨_, rfl⟩
              rw [← hwA] at hA
              have hVA : Ext Non wA w33 := by rw [hwA]; exact Ext.refl _ _
              refine wl_yes rfl (congrArg Value.bool hg37) ?_
              refine wl_val (rn_move (by conv => lhs; whnf)) ?_
              refine wl_yes rfl (congrArg Value.bool hg37) ?_
              refine wl_call e_60 rfl (rforFilter_ok w33 s hns) ?_; intro v41 w34 hE34 hR34
              replace hX := hX.tr hE34
              replace hVA := hVA.tr hE34
              have hB := hR34
              obtain ⟨wB, hwB⟩ : ∃ x, x = w34 := ⟨_, rfl⟩
              rw [← hwB] at hB
              have hVB : Ext Non wB w34 := by rw [hwB]; exact Ext.refl _ _
              refine wl_yes rfl (congrArg Value.bool hg37) ?_
              refine wl_call e_30 rfl (ints_ok w34 (stripesOf s) (stripesOf s) (hA.ext hVA (fun _ h => h)) (hB.ext hVB (fun _ h => h)) (by unfold stripesOf; split <;> simp)) ?_; intro v42 w35 hE35 hR35
              replace hX := hX.tr hE35
              replace hVA := hVA.tr hE35
              replace hVB := hVB.tr hE35
              subst hR35
              refine wl_val (rn_pickT (congrArg Value.bool hg37) (by conv => lhs; whnf)) ?_
              refine wl_val (rn_move (by conv => lhs; whnf)) ?_
              refine wl_split (d := 44) rfl (fun hg44 => ?_) (fun hg44 => ?_)
              · refine wl_yes rfl (congrArg Value.bool hg44) ?_
                refine wl_val (rn_move (by conv => lhs; whnf)) ?_
                refine wl_yes rfl (congrArg Value.bool hg44) ?_
                refine wl_call e_61 rfl (forTopic_ok w35 s hns) ?_; intro v46 w36 hE36 hR36
                replace hX := hX.tr hE36
                replace hVA := hVA.tr hE36
                replace hVB := hVB.tr hE36
                have hC := hR36
                obtain ⟨wC, hwC⟩ : ∃ x, x = w36 := ⟨_, rfl⟩
                rw [← hwC] at hC
                have hVC : Ext Non wC w36 := by rw [hwC]; exact Ext.refl _ _
                refine wl_yes rfl (congrArg Value.bool hg44) ?_
                refine wl_val (rn_move (by conv => lhs; whnf)) ?_
                refine wl_yes rfl (congrArg Value.bool hg44) ?_
                refine wl_call e_59 rfl (rof_ok w36 s hns) ?_; intro v48 w37 hE37 hR37
                replace hX := hX.tr hE37
                replace hVA := hVA.tr hE37
                replace hVB := hVB.tr hE37
                replace hVC := hVC.tr hE37
                subst hR37
                refine wl_yes rfl (congrArg Value.bool hg44) ?_
                refine wl_lit1 (r := eI1 (stripeOf s : Int)) sl_36 rfl rfl rfl rfl (by decide) ?_; intro v49 w38 b49 hb49 hE38 hO49
                replace hX := hX.tr hE38
                replace hVA := hVA.tr hE38
                replace hVB := hVB.tr hE38
                replace hVC := hVC.tr hE38
                refine wl_yes rfl (congrArg Value.bool hg44) ?_
                refine wl_call e_30 rfl (ints_ok w38 [(stripeOf s : Int)] [(stripeOf s : Int)] (hC.ext hVC (fun _ h => h)) (hO49.sl (M := Non) id) (by simp)) ?_; intro v50 w39 hE39 hR39
                replace hX := hX.tr hE39
                replace hVA := hVA.tr hE39
                replace hVB := hVB.tr hE39
                replace hVC := hVC.tr hE39
                subst hR39
                refine wl_val (rn_pickT (congrArg Value.bool hg44) (by conv => lhs; whnf)) ?_
                refine wl_val (rn_move (by conv => lhs; whnf)) ?_
                refine wl_split (d := 52) rfl (fun hg52 => ?_) (fun hg52 => ?_)
                · refine wl_yes rfl (congrArg Value.bool hg52) ?_
                  refine wl_val (rn_move (by conv => lhs; whnf)) ?_
                  refine wl_yes rfl (congrArg Value.bool hg52) ?_
                  refine wl_call e_58 rfl (queue_ok w39 sub) ?_; intro v54 w40 hE40 hR40
                  replace hX := hX.tr hE40
                  replace hVA := hVA.tr hE40
                  replace hVB := hVB.tr hE40
                  replace hVC := hVC.tr hE40
                  subst hR40
                  refine wl_yes rfl (congrArg Value.bool hg52) ?_
                  refine wl_val (rn_move (by conv => lhs; whnf)) ?_
                  refine wl_yes rfl (congrArg Value.bool hg52) ?_
                  refine wl_val (rn_eql rfl rfl) ?_
                  refine wl_val (rn_pickT (congrArg Value.bool hg52) (by conv => lhs; whnf)) ?_
                  refine wl_val (rn_move (by conv => lhs; whnf)) ?_
                  refine wl_split (d := 58) rfl (fun hg58 => ?_) (fun hg58 => ?_)
                  · refine wl_yes rfl (congrArg Value.bool hg58) ?_
                    refine wl_val (rn_move (by conv => lhs; whnf)) ?_
                    refine wl_yes rfl (congrArg Value.bool hg58) ?_
                    refine wl_val (rn_move (by conv => lhs; whnf)) ?_
                    refine wl_yes rfl (congrArg Value.bool hg58) ?_
                    refine wl_call e_25 rfl (of_ok w40 subs (ht.ext hX (fun _ h => h)) (by omega)) ?_; intro v61 w41 hE41 hR41
                    replace hX := hX.tr hE41
                    replace hVA := hVA.tr hE41
                    replace hVB := hVB.tr hE41
                    replace hVC := hVC.tr hE41
                    have hS61 := hR41
                    refine wl_yes rfl (congrArg Value.bool hg58) ?_
                    refine wl_call e_57 rfl (plan_ok w41 st (ofL subs) (hs.ext hX (fun _ h => h)) (hS61.sub (M' := Non) (fun _ h _ => h.elim)) (ofL_sorted _) (by omega) (by omega)) ?_; intro v62 w42 hE42 hR42
                    replace hX := hX.tr hE42
                    replace hVA := hVA.tr hE42
                    replace hVB := hVB.tr hE42
                    replace hVC := hVC.tr hE42
                    have hP := hR42
                    obtain ⟨wP, hwP⟩ : ∃ x, x = w42 := ⟨_, rfl⟩
                    rw [← hwP] at hP
                    have hVP : Ext Non wP w42 := by rw [hwP]; exact Ext.refl _ _
                    refine wl_yes rfl (congrArg Value.bool hg58) ?_
                    refine wl_val (rn_move (by conv => lhs; whnf)) ?_
                    refine wl_yes rfl (congrArg Value.bool hg58) ?_
                    refine wl_val (rn_move (by conv => lhs; whnf)) ?_
                    refine wl_yes rfl (congrArg Value.bool hg58) ?_
                    refine wl_call e_62 rfl (rplan_ok w42 st subs (hs.ext hX (fun _ h => h)) (ht.ext hX (fun _ h => h)) (by omega) (by omega)) ?_; intro v65 w43 hE43 hR43
                    replace hX := hX.tr hE43
                    replace hVA := hVA.tr hE43
                    replace hVB := hVB.tr hE43
                    replace hVC := hVC.tr hE43
                    replace hVP := hVP.tr hE43
                    have hQ := hR43
                    obtain ⟨wQ, hwQ⟩ : ∃ x, x = w43 := ⟨_, rfl⟩
                    rw [← hwQ] at hQ
                    have hVQ : Ext Non wQ w43 := by rw [hwQ]; exact Ext.refl _ _
                    refine wl_yes rfl (congrArg Value.bool hg58) ?_
                    refine wl_call e_30 rfl (ints_ok w43 (planOf st (ofL subs)) (refPlan st subs) (hP.ext hVP (fun _ h => h)) (hQ.ext hVQ (fun _ h => h)) (by omega)) ?_; intro v66 w44 hE44 hR44
                    replace hX := hX.tr hE44
                    replace hVA := hVA.tr hE44
                    replace hVB := hVB.tr hE44
                    replace hVC := hVC.tr hE44
                    replace hVP := hVP.tr hE44
                    replace hVQ := hVQ.tr hE44
                    subst hR44
                    refine wl_val (rn_pickT (congrArg Value.bool hg58) (by conv => lhs; whnf)) ?_
                    refine wl_val (rn_assign (by conv => lhs; whnf)) ?_
                    refine wl_nil ?_
                    refine W_ret ?_
                    exact ⟨_, resR1 (res1_tmp rfl), hX, by rw [decide_eq_true (refPlan_eq st subs)]; rfl⟩
                  · exact absurd hg58 (by rw [hqq]; simp)
                · exact absurd hg52 (by simp)
              · exact absurd hg44 (by simp)
            · exact absurd hg37 (by simp)
-- bellman/bellmanlaw16.StripeHolds
set_option maxHeartbeats 2000000 in
theorem stripeHolds_ok (w : World) (f t : Str) : Fn Try.prog 4 #[Sv f, Sv t] w fun u w' => u = .bool true := by
  have hX := Ext.refl Non w
  refine fn_of_W (args := [_, _]) Try.func4 rfl (by kernel_rfl) rfl ?_
  refine W_seq ?_
  refine W_region ?_
  refine wl_val (rn_assign (by conv => lhs; whnf)) ?_
  refine wl_nil ?_
  refine W_seq ?_
  refine W_seq ?_
  refine W_region ?_
  refine wl_call e_19 rfl (awake16_ok w) ?_; intro v7 w1 hE1 hR1
  replace hX := hX.tr hE1
  subst hR1
  refine wl_val (rn_not rfl) ?_
  refine wl_nil ?_
  refine W_cond rfl (fun hc0 => ?_) (fun hc0 => ?_)
  · exact absurd hc0 (by decide)
  · refine W_skip ?_
    refine W_seq ?_
    refine W_seq ?_
    refine W_region ?_
    refine wl_val (rn_move (by conv => lhs; whnf)) ?_
    refine wl_call e_20 rfl (long_ok w1 f) ?_; intro v10 w2 hE2 hR2
    replace hX := hX.tr hE2
    subst hR2
    refine wl_val (rn_move (by conv => lhs; whnf)) ?_
    refine wl_split (d := 11) rfl (fun hg11 => ?_) (fun hg11 => ?_)
    · refine wl_no rfl (congrArg Value.bool hg11) ?_
      refine wl_no rfl (congrArg Value.bool hg11) ?_
      refine wl_val (rn_pickT (congrArg Value.bool hg11) (by conv => lhs; whnf)) ?_
      refine wl_val (rn_move (by conv => lhs; whnf)) ?_
      refine wl_no rfl rfl ?_
      refine wl_no rfl rfl ?_
      refine wl_no rfl rfl ?_
      refine wl_no rfl rfl ?_
      refine wl_val (rn_pickT rfl (by conv => lhs; whnf)) ?_
      refine wl_nil ?_
      refine W_condT rfl ?_
      refine W_seq ?_
      refine W_region ?_
      refine wl_val (rn_assign (by conv => lhs; whnf)) ?_
      refine wl_nil ?_
      refine W_ret ?_
      exact ⟨_, resR1 (res1_tmp rfl), hX, rfl⟩
    · have hnf : f.length ≤ 1000000 := by have := of_decide_eq_false hg11; omega
      refine wl_yes rfl (congrArg Value.bool hg11) ?_
      refine wl_val (rn_move (by conv => lhs; whnf)) ?_
      refine wl_yes rfl (congrArg Value.bool hg11) ?_
      refine wl_call e_20 rfl (long_ok w2 t) ?_; intro v13 w3 hE3 hR3
      replace hX := hX.tr hE3
      subst hR3
      refine wl_val (rn_pickF (congrArg Value.bool hg11) (by conv => lhs; whnf)) ?_
      refine wl_val (rn_move (by conv => lhs; whnf)) ?_
      refine wl_split (d := 15) rfl (fun hg15 => ?_) (fun hg15 => ?_)
      · refine wl_no rfl (congrArg Value.bool hg15) ?_
        refine wl_no rfl (congrArg Value.bool hg15) ?_
        refine wl_no rfl (congrArg Value.bool hg15) ?_
        refine wl_no rfl (congrArg Value.bool hg15) ?_
        refine wl_val (rn_pickT (congrArg Value.bool hg15) (by conv => lhs; whnf)) ?_
        refine wl_nil ?_
        refine W_condT rfl ?_
        refine W_seq ?_
        refine W_region ?_
        refine wl_val (rn_assign (by conv => lhs; whnf)) ?_
        refine wl_nil ?_
        refine W_ret ?_
        exact ⟨_, resR1 (res1_tmp rfl), hX, rfl⟩
      · have hnt : t.length ≤ 1000000 := by have := of_decide_eq_false hg15; omega
        refine wl_yes rfl (congrArg Value.bool hg15) ?_
        refine wl_val (rn_move (by conv => lhs; whnf)) ?_
        refine wl_yes rfl (congrArg Value.bool hg15) ?_
        refine wl_val (rn_move (by conv => lhs; whnf)) ?_
        refine wl_yes rfl (congrArg Value.bool hg15) ?_
        refine wl_call e_21 rfl (rmatch_ok w3 f t hnf hnt) ?_; intro v18 w4 hE4 hR4
        replace hX := hX.tr hE4
        subst hR4
        refine wl_yes rfl (congrArg Value.bool hg15) ?_
        refine wl_val (rn_not rfl) ?_
        refine wl_val (rn_pickF (congrArg Value.bool hg15) (by conv => lhs; whnf)) ?_
        refine wl_nil ?_
        refine W_cond rfl (fun hc1 => ?_) (fun hc1 => ?_)
        · refine W_seq ?_
          refine W_region ?_
          refine wl_val (rn_assign (by conv => lhs; whnf)) ?_
          refine wl_nil ?_
          refine W_ret ?_
          exact ⟨_, resR1 (res1_tmp rfl), hX, rfl⟩
        · have hm : matchB f t = true := by simpa using hc1
          refine W_skip ?_
          refine W_seq ?_
          refine W_region ?_
          refine wl_val (rn_move (by conv => lhs; whnf)) ?_
          refine wl_call e_22 rfl (forFilter_ok w4 f hnf) ?_; intro v22 w5 hE5 hR5
          replace hX := hX.tr hE5
          have hL : Sl Non w5 _ 1 ((stripesOf f).map eI1) := hR5; obtain ⟨a5, c5, hv5, _⟩ := id hL.len; rw [List.length_map] at hv5; subst hv5
          obtain ⟨wL, hwL⟩ : ∃ x, x = w5 := ⟨_, rfl⟩
          rw [← hwL] at hL
          have hV : Ext Non wL w5 := by rw [hwL]; exact Ext.refl _ _
          have hsl : (stripesOf f).length ≤ 4 := by unfold stripesOf; split <;> simp
          refine wl_val (rn_assign (by conv => lhs; whnf)) ?_
          refine wl_nil ?_
          refine W_seq ?_
          refine W_seq ?_
          refine W_region ?_
          refine wl_val (rn_assign (by conv => lhs; whnf)) ?_
          refine wl_nil ?_
          refine W_block ?_   -- block 0
          refine W_loopS (S := Nat) [1, 5, 6] (fun i => [Sv t, .slice a5 (stripesOf f).length c5, .int .i64 (i : Nat)]) (fun i A => (Ext Non w A) ∧ (Ext Non wL A ∧ i ≤ (stripesOf f).length ∧ ¬ (stripeOf t : Int) ∈ (stripesOf f).take i)) (fun i => (stripesOf f).length - i) 0 ⟨rfl, rfl, rfl, trivial⟩ ⟨hX, ⟨hV, Nat.zero_le _, by simp⟩⟩ ?_
          rintro τ0 i A0 ⟨hX, hI0⟩
          obtain ⟨hV, hil, hno⟩ := hI0
          refine W_seq ?_
          refine W_seq ?_
          refine W_region ?_
          refine wl_val (rn_move (by conv => lhs; whnf)) ?_
          refine wl_val (rn_move (by conv => lhs; whnf)) ?_
          refine wl_val (rn_len sl_36 rfl) ?_
          refine wl_val (rn_lss rfl rfl) ?_
          refine wl_nil ?_
          refine W_cond rfl (fun hc2 => ?_) (fun hc2 => ?_)
          · have hlt := of_decide_eq_true hc2; simp only [Int.ofNat_lt] at hlt
            obtain ⟨x, hi⟩ : ∃ x, ((stripesOf f))[i]? = some x := ⟨_, List.getElem?_eq_getElem hlt⟩
            obtain ⟨bb, oo, ea⟩ := hL.base (by intro e; have := congrArg List.length e; simp only [List.length_map, List.length_nil] at this; omega); subst ea
            refine W_skip ?_
            refine W_seq ?_
            refine W_block ?_   -- block 1
            refine W_seq ?_
            refine W_drawE mixed ?_; intro w6 hE6
            replace hX := hX.tr hE6
            replace hV := hV.tr hE6
            have hS := Ext.refl Non w6
            refine wd_take 0 _ _ rfl (by kernel_rfl) hS (yd_do fun A hA => rn_move (by conv => lhs; whnf)) ?_
            refine wd_take 1 _ _ rfl (by kernel_rfl) hS (yd_do fun A hA => rn_move (by conv => lhs; whnf)) ?_
            refine wd_take 2 _ _ rfl (by kernel_rfl) hS (yd_do fun A hA => rn_indexAddr sl_36 rfl rfl (by omega)) ?_
            refine wd_take 3 _ _ rfl (by kernel_rfl) hS (yd_do fun A hA => rn_load p_3 rfl (((hL.ext hV (fun _ h => h)).ext hA (fun _ h => h.elim)).at0 (eI_at hi) rfl)) ?_
            refine wd_take 4 _ _ rfl (by kernel_rfl) hS (yd_do fun A hA => rn_move (by conv => lhs; whnf)) ?_
            refine wd_only 5 _ rfl (by kernel_rfl) ?_
            refine s1_do ?_
            refine wl_call e_23 rfl (of16_ok w6 t hnt) ?_; intro v34 w7 hE7 hR7
            replace hS := hS.tr hE7
            subst hR7
            refine wl_nil ⟨hS, ?_⟩
            refine wd_take 6 _ _ rfl (by kernel_rfl) hS (yd_do fun A hA => rn_eql rfl rfl) ?_
            refine wd_done (by kernel_rfl) ?_ _
            replace hX := hX.tr hS
            replace hV := hV.tr hS
            refine W_cond rfl (fun hc3 => ?_) (fun hc3 => ?_)
            · have hcx := of_decide_eq_true hc3
              refine W_seq ?_
              refine W_region ?_
              refine wl_val (rn_assign (by conv => lhs; whnf)) ?_
              refine wl_nil ?_
              refine W_ret ?_
              exact ⟨_, resR1 (res1_tmp rfl), hX, rfl⟩
            · have hcx := of_decide_eq_false hc3
              refine W_skip ?_
              refine W_region ?_
              refine wl_val (rn_move (by conv => lhs; whnf)) ?_
              refine wl_val (rn_add rfl rfl (by omega)) ?_
              refine wl_val (rn_assign (by conv => lhs; whnf)) ?_
              refine wl_nil ?_
              exact ⟨rfl, i + 1, ⟨rfl, rfl, rfl, trivial⟩, ⟨hX, ⟨hV, hlt, by rw [List.take_add_one, hi]; simp only [Option.toList_some, List.mem_append, List.mem_singleton, not_or]; exact ⟨hno, fun e => hcx e.symm⟩⟩⟩, by omega⟩
          · have hge := of_decide_eq_false hc2; simp only [Int.ofNat_lt, Nat.not_lt] at hge; rw [List.take_of_length_le hge] at hno; exact absurd (stripe_holds hm) hno
end Go.Proofs.YtfdfphaiefbflaaC
