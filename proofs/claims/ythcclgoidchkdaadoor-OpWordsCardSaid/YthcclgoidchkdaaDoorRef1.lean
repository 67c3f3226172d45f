/- The document's functions on texts, topics and filters. -/
import Derived.Test.YthcclgoidchkdaaDoorMat
import Derived.Test.YthcclgoidchkdaaDoorSet2
set_option linter.unusedVariables false
set_option linter.unusedSimpArgs false
set_option maxRecDepth 100000
namespace Go.Proofs.YthcclgoidchkdaaDoorC
open Go.RowKit
theorem u8_eq {c d : UInt8} (h : (c.toNat : Int) = (d.toNat : Int)) : c = d := UInt8.toNat_inj.1 (by omega)
theorem u8_dec (c d : UInt8) : decide ((c.toNat : Int) = (d.toNat : Int)) = decide (c = d) := by
  by_cases h : c = d
  · subst h; simp
  · rw [decide_eq_false h, decide_eq_false (fun e => h (u8_eq e))]
-- bellman/bellmanref01.has
theorem rhas_ok (w : World) (s : Str) (c : UInt8) (hn : s.length ≤ 1000000) : Fn Tryd.prog 133 #[Sv s, .int .u8 c.toNat] w fun u w' => u = .bool (decide (c ∈ s)) := by
  have hX := Ext.refl Non w
  refine fn_of_W (args := [_, _]) Tryd.func133 rfl (by kernel_rfl) rfl ?_
  refine W_seq ?_
  refine W_region ?_
  refine wl_val (rn_assign (by conv => lhs; whnf)) ?_
  refine wl_nil ?_
  refine W_seq ?_
  refine W_seq ?_
  refine W_region ?_
  refine wl_val (rn_assign (by conv => lhs; whnf)) ?_
  refine wl_nil ?_
  refine W_block ?_   -- block 0
  refine W_loopS (S := Nat) [0, 1, 5] (fun i => [Sv s, .int .u8 c.toNat, .int .i64 (i : Nat)]) (fun i A => (Ext Non w A) ∧ (i ≤ s.length ∧ ¬ c ∈ s.take i)) (fun i => s.length - i) 0 ⟨rfl, rfl, rfl, trivial⟩ ⟨hX, ⟨Nat.zero_le _, by simp⟩⟩ ?_
  rintro τ0 i A0 ⟨hX, hI0⟩
  obtain ⟨hil, hno⟩ := hI0
  refine W_seq ?_
  refine W_seq ?_
  refine W_region ?_
  refine wl_val (rn_move (by conv => lhs; whnf)) ?_
  refine wl_val (rn_move (by conv => lhs; whnf)) ?_
  refine wl_val (rn_slen us_9 rfl) ?_
  refine wl_val (rn_lss rfl rfl) ?_
  refine wl_nil ?_
  refine W_cond rfl (fun hc0 => ?_) (fun hc0 => ?_)
  · have hlt := of_decide_eq_true hc0; simp only [Int.ofNat_lt] at hlt
    obtain ⟨x, hxi⟩ : ∃ x, (s)[i]? = some x := ⟨_, List.getElem?_eq_getElem hlt⟩
    refine W_skip ?_
    refine W_seq ?_
    refine W_block ?_   -- block 1
    refine W_seq ?_
    refine W_region ?_
    refine wl_val (rn_move (by conv => lhs; whnf)) ?_
    refine wl_val (rn_move (by conv => lhs; whnf)) ?_
    refine wl_val (rn_sindex us_9 rfl rfl (by omega) hxi) ?_
    refine wl_val (rn_move (by conv => lhs; whnf)) ?_
    refine wl_val (rn_eql rfl rfl) ?_
    refine wl_nil ?_
    refine W_cond rfl (fun hc1 => ?_) (fun hc1 => ?_)
    · have hcx := u8_eq (of_decide_eq_true hc1)
      refine W_seq ?_
      refine W_region ?_
      refine wl_val (rn_assign (by conv => lhs; whnf)) ?_
      refine wl_nil ?_
      refine W_ret ?_
      exact ⟨_, resR1 (res1_tmp rfl), hX, by rw [decide_eq_true (show c ∈ s from hcx ▸ List.mem_of_getElem? hxi)]; rfl⟩
    · have hcx : ¬ x = c := fun e => of_decide_eq_false hc1 (by rw [e])
      refine W_skip ?_
      refine W_region ?_
      refine wl_val (rn_move (by conv => lhs; whnf)) ?_
      refine wl_val (rn_add rfl rfl (by omega)) ?_
      refine wl_val (rn_assign (by conv => lhs; whnf)) ?_
      refine wl_nil ?_
      exact ⟨rfl, i + 1, ⟨rfl, rfl, rfl, trivial⟩, ⟨hX, ⟨hlt, by rw [List.take_add_one, hxi]; simp only [Option.toList_some, List.mem_append, List.mem_singleton, not_or]; exact ⟨hno, fun e => hcx e.symm⟩⟩⟩, by omega⟩
  · have hge := of_decide_eq_false hc0; simp only [Int.ofNat_lt, Nat.not_lt] at hge
    rw [List.take_of_length_le hge] at hno
    refine W_exit ?_   -- exit 0
    refine W_seq ?_
    refine W_region ?_
    refine wl_val (rn_assign (by conv => lhs; whnf)) ?_
    refine wl_nil ?_
    refine W_ret ?_
    exact ⟨_, resR1 (res1_tmp rfl), hX, by rw [decide_eq_false hno]; rfl⟩
-- bellman/bellmanref01.Levels
set_option maxHeartbeats 800000 in
theorem rlevels_new (w : World) (s : Str) (hn : s.length ≤ 1000000) : Fn Tryd.prog 139 #[Sv s] w fun u w' => Sl (Old w) w' u 1 ((spl 47 s).map eS1) := by
  have hX := Ext.refl Non w
  refine fn_of_W (args := [_]) Tryd.func139 rfl (by kernel_rfl) rfl ?_
  refine W_seq ?_
  refine W_region ?_
  refine wl_val (rn_assign (by conv => lhs; whnf)) ?_
  refine wl_nil ?_
  refine W_seq ?_
  refine W_region ?_
  refine wl_val (rn_assign (by conv => lhs; whnf)) ?_
  refine wl_nil ?_
  refine W_seq ?_
  refine W_region ?_
  refine wl_val (rn_assign (by conv => lhs; whnf)) ?_
  refine wl_nil ?_
  refine W_seq ?_
  refine W_seq ?_
  refine W_region ?_
  refine wl_val (rn_assign (by conv => lhs; whnf)) ?_
  refine wl_nil ?_
  refine W_block ?_   -- block 0
  refine W_loopS (S := Nat × Nat × List Str × Value × Option Nat) [0, 3, 4, 5] (fun ⟨i, fr, out, v, oo⟩ => [Sv s, v, .int .i64 (fr : Nat), .int .i64 (i : Nat)]) (fun ⟨i, fr, out, v, oo⟩ A => (Ext Non w A) ∧ (i ≤ s.length ∧ fr ≤ i ∧ spl 47 (s.take i) = out ++ [(s.take i).drop fr] ∧ OwO A v oo 1 (out.map eS1) ∧ ∀ j, oo = some j → w.heap.size ≤ j)) (fun ⟨i, fr, out, v, oo⟩ => s.length - i) (0, 0, [], .slice none 0 0, none) ⟨rfl, rfl, rfl, rfl, trivial⟩ ⟨hX, ⟨Nat.zero_le _, Nat.le_refl _, rfl, OwO.nil, by simp⟩⟩ ?_
  rintro τ0 ⟨i, fr, out, v, oo⟩ A0 ⟨hX, hI0⟩
  obtain ⟨hil, hfi, hsp, hO, ho⟩ := hI0
  have hol : out.length ≤ i := by have := spl_len_le 47 (s.take i); rw [hsp] at this; simp only [List.length_append, List.length_cons, List.length_nil, List.length_take] at this; omega
  refine W_seq ?_
  refine W_seq ?_
  refine W_region ?_
  refine wl_val (rn_move (by conv => lhs; whnf)) ?_
  refine wl_val (rn_move (by conv => lhs; whnf)) ?_
  refine wl_val (rn_slen us_9 rfl) ?_
  refine wl_val (rn_lss rfl rfl) ?_
  refine wl_nil ?_
  refine W_cond rfl (fun hc0 => ?_) (fun hc0 => ?_)
  · have hlt := of_decide_eq_true hc0; simp only [Int.ofNat_lt] at hlt
    obtain ⟨c, hcc⟩ : ∃ c, (s)[i]? = some c := ⟨_, List.getElem?_eq_getElem hlt⟩
    have hst := spl_step hcc hfi hsp
    refine W_skip ?_
    refine W_seq ?_
    refine W_block ?_   -- block 1
    refine W_seq ?_
    refine W_region ?_
    refine wl_val (rn_move (by conv => lhs; whnf)) ?_
    refine wl_val (rn_move (by conv => lhs; whnf)) ?_
    refine wl_val (rn_sindex us_9 rfl rfl (by omega) hcc) ?_
    refine wl_val (rn_eql rfl rfl) ?_
    refine wl_nil ?_
    refine W_cond rfl (fun hc1 => ?_) (fun hc1 => ?_)
    · have hcb : c = 47 := u8_eq (d := 47) (of_decide_eq_true hc1)
      refine W_seq ?_
      refine W_region ?_
      refine wl_val (rn_move (by conv => lhs; whnf)) ?_
      refine wl_val (rn_move (by conv => lhs; whnf)) ?_
      refine wl_val (rn_move (by conv => lhs; whnf)) ?_
      refine wl_val (rn_move (by conv => lhs; whnf)) ?_
      refine wl_val (rn_sslice us_9 (l := fr) (h := i) rfl ⟨_, rfl⟩ ⟨_, rfl⟩ (by omega) (by first | omega | (simp only [List.length_cons, List.length_nil, List.length_append]; omega))) ?_
      refine wl_lit1 (r := eS1 ((s.drop fr).take (i - fr))) sl_68 rfl rfl rfl rfl (by decide) ?_; intro v21 w1 b21 hb21 hE1 hO21
      replace hX := hX.tr hE1
      replace hO := hO.ext hE1 (fun _ _ h => h)
      have hXo := hX
      refine wl_app sl_68 rfl rfl rfl hO (hO21.sl (M := Non) id) (fun r hr => by simp only [List.mem_singleton] at hr; subst hr; exact one1 rfl) (by simp only [List.length_map, List.length_range, List.length_cons, List.length_nil]; omega) (by simp only [List.length_map, List.length_range, List.length_cons, List.length_nil, big]; omega) ?_; intro v22 w2 o22 hE2 hO22 hf22
      replace hX := hX.mineO hE2 (fun i hi => .inr (ho i hi))
      have ho22 : ∀ i, o22 = some i → w.heap.size ≤ i := fun j hj => by rcases hf22 j hj with h | h; exact ho j h; exact Nat.le_trans hXo.size h
      refine wl_val (rn_assign (by conv => lhs; whnf)) ?_
      refine wl_nil ?_
      refine W_region ?_
      refine wl_val (rn_move (by conv => lhs; whnf)) ?_
      refine wl_val (rn_add rfl rfl (by omega)) ?_
      refine wl_val (rn_assign (by conv => lhs; whnf)) ?_
      refine wl_nil ?_
      refine W_region ?_
      refine wl_val (rn_move (by conv => lhs; whnf)) ?_
      refine wl_val (rn_add rfl rfl (by omega)) ?_
      refine wl_val (rn_assign (by conv => lhs; whnf)) ?_
      refine wl_nil ?_
      exact ⟨rfl, (i + 1, i + 1, out ++ [(s.drop fr).take (i - fr)], v22, o22), ⟨rfl, rfl, rfl, rfl, trivial⟩, ⟨hX, ⟨hlt, Nat.le_refl _, hst.1 hcb, by rw [List.map_append]; exact hO22, ho22⟩⟩, by show s.length - (i + 1) < s.length - i; omega⟩
    · have hcb : ¬ c = 47 := fun e => of_decide_eq_false hc1 (by rw [e]; rfl)
      refine W_skip ?_
      refine W_region ?_
      refine wl_val (rn_move (by conv => lhs; whnf)) ?_
      refine wl_val (rn_add rfl rfl (by omega)) ?_
      refine wl_val (rn_assign (by conv => lhs; whnf)) ?_
      refine wl_nil ?_
      exact ⟨rfl, (i + 1, fr, out, v, oo), ⟨rfl, rfl, rfl, rfl, trivial⟩, ⟨hX, ⟨hlt, by omega, hst.2 hcb, hO, ho⟩⟩, by show s.length - (i + 1) < s.length - i; omega⟩
  · have hge := of_decide_eq_false hc0; simp only [Int.ofNat_lt, Nat.not_lt] at hge
    rw [List.take_of_length_le hge] at hsp
    have hie : i = s.length := by omega
    refine W_exit ?_   -- exit 0
    refine W_seq ?_
    refine W_region ?_
    refine wl_val (rn_move (by conv => lhs; whnf)) ?_
    refine wl_val (rn_move (by conv => lhs; whnf)) ?_
    refine wl_val (rn_move (by conv => lhs; whnf)) ?_
    refine wl_val (rn_sslice us_9 (l := fr) (h := s.length) rfl ⟨_, rfl⟩ rfl (by omega) (by first | omega | (simp only [List.length_cons, List.length_nil, List.length_append]; omega))) ?_
    refine wl_lit1 (r := eS1 ((s.drop fr).take (s.length - fr))) sl_68 rfl rfl rfl rfl (by decide) ?_; intro v29 w3 b29 hb29 hE3 hO29
    replace hX := hX.tr hE3
    replace hO := hO.ext hE3 (fun _ _ h => h)
    have hXo := hX
    refine wl_app sl_68 rfl rfl rfl hO (hO29.sl (M := Non) id) (fun r hr => by simp only [List.mem_singleton] at hr; subst hr; exact one1 rfl) (by simp only [List.length_map, List.length_range, List.length_cons, List.length_nil]; omega) (by simp only [List.length_map, List.length_range, List.length_cons, List.length_nil, big]; omega) ?_; intro v30 w4 o30 hE4 hO30 hf30
    replace hX := hX.mineO hE4 (fun i hi => .inr (ho i hi))
    have ho30 : ∀ i, o30 = some i → w.heap.size ≤ i := fun j hj => by rcases hf30 j hj with h | h; exact ho j h; exact Nat.le_trans hXo.size h
    refine wl_val (rn_assign (by conv => lhs; whnf)) ?_
    refine wl_nil ?_
    refine W_ret ?_
    exact ⟨_, resR1 (res1_tmp rfl), hX, by rw [hsp, List.map_append]; have e : s.drop fr = (s.drop fr).take (s.length - fr) := (List.take_of_length_le (by rw [List.length_drop]; exact Nat.le_refl _)).symm; rw [e]; exact hO30.sl (fun i hi hlt => by have := ho30 i hi; unfold Old at hlt; omega)⟩
theorem rlevels_ok (w : World) (s : Str) (hn : s.length ≤ 1000000) : Fn Tryd.prog 139 #[Sv s] w fun u w' => Sl Non w' u 1 ((spl 47 s).map eS1) :=
  (rlevels_new w s hn).mono fun v w' _ h => h.sub fun _ h _ => h.elim
theorem sized_a {s : Str} (h : decide ((s.length : Int) ≥ 1) = false) : sizedB s = false := by
  have := of_decide_eq_false h
  have : s = [] := List.length_eq_zero_iff.1 (by omega)
  subst this; rfl
theorem sized_b {s : Str} (h : decide ((s.length : Int) ≤ 32) = false) : sizedB s = false := by
  have := of_decide_eq_false h
  unfold sizedB; rw [decide_eq_false (show ¬ s.length ≤ 32 by omega)]; simp
theorem sized_c {s : Str} (h : decide ((s.length : Int) ≥ 1) = true) (k : decide ((s.length : Int) ≤ 32) = true) : sizedB s = !decide ((0 : UInt8) ∈ s) := by
  have h := of_decide_eq_true h; have k := of_decide_eq_true k
  have : ¬ s = [] := fun e => by subst e; simp at h
  unfold sizedB; rw [decide_eq_true (show s.length ≤ 32 by omega)]; simp [this]
-- bellman/bellmanref01.Topic
theorem rtopic_any (w : World) (s : Str) : Fn Tryd.prog 81 #[Sv s] w fun u w' => u = .bool (topicB s) := by
  have hX := Ext.refl Non w
  refine fn_of_W (args := [_]) Tryd.func81 rfl (by kernel_rfl) rfl ?_
  refine W_seq ?_
  refine W_region ?_
  refine wl_val (rn_assign (by conv => lhs; whnf)) ?_
  refine wl_nil ?_
  refine W_seq ?_
  refine W_region ?_
  refine wl_val (rn_move (by conv => lhs; whnf)) ?_
  refine wl_val (rn_slen us_9 rfl) ?_
  refine wl_val (rn_geq rfl rfl) ?_
  refine wl_val (rn_move (by conv => lhs; whnf)) ?_
  refine wl_split (d := 6) rfl (fun hg6 => ?_) (fun hg6 => ?_)
  · refine wl_yes rfl (congrArg Value.bool hg6) ?_
    refine wl_val (rn_move (by conv => lhs; whnf)) ?_
    refine wl_yes rfl (congrArg Value.bool hg6) ?_
    refine wl_val (rn_slen us_9 rfl) ?_
    refine wl_yes rfl (congrArg Value.bool hg6) ?_
    refine wl_val (rn_leq rfl rfl) ?_
    refine wl_val (rn_pickT (congrArg Value.bool hg6) (by conv => lhs; whnf)) ?_
    refine wl_val (rn_move (by conv => lhs; whnf)) ?_
    refine wl_split (d := 11) rfl (fun hg11 => ?_) (fun hg11 => ?_)
    · have hn : s.length ≤ 1000000 := by have := of_decide_eq_true hg11; omega
      refine wl_yes rfl (congrArg Value.bool hg11) ?_
      refine wl_val (rn_move (by conv => lhs; whnf)) ?_
      refine wl_yes rfl (congrArg Value.bool hg11) ?_
      refine wl_call e_133 rfl (rhas_ok w s 43 hn) ?_; intro v13 w1 hE1 hR1
      replace hX := hX.tr hE1
      subst hR1
      refine wl_yes rfl (congrArg Value.bool hg11) ?_
      refine wl_val (rn_not rfl) ?_
      refine wl_val (rn_pickT (congrArg Value.bool hg11) (by conv => lhs; whnf)) ?_
      refine wl_val (rn_move (by conv => lhs; whnf)) ?_
      refine wl_split (d := 16) rfl (fun hg16 => ?_) (fun hg16 => ?_)
      · refine wl_yes rfl (congrArg Value.bool hg16) ?_
        refine wl_val (rn_move (by conv => lhs; whnf)) ?_
        refine wl_yes rfl (congrArg Value.bool hg16) ?_
        refine wl_call e_133 rfl (rhas_ok w1 s 35 hn) ?_; intro v18 w2 hE2 hR2
        replace hX := hX.tr hE2
        subst hR2
        refine wl_yes rfl (congrArg Value.bool hg16) ?_
        refine wl_val (rn_not rfl) ?_
        refine wl_val (rn_pickT (congrArg Value.bool hg16) (by conv => lhs; whnf)) ?_
        refine wl_val (rn_move (by conv => lhs; whnf)) ?_
        refine wl_split (d := 21) rfl (fun hg21 => ?_) (fun hg21 => ?_)
        · have hR : topicB s = !decide ((0 : UInt8) ∈ s) := by unfold topicB; rw [sized_c hg6 hg11]; have h43 : ¬ (43 : UInt8) ∈ s := (by simpa using hg16); have h35 : ¬ (35 : UInt8) ∈ s := (by simpa using hg21); simp [h43, h35]
          refine wl_yes rfl (congrArg Value.bool hg21) ?_
          refine wl_val (rn_move (by conv => lhs; whnf)) ?_
          refine wl_yes rfl (congrArg Value.bool hg21) ?_
          refine wl_call e_133 rfl (rhas_ok w2 s 0 hn) ?_; intro v23 w3 hE3 hR3
          replace hX := hX.tr hE3
          subst hR3
          refine wl_yes rfl (congrArg Value.bool hg21) ?_
          refine wl_val (rn_not rfl) ?_
          refine wl_val (rn_pickT (congrArg Value.bool hg21) (by conv => lhs; whnf)) ?_
          refine wl_val (rn_assign (by conv => lhs; whnf)) ?_
          refine wl_nil ?_
          refine W_ret ?_
          exact ⟨_, resR1 (res1_tmp rfl), hX, by rw [hR]; rfl⟩
        · have hR : topicB s = false := by unfold topicB; have h35 : (35 : UInt8) ∈ s := (by simpa using hg21); simp [h35]
          refine wl_no rfl (congrArg Value.bool hg21) ?_
          refine wl_no rfl (congrArg Value.bool hg21) ?_
          refine wl_no rfl (congrArg Value.bool hg21) ?_
          refine wl_val (rn_pickF (congrArg Value.bool hg21) (by conv => lhs; whnf)) ?_
          refine wl_val (rn_assign (by conv => lhs; whnf)) ?_
          refine wl_nil ?_
          refine W_ret ?_
          exact ⟨_, resR1 (res1_tmp rfl), hX, by rw [hR]; rfl⟩
      · have hR : topicB s = false := by unfold topicB; have h43 : (43 : UInt8) ∈ s := (by simpa using hg16); simp [h43]
        refine wl_no rfl (congrArg Value.bool hg16) ?_
        refine wl_no rfl (congrArg Value.bool hg16) ?_
        refine wl_no rfl (congrArg Value.bool hg16) ?_
        refine wl_val (rn_pickF (congrArg Value.bool hg16) (by conv => lhs; whnf)) ?_
        refine wl_val (rn_move (by conv => lhs; whnf)) ?_
        refine wl_no rfl rfl ?_
        refine wl_no rfl rfl ?_
        refine wl_no rfl rfl ?_
        refine wl_val (rn_pickF rfl (by conv => lhs; whnf)) ?_
        refine wl_val (rn_assign (by conv => lhs; whnf)) ?_
        refine wl_nil ?_
        refine W_ret ?_
        exact ⟨_, resR1 (res1_tmp rfl), hX, by rw [hR]; rfl⟩
    · have hR : topicB s = false := by unfold topicB; rw [sized_b hg11]; rfl
      refine wl_no rfl (congrArg Value.bool hg11) ?_
      refine wl_no rfl (congrArg Value.bool hg11) ?_
      refine wl_no rfl (congrArg Value.bool hg11) ?_
      refine wl_val (rn_pickF (congrArg Value.bool hg11) (by conv => lhs; whnf)) ?_
      refine wl_val (rn_move (by conv => lhs; whnf)) ?_
      refine wl_no rfl rfl ?_
      refine wl_no rfl rfl ?_
      refine wl_no rfl rfl ?_
      refine wl_val (rn_pickF rfl (by conv => lhs; whnf)) ?_
      refine wl_val (rn_move (by conv => lhs; whnf)) ?_
      refine wl_no rfl rfl ?_
      refine wl_no rfl rfl ?_
      refine wl_no rfl rfl ?_
      refine wl_val (rn_pickF rfl (by conv => lhs; whnf)) ?_
      refine wl_val (rn_assign (by conv => lhs; whnf)) ?_
      refine wl_nil ?_
      refine W_ret ?_
      exact ⟨_, resR1 (res1_tmp rfl), hX, by rw [hR]; rfl⟩
  · have hR : topicB s = false := by unfold topicB; rw [sized_a hg6]; rfl
    refine wl_no rfl (congrArg Value.bool hg6) ?_
    refine wl_no rfl (congrArg Value.bool hg6) ?_
    refine wl_no rfl (congrArg Value.bool hg6) ?_
    refine wl_val (rn_pickF (congrArg Value.bool hg6) (by conv => lhs; whnf)) ?_
    refine wl_val (rn_move (by conv => lhs; whnf)) ?_
    refine wl_no rfl rfl ?_
    refine wl_no rfl rfl ?_
    refine wl_no rfl rfl ?_
    refine wl_val (rn_pickF rfl (by conv => lhs; whnf)) ?_
    refine wl_val (rn_move (by conv => lhs; whnf)) ?_
    refine wl_no rfl rfl ?_
    refine wl_no rfl rfl ?_
    refine wl_no rfl rfl ?_
    refine wl_val (rn_pickF rfl (by conv => lhs; whnf)) ?_
    refine wl_val (rn_move (by conv => lhs; whnf)) ?_
    refine wl_no rfl rfl ?_
    refine wl_no rfl rfl ?_
    refine wl_no rfl rfl ?_
    refine wl_val (rn_pickF rfl (by conv => lhs; whnf)) ?_
    refine wl_val (rn_assign (by conv => lhs; whnf)) ?_
    refine wl_nil ?_
    refine W_ret ?_
    exact ⟨_, resR1 (res1_tmp rfl), hX, by rw [hR]; rfl⟩
theorem rtopic_ok (w : World) (s : Str) (hn : s.length ≤ 1000000) : Fn Tryd.prog 81 #[Sv s] w fun u w' => u = .bool (topicB s) := rtopic_any w s
-- bellman/bellmanref01.Filter
set_option maxHeartbeats 1600000 in
theorem rfilter_ok (w : World) (s : Str) (hn : s.length ≤ 1000000) : Fn Tryd.prog 137 #[Sv s] w fun u w' => u = .bool (filterB s) := by
  have hX := Ext.refl Non w
  refine fn_of_W (args := [_]) Tryd.func137 rfl (by kernel_rfl) rfl ?_
  refine W_seq ?_
  refine W_region ?_
  refine wl_val (rn_assign (by conv => lhs; whnf)) ?_
  refine wl_nil ?_
  refine W_seq ?_
  refine W_seq ?_
  refine W_region ?_
  refine wl_val (rn_move (by conv => lhs; whnf)) ?_
  refine wl_val (rn_slen us_9 rfl) ?_
  refine wl_val (rn_lss rfl rfl) ?_
  refine wl_val (rn_move (by conv => lhs; whnf)) ?_
  refine wl_split (d := 8) rfl (fun hg8 => ?_) (fun hg8 => ?_)
  · have hz : sizedB s = false := sized_a (by have := of_decide_eq_true hg8; exact decide_eq_false (by omega))
    refine wl_no rfl (congrArg Value.bool hg8) ?_
    refine wl_no rfl (congrArg Value.bool hg8) ?_
    refine wl_no rfl (congrArg Value.bool hg8) ?_
    refine wl_val (rn_pickT (congrArg Value.bool hg8) (by conv => lhs; whnf)) ?_
    refine wl_val (rn_move (by conv => lhs; whnf)) ?_
    refine wl_no rfl rfl ?_
    refine wl_no rfl rfl ?_
    refine wl_val (rn_pickT rfl (by conv => lhs; whnf)) ?_
    refine wl_nil ?_
    refine W_condT rfl ?_
    refine W_seq ?_
    refine W_region ?_
    refine wl_val (rn_assign (by conv => lhs; whnf)) ?_
    refine wl_nil ?_
    refine W_ret ?_
    first | exact ⟨_, resR1 (res1_tmp rfl), hX, by rw [filter_small hz]; rfl⟩ | exact ⟨_, resR1 (res1_tmp rfl), hX, by rw [filter_no hi (levOk_a q43 qp)]; rfl⟩ | exact ⟨_, resR1 (res1_tmp rfl), hX, by rw [filter_no hi (levOk_b q35 qh)]; rfl⟩ | exact ⟨_, resR1 (res1_tmp rfl), hX, by rw [filter_no hi (by rw [levOk_c qh]; exact decide_eq_false (by omega))]; rfl⟩ | exact ⟨_, resR1 (res1_tmp rfl), hX, by rw [filter_yes hz (fun j l2 h2 => hall j l2 (by have := (List.getElem?_eq_some_iff.1 h2).1; omega) h2)]; rfl⟩
  · have hz1 : decide ((s.length : Int) ≥ 1) = true := decide_eq_true (by have := of_decide_eq_false hg8; omega)
    refine wl_yes rfl (congrArg Value.bool hg8) ?_
    refine wl_val (rn_move (by conv => lhs; whnf)) ?_
    refine wl_yes rfl (congrArg Value.bool hg8) ?_
    refine wl_val (rn_slen us_9 rfl) ?_
    refine wl_yes rfl (congrArg Value.bool hg8) ?_
    refine wl_val (rn_gtr rfl rfl) ?_
    refine wl_val (rn_pickF (congrArg Value.bool hg8) (by conv => lhs; whnf)) ?_
    refine wl_val (rn_move (by conv => lhs; whnf)) ?_
    refine wl_split (d := 13) rfl (fun hg13 => ?_) (fun hg13 => ?_)
    · have hz : sizedB s = false := sized_b (by have := of_decide_eq_true hg13; exact decide_eq_false (by omega))
      refine wl_no rfl (congrArg Value.bool hg13) ?_
      refine wl_no rfl (congrArg Value.bool hg13) ?_
      refine wl_val (rn_pickT (congrArg Value.bool hg13) (by conv => lhs; whnf)) ?_
      refine wl_nil ?_
      refine W_condT rfl ?_
      refine W_seq ?_
      refine W_region ?_
      refine wl_val (rn_assign (by conv => lhs; whnf)) ?_
      refine wl_nil ?_
      refine W_ret ?_
      first | exact ⟨_, resR1 (res1_tmp rfl), hX, by rw [filter_small hz]; rfl⟩ | exact ⟨_, resR1 (res1_tmp rfl), hX, by rw [filter_no hi (levOk_a q43 qp)]; rfl⟩ | exact ⟨_, resR1 (res1_tmp rfl), hX, by rw [filter_no hi (levOk_b q35 qh)]; rfl⟩ | exact ⟨_, resR1 (res1_tmp rfl), hX, by rw [filter_no hi (by rw [levOk_c qh]; exact decide_eq_false (by omega))]; rfl⟩ | exact ⟨_, resR1 (res1_tmp rfl), hX, by rw [filter_yes hz (fun j l2 h2 => hall j l2 (by have := (List.getElem?_eq_some_iff.1 h2).1; omega) h2)]; rfl⟩
    · have hz2 : decide ((s.length : Int) ≤ 32) = true := decide_eq_true (by have := of_decide_eq_false hg13; omega)
      refine wl_yes rfl (congrArg Value.bool hg13) ?_
      refine wl_val (rn_move (by conv => lhs; whnf)) ?_
      refine wl_yes rfl (congrArg Value.bool hg13) ?_
      refine wl_call e_133 rfl (rhas_ok w s 0 hn) ?_; intro v15 w1 hE1 hR1
      replace hX := hX.tr hE1
      subst hR1
      refine wl_val (rn_pickF (congrArg Value.bool hg13) (by conv => lhs; whnf)) ?_
      refine wl_nil ?_
      refine W_cond rfl (fun hc0 => ?_) (fun hc0 => ?_)
      · have hz : sizedB s = false := by rw [sized_c hz1 hz2, hc0]; rfl
        refine W_seq ?_
        refine W_region ?_
        refine wl_val (rn_assign (by conv => lhs; whnf)) ?_
        refine wl_nil ?_
        refine W_ret ?_
        first | exact ⟨_, resR1 (res1_tmp rfl), hX, by rw [filter_small hz]; rfl⟩ | exact ⟨_, resR1 (res1_tmp rfl), hX, by rw [filter_no hi (levOk_a q43 qp)]; rfl⟩ | exact ⟨_, resR1 (res1_tmp rfl), hX, by rw [filter_no hi (levOk_b q35 qh)]; rfl⟩ | exact ⟨_, resR1 (res1_tmp rfl), hX, by rw [filter_no hi (by rw [levOk_c qh]; exact decide_eq_false (by omega))]; rfl⟩ | exact ⟨_, resR1 (res1_tmp rfl), hX, by rw [filter_yes hz (fun j l2 h2 => hall j l2 (by have := (List.getElem?_eq_some_iff.1 h2).1; omega) h2)]; rfl⟩
      · have hz : sizedB s = true := by rw [sized_c hz1 hz2, hc0]; rfl
        refine W_skip ?_
        refine W_seq ?_
        refine W_region ?_
        refine wl_val (rn_move (by conv => lhs; whnf)) ?_
        refine wl_call e_139 rfl (rlevels_ok w1 s hn) ?_; intro v18 w2 hE2 hR2
        replace hX := hX.tr hE2
        have hL := hR2; obtain ⟨a3, c3, hv3, _⟩ := id hL.len; rw [List.length_map] at hv3; subst hv3
        have hV := Ext.refl Non w2
        have hsl := spl_len_le 47 s
        refine wl_val (rn_assign (by conv => lhs; whnf)) ?_
        refine wl_nil ?_
        refine W_seq ?_
        refine W_seq ?_
        refine W_region ?_
        refine wl_val (rn_assign (by conv => lhs; whnf)) ?_
        refine wl_nil ?_
        refine W_block ?_   -- block 0
        refine W_loopS (S := Nat) [3, 4] (fun i => [.slice a3 (spl 47 s).length c3, .int .i64 (i : Nat)]) (fun i A => (Ext Non w A) ∧ (Ext Non w2 A ∧ i ≤ (spl 47 s).length ∧ ∀ (j : Nat) l, j < i → (spl 47 s)[j]? = some l → levOk (decide (j + 1 = (spl 47 s).length)) l = true)) (fun i => (spl 47 s).length - i) 0 ⟨rfl, rfl, trivial⟩ ⟨hX, ⟨hV, Nat.zero_le _, fun j l h => absurd h (Nat.not_lt_zero _)⟩⟩ ?_
        rintro τ0 i A0 ⟨hX, hI0⟩
        obtain ⟨hV, hil, hall⟩ := hI0
        refine W_seq ?_
        refine W_seq ?_
        refine W_region ?_
        refine wl_val (rn_move (by conv => lhs; whnf)) ?_
        refine wl_val (rn_move (by conv => lhs; whnf)) ?_
        refine wl_val (rn_len sl_68 rfl) ?_
        refine wl_val (rn_lss rfl rfl) ?_
        refine wl_nil ?_
        refine W_cond rfl (fun hc1 => ?_) (fun hc1 => ?_)
        · have hlt := of_decide_eq_true hc1; simp only [Int.ofNat_lt] at hlt
          obtain ⟨l, hi⟩ : ∃ l, ((spl 47 s))[i]? = some l := ⟨_, List.getElem?_eq_getElem hlt⟩
          obtain ⟨bb, oo, ea⟩ := hL.base (by intro e; have := congrArg List.length e; simp only [List.length_map, List.length_nil] at this; omega); subst ea
          have hln : l.length ≤ 1000000 := by have h1 := List.mem_of_getElem? hi; have h2 : l.length ≤ s.length := spl_le h1; omega
          refine W_skip ?_
          refine W_seq ?_
          refine W_block ?_   -- block 1
          refine W_seq ?_
          refine W_region ?_
          refine wl_val (rn_move (by conv => lhs; whnf)) ?_
          refine wl_val (rn_move (by conv => lhs; whnf)) ?_
          refine wl_val (rn_indexAddr sl_68 rfl rfl (by omega)) ?_
          refine wl_val (rn_load p_9 rfl ((hL.ext hV (fun _ h => h)).at0 (eS_at hi) rfl)) ?_
          refine wl_call e_133 rfl (rhas_ok A0 l 43 hln) ?_; intro v29 w3 hE3 hR3
          replace hX := hX.tr hE3
          replace hV := hV.tr hE3
          subst hR3
          refine wl_val (rn_move (by conv => lhs; whnf)) ?_
          refine wl_split (d := 30) rfl (fun hg30 => ?_) (fun hg30 => ?_)
          · have q43 : (43 : UInt8) ∈ l := of_decide_eq_true hg30
            refine wl_yes rfl (congrArg Value.bool hg30) ?_
            refine wl_val (rn_move (by conv => lhs; whnf)) ?_
            refine wl_yes rfl (congrArg Value.bool hg30) ?_
            refine wl_val (rn_move (by conv => lhs; whnf)) ?_
            refine wl_yes rfl (congrArg Value.bool hg30) ?_
            refine wl_val (rn_indexAddr sl_68 rfl rfl (by omega)) ?_
            refine wl_yes rfl (congrArg Value.bool hg30) ?_
            refine wl_val (rn_load p_9 rfl ((hL.ext hV (fun _ h => h)).at0 (eS_at hi) rfl)) ?_
            refine wl_yes rfl (congrArg Value.bool hg30) ?_
            refine wl_val (rn_sneq rfl rfl) ?_
            refine wl_val (rn_pickT (congrArg Value.bool hg30) (by conv => lhs; whnf)) ?_
            refine wl_val (rn_move (by conv => lhs; whnf)) ?_
            refine wl_split (d := 37) rfl (fun hg37 => ?_) (fun hg37 => ?_)
            · have qp : ¬ l = [43] := by simpa using of_decide_eq_true hg37
              refine wl_no rfl (congrArg Value.bool hg37) ?_
              refine wl_no rfl (congrArg Value.bool hg37) ?_
              refine wl_no rfl (congrArg Value.bool hg37) ?_
              refine wl_no rfl (congrArg Value.bool hg37) ?_
              refine wl_no rfl (congrArg Value.bool hg37) ?_
              refine wl_no rfl (congrArg Value.bool hg37) ?_
              refine wl_nou rfl rfl ?_
              refine wl_nou rfl rfl ?_
              refine wl_nou rfl rfl ?_
              refine wl_nou rfl rfl ?_
              refine wl_nou rfl rfl ?_
              refine wl_nou rfl rfl ?_
              refine wl_nou rfl rfl ?_
              refine wl_nou rfl rfl ?_
              refine wl_nou rfl rfl ?_
              refine wl_nou rfl rfl ?_
              refine wl_nou rfl rfl ?_
              refine wl_nou rfl rfl ?_
              refine wl_no rfl (congrArg Value.bool hg37) ?_
              refine wl_val (rn_pickT (congrArg Value.bool hg37) (by conv => lhs; whnf)) ?_
              refine wl_nil ?_
              refine W_condT rfl ?_
              refine W_seq ?_
              refine W_region ?_
              refine wl_val (rn_assign (by conv => lhs; whnf)) ?_
              refine wl_nil ?_
              refine W_ret ?_
              first | exact ⟨_, resR1 (res1_tmp rfl), hX, by rw [filter_small hz]; rfl⟩ | exact ⟨_, resR1 (res1_tmp rfl), hX, by rw [filter_no hi (levOk_a q43 qp)]; rfl⟩ | exact ⟨_, resR1 (res1_tmp rfl), hX, by rw [filter_no hi (levOk_b q35 qh)]; rfl⟩ | exact ⟨_, resR1 (res1_tmp rfl), hX, by rw [filter_no hi (by rw [levOk_c qh]; exact decide_eq_false (by omega))]; rfl⟩ | exact ⟨_, resR1 (res1_tmp rfl), hX, by rw [filter_yes hz (fun j l2 h2 => hall j l2 (by have := (List.getElem?_eq_some_iff.1 h2).1; omega) h2)]; rfl⟩
            · have qp : l = [43] := by simpa using of_decide_eq_false hg37
              refine wl_yes rfl (congrArg Value.bool hg37) ?_
              refine wl_val (rn_move (by conv => lhs; whnf)) ?_
              refine wl_yes rfl (congrArg Value.bool hg37) ?_
              refine wl_val (rn_move (by conv => lhs; whnf)) ?_
              refine wl_yes rfl (congrArg Value.bool hg37) ?_
              refine wl_val (rn_indexAddr sl_68 rfl rfl (by omega)) ?_
              refine wl_yes rfl (congrArg Value.bool hg37) ?_
              refine wl_val (rn_load p_9 rfl ((hL.ext hV (fun _ h => h)).at0 (eS_at hi) rfl)) ?_
              refine wl_yes rfl (congrArg Value.bool hg37) ?_
              refine wl_call e_133 rfl (rhas_ok w3 l 35 hln) ?_; intro v42 w4 hE4 hR4
              replace hX := hX.tr hE4
              replace hV := hV.tr hE4
              subst hR4
              refine wl_yes rfl (congrArg Value.bool hg37) ?_
              refine wl_val (rn_move (by conv => lhs; whnf)) ?_
              refine wl_split (d := 43) rfl (fun hg43 => ?_) (fun hg43 => ?_)
              · have q35 : (35 : UInt8) ∈ l := of_decide_eq_true hg43
                refine wl_yes rfl (congrArg Value.bool hg43) ?_
                refine wl_val (rn_move (by conv => lhs; whnf)) ?_
                refine wl_yes rfl (congrArg Value.bool hg43) ?_
                refine wl_val (rn_move (by conv => lhs; whnf)) ?_
                refine wl_yes rfl (congrArg Value.bool hg43) ?_
                refine wl_val (rn_indexAddr sl_68 rfl rfl (by omega)) ?_
                refine wl_yes rfl (congrArg Value.bool hg43) ?_
                refine wl_val (rn_load p_9 rfl ((hL.ext hV (fun _ h => h)).at0 (eS_at hi) rfl)) ?_
                refine wl_yes rfl (congrArg Value.bool hg43) ?_
                refine wl_val (rn_sneq rfl rfl) ?_
                refine wl_yes rfl (congrArg Value.bool hg43) ?_
                refine wl_val (rn_move (by conv => lhs; whnf)) ?_
                refine wl_split (d := 49) rfl (fun hg49 => ?_) (fun hg49 => ?_)
                · have qh : ¬ l = [35] := by simpa using of_decide_eq_true hg49
                  refine wl_no rfl (congrArg Value.bool hg49) ?_
                  refine wl_no rfl (congrArg Value.bool hg49) ?_
                  refine wl_no rfl (congrArg Value.bool hg49) ?_
                  refine wl_no rfl (congrArg Value.bool hg49) ?_
                  refine wl_no rfl (congrArg Value.bool hg49) ?_
                  refine wl_yes rfl (congrArg Value.bool hg43) ?_
                  refine wl_val (rn_pickT (congrArg Value.bool hg49) (by conv => lhs; whnf)) ?_
                  refine wl_yes rfl (congrArg Value.bool hg37) ?_
                  refine wl_val (rn_pickT (congrArg Value.bool hg43) (by conv => lhs; whnf)) ?_
                  refine wl_val (rn_pickF (congrArg Value.bool hg37) (by conv => lhs; whnf)) ?_
                  refine wl_nil ?_
                  refine W_condT rfl ?_
                  refine W_seq ?_
                  refine W_region ?_
                  refine wl_val (rn_assign (by conv => lhs; whnf)) ?_
                  refine wl_nil ?_
                  refine W_ret ?_
                  first | exact ⟨_, resR1 (res1_tmp rfl), hX, by rw [filter_small hz]; rfl⟩ | exact ⟨_, resR1 (res1_tmp rfl), hX, by rw [filter_no hi (levOk_a q43 qp)]; rfl⟩ | exact ⟨_, resR1 (res1_tmp rfl), hX, by rw [filter_no hi (levOk_b q35 qh)]; rfl⟩ | exact ⟨_, resR1 (res1_tmp rfl), hX, by rw [filter_no hi (by rw [levOk_c qh]; exact decide_eq_false (by omega))]; rfl⟩ | exact ⟨_, resR1 (res1_tmp rfl), hX, by rw [filter_yes hz (fun j l2 h2 => hall j l2 (by have := (List.getElem?_eq_some_iff.1 h2).1; omega) h2)]; rfl⟩
                · have qh : l = [35] := by simpa using of_decide_eq_false hg49
                  refine wl_yes rfl (congrArg Value.bool hg49) ?_
                  refine wl_val (rn_move (by conv => lhs; whnf)) ?_
                  refine wl_yes rfl (congrArg Value.bool hg49) ?_
                  refine wl_val (rn_move (by conv => lhs; whnf)) ?_
                  refine wl_yes rfl (congrArg Value.bool hg49) ?_
                  refine wl_val (rn_len sl_68 rfl) ?_
                  refine wl_yes rfl (congrArg Value.bool hg49) ?_
                  refine wl_val (rn_sub rfl rfl (by omega)) ?_
                  refine wl_yes rfl (congrArg Value.bool hg49) ?_
                  refine wl_val (rn_lss rfl rfl) ?_
                  refine wl_yes rfl (congrArg Value.bool hg43) ?_
                  refine wl_val (rn_pickF (congrArg Value.bool hg49) (by conv => lhs; whnf)) ?_
                  refine wl_yes rfl (congrArg Value.bool hg37) ?_
                  refine wl_val (rn_pickT (congrArg Value.bool hg43) (by conv => lhs; whnf)) ?_
                  refine wl_val (rn_pickF (congrArg Value.bool hg37) (by conv => lhs; whnf)) ?_
                  refine wl_nil ?_
                  refine W_cond rfl (fun hc2 => ?_) (fun hc2 => ?_)
                  · have qi := of_decide_eq_true hc2
                    refine W_seq ?_
                    refine W_region ?_
                    refine wl_val (rn_assign (by conv => lhs; whnf)) ?_
                    refine wl_nil ?_
                    refine W_ret ?_
                    first | exact ⟨_, resR1 (res1_tmp rfl), hX, by rw [filter_small hz]; rfl⟩ | exact ⟨_, resR1 (res1_tmp rfl), hX, by rw [filter_no hi (levOk_a q43 qp)]; rfl⟩ | exact ⟨_, resR1 (res1_tmp rfl), hX, by rw [filter_no hi (levOk_b q35 qh)]; rfl⟩ | exact ⟨_, resR1 (res1_tmp rfl), hX, by rw [filter_no hi (by rw [levOk_c qh]; exact decide_eq_false (by omega))]; rfl⟩ | exact ⟨_, resR1 (res1_tmp rfl), hX, by rw [filter_yes hz (fun j l2 h2 => hall j l2 (by have := (List.getElem?_eq_some_iff.1 h2).1; omega) h2)]; rfl⟩
                  · have qi := of_decide_eq_false hc2
                    refine W_skip ?_
                    refine W_region ?_
                    refine wl_val (rn_move (by conv => lhs; whnf)) ?_
                    refine wl_val (rn_add rfl rfl (by omega)) ?_
                    refine wl_val (rn_assign (by conv => lhs; whnf)) ?_
                    refine wl_nil ?_
                    exact ⟨rfl, i + 1, ⟨rfl, rfl, trivial⟩, ⟨hX, ⟨hV, hlt, fun j l2 hj h2 => by rcases Nat.lt_or_ge j i with h | h; exact hall j l2 h h2; (obtain rfl : j = i := by omega); rw [hi] at h2; cases h2; first | exact levOk_d q35 (fun _ => qp) | exact levOk_d q35 (fun h => absurd h q43) | (rw [levOk_c qh]; exact decide_eq_true (by omega))⟩⟩, by omega⟩
              · have q35 : ¬ (35 : UInt8) ∈ l := of_decide_eq_false hg43
                refine wl_no rfl (congrArg Value.bool hg43) ?_
                refine wl_no rfl (congrArg Value.bool hg43) ?_
                refine wl_no rfl (congrArg Value.bool hg43) ?_
                refine wl_no rfl (congrArg Value.bool hg43) ?_
                refine wl_no rfl (congrArg Value.bool hg43) ?_
                refine wl_no rfl (congrArg Value.bool hg43) ?_
                refine wl_nou rfl rfl ?_
                refine wl_nou rfl rfl ?_
                refine wl_nou rfl rfl ?_
                refine wl_nou rfl rfl ?_
                refine wl_nou rfl rfl ?_
                refine wl_no rfl (congrArg Value.bool hg43) ?_
                refine wl_yes rfl (congrArg Value.bool hg37) ?_
                refine wl_val (rn_pickF (congrArg Value.bool hg43) (by conv => lhs; whnf)) ?_
                refine wl_val (rn_pickF (congrArg Value.bool hg37) (by conv => lhs; whnf)) ?_
                refine wl_nil ?_
                refine W_condF rfl ?_
                refine W_skip ?_
                refine W_region ?_
                refine wl_val (rn_move (by conv => lhs; whnf)) ?_
                refine wl_val (rn_add rfl rfl (by omega)) ?_
                refine wl_val (rn_assign (by conv => lhs; whnf)) ?_
                refine wl_nil ?_
                exact ⟨rfl, i + 1, ⟨rfl, rfl, trivial⟩, ⟨hX, ⟨hV, hlt, fun j l2 hj h2 => by rcases Nat.lt_or_ge j i with h | h; exact hall j l2 h h2; (obtain rfl : j = i := by omega); rw [hi] at h2; cases h2; first | exact levOk_d q35 (fun _ => qp) | exact levOk_d q35 (fun h => absurd h q43) | (rw [levOk_c qh]; exact decide_eq_true (by omega))⟩⟩, by omega⟩
          · have q43 : ¬ (43 : UInt8) ∈ l := of_decide_eq_false hg30
            refine wl_no rfl (congrArg Value.bool hg30) ?_
            refine wl_no rfl (congrArg Value.bool hg30) ?_
            refine wl_no rfl (congrArg Value.bool hg30) ?_
            refine wl_no rfl (congrArg Value.bool hg30) ?_
            refine wl_no rfl (congrArg Value.bool hg30) ?_
            refine wl_val (rn_pickF (congrArg Value.bool hg30) (by conv => lhs; whnf)) ?_
            refine wl_val (rn_move (by conv => lhs; whnf)) ?_
            refine wl_yes rfl rfl ?_
            refine wl_val (rn_move (by conv => lhs; whnf)) ?_
            refine wl_yes rfl rfl ?_
            refine wl_val (rn_move (by conv => lhs; whnf)) ?_
            refine wl_yes rfl rfl ?_
            refine wl_val (rn_indexAddr sl_68 rfl rfl (by omega)) ?_
            refine wl_yes rfl rfl ?_
            refine wl_val (rn_load p_9 rfl ((hL.ext hV (fun _ h => h)).at0 (eS_at hi) rfl)) ?_
            refine wl_yes rfl rfl ?_
            refine wl_call e_133 rfl (rhas_ok w3 l 35 hln) ?_; intro v42 w5 hE5 hR5
            replace hX := hX.tr hE5
            replace hV := hV.tr hE5
            subst hR5
            refine wl_yes rfl rfl ?_
            refine wl_val (rn_move (by conv => lhs; whnf)) ?_
            refine wl_split (d := 43) rfl (fun hg43 => ?_) (fun hg43 => ?_)
            · have q35 : (35 : UInt8) ∈ l := of_decide_eq_true hg43
              refine wl_yes rfl (congrArg Value.bool hg43) ?_
              refine wl_val (rn_move (by conv => lhs; whnf)) ?_
              refine wl_yes rfl (congrArg Value.bool hg43) ?_
              refine wl_val (rn_move (by conv => lhs; whnf)) ?_
              refine wl_yes rfl (congrArg Value.bool hg43) ?_
              refine wl_val (rn_indexAddr sl_68 rfl rfl (by omega)) ?_
              refine wl_yes rfl (congrArg Value.bool hg43) ?_
              refine wl_val (rn_load p_9 rfl ((hL.ext hV (fun _ h => h)).at0 (eS_at hi) rfl)) ?_
              refine wl_yes rfl (congrArg Value.bool hg43) ?_
              refine wl_val (rn_sneq rfl rfl) ?_
              refine wl_yes rfl (congrArg Value.bool hg43) ?_
              refine wl_val (rn_move (by conv => lhs; whnf)) ?_
              refine wl_split (d := 49) rfl (fun hg49 => ?_) (fun hg49 => ?_)
              · have qh : ¬ l = [35] := by simpa using of_decide_eq_true hg49
                refine wl_no rfl (congrArg Value.bool hg49) ?_
                refine wl_no rfl (congrArg Value.bool hg49) ?_
                refine wl_no rfl (congrArg Value.bool hg49) ?_
                refine wl_no rfl (congrArg Value.bool hg49) ?_
                refine wl_no rfl (congrArg Value.bool hg49) ?_
                refine wl_yes rfl (congrArg Value.bool hg43) ?_
                refine wl_val (rn_pickT (congrArg Value.bool hg49) (by conv => lhs; whnf)) ?_
                refine wl_yes rfl rfl ?_
                refine wl_val (rn_pickT (congrArg Value.bool hg43) (by conv => lhs; whnf)) ?_
                refine wl_val (rn_pickF rfl (by conv => lhs; whnf)) ?_
                refine wl_nil ?_
                refine W_condT rfl ?_
                refine W_seq ?_
                refine W_region ?_
                refine wl_val (rn_assign (by conv => lhs; whnf)) ?_
                refine wl_nil ?_
                refine W_ret ?_
                first | exact ⟨_, resR1 (res1_tmp rfl), hX, by rw [filter_small hz]; rfl⟩ | exact ⟨_, resR1 (res1_tmp rfl), hX, by rw [filter_no hi (levOk_a q43 qp)]; rfl⟩ | exact ⟨_, resR1 (res1_tmp rfl), hX, by rw [filter_no hi (levOk_b q35 qh)]; rfl⟩ | exact ⟨_, resR1 (res1_tmp rfl), hX, by rw [filter_no hi (by rw [levOk_c qh]; exact decide_eq_false (by omega))]; rfl⟩ | exact ⟨_, resR1 (res1_tmp rfl), hX, by rw [filter_yes hz (fun j l2 h2 => hall j l2 (by have := (List.getElem?_eq_some_iff.1 h2).1; omega) h2)]; rfl⟩
              · have qh : l = [35] := by simpa using of_decide_eq_false hg49
                refine wl_yes rfl (congrArg Value.bool hg49) ?_
                refine wl_val (rn_move (by conv => lhs; whnf)) ?_
                refine wl_yes rfl (congrArg Value.bool hg49) ?_
                refine wl_val (rn_move (by conv => lhs; whnf)) ?_
                refine wl_yes rfl (congrArg Value.bool hg49) ?_
                refine wl_val (rn_len sl_68 rfl) ?_
                refine wl_yes rfl (congrArg Value.bool hg49) ?_
                refine wl_val (rn_sub rfl rfl (by omega)) ?_
                refine wl_yes rfl (congrArg Value.bool hg49) ?_
                refine wl_val (rn_lss rfl rfl) ?_
                refine wl_yes rfl (congrArg Value.bool hg43) ?_
                refine wl_val (rn_pickF (congrArg Value.bool hg49) (by conv => lhs; whnf)) ?_
                refine wl_yes rfl rfl ?_
                refine wl_val (rn_pickT (congrArg Value.bool hg43) (by conv => lhs; whnf)) ?_
                refine wl_val (rn_pickF rfl (by conv => lhs; whnf)) ?_
                refine wl_nil ?_
                refine W_cond rfl (fun hc2 => ?_) (fun hc2 => ?_)
                · have qi := of_decide_eq_true hc2
                  refine W_seq ?_
                  refine W_region ?_
                  refine wl_val (rn_assign (by conv => lhs; whnf)) ?_
                  refine wl_nil ?_
                  refine W_ret ?_
                  first | exact ⟨_, resR1 (res1_tmp rfl), hX, by rw [filter_small hz]; rfl⟩ | exact ⟨_, resR1 (res1_tmp rfl), hX, by rw [filter_no hi (levOk_a q43 qp)]; rfl⟩ | exact ⟨_, resR1 (res1_tmp rfl), hX, by rw [filter_no hi (levOk_b q35 qh)]; rfl⟩ | exact ⟨_, resR1 (res1_tmp rfl), hX, by rw [filter_no hi (by rw [levOk_c qh]; exact decide_eq_false (by omega))]; rfl⟩ | exact ⟨_, resR1 (res1_tmp rfl), hX, by rw [filter_yes hz (fun j l2 h2 => hall j l2 (by have := (List.getElem?_eq_some_iff.1 h2).1; omega) h2)]; rfl⟩
                · have qi := of_decide_eq_false hc2
                  refine W_skip ?_
                  refine W_region ?_
                  refine wl_val (rn_move (by conv => lhs; whnf)) ?_
                  refine wl_val (rn_add rfl rfl (by omega)) ?_
                  refine wl_val (rn_assign (by conv => lhs; whnf)) ?_
                  refine wl_nil ?_
                  exact ⟨rfl, i + 1, ⟨rfl, rfl, trivial⟩, ⟨hX, ⟨hV, hlt, fun j l2 hj h2 => by rcases Nat.lt_or_ge j i with h | h; exact hall j l2 h h2; (obtain rfl : j = i := by omega); rw [hi] at h2; cases h2; first | exact levOk_d q35 (fun _ => qp) | exact levOk_d q35 (fun h => absurd h q43) | (rw [levOk_c qh]; exact decide_eq_true (by omega))⟩⟩, by omega⟩
            · have q35 : ¬ (35 : UInt8) ∈ l := of_decide_eq_false hg43
              refine wl_no rfl (congrArg Value.bool hg43) ?_
              refine wl_no rfl (congrArg Value.bool hg43) ?_
              refine wl_no rfl (congrArg Value.bool hg43) ?_
              refine wl_no rfl (congrArg Value.bool hg43) ?_
              refine wl_no rfl (congrArg Value.bool hg43) ?_
              refine wl_no rfl (congrArg Value.bool hg43) ?_
              refine wl_nou rfl rfl ?_
              refine wl_nou rfl rfl ?_
              refine wl_nou rfl rfl ?_
              refine wl_nou rfl rfl ?_
              refine wl_nou rfl rfl ?_
              refine wl_no rfl (congrArg Value.bool hg43) ?_
              refine wl_yes rfl rfl ?_
              refine wl_val (rn_pickF (congrArg Value.bool hg43) (by conv => lhs; whnf)) ?_
              refine wl_val (rn_pickF rfl (by conv => lhs; whnf)) ?_
              refine wl_nil ?_
              refine W_condF rfl ?_
              refine W_skip ?_
              refine W_region ?_
              refine wl_val (rn_move (by conv => lhs; whnf)) ?_
              refine wl_val (rn_add rfl rfl (by omega)) ?_
              refine wl_val (rn_assign (by conv => lhs; whnf)) ?_
              refine wl_nil ?_
              exact ⟨rfl, i + 1, ⟨rfl, rfl, trivial⟩, ⟨hX, ⟨hV, hlt, fun j l2 hj h2 => by rcases Nat.lt_or_ge j i with h | h; exact hall j l2 h h2; (obtain rfl : j = i := by omega); rw [hi] at h2; cases h2; first | exact levOk_d q35 (fun _ => qp) | exact levOk_d q35 (fun h => absurd h q43) | (rw [levOk_c qh]; exact decide_eq_true (by omega))⟩⟩, by omega⟩
        · have hge := of_decide_eq_false hc1; simp only [Int.ofNat_lt, Nat.not_lt] at hge
          have hie : i = ((spl 47 s)).length := by omega
          refine W_exit ?_   -- exit 0
          refine W_seq ?_
          refine W_region ?_
          refine wl_val (rn_assign (by conv => lhs; whnf)) ?_
          refine wl_nil ?_
          refine W_ret ?_
          first | exact ⟨_, resR1 (res1_tmp rfl), hX, by rw [filter_small hz]; rfl⟩ | exact ⟨_, resR1 (res1_tmp rfl), hX, by rw [filter_no hi (levOk_a q43 qp)]; rfl⟩ | exact ⟨_, resR1 (res1_tmp rfl), hX, by rw [filter_no hi (levOk_b q35 qh)]; rfl⟩ | exact ⟨_, resR1 (res1_tmp rfl), hX, by rw [filter_no hi (by rw [levOk_c qh]; exact decide_eq_false (by omega))]; rfl⟩ | exact ⟨_, resR1 (res1_tmp rfl), hX, by rw [filter_yes hz (fun j l2 h2 => hall j l2 (by have := (List.getElem?_eq_some_iff.1 h2).1; omega) h2)]; rfl⟩
-- bellman/bellmanref01.Wild
theorem rwild_ok (w : World) (s : Str) (hn : s.length ≤ 1000000) : Fn Tryd.prog 138 #[Sv s] w fun u w' => u = .bool (wildB s) := by
  have hX := Ext.refl Non w
  refine fn_of_W (args := [_]) Tryd.func138 rfl (by kernel_rfl) rfl ?_
  refine W_seq ?_
  refine W_region ?_
  refine wl_val (rn_assign (by conv => lhs; whnf)) ?_
  refine wl_nil ?_
  refine W_seq ?_
  refine W_region ?_
  refine wl_val (rn_move (by conv => lhs; whnf)) ?_
  refine wl_call e_139 rfl (rlevels_ok w s hn) ?_; intro v5 w1 hE1 hR1
  replace hX := hX.tr hE1
  have hL := hR1; obtain ⟨a3, c3, hv3, _⟩ := id hL.len; rw [List.length_map] at hv3; subst hv3
  have hV := Ext.refl Non w1
  obtain ⟨r0, hr0⟩ := spl_head 47 s
  have hi : (spl 47 s)[0]? = some (pre1 47 s) := by rw [hr0]; rfl
  have hl0 : 0 < (spl 47 s).length := by rw [hr0]; simp
  obtain ⟨bb, oo, ea⟩ := hL.base (by intro e; have := congrArg List.length e; simp only [List.length_map, List.length_nil] at this; omega); subst ea
  refine wl_val (rn_assign (by conv => lhs; whnf)) ?_
  refine wl_nil ?_
  refine W_seq ?_
  refine W_region ?_
  refine wl_val (rn_move (by conv => lhs; whnf)) ?_
  refine wl_val (rn_indexAddr sl_68 rfl rfl (by omega)) ?_
  refine wl_val (rn_load p_9 rfl ((hL.ext hV (fun _ h => h)).at0 (eS_at (i := 0) hi) rfl)) ?_
  refine wl_val (rn_seql rfl rfl) ?_
  refine wl_val (rn_move (by conv => lhs; whnf)) ?_
  refine wl_split (d := 10) rfl (fun hg10 => ?_) (fun hg10 => ?_)
  · refine wl_no rfl (congrArg Value.bool hg10) ?_
    refine wl_no rfl (congrArg Value.bool hg10) ?_
    refine wl_no rfl (congrArg Value.bool hg10) ?_
    refine wl_no rfl (congrArg Value.bool hg10) ?_
    refine wl_val (rn_pickT (congrArg Value.bool hg10) (by conv => lhs; whnf)) ?_
    refine wl_val (rn_assign (by conv => lhs; whnf)) ?_
    refine wl_nil ?_
    refine W_ret ?_
    exact ⟨_, resR1 (res1_tmp rfl), hX, by unfold wildB; rw [hg10]; rfl⟩
  · refine wl_yes rfl (congrArg Value.bool hg10) ?_
    refine wl_val (rn_move (by conv => lhs; whnf)) ?_
    refine wl_yes rfl (congrArg Value.bool hg10) ?_
    refine wl_val (rn_indexAddr sl_68 rfl rfl (by omega)) ?_
    refine wl_yes rfl (congrArg Value.bool hg10) ?_
    refine wl_val (rn_load p_9 rfl ((hL.ext hV (fun _ h => h)).at0 (eS_at (i := 0) hi) rfl)) ?_
    refine wl_yes rfl (congrArg Value.bool hg10) ?_
    refine wl_val (rn_seql rfl rfl) ?_
    refine wl_val (rn_pickF (congrArg Value.bool hg10) (by conv => lhs; whnf)) ?_
    refine wl_val (rn_assign (by conv => lhs; whnf)) ?_
    refine wl_nil ?_
    refine W_ret ?_
    exact ⟨_, resR1 (res1_tmp rfl), hX, by unfold wildB; rw [hg10]; rfl⟩
end Go.Proofs.YthcclgoidchkdaaDoorC
