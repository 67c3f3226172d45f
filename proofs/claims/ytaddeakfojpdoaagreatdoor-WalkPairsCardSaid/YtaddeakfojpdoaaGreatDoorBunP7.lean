/- The document's functions on texts, topics and filters. -/
import Derived.Test.YtaddeakfojpdoaaGreatDoorBunP6
import Derived.Test.YtaddeakfojpdoaaGreatDoorBunP4
set_option linter.unusedVariables false
set_option linter.unusedSimpArgs false
set_option maxRecDepth 100000
namespace Go.Proofs.YtaddeakfojpdoaaGreatDoorC
open Go.RowKit
theorem u8_eq {c d : UInt8} (h : (c.toNat : Int) = (d.toNat : Int)) : c = d := UInt8.toNat_inj.1 (by omega)
theorem u8_dec (c d : UInt8) : decide ((c.toNat : Int) = (d.toNat : Int)) = decide (c = d) := by
  by_cases h : c = d
  · subst h; simp
  · rw [decide_eq_false h, decide_eq_false (fun e => h (u8_eq e))]
-- bellman/bellmanref01.has
theorem rhas_ok (w : World) (s : Str) (c : UInt8) (hn : s.length ≤ 1000000) : Fn Tryz.prog 49 #[Sv s, .int .u8 c.toNat] w fun u w' => u = .bool (decide (c ∈ s)) := by
  have hX := Ext.refl Non w
  refine fn_of_W (args := [_, _]) Tryz.func49 rfl (by kernel_rfl) rfl ?_
  refine W_seq ?_
  refine W_region ?_
  refine wl_val (rn_assign (by conv => lhs; whnf)) ?_
  refine wl_nil ?_
  refine W_seq ?_
  refine W_seq ?_
  refine W_region ?_
  refine wl_val (rn_assign (by conv => lhs; whnf)) ?_
  refine wl_nil ?_
  refine W_block ?_   -- block 0
  refine W_loopS (S := Nat) [0, 1, 5] (fun i => [Sv s, .int .u8 c.toNat, .int .i64 (i : Nat)]) (fun i A => (Ext Non w A) ∧ (i ≤ s.length ∧ ¬ c ∈ s.take i)) (fun i => s.length - i) 0 ⟨rfl, rfl, rfl, trivial⟩ ⟨hX, ⟨Nat.zero_le _, by simp⟩⟩ ?_
  rintro τ0 i A0 ⟨hX, hI0⟩
  obtain ⟨hil, hno⟩ := hI0
  refine W_seq ?_
  refine W_seq ?_
  refine W_region ?_
  refine wl_val (rn_move (by conv => lhs; whnf)) ?_
  refine wl_val (rn_move (by conv => lhs; whnf)) ?_
  refine wl_val (rn_slen us_9 rfl) ?_
  refine wl_val (rn_lss rfl rfl) ?_
  refine wl_nil ?_
  refine W_cond rfl (fun hc0 => ?_) (fun hc0 => ?_)
  · have hlt := of_decide_eq_true hc0; simp only [Int.ofNat_lt] at hlt
    obtain ⟨x, hxi⟩ : ∃ x, (s)[i]? = some x := ⟨_, List.getElem?_eq_getElem hlt⟩
    refine W_skip ?_
    refine W_seq ?_
    refine W_block ?_   -- block 1
    refine W_seq ?_
    refine W_region ?_
    refine wl_val (rn_move (by conv => lhs; whnf)) ?_
    refine wl_val (rn_move (by conv => lhs; whnf)) ?_
    refine wl_val (rn_sindex us_9 rfl rfl (by omega) hxi) ?_
    refine wl_val (rn_move (by conv => lhs; whnf)) ?_
    refine wl_val (rn_eql rfl rfl) ?_
    refine wl_nil ?_
    refine W_cond rfl (fun hc1 => ?_) (fun hc1 => ?_)
    · have hcx := u8_eq (of_decide_eq_true hc1)
      refine W_seq ?_
      refine W_region ?_
      refine wl_val (rn_assign (by conv => lhs; whnf)) ?_
      refine wl_nil ?_
      refine W_ret ?_
      exact ⟨_, resR1 (res1_tmp rfl), hX, by rw [decide_eq_true (show c ∈ s from hcx ▸ List.mem_of_getElem? hxi)]; rfl⟩
    · have hcx : ¬ x = c := fun e => of_decide_eq_false hc1 (by rw [e])
      refine W_skip ?_
      refine W_region ?_
      refine wl_val (rn_move (by conv => lhs; whnf)) ?_
      refine wl_val (rn_add rfl rfl (by omega)) ?_
      refine wl_val (rn_assign (by conv => lhs; whnf)) ?_
      refine wl_nil ?_
      exact ⟨rfl, i + 1, ⟨rfl, rfl, rfl, trivial⟩, ⟨hX, ⟨hlt, by rw [List.take_add_one, hxi]; simp only [Option.toList_some, List.mem_append, List.mem_singleton, not_or]; exact ⟨hno, fun e => hcx e.symm⟩⟩⟩, by omega⟩
  · have hge := of_decide_eq_false hc0; simp only [Int.ofNat_lt, Nat.not_lt] at hge
    rw [List.take_of_length_le hge] at hno
    refine W_exit ?_   -- exit 0
    refine W_seq ?_
    refine W_region ?_
    refine wl_val (rn_assign (by conv => lhs; whnf)) ?_
    refine wl_nil ?_
    refine W_ret ?_
    exact ⟨_, resR1 (res1_tmp rfl), hX, by rw [decide_eq_false hno]; rfl⟩
-- bellman/bellmanref01.Levels
set_option maxHeartbeats 800000 in
theorem rlevels_new (w : World) (s : Str) (hn : s.length ≤ 1000000) : Fn Tryz.prog 30 #[Sv s] w fun u w' => Sl (Old w) w' u 1 ((spl 47 s).map eS1) := by
  have hX := Ext.refl Non w
  refine fn_of_W (args := [_]) Tryz.func30 rfl (by kernel_rfl) rfl ?_
  refine W_seq ?_
  refine W_region ?_
  refine wl_val (rn_assign (by conv => lhs; whnf)) ?_
  refine wl_nil ?_
  refine W_seq ?_
  refine W_region ?_
  refine wl_val (rn_assign (by conv => lhs; whnf)) ?_
  refine wl_nil ?_
  refine W_seq ?_
  refine W_region ?_
  refine wl_val (rn_assign (by conv => lhs; whnf)) ?_
  refine wl_nil ?_
  refine W_seq ?_
  refine W_seq ?_
  refine W_region ?_
  refine wl_val (rn_assign (by conv => lhs; whnf)) ?_
  refine wl_nil ?_
  refine W_block ?_   -- block 0
  refine W_loopS (S := Nat × Nat × List Str × Value × Option Nat) [0, 3, 4, 5] (fun ⟨i, fr, out, v, oo⟩ => [Sv s, v, .int .i64 (fr : Nat), .int .i64 (i : Nat)]) (fun ⟨i, fr, out, v, oo⟩ A => (Ext Non w A) ∧ (i ≤ s.length ∧ fr ≤ i ∧ spl 47 (s.take i) = out ++ [(s.take i).drop fr] ∧ OwO A v oo 1 (out.map eS1) ∧ ∀ j, oo = some j → w.heap.size ≤ j)) (fun ⟨i, fr, out, v, oo⟩ => s.length - i) (0, 0, [], .slice none 0 0, none) ⟨rfl, rfl, rfl, rfl, trivial⟩ ⟨hX, ⟨Nat.zero_le _, Nat.le_refl _, rfl, OwO.nil, by simp⟩⟩ ?_
  rintro τ0 ⟨i, fr, out, v, oo⟩ A0 ⟨hX, hI0⟩
  obtain ⟨hil, hfi, hsp, hO, ho⟩ := hI0
  have hol : out.length ≤ i := by have := spl_len_le 47 (s.take i); rw [hsp] at this; simp only [List.length_append, List.length_cons, List.length_nil, List.length_take] at this; omega
  refine W_seq ?_
  refine W_seq ?_
  refine W_region ?_
  refine wl_val (rn_move (by conv => lhs; whnf)) ?_
  refine wl_val (rn_move (by conv => lhs; whnf)) ?_
  refine wl_val (rn_slen us_9 rfl) ?_
  refine wl_val (rn_lss rfl rfl) ?_
  refine wl_nil ?_
  refine W_cond rfl (fun hc0 => ?_) (fun hc0 => ?_)
  · have hlt := of_decide_eq_true hc0; simp only [Int.ofNat_lt] at hlt
    obtain ⟨c, hcc⟩ : ∃ c, (s)[i]? = some c := ⟨_, List.getElem?_eq_getElem hlt⟩
    have hst := spl_step hcc hfi hsp
    refine W_skip ?_
    refine W_seq ?_
    refine W_block ?_   -- block 1
    refine W_seq ?_
    refine W_region ?_
    refine wl_val (rn_move (by conv => lhs; whnf)) ?_
    refine wl_val (rn_move (by conv => lhs; whnf)) ?_
    refine wl_val (rn_sindex us_9 rfl rfl (by omega) hcc) ?_
    refine wl_val (rn_eql rfl rfl) ?_
    refine wl_nil ?_
    refine W_cond rfl (fun hc1 => ?_) (fun hc1 => ?_)
    · have hcb : c = 47 := u8_eq (d := 47) (of_decide_eq_true hc1)
      refine W_seq ?_
      refine W_region ?_
      refine wl_val (rn_move (by conv => lhs; whnf)) ?_
      refine wl_val (rn_move (by conv => lhs; whnf)) ?_
      refine wl_val (rn_move (by conv => lhs; whnf)) ?_
      refine wl_val (rn_move (by conv => lhs; whnf)) ?_
      refine wl_val (rn_sslice us_9 (l := fr) (h := i) rfl ⟨_, rfl⟩ ⟨_, rfl⟩ (by omega) (by first | omega | (simp only [List.length_cons, List.length_nil, List.length_append]; omega))) ?_
      refine wl_lit1 (r := eS1 ((s.drop fr).take (i - fr))) sl_22 rfl rfl rfl rfl (by decide) ?_; intro v21 w1 b21 hb21 hE1 hO21
      replace hX := hX.tr hE1
      replace hO := hO.ext hE1 (fun _ _ h => h)
      have hXo := hX
      refine wl_app sl_22 rfl rfl rfl hO (hO21.sl (M := Non) id) (fun r hr => by simp only [List.mem_singleton] at hr; subst hr; exact one1 rfl) (by simp only [List.length_map, List.length_range, List.length_cons, List.length_nil]; omega) (by simp only [List.length_map, List.length_range, List.length_cons, List.length_nil, big]; omega) ?_; intro v22 w2 o22 hE2 hO22 hf22
      replace hX := hX.mineO hE2 (fun i hi => .inr (ho i hi))
      have ho22 : ∀ i, o22 = some i → w.heap.size ≤ i := fun j hj => by rcases hf22 j hj with h | h; exact ho j h; exact Nat.le_trans hXo.size h
      refine wl_val (rn_assign (by conv => lhs; whnf)) ?_
      refine wl_nil ?_
      refine W_region ?_
      refine wl_val (rn_move (by conv => lhs; whnf)) ?_
      refine wl_val (rn_add rfl rfl (by omega)) ?_
      refine wl_val (rn_assign (by conv => lhs; whnf)) ?_
      refine wl_nil ?_
      refine W_region ?_
      refine wl_val (rn_move (by conv => lhs; whnf)) ?_
      refine wl_val (rn_add rfl rfl (by omega)) ?_
      refine wl_val (rn_assign (by conv => lhs; whnf)) ?_
      refine wl_nil ?_
      exact ⟨rfl, (i + 1, i + 1, out ++ [(s.drop fr).take (i - fr)], v22, o22), ⟨rfl, rfl, rfl, rfl, trivial⟩, ⟨hX, ⟨hlt, Nat.le_refl _, hst.1 hcb, by rw [List.map_append]; exact hO22, ho22⟩⟩, by show s.length - (i + 1) < s.length - i; omega⟩
    · have hcb : ¬ c = 47 := fun e => of_decide_eq_false hc1 (by rw [e]; rfl)
      refine W_skip ?_
      refine W_region ?_
      refine wl_val (rn_move (by conv => lhs; whnf)) ?_
      refine wl_val (rn_add rfl rfl (by omega)) ?_
      refine wl_val (rn_assign (by conv => lhs; whnf)) ?_
      refine wl_nil ?_
      exact ⟨rfl, (i + 1, fr, out, v, oo), ⟨rfl, rfl, rfl, rfl, trivial⟩, ⟨hX, ⟨hlt, by omega, hst.2 hcb, hO, ho⟩⟩, by show s.length - (i + 1) < s.length - i; omega⟩
  · have hge := of_decide_eq_false hc0; simp only [Int.ofNat_lt, Nat.not_lt] at hge
    rw [List.take_of_length_le hge] at hsp
    have hie : i = s.length := by omega
    refine W_exit ?_   -- exit 0
    refine W_seq ?_
    refine W_region ?_
    refine wl_val (rn_move (by conv => lhs; whnf)) ?_
    refine wl_val (rn_move (by conv => lhs; whnf)) ?_
    refine wl_val (rn_move (by conv => lhs; whnf)) ?_
    refine wl_val (rn_sslice us_9 (l := fr) (h := s.length) rfl ⟨_, rfl⟩ rfl (by omega) (by first | omega | (simp only [List.length_cons, List.length_nil, List.length_append]; omega))) ?_
    refine wl_lit1 (r := eS1 ((s.drop fr).take (s.length - fr))) sl_22 rfl rfl rfl rfl (by decide) ?_; intro v29 w3 b29 hb29 hE3 hO29
    replace hX := hX.tr hE3
    replace hO := hO.ext hE3 (fun _ _ h => h)
    have hXo := hX
    refine wl_app sl_22 rfl rfl rfl hO (hO29.sl (M := Non) id) (fun r hr => by simp only [List.mem_singleton] at hr; subst hr; exact one1 rfl) (by simp only [List.length_map, List.length_range, List.length_cons, List.length_nil]; omega) (by simp only [List.length_map, List.length_range, List.length_cons, List.length_nil, big]; omega) ?_; intro v30 w4 o30 hE4 hO30 hf30
    replace hX := hX.mineO hE4 (fun i hi => .inr (ho i hi))
    have ho30 : ∀ i, o30 = some i → w.heap.size ≤ i := fun j hj => by rcases hf30 j hj with h | h; exact ho j h; exact Nat.le_trans hXo.size h
    refine wl_val (rn_assign (by conv => lhs; whnf)) ?_
    refine wl_nil ?_
    refine W_ret ?_
    exact ⟨_, resR1 (res1_tmp rfl), hX, by rw [hsp, List.map_append]; have e : s.drop fr = (s.drop fr).take (s.length - fr) := (List.take_of_length_le (by rw [List.length_drop]; exact Nat.le_refl _)).symm; rw [e]; exact hO30.sl (fun i hi hlt => by have := ho30 i hi; unfold Old at hlt; omega)⟩
theorem rlevels_ok (w : World) (s : Str) (hn : s.length ≤ 1000000) : Fn Tryz.prog 30 #[Sv s] w fun u w' => Sl Non w' u 1 ((spl 47 s).map eS1) :=
  (rlevels_new w s hn).mono fun v w' _ h => h.sub fun _ h _ => h.elim
theorem sized_a {s : Str} (h : decide ((s.length : Int) ≥ 1) = false) : sizedB s = false := by
  have := of_decide_eq_false h
  have : s = [] := List.length_eq_zero_iff.1 (by omega)
  subst this; rfl
theorem sized_b {s : Str} (h : decide ((s.length : Int) ≤ 32) = false) : sizedB s = false := by
  have := of_decide_eq_false h
  unfold sizedB; rw [decide_eq_false (show ¬ s.length ≤ 32 by omega)]; simp
theorem sized_c {s : Str} (h : decide ((s.length : Int) ≥ 1) = true) (k : decide ((s.length : Int) ≤ 32) = true) : sizedB s = !decide ((0 : UInt8) ∈ s) := by
  have h := of_decide_eq_true h; have k := of_decide_eq_true k
  have : ¬ s = [] := fun e => by subst e; simp at h
  unfold sizedB; rw [decide_eq_true (show s.length ≤ 32 by omega)]; simp [this]
-- bellman/bellmanref01.Filter
set_option maxHeartbeats 1600000 in
theorem rfilter_ok (w : World) (s : Str) (hn : s.length ≤ 1000000) : Fn Tryz.prog 28 #[Sv s] w fun u w' => u = .bool (filterB s) := by
  have hX := Ext.refl Non w
  refine fn_of_W (args := [_]) Tryz.func28 rfl (by kernel_rfl) rfl ?_
  refine W_seq ?_
  refine W_region ?_
  refine wl_val (rn_assign (by conv => lhs; whnf)) ?_
  refine wl_nil ?_
  refine W_seq ?_
  refine W_seq ?_
  refine W_region ?_
  refine wl_val (rn_move (by conv => lhs; whnf)) ?_
  refine wl_val (rn_slen us_9 rfl) ?_
  refine wl_val (rn_lss rfl rfl) ?_
  refine wl_val (rn_move (by conv => lhs; whnf)) ?_
  refine wl_split (d := 8) rfl (fun hg8 => ?_) (fun hg8 => ?_)
  · have hz : sizedB s = false := sized_a (by have := of_decide_eq_true hg8; exact decide_eq_false (by omega))
    refine wl_no rfl (congrArg Value.bool hg8) ?_
    refine wl_no rfl (congrArg Value.bool hg8) ?_
    refine wl_no rfl (congrArg Value.bool hg8) ?_
    refine wl_val (rn_pickT (congrArg Value.bool hg8) (by conv => lhs; whnf)) ?_
    refine wl_val (rn_move (by conv => lhs; whnf)) ?_
    refine wl_no rfl rfl ?_
    refine wl_no rfl rfl ?_
    refine wl_val (rn_pickT rfl (by conv => lhs; whnf)) ?_
    refine wl_nil ?_
    refine W_condT rfl ?_
    refine W_seq ?_
    refine W_region ?_
    refine wl_val (rn_assign (by conv => lhs; whnf)) ?_
    refine wl_nil ?_
    refine W_ret ?_
    first | exact ⟨_, resR1 (res1_tmp rfl), hX, by rw [filter_small hz]; rfl⟩ | exact ⟨_, resR1 (res1_tmp rfl), hX, by rw [filter_no hi (levOk_a q43 qp)]; rfl⟩ | exact ⟨_, resR1 (res1_tmp rfl), hX, by rw [filter_no hi (levOk_b q35 qh)]; rfl⟩ | exact ⟨_, resR1 (res1_tmp rfl), hX, by rw [filter_no hi (by rw [levOk_c qh]; exact decide_eq_false (by omega))]; rfl⟩ | exact ⟨_, resR1 (res1_tmp rfl), hX, by rw [filter_yes hz (fun j l2 h2 => hall j l2 (by have := (List.getElem?_eq_some_iff.1 h2).1; omega) h2)]; rfl⟩
  · have hz1 : decide ((s.length : Int) ≥ 1) = true := decide_eq_true (by have := of_decide_eq_false hg8; omega)
    refine wl_yes rfl (congrArg Value.bool hg8) ?_
    refine wl_val (rn_move (by conv => lhs; whnf)) ?_
    refine wl_yes rfl (congrArg Value.bool hg8) ?_
    refine wl_val (rn_slen us_9 rfl) ?_
    refine wl_yes rfl (congrArg Value.bool hg8) ?_
    refine wl_val (rn_gtr rfl rfl) ?_
    refine wl_val (rn_pickF (congrArg Value.bool hg8) (by conv => lhs; whnf)) ?_
    refine wl_val (rn_move (by conv => lhs; whnf)) ?_
    refine wl_split (d := 13) rfl (fun hg13 => ?_) (fun hg13 => ?_)
    · have hz : sizedB s = false := sized_b (by have := of_decide_eq_true hg13; exact decide_eq_false (by omega))
      refine wl_no rfl (congrArg Value.bool hg13) ?_
      refine wl_no rfl (congrArg Value.bool hg13) ?_
      refine wl_val (rn_pickT (congrArg Value.bool hg13) (by conv => lhs; whnf)) ?_
      refine wl_nil ?_
      refine W_condT rfl ?_
      refine W_seq ?_
      refine W_region ?_
      refine wl_val (rn_assign (by conv => lhs; whnf)) ?_
      refine wl_nil ?_
      refine W_ret ?_
      first | exact ⟨_, resR1 (res1_tmp rfl), hX, by rw [filter_small hz]; rfl⟩ | exact ⟨_, resR1 (res1_tmp rfl), hX, by rw [filter_no hi (levOk_a q43 qp)]; rfl⟩ | exact ⟨_, resR1 (res1_tmp rfl), hX, by rw [filter_no hi (levOk_b q35 qh)]; rfl⟩ | exact ⟨_, resR1 (res1_tmp rfl), hX, by rw [filter_no hi (by rw [levOk_c qh]; exact decide_eq_false (by omega))]; rfl⟩ | exact ⟨_, resR1 (res1_tmp rfl), hX, by rw [filter_yes hz (fun j l2 h2 => hall j l2 (by have := (List.getElem?_eq_some_iff.1 h2).1; omega) h2)]; rfl⟩
    · have hz2 : decide ((s.length : Int) ≤ 32) = true := decide_eq_true (by have := of_decide_eq_false hg13; omega)
      refine wl_yes rfl (congrArg Value.bool hg13) ?_
      refine wl_val (rn_move (by conv => lhs; whnf)) ?_
      refine wl_yes rfl (congrArg Value.bool hg13) ?_
      refine wl_call e_49 rfl (rhas_ok w s 0 hn) ?_; intro v15 w1 hE1 hR1
      replace hX := hX.tr hE1
      subst hR1
      refine wl_val (rn_pickF (congrArg Value.bool hg13) (by conv => lhs; whnf)) ?_
      refine wl_nil ?_
      refine W_cond rfl (fun hc0 => ?_) (fun hc0 => ?_)
      · have hz : sizedB s = false := by rw [sized_c hz1 hz2, hc0]; rfl
        refine W_seq ?_
        refine W_region ?_
        refine wl_val (rn_assign (by conv => lhs; whnf)) ?_
        refine wl_nil ?_
        refine W_ret ?_
        first | exact ⟨_, resR1 (res1_tmp rfl), hX, by rw [filter_small hz]; rfl⟩ | exact ⟨_, resR1 (res1_tmp rfl), hX, by rw [filter_no hi (levOk_a q43 qp)]; rfl⟩ | exact ⟨_, resR1 (res1_tmp rfl), hX, by rw [filter_no hi (levOk_b q35 qh)]; rfl⟩ | exact ⟨_, resR1 (res1_tmp rfl), hX, by rw [filter_no hi (by rw [levOk_c qh]; exact decide_eq_false (by omega))]; rfl⟩ | exact ⟨_, resR1 (res1_tmp rfl), hX, by rw [filter_yes hz (fun j l2 h2 => hall j l2 (by have := (List.getElem?_eq_some_iff.1 h2).1; omega) h2)]; rfl⟩
      · have hz : sizedB s = true := by rw [sized_c hz1 hz2, hc0]; rfl
        refine W_skip ?_
        refine W_seq ?_
        refine W_region ?_
        refine wl_val (rn_move (by conv => lhs; whnf)) ?_
        refine wl_call e_30 rfl (rlevels_ok w1 s hn) ?_; intro v18 w2 hE2 hR2
        replace hX := hX.tr hE2
        have hL := hR2; obtain ⟨a3, c3, hv3, _⟩ := id hL.len; rw [List.length_map] at hv3; subst hv3
        have hV := Ext.refl Non w2
        have hsl := spl_len_le 47 s
        refine wl_val (rn_assign (by conv => lhs; whnf)) ?_
        refine wl_nil ?_
        refine W_seq ?_
        refine W_seq ?_
        refine W_region ?_
        refine wl_val (rn_assign (by conv => lhs; whnf)) ?_
        refine wl_nil ?_
        refine W_block ?_   -- block 0
        refine W_loopS (S := Nat) [3, 4] (fun i => [.slice a3 (spl 47 s).length c3, .int .i64 (i : Nat)]) (fun i A => (Ext Non w A) ∧ (Ext Non w2 A ∧ i ≤ (spl 47 s).length ∧ ∀ (j : Nat) l, j < i → (spl 47 s)[j]? = some l → levOk (decide (j + 1 = (spl 47 s).length)) l = true)) (fun i => (spl 47 s).length - i) 0 ⟨rfl, rfl, trivial⟩ ⟨hX, ⟨hV, Nat.zero_le _, fun j l h => absurd h (Nat.not_lt_zero _)⟩⟩ ?_
        rintro τ0 i A0 ⟨hX, hI0⟩
        obtain ⟨hV, hil, hall⟩ := hI0
        refine W_seq ?_
        refine W_seq ?_
        refine W_region ?_
        refine wl_val (rn_move (by conv => lhs; whnf)) ?_
        refine wl_val (rn_move (by conv => lhs; whnf)) ?_
        refine wl_val (rn_len sl_22 rfl) ?_
        refine wl_val (rn_lss rfl rfl) ?_
        refine wl_nil ?_
        refine W_cond rfl (fun hc1 => ?_) (fun hc1 => ?_)
        · have hlt := of_decide_eq_true hc1; simp only [Int.ofNat_lt] at hlt
          obtain ⟨l, hi⟩ : ∃ l, ((spl 47 s))[i]? = some l := ⟨_, List.getElem?_eq_getElem hlt⟩
          obtain ⟨bb, oo, ea⟩ := hL.base (by intro e; have := congrArg List.length e; simp only [List.length_map, List.length_nil] at this; omega); subst ea
          have hln : l.length ≤ 1000000 := by have h1 := List.mem_of_getElem? hi; have h2 : l.length ≤ s.length := spl_le h1; omega
          refine W_skip ?_
          refine W_seq ?_
          refine W_block ?_   -- block 1
          refine W_seq ?_
          refine W_region ?_
          refine wl_val (rn_move (by conv => lhs; whnf)) ?_
          refine wl_val (rn_move (by conv => lhs; whnf)) ?_
          refine wl_val (rn_indexAddr sl_22 rfl rfl (by omega)) ?_
          refine wl_val (rn_load p_9 rfl ((hL.ext hV (fun _ h => h)).at0 (eS_at hi) rfl)) ?_
          refine wl_call e_49 rfl (rhas_ok A0 l 43 hln) ?_; intro v29 w3 hE3 hR3
          replace hX := hX.tr hE3
          replace hV := hV.tr hE3
          subst hR3
          refine wl_val (rn_move (by conv => lhs; whnf)) ?_
          refine wl_split (d := 30) rfl (fun hg30 => ?_) (fun hg30 => ?_)
          · have q43 : (43 : UInt8) ∈ l := of_decide_eq_true hg30
            refine wl_yes rfl (congrArg Value.bool hg30) ?_
            refine wl_val (rn_move (by conv => lhs; whnf)) ?_
            refine wl_yes rfl (congrArg Value.bool hg30) ?_
            refine wl_val (rn_move (by conv => lhs; whnf)) ?_
            refine wl_yes rfl (congrArg Value.bool hg30) ?_
            refine wl_val (rn_indexAddr sl_22 rfl rfl (by omega)) ?_
            refine wl_yes rfl (congrArg Value.bool hg30) ?_
            refine wl_val (rn_load p_9 rfl ((hL.ext hV (fun _ h => h)).at0 (eS_at hi) rfl)) ?_
            refine wl_yes rfl (congrArg Value.bool hg30) ?_
            refine wl_val (rn_sneq rfl rfl) ?_
            refine wl_val (rn_pickT (congrArg Value.bool hg30) (by conv => lhs; whnf)) ?_
            refine wl_val (rn_move (by conv => lhs; whnf)) ?_
            refine wl_split (d := 37) rfl (fun hg37 => ?_) (fun hg37 => ?_)
            · have qp : ¬ l = [43] := by simpa using of_decide_eq_true hg37
              refine wl_no rfl (congrArg Value.bool hg37) ?_
              refine wl_no rfl (congrArg Value.bool hg37) ?_
              refine wl_no rfl (congrArg Value.bool hg37) ?_
              refine wl_no rfl (congrArg Value.bool hg37) ?_
              refine wl_no rfl (congrArg Value.bool hg37) ?_
              refine wl_no rfl (congrArg Value.bool hg37) ?_
              refine wl_nou rfl rfl ?_
              refine wl_nou rfl rfl ?_
              refine wl_nou rfl rfl ?_
              refine wl_nou rfl rfl ?_
              refine wl_nou rfl rfl ?_
              refine wl_nou rfl rfl ?_
              refine wl_nou rfl rfl ?_
              refine wl_nou rfl rfl ?_
              refine wl_nou rfl rfl ?_
              refine wl_nou rfl rfl ?_
              refine wl_nou rfl rfl ?_
              refine wl_nou rfl rfl ?_
              refine wl_no rfl (congrArg Value.bool hg37) ?_
              refine wl_val (rn_pickT (congrArg Value.bool hg37) (by conv => lhs; whnf)) ?_
              refine wl_nil ?_
              refine W_condT rfl ?_
              refine W_seq ?_
              refine W_region ?_
              refine wl_val (rn_assign (by conv => lhs; whnf)) ?_
              refine wl_nil ?_
              refine W_ret ?_
              first | exact ⟨_, resR1 (res1_tmp rfl), hX, by rw [filter_small hz]; rfl⟩ | exact ⟨_, resR1 (res1_tmp rfl), hX, by rw [filter_no hi (levOk_a q43 qp)]; rfl⟩ | exact ⟨_, resR1 (res1_tmp rfl), hX, by rw [filter_no hi (levOk_b q35 qh)]; rfl⟩ | exact ⟨_, resR1 (res1_tmp rfl), hX, by rw [filter_no hi (by rw [levOk_c qh]; exact decide_eq_false (by omega))]; rfl⟩ | exact ⟨_, resR1 (res1_tmp rfl), hX, by rw [filter_yes hz (fun j l2 h2 => hall j l2 (by have := (List.getElem?_eq_some_iff.1 h2).1; omega) h2)]; rfl⟩
            · have qp : l = [43] := by simpa using of_decide_eq_false hg37
              refine wl_yes rfl (congrArg Value.bool hg37) ?_
              refine wl_val (rn_move (by conv => lhs; whnf)) ?_
              refine wl_yes rfl (congrArg Value.bool hg37) ?_
              refine wl_val (rn_move (by conv => lhs; whnf)) ?_
              refine wl_yes rfl (congrArg Value.bool hg37) ?_
              refine wl_val (rn_indexAddr sl_22 rfl rfl (by omega)) ?_
              refine wl_yes rfl (congrArg Value.bool hg37) ?_
              refine wl_val (rn_load p_9 rfl ((hL.ext hV (fun _ h => h)).at0 (eS_at hi) rfl)) ?_
              refine wl_yes rfl (congrArg Value.bool hg37) ?_
              refine wl_call e_49 rfl (rhas_ok w3 l 35 hln) ?_; intro v42 w4 hE4 hR4
              replace hX := hX.tr hE4
              replace hV := hV.tr hE4
              subst hR4
              refine wl_yes rfl (congrArg Value.bool hg37) ?_
              refine wl_val (rn_move (by conv => lhs; whnf)) ?_
              refine wl_split (d := 43) rfl (fun hg43 => ?_) (fun hg43 => ?_)
              · have q35 : (35 : UInt8) ∈ l := of_decide_eq_true hg43
                refine wl_yes rfl (congrArg Value.bool hg43) ?_
                refine wl_val (rn_move (by conv => lhs; whnf)) ?_
                refine wl_yes rfl (congrArg Value.bool hg43) ?_
                refine wl_val (rn_move (by conv => lhs; whnf)) ?_
                refine wl_yes rfl (congrArg Value.bool hg43) ?_
                refine wl_val (rn_indexAddr sl_22 rfl rfl (by omega)) ?_
                refine wl_yes rfl (congrArg Value.bool hg43) ?_
                refine wl_val (rn_load p_9 rfl ((hL.ext hV (fun _ h => h)).at0 (eS_at hi) rfl)) ?_
                refine wl_yes rfl (congrArg Value.bool hg43) ?_
                refine wl_val (rn_sneq rfl rfl) ?_
                refine wl_yes rfl (congrArg Value.bool hg43) ?_
                refine wl_val (rn_move (by conv => lhs; whnf)) ?_
                refine wl_split (d := 49) rfl (fun hg49 => ?_) (fun hg49 => ?_)
                · have qh : ¬ l = [35] := by simpa using of_decide_eq_true hg49
                  refine wl_no rfl (congrArg Value.bool hg49) ?_
                  refine wl_no rfl (congrArg Value.bool hg49) ?_
                  refine wl_no rfl (congrArg Value.bool hg49) ?_
                  refine wl_no rfl (congrArg Value.bool hg49) ?_
                  refine wl_no rfl (congrArg Value.bool hg49) ?_
                  refine wl_yes rfl (congrArg Value.bool hg43) ?_
                  refine wl_val (rn_pickT (congrArg Value.bool hg49) (by conv => lhs; whnf)) ?_
                  refine wl_yes rfl (congrArg Value.bool hg37) ?_
                  refine wl_val (rn_pickT (congrArg Value.bool hg43) (by conv => lhs; whnf)) ?_
                  refine wl_val (rn_pickF (congrArg Value.bool hg37) (by conv => lhs; whnf)) ?_
                  refine wl_nil ?_
                  refine W_condT rfl ?_
                  refine W_seq ?_
                  refine W_region ?_
                  refine wl_val (rn_assign (by conv => lhs; whnf)) ?_
                  refine wl_nil ?_
                  refine W_ret ?_
                  first | exact ⟨_, resR1 (res1_tmp rfl), hX, by rw [filter_small hz]; rfl⟩ | exact ⟨_, resR1 (res1_tmp rfl), hX, by rw [filter_no hi (levOk_a q43 qp)]; rfl⟩ | exact ⟨_, resR1 (res1_tmp rfl), hX, by rw [filter_no hi (levOk_b q35 qh)]; rfl⟩ | exact ⟨_, resR1 (res1_tmp rfl), hX, by rw [filter_no hi (by rw [levOk_c qh]; exact decide_eq_false (by omega))]; rfl⟩ | exact ⟨_, resR1 (res1_tmp rfl), hX, by rw [filter_yes hz (fun j l2 h2 => hall j l2 (by have := (List.getElem?_eq_some_iff.1 h2).1; omega) h2)]; rfl⟩
                · have qh : l = [35] := by simpa using of_decide_eq_false hg49
                  refine wl_yes rfl (congrArg Value.bool hg49) ?_
                  refine wl_val (rn_move (by conv => lhs; whnf)) ?_
                  refine wl_yes rfl (congrArg Value.bool hg49) ?_
                  refine wl_val (rn_move (by conv => lhs; whnf)) ?_
                  refine wl_yes rfl (congrArg Value.bool hg49) ?_
                  refine wl_val (rn_len sl_22 rfl) ?_
                  refine wl_yes rfl (congrArg Value.bool hg49) ?_
                  refine wl_val (rn_sub rfl rfl (by omega)) ?_
                  refine wl_yes rfl (congrArg Value.bool hg49) ?_
                  refine wl_val (rn_lss rfl rfl) ?_
                  refine wl_yes rfl (congrArg Value.bool hg43) ?_
                  refine wl_val (rn_pickF (congrArg Value.bool hg49) (by conv => lhs; whnf)) ?_
                  refine wl_yes rfl (congrArg Value.bool hg37) ?_
                  refine wl_val (rn_pickT (congrArg Value.bool hg43) (by conv => lhs; whnf)) ?_
                  refine wl_val (rn_pickF (congrArg Value.bool hg37) (by conv => lhs; whnf)) ?_
                  refine wl_nil ?_
                  refine W_cond rfl (fun hc2 => ?_) (fun hc2 => ?_)
                  · have qi := of_decide_eq_true hc2
                    refine W_seq ?_
                    refine W_region ?_
                    refine wl_val (rn_assign (by conv => lhs; whnf)) ?_
                    refine wl_nil ?_
                    refine W_ret ?_
                    first | exact ⟨_, resR1 (res1_tmp rfl), hX, by rw [filter_small hz]; rfl⟩ | exact ⟨_, resR1 (res1_tmp rfl), hX, by rw [filter_no hi (levOk_a q43 qp)]; rfl⟩ | exact ⟨_, resR1 (res1_tmp rfl), hX, by rw [filter_no hi (levOk_b q35 qh)]; rfl⟩ | exact ⟨_, resR1 (res1_tmp rfl), hX, by rw [filter_no hi (by rw [levOk_c qh]; exact decide_eq_false (by omega))]; rfl⟩ | exact ⟨_, resR1 (res1_tmp rfl), hX, by rw [filter_yes hz (fun j l2 h2 => hall j l2 (by have := (List.getElem?_eq_some_iff.1 h2).1; omega) h2)]; rfl⟩
                  · have qi := of_decide_eq_false hc2
                    refine W_skip ?_
                    refine W_region ?_
                    refine wl_val (rn_move (by conv => lhs; whnf)) ?_
                    refine wl_val (rn_add rfl rfl (by omega)) ?_
                    refine wl_val (rn_assign (by conv => lhs; whnf)) ?_
                    refine wl_nil ?_
                    exact ⟨rfl, i + 1, ⟨rfl, rfl, trivial⟩, ⟨hX, ⟨hV, hlt, fun j l2 hj h2 => by rcases Nat.lt_or_ge j i with h | h; exact hall j l2 h h2; (obtain rfl : j = i := by omega); rw [hi] at h2; cases h2; first | exact levOk_d q35 (fun _ => qp) | exact levOk_d q35 (fun h => absurd h q43) | (rw [levOk_c qh]; exact decide_eq_true (by omega))⟩⟩, by omega⟩
              · have q35 : ¬ (35 : UInt8) ∈ l := of_decide_eq_false hg43
                refine wl_no rfl (congrArg Value.bool hg43) ?_
                refine wl_no rfl (congrArg Value.bool hg43) ?_
                refine wl_no rfl (congrArg Value.bool hg43) ?_
                refine wl_no rfl (congrArg Value.bool hg43) ?_
                refine wl_no rfl (congrArg Value.bool hg43) ?_
                refine wl_no rfl (congrArg Value.bool hg43) ?_
                refine wl_nou rfl rfl ?_
                refine wl_nou rfl rfl ?_
                refine wl_nou rfl rfl ?_
                refine wl_nou rfl rfl ?_
                refine wl_nou rfl rfl ?_
                refine wl_no rfl (congrArg Value.bool hg43) ?_
                refine wl_yes rfl (congrArg Value.bool hg37) ?_
                refine wl_val (rn_pickF (congrArg Value.bool hg43) (by conv => lhs; whnf)) ?_
                refine wl_val (rn_pickF (congrArg Value.bool hg37) (by conv => lhs; whnf)) ?_
                refine wl_nil ?_
                refine W_condF rfl ?_
                refine W_skip ?_
                refine W_region ?_
                refine wl_val (rn_move (by conv => lhs; whnf)) ?_
                refine wl_val (rn_add rfl rfl (by omega)) ?_
                refine wl_val (rn_assign (by conv => lhs; whnf)) ?_
                refine wl_nil ?_
                exact ⟨rfl, i + 1, ⟨rfl, rfl, trivial⟩, ⟨hX, ⟨hV, hlt, fun j l2 hj h2 => by rcases Nat.lt_or_ge j i with h | h; exact hall j l2 h h2; (obtain rfl : j = i := by omega); rw [hi] at h2; cases h2; first | exact levOk_d q35 (fun _ => qp) | exact levOk_d q35 (fun h => absurd h q43) | (rw [levOk_c qh]; exact decide_eq_true (by omega))⟩⟩, by omega⟩
          · have q43 : ¬ (43 : UInt8) ∈ l := of_decide_eq_false hg30
            refine wl_no rfl (congrArg Value.bool hg30) ?_
            refine wl_no rfl (congrArg Value.bool hg30) ?_
            refine wl_no rfl (congrArg Value.bool hg30) ?_
            refine wl_no rfl (congrArg Value.bool hg30) ?_
            refine wl_no rfl (congrArg Value.bool hg30) ?_
            refine wl_val (rn_pickF (congrArg Value.bool hg30) (by conv => lhs; whnf)) ?_
            refine wl_val (rn_move (by conv => lhs; whnf)) ?_
            refine wl_yes rfl rfl ?_
            refine wl_val (rn_move (by conv => lhs; whnf)) ?_
            refine wl_yes rfl rfl ?_
            refine wl_val (rn_move (by conv => lhs; whnf)) ?_
            refine wl_yes rfl rfl ?_
            refine wl_val (rn_indexAddr sl_22 rfl rfl (by omega)) ?_
            refine wl_yes rfl rfl ?_
            refine wl_val (rn_load p_9 rfl ((hL.ext hV (fun _ h => h)).at0 (eS_at hi) rfl)) ?_
            refine wl_yes rfl rfl ?_
            refine wl_call e_49 rfl (rhas_ok w3 l 35 hln) ?_; intro v42 w5 hE5 hR5
            replace hX := hX.tr hE5
            replace hV := hV.tr hE5
            subst hR5
            refine wl_yes rfl rfl ?_
            refine wl_val (rn_move (by conv => lhs; whnf)) ?_
            refine wl_split (d := 43) rfl (fun hg43 => ?_) (fun hg43 => ?_)
            · have q35 : (35 : UInt8) ∈ l := of_decide_eq_true hg43
              refine wl_yes rfl (congrArg Value.bool hg43) ?_
              refine wl_val (rn_move (by conv => lhs; whnf)) ?_
              refine wl_yes rfl (congrArg Value.bool hg43) ?_
              refine wl_val (rn_move (by conv => lhs; whnf)) ?_
              refine wl_yes rfl (congrArg Value.bool hg43) ?_
              refine wl_val (rn_indexAddr sl_22 rfl rfl (by omega)) ?_
              refine wl_yes rfl (congrArg Value.bool hg43) ?_
              refine wl_val (rn_load p_9 rfl ((hL.ext hV (fun _ h => h)).at0 (eS_at hi) rfl)) ?_
              refine wl_yes rfl (congrArg Value.bool hg43) ?_
              refine wl_val (rn_sneq rfl rfl) ?_
              refine wl_yes rfl (congrArg Value.bool hg43) ?_
              refine wl_val (rn_move (by conv => lhs; whnf)) ?_
              refine wl_split (d := 49) rfl (fun hg49 => ?_) (fun hg49 => ?_)
              · have qh : ¬ l = [35] := by simpa using of_decide_eq_true hg49
                refine wl_no rfl (congrArg Value.bool hg49) ?_
                refine wl_no rfl (congrArg Value.bool hg49) ?_
                refine wl_no rfl (congrArg Value.bool hg49) ?_
                refine wl_no rfl (congrArg Value.bool hg49) ?_
                refine wl_no rfl (congrArg Value.bool hg49) ?_
                refine wl_yes rfl (congrArg Value.bool hg43) ?_
                refine wl_val (rn_pickT (congrArg Value.bool hg49) (by conv => lhs; whnf)) ?_
                refine wl_yes rfl rfl ?_
                refine wl_val (rn_pickT (congrArg Value.bool hg43) (by conv => lhs; whnf)) ?_
                refine wl_val (rn_pickF rfl (by conv => lhs; whnf)) ?_
                refine wl_nil ?_
                refine W_condT rfl ?_
                refine W_seq ?_
                refine W_region ?_
                refine wl_val (rn_assign (by conv => lhs; whnf)) ?_
                refine wl_nil ?_
                refine W_ret ?_
                first | exact ⟨_, resR1 (res1_tmp rfl), hX, by rw [filter_small hz]; rfl⟩ | exact ⟨_, resR1 (res1_tmp rfl), hX, by rw [filter_no hi (levOk_a q43 qp)]; rfl⟩ | exact ⟨_, resR1 (res1_tmp rfl), hX, by rw [filter_no hi (levOk_b q35 qh)]; rfl⟩ | exact ⟨_, resR1 (res1_tmp rfl), hX, by rw [filter_no hi (by rw [levOk_c qh]; exact decide_eq_false (by omega))]; rfl⟩ | exact ⟨_, resR1 (res1_tmp rfl), hX, by rw [filter_yes hz (fun j l2 h2 => hall j l2 (by have := (List.getElem?_eq_some_iff.1 h2).1; omega) h2)]; rfl⟩
              · have qh : l = [35] := by simpa using of_decide_eq_false hg49
                refine wl_yes rfl (congrArg Value.bool hg49) ?_
                refine wl_val (rn_move (by conv => lhs; whnf)) ?_
                refine wl_yes rfl (congrArg Value.bool hg49) ?_
                refine wl_val (rn_move (by conv => lhs; whnf)) ?_
                refine wl_yes rfl (congrArg Value.bool hg49) ?_
                refine wl_val (rn_len sl_22 rfl) ?_
                refine wl_yes rfl (congrArg Value.bool hg49) ?_
                refine wl_val (rn_sub rfl rfl (by omega)) ?_
                refine wl_yes rfl (congrArg Value.bool hg49) ?_
                refine wl_val (rn_lss rfl rfl) ?_
                refine wl_yes rfl (congrArg Value.bool hg43) ?_
                refine wl_val (rn_pickF (congrArg Value.bool hg49) (by conv => lhs; whnf)) ?_
                refine wl_yes rfl rfl ?_
                refine wl_val (rn_pickT (congrArg Value.bool hg43) (by conv => lhs; whnf)) ?_
                refine wl_val (rn_pickF rfl (by conv => lhs; whnf)) ?_
                refine wl_nil ?_
                refine W_cond rfl (fun hc2 => ?_) (fun hc2 => ?_)
                · have qi := of_decide_eq_true hc2
                  refine W_seq ?_
                  refine W_region ?_
                  refine wl_val (rn_assign (by conv => lhs; whnf)) ?_
                  refine wl_nil ?_
                  refine W_ret ?_
                  first | exact ⟨_, resR1 (res1_tmp rfl), hX, by rw [filter_small hz]; rfl⟩ | exact ⟨_, resR1 (res1_tmp rfl), hX, by rw [filter_no hi (levOk_a q43 qp)]; rfl⟩ | exact ⟨_, resR1 (res1_tmp rfl), hX, by rw [filter_no hi (levOk_b q35 qh)]; rfl⟩ | exact ⟨_, resR1 (res1_tmp rfl), hX, by rw [filter_no hi (by rw [levOk_c qh]; exact decide_eq_false (by omega))]; rfl⟩ | exact ⟨_, resR1 (res1_tmp rfl), hX, by rw [filter_yes hz (fun j l2 h2 => hall j l2 (by have := (List.getElem?_eq_some_iff.1 h2).1; omega) h2)]; rfl⟩
                · have qi := of_decide_eq_false hc2
                  refine W_skip ?_
                  refine W_region ?_
                  refine wl_val (rn_move (by conv => lhs; whnf)) ?_
                  refine wl_val (rn_add rfl rfl (by omega)) ?_
                  refine wl_val (rn_assign (by conv => lhs; whnf)) ?_
                  refine wl_nil ?_
                  exact ⟨rfl, i + 1, ⟨rfl, rfl, trivial⟩, ⟨hX, ⟨hV, hlt, fun j l2 hj h2 => by rcases Nat.lt_or_ge j i with h | h; exact hall j l2 h h2; (obtain rfl : j = i := by omega); rw [hi] at h2; cases h2; first | exact levOk_d q35 (fun _ => qp) | exact levOk_d q35 (fun h => absurd h q43) | (rw [levOk_c qh]; exact decide_eq_true (by omega))⟩⟩, by omega⟩
            · have q35 : ¬ (35 : UInt8) ∈ l := of_decide_eq_false hg43
              refine wl_no rfl (congrArg Value.bool hg43) ?_
              refine wl_no rfl (congrArg Value.bool hg43) ?_
              refine wl_no rfl (congrArg Value.bool hg43) ?_
              refine wl_no rfl (congrArg Value.bool hg43) ?_
              refine wl_no rfl (congrArg Value.bool hg43) ?_
              refine wl_no rfl (congrArg Value.bool hg43) ?_
              refine wl_nou rfl rfl ?_
              refine wl_nou rfl rfl ?_
              refine wl_nou rfl rfl ?_
              refine wl_nou rfl rfl ?_
              refine wl_nou rfl rfl ?_
              refine wl_no rfl (congrArg Value.bool hg43) ?_
              refine wl_yes rfl rfl ?_
              refine wl_val (rn_pickF (congrArg Value.bool hg43) (by conv => lhs; whnf)) ?_
              refine wl_val (rn_pickF rfl (by conv => lhs; whnf)) ?_
              refine wl_nil ?_
              refine W_condF rfl ?_
              refine W_skip ?_
              refine W_region ?_
              refine wl_val (rn_move (by conv => lhs; whnf)) ?_
              refine wl_val (rn_add rfl rfl (by omega)) ?_
              refine wl_val (rn_assign (by conv => lhs; whnf)) ?_
              refine wl_nil ?_
              exact ⟨rfl, i + 1, ⟨rfl, rfl, trivial⟩, ⟨hX, ⟨hV, hlt, fun j l2 hj h2 => by rcases Nat.lt_or_ge j i with h | h; exact hall j l2 h h2; (obtain rfl : j = i := by omega); rw [hi] at h2; cases h2; first | exact levOk_d q35 (fun _ => qp) | exact levOk_d q35 (fun h => absurd h q43) | (rw [levOk_c qh]; exact decide_eq_true (by omega))⟩⟩, by omega⟩
        · have hge := of_decide_eq_false hc1; simp only [Int.ofNat_lt, Nat.not_lt] at hge
          have hie : i = ((spl 47 s)).length := by omega
          refine W_exit ?_   -- exit 0
          refine W_seq ?_
          refine W_region ?_
          refine wl_val (rn_assign (by conv => lhs; whnf)) ?_
          refine wl_nil ?_
          refine W_ret ?_
          first | exact ⟨_, resR1 (res1_tmp rfl), hX, by rw [filter_small hz]; rfl⟩ | exact ⟨_, resR1 (res1_tmp rfl), hX, by rw [filter_no hi (levOk_a q43 qp)]; rfl⟩ | exact ⟨_, resR1 (res1_tmp rfl), hX, by rw [filter_no hi (levOk_b q35 qh)]; rfl⟩ | exact ⟨_, resR1 (res1_tmp rfl), hX, by rw [filter_no hi (by rw [levOk_c qh]; exact decide_eq_false (by omega))]; rfl⟩ | exact ⟨_, resR1 (res1_tmp rfl), hX, by rw [filter_yes hz (fun j l2 h2 => hall j l2 (by have := (List.getElem?_eq_some_iff.1 h2).1; omega) h2)]; rfl⟩
-- bellman/bellmanref01.Wild
theorem rwild_ok (w : World) (s : Str) (hn : s.length ≤ 1000000) : Fn Tryz.prog 29 #[Sv s] w fun u w' => u = .bool (wildB s) := by
  have hX := Ext.refl Non w
  refine fn_of_W (args := [_]) Tryz.func29 rfl (by kernel_rfl) rfl ?_
  refine W_seq ?_
  refine W_region ?_
  refine wl_val (rn_assign (by conv => lhs; whnf)) ?_
  refine wl_nil ?_
  refine W_seq ?_
  refine W_region ?_
  refine wl_val (rn_move (by conv => lhs; whnf)) ?_
  refine wl_call e_30 rfl (rlevels_ok w s hn) ?_; intro v5 w1 hE1 hR1
  replace hX := hX.tr hE1
  have hL := hR1; obtain ⟨a3, c3, hv3, _⟩ := id hL.len; rw [List.length_map] at hv3; subst hv3
  have hV := Ext.refl Non w1
  obtain ⟨r0, hr0⟩ := spl_head 47 s
  have hi : (spl 47 s)[0]? = some (pre1 47 s) := by rw [hr0]; rfl
  have hl0 : 0 < (spl 47 s).length := by rw [hr0]; simp
  obtain ⟨bb, oo, ea⟩ := hL.base (by intro e; have := congrArg List.length e; simp only [List.length_map, List.length_nil] at this; omega); subst ea
  refine wl_val (rn_assign (by conv => lhs; whnf)) ?_
  refine wl_nil ?_
  refine W_seq ?_
  refine W_region ?_
  refine wl_val (rn_move (by conv => lhs; whnf)) ?_
  refine wl_val (rn_indexAddr sl_22 rfl rfl (by omega)) ?_
  refine wl_val (rn_load p_9 rfl ((hL.ext hV (fun _ h => h)).at0 (eS_at (i := 0) hi) rfl)) ?_
  refine wl_val (rn_seql rfl rfl) ?_
  refine wl_val (rn_move (by conv => lhs; whnf)) ?_
  refine wl_split (d := 10) rfl (fun hg10 => ?_) (fun hg10 => ?_)
  · refine wl_no rfl (congrArg Value.bool hg10) ?_
    refine wl_no rfl (congrArg Value.bool hg10) ?_
    refine wl_no rfl (congrArg Value.bool hg10) ?_
    refine wl_no rfl (congrArg Value.bool hg10) ?_
    refine wl_val (rn_pickT (congrArg Value.bool hg10) (by conv => lhs; whnf)) ?_
    refine wl_val (rn_assign (by conv => lhs; whnf)) ?_
    refine wl_nil ?_
    refine W_ret ?_
    exact ⟨_, resR1 (res1_tmp rfl), hX, by unfold wildB; rw [hg10]; rfl⟩
  · refine wl_yes rfl (congrArg Value.bool hg10) ?_
    refine wl_val (rn_move (by conv => lhs; whnf)) ?_
    refine wl_yes rfl (congrArg Value.bool hg10) ?_
    refine wl_val (rn_indexAddr sl_22 rfl rfl (by omega)) ?_
    refine wl_yes rfl (congrArg Value.bool hg10) ?_
    refine wl_val (rn_load p_9 rfl ((hL.ext hV (fun _ h => h)).at0 (eS_at (i := 0) hi) rfl)) ?_
    refine wl_yes rfl (congrArg Value.bool hg10) ?_
    refine wl_val (rn_seql rfl rfl) ?_
    refine wl_val (rn_pickF (congrArg Value.bool hg10) (by conv => lhs; whnf)) ?_
    refine wl_val (rn_assign (by conv => lhs; whnf)) ?_
    refine wl_nil ?_
    refine W_ret ?_
    exact ⟨_, resR1 (res1_tmp rfl), hX, by unfold wildB; rw [hg10]; rfl⟩
end Go.Proofs.YtaddeakfojpdoaaGreatDoorC

/- Going through a text's levels. -/
set_option linter.unusedVariables false
set_option linter.unusedSimpArgs false
set_option maxRecDepth 100000
namespace Go.Proofs.YtaddeakfojpdoaaGreatDoorC
open Go.RowKit
abbrev Tru : Nat → Prop := fun _ => True
/-- Texts with their places. -/
def numb (L : List Str) : List (Nat × Str) := L.zipIdx.map fun p => (p.2, p.1)
theorem numb_snoc (L : List Str) (x : Str) : numb (L ++ [x]) = numb L ++ [(L.length, x)] := by simp [numb, List.zipIdx_append]
theorem numb_len (L : List Str) : (numb L).length = L.length := by simp [numb]
theorem numb_pre {L : List Str} {pre post : List Str} {x : Str} (h : L = pre ++ x :: post) : ∃ q, numb L = numb pre ++ (pre.length, x) :: q := by
  subst h
  refine ⟨(post.zipIdx (pre.length + 1)).map fun p => (p.2, p.1), ?_⟩
  simp [numb, List.zipIdx_append, List.zipIdx_cons]
theorem numb_snd (L : List Str) : (numb L).map (fun p => p.2) = L := by
  unfold numb; rw [List.map_map]; have : ((fun p : Nat × Str => p.2) ∘ fun p : Str × Nat => (p.2, p.1)) = Prod.fst := rfl
  rw [this]; simp
theorem numb_get (L : List Str) (j : Nat) : (numb L)[j]? = L[j]?.map fun x => (j, x) := by
  unfold numb; rw [List.getElem?_map, List.getElem?_zipIdx]; cases L[j]? <;> simp
theorem numb_take (L : List Str) (n : Nat) : (numb L).take n = numb (L.take n) := by
  apply List.ext_getElem?; intro j
  rw [List.getElem?_take, numb_get, numb_get, List.getElem?_take]; split <;> simp
theorem numb_at {L : List Str} {pre post : List (Nat × Str)} {i : Nat} {x : Str} (h : numb L = pre ++ (i, x) :: post) : i = pre.length ∧ L[i]? = some x ∧ pre = numb (L.take i) := by
  have h0 : (numb L)[pre.length]? = some (i, x) := by rw [h]; simp
  rw [numb_get] at h0
  cases hx : L[pre.length]? with
  | none => rw [hx] at h0; cases h0
  | some y =>
    rw [hx] at h0
    simp at h0
    obtain ⟨rfl, rfl⟩ := h0
    refine ⟨rfl, hx, ?_⟩
    have h1 : (numb L).take pre.length = pre := by rw [h]; simp
    rw [← numb_take]; exact h1.symm
-- strings.splitSeq$1
set_option maxHeartbeats 800000 in
theorem splitSeq_iter (s : Str) (M : Nat → Prop) (w0 : World) (b1 b2 b3 : Nat) (hC1 : IsBox w0 b1 [Sv [47]]) (hC2 : IsBox w0 b2 [Sv s]) (hC3 : IsBox w0 b3 [.int .i64 0]) (hm1 : ¬ M b1) (hm2 : ¬ M b2) (hm3 : ¬ M b3) (hne1 : b1 ≠ b2) (hne3 : b3 ≠ b2) (hsn : s.length ≤ 1000000) :
    IterE Tryz.prog M w0 (fun i => i = b2) (.func (.func 149) #[] #[.pointer (some ⟨b1, 0, none⟩), .pointer (some ⟨b2, 0, none⟩), .pointer (some ⟨b3, 0, none⟩)]) (fun x : Str => #[Sv x]) (spl 47 s) := by
  refine iterE_of e_149 (fun i hi => by subst hi; exact ⟨hC2.lt, hm2⟩) fun l W J Jx hW hT hY => ?_
  have hlt1 := hC1.lt; have hlt2 := hC2.lt; have hlt3 := hC3.lt
  have ea : (#[Value.func (.yield l) #[] #[]] ++ #[.pointer (some ⟨b1, 0, none⟩), .pointer (some ⟨b2, 0, none⟩), .pointer (some ⟨b3, 0, none⟩)] : Array Value) = [Value.func (.yield l) #[] #[], .pointer (some ⟨b1, 0, none⟩), .pointer (some ⟨b2, 0, none⟩), .pointer (some ⟨b3, 0, none⟩)].toArray := by simp
  rw [ea]
  have hX := Ext.refl Tru W
  have hB1 := hC1.ext hW hm1; have hB2 := hC2.ext hW hm2; have hB3 := hC3.ext hW hm3
  have hl1 : Mine Tru W b1 := .inl trivial; have hl2 : Mine Tru W b2 := .inl trivial; have hl3 : Mine Tru W b3 := .inl trivial
  refine calls_of_W (R := fun v W' => Te M w0 W (fun i => i = b2) (J (spl 47 s)) (fun i => i = b2) W' ∨ Te M w0 W (fun i => i = b2) Jx (fun i => i = b2) W') Tryz.func149 rfl (by kernel_rfl) rfl ?_
  refine W_seq ?_
  refine W_seq ?_
  refine W_region ?_
  refine wl_val (rn_load1 p_9 rfl hB1 rfl) ?_
  refine wl_val (rn_slen us_9 rfl) ?_
  refine wl_val (rn_eql rfl rfl) ?_
  refine wl_nil ?_
  refine W_cond rfl (fun hc0 => ?_) (fun hc0 => ?_)
  · exact absurd (of_decide_eq_true hc0) (by simp)
  · refine W_skip ?_
    refine W_seq ?_
    refine W_block ?_   -- block 2
    refine W_loopS (S := List Str × Str) [0, 1, 2, 3] (fun ⟨pre, r⟩ => [.func (.yield l) #[] #[], .pointer (some ⟨b1, 0, none⟩), .pointer (some ⟨b2, 0, none⟩), .pointer (some ⟨b3, 0, none⟩)]) (fun ⟨pre, r⟩ A => (Ext Tru W A) ∧ (IsBox A b1 [Sv [47]]) ∧ (IsBox A b2 [Sv r]) ∧ (IsBox A b3 [.int .i64 0]) ∧ (Mine Tru W b1) ∧ (Mine Tru W b2) ∧ (Mine Tru W b3) ∧ (spl 47 s = pre ++ spl 47 r ∧ r.length ≤ s.length ∧ Te M w0 W (fun i => i = b2) (J pre) (fun i => i = b2) A)) (fun ⟨pre, r⟩ => r.length) ([], s) ⟨rfl, rfl, rfl, rfl, trivial⟩ ⟨hX, hB1, hB2, hB3, hl1, hl2, hl3, ⟨rfl, Nat.le_refl _, hT⟩⟩ ?_
    rintro τ0 ⟨pre, r⟩ A0 ⟨hX, hB1, hB2, hB3, hl1, hl2, hl3, hI0⟩
    obtain ⟨hsp, hrl, hT⟩ := hI0
    refine W_block ?_   -- block 3
    refine W_seq ?_
    refine W_region ?_
    refine wl_val (rn_load1 p_9 rfl hB2 rfl) ?_
    refine wl_val (rn_load1 p_9 rfl hB1 rfl) ?_
    refine wl_call e_140 rfl (sindex_ok A0 r 47) ?_; intro v31 w1 hE1 hR1
    replace hX := hX.tr hE1
    replace hB1 := hB1.ext hE1 id; replace hB2 := hB2.ext hE1 id; replace hB3 := hB3.ext hE1 id
    replace hT := hT.tr hE1
    subst hR1
    refine wl_val (rn_assign (by conv => lhs; whnf)) ?_
    refine wl_nil ?_
    refine W_seq ?_
    refine W_seq ?_
    refine W_region ?_
    refine wl_val (rn_move (by conv => lhs; whnf)) ?_
    refine wl_val (rn_lss rfl rfl) ?_
    refine wl_nil ?_
    refine W_cond rfl (fun hc1 => ?_) (fun hc1 => ?_)
    · have hcm : ¬ (47 : UInt8) ∈ r := fun h => by have := of_decide_eq_true hc1; have := (fi_ge r 47).2 h; omega
      refine W_exit ?_   -- exit 2
      refine W_region ?_
      refine wl_val (rn_move (by conv => lhs; whnf)) ?_
      refine wl_val (rn_load1 p_9 rfl hB2 rfl) ?_
      refine wl_yield rfl rfl (hY pre r [] (fun i => i = b2) w1 (by rw [hsp, spl_not hcm]) hT) ?_; intro y51 w2 ⟨hE2, hyT, hyF⟩
      refine wl_nil ?_
      exact ⟨_, rfl, by cases y51; exact .inr (hyF rfl); exact .inl (by rw [hsp, spl_not hcm]; exact hyT rfl)⟩
    · have hcm : (47 : UInt8) ∈ r := (fi_ge r 47).1 (by have := of_decide_eq_false hc1; omega)
      have hfi := fi_in hcm
      have hplt : (pre1 47 r).length < r.length := (List.getElem?_eq_some_iff.1 (pre1_mem hcm)).1
      refine W_skip ?_
      refine W_seq ?_
      refine W_region ?_
      refine wl_val (rn_load1 p_9 rfl hB2 rfl) ?_
      refine wl_val (Rn.cast (rn_move rfl) (v' := .int .i64 ((pre1 47 r).length : Nat)) (congrArg (Value.int .i64) hfi)) ?_
      refine wl_val (rn_load1 p_3 rfl hB3 rfl) ?_
      refine wl_val (Rn.cast (rn_add rfl rfl (by omega)) (v' := .int .i64 ((pre1 47 r).length : Nat)) (congrArg (Value.int .i64) (Int.add_zero _))) ?_
      refine wl_val (Rn.cast (rn_sslice us_9 (l := 0) (h := (pre1 47 r).length) rfl rfl ⟨_, rfl⟩ (by omega) (by omega)) (v' := Sv (pre1 47 r)) (congrArg Sv (by rw [List.drop_zero, Nat.sub_zero, pre1_take]))) ?_
      refine wl_val (rn_assign (by conv => lhs; whnf)) ?_
      refine wl_nil ?_
      refine W_seq ?_
      refine W_seq ?_
      refine W_region ?_
      refine wl_val (rn_move (by conv => lhs; whnf)) ?_
      refine wl_val (rn_move (by conv => lhs; whnf)) ?_
      refine wl_yield rfl rfl (hY pre (pre1 47 r) (spl 47 (r.drop ((pre1 47 r).length + 1))) (fun i => i = b2) w1 (by rw [hsp, spl_cut hcm]) hT) ?_; intro y41 w3 ⟨hE3, hyT, hyF⟩
      replace hX := hX.trans (hE3.mono fun _ _ => trivial); replace hB1 := hB1.ext hE3 (fun h => by rcases h.2 with h | h; exact hm1 h; omega); replace hB2 := hB2.ext hE3 (fun h => h.1 rfl); replace hB3 := hB3.ext hE3 (fun h => by rcases h.2 with h | h; exact hm3 h; omega)
      refine wl_val (rn_not rfl) ?_
      refine wl_nil ?_
      refine W_cond rfl (fun hc2 => ?_) (fun hc2 => ?_)
      · have hyf := hyF (by simpa using hc2)
        refine W_ret ?_
        exact ⟨_, rfl, .inr hyf⟩
      · replace hT := hyT (by simpa using hc2)
        refine W_skip ?_
        refine W_region ?_
        refine wl_val (rn_load1 p_9 rfl hB2 rfl) ?_
        refine wl_val (Rn.cast (rn_move rfl) (v' := .int .i64 ((pre1 47 r).length : Nat)) (congrArg (Value.int .i64) hfi)) ?_
        refine wl_val (rn_load1 p_9 rfl hB1 rfl) ?_
        refine wl_val (rn_slen us_9 rfl) ?_
        refine wl_val (Rn.cast (rn_add rfl rfl (by simp only [List.length_singleton]; omega)) (v' := .int .i64 (((pre1 47 r).length + 1 : Nat) : Int)) rfl) ?_
        refine wl_val (Rn.cast (rn_sslice us_9 (l := (pre1 47 r).length + 1) (h := r.length) rfl ⟨_, rfl⟩ rfl (by omega) (by omega)) (v' := Sv (r.drop ((pre1 47 r).length + 1))) (congrArg Sv (List.take_of_length_le (by rw [List.length_drop]; exact Nat.le_refl _)))) ?_
        have hBo := hB2
        refine wl_store1 (b := b2) p_9 rfl (by conv => lhs; whnf) rfl rfl hB2 (Nat.le_of_ble_eq_true rfl) ?_; intro w4 hE4 hB2 hz4
        replace hX := hX.mine hE4 hl2
        replace hB1 := hB1.ext hE4 (fun h => by omega); replace hB3 := hB3.ext hE4 (fun h => by omega)
        replace hT := hT.ext hE4 (fun i e => e)
        refine wl_nil ?_
        exact ⟨rfl, (pre ++ [pre1 47 r], r.drop ((pre1 47 r).length + 1)), ⟨rfl, rfl, rfl, rfl, trivial⟩, ⟨hX, hB1, hB2, hB3, hl1, hl2, hl3, ⟨by rw [hsp, spl_cut hcm]; simp, by rw [List.length_drop]; omega, hT⟩⟩, by show (r.drop ((pre1 47 r).length + 1)).length < r.length; rw [List.length_drop]; omega⟩
-- strings.splitSeq
theorem splitSeq0_ok (w : World) (s : Str) (M : Nat → Prop) (hM : ∀ i, M i → i < w.heap.size) (hsn : s.length ≤ 1000000) : Fn Tryz.prog 115 #[Sv s, Sv [47], .int .i64 0] w fun u w' => ∃ b2, IterE Tryz.prog M w' (fun i => i = b2) u (fun x : Str => #[Sv x]) (spl 47 s) ∧ w.heap.size ≤ b2 ∧ b2 < w'.heap.size := by
  have hX := Ext.refl Non w
  refine fn_of_W (args := [_, _, _]) Tryz.func115 rfl (by kernel_rfl) rfl ?_
  refine W_seq ?_
  refine W_region ?_
  refine wl_box1 (by conv => lhs; whnf) rfl ?_; intro b3 w1 hb3 hE1 hB3
  have hq3 : w.heap.size ≤ b3 := Nat.le_trans hX.size hb3
  have hl3 : Mine Non w b3 := .inr hq3
  replace hX := hX.tr hE1
  refine wl_box1 (by conv => lhs; whnf) rfl ?_; intro b4 w2 hb4 hE2 hB4
  have hn3_4 : b3 < b4 := Nat.lt_of_lt_of_le hB3.lt hb4
  have hq4 : w.heap.size ≤ b4 := Nat.le_trans hX.size hb4
  have hl4 : Mine Non w b4 := .inr hq4
  replace hX := hX.tr hE2
  replace hB3 := hB3.ext hE2 id
  refine wl_box1 (by conv => lhs; whnf) rfl ?_; intro b5 w3 hb5 hE3 hB5
  have hn3_5 : b3 < b5 := Nat.lt_of_lt_of_le hB3.lt hb5
  have hn4_5 : b4 < b5 := Nat.lt_of_lt_of_le hB4.lt hb5
  have hq5 : w.heap.size ≤ b5 := Nat.le_trans hX.size hb5
  have hl5 : Mine Non w b5 := .inr hq5
  replace hX := hX.tr hE3
  replace hB3 := hB3.ext hE3 id; replace hB4 := hB4.ext hE3 id
  refine wl_val (rn_assign (by conv => lhs; whnf)) ?_
  refine wl_nil ?_
  refine W_seq ?_
  refine W_region ?_
  refine wl_val (rn_makeFunc rfl) ?_
  refine wl_val (rn_assign (by conv => lhs; whnf)) ?_
  refine wl_nil ?_
  refine W_ret ?_
  exact ⟨_, resR1 (res1_tmp rfl), hX, ⟨b3, splitSeq_iter s M _ b4 b3 b5 hB4 hB3 hB5 (fun h => by have := hM _ h; omega) (fun h => by have := hM _ h; omega) (fun h => by have := hM _ h; omega) (by omega) (by omega) hsn, hq3, hB3.lt⟩⟩
-- strings.SplitSeq
theorem splitSeqP_ok (w : World) (s : Str) (M : Nat → Prop) (hM : ∀ i, M i → i < w.heap.size) (hsn : s.length ≤ 1000000) : Fn Tryz.prog 77 #[Sv s, Sv [47]] w fun u w' => ∃ b2, IterE Tryz.prog M w' (fun i => i = b2) u (fun x : Str => #[Sv x]) (spl 47 s) ∧ w.heap.size ≤ b2 ∧ b2 < w'.heap.size := by
  have hX := Ext.refl Non w
  refine fn_of_W (args := [_, _]) Tryz.func77 rfl (by kernel_rfl) rfl ?_
  refine W_seq ?_
  refine W_region ?_
  refine wl_val (rn_assign (by conv => lhs; whnf)) ?_
  refine wl_nil ?_
  refine W_seq ?_
  refine W_region ?_
  refine wl_val (rn_move (by conv => lhs; whnf)) ?_
  refine wl_val (rn_move (by conv => lhs; whnf)) ?_
  have hXc := hX
  refine wl_call e_115 rfl (splitSeq0_ok w s M (fun i h => Nat.lt_of_lt_of_le (hM i h) hX.size) hsn) ?_; intro v7 w1 hE1 hR1
  replace hX := hX.tr hE1
  obtain ⟨b2, hI2, hb2, hb2l⟩ := hR1
  refine wl_val (rn_assign (by conv => lhs; whnf)) ?_
  refine wl_nil ?_
  refine W_ret ?_
  exact ⟨_, resR1 (res1_tmp rfl), hX, ⟨b2, hI2, Nat.le_trans hXc.size hb2, hb2l⟩⟩
-- bellman/topic.Each$1
set_option maxHeartbeats 800000 in
theorem each_iter (s : Str) (M : Nat → Prop) (w0 : World) (b1 : Nat) (hC1 : IsBox w0 b1 [Sv s]) (hm1 : ¬ M b1) (hsn : s.length ≤ 1000000) :
    Iter Tryz.prog M w0 (.func (.func 76) #[] #[.pointer (some ⟨b1, 0, none⟩)]) (fun p : Nat × Str => #[.int .i64 (p.1 : Nat), Sv p.2]) (numb (spl 47 s)) := by
  refine iter_ofS e_76 fun l W J Jx hW hT hY => ?_
  replace hT := hT.all0
  have ea : (#[Value.func (.yield l) #[] #[]] ++ #[.pointer (some ⟨b1, 0, none⟩)] : Array Value) = [Value.func (.yield l) #[] #[], .pointer (some ⟨b1, 0, none⟩)].toArray := by simp
  rw [ea]
  have hX := Ext.refl Tru W
  have hB1 := hC1.ext hW hm1
  have hl1 : Mine Tru W b1 := .inl trivial
  refine calls_of_W (R := fun v W' => Ts M w0 W (J (numb (spl 47 s))) Non W' ∨ Ts M w0 W Jx Non W') Tryz.func76 rfl (by kernel_rfl) rfl ?_
  refine W_seq ?_
  refine W_region ?_
  refine wl_box1 (by conv => lhs; whnf) rfl ?_; intro b2 w1 hb2 hE1 hB2
  have hn1_2 : b1 < b2 := Nat.lt_of_lt_of_le hB1.lt hb2
  have hq2 : W.heap.size ≤ b2 := Nat.le_trans hX.size hb2
  have hl2 : Mine Tru W b2 := .inr hq2
  replace hX := hX.tr hE1
  replace hB1 := hB1.ext hE1 id
  replace hT := hT.allT hE1
  refine wl_nil ?_
  refine W_seq ?_
  refine W_region ?_
  refine wl_alloc z_3 ?_; intro b3 w2 hb3 hE2 hB3
  have hn1_3 : b1 < b3 := Nat.lt_of_lt_of_le hB1.lt hb3
  have hn2_3 : b2 < b3 := Nat.lt_of_lt_of_le hB2.lt hb3
  have hq3 : W.heap.size ≤ b3 := Nat.le_trans hX.size hb3
  have hl3 : Mine Tru W b3 := .inr hq3
  replace hX := hX.tr hE2
  replace hB1 := hB1.ext hE2 id; replace hB2 := hB2.ext hE2 id
  replace hT := hT.allT hE2
  have hBo := hB3
  refine wl_store1 (b := b3) p_3 rfl (by conv => lhs; whnf) rfl rfl hB3 (Nat.le_of_ble_eq_true rfl) ?_; intro w3 hE3 hB3 hz3
  replace hX := hX.mine hE3 hl3
  replace hB1 := hB1.ext hE3 (fun h => by omega); replace hB2 := hB2.ext hE3 (fun h => by omega)
  replace hT := hT.allM hE3 hq3 hBo.lt
  refine wl_nil ?_
  refine W_seq ?_
  refine W_region ?_
  refine wl_val (rn_load1 p_9 rfl hB1 rfl) ?_
  have hz2 := hB2.lt; have hz3 := hB3.lt; have hW3 := hX.size
  refine wl_call e_77 rfl (splitSeqP_ok w3 s (fun i => i < w3.heap.size) (fun i h => h) hsn) ?_; intro v6 w4 hE4 hR4
  replace hX := hX.tr hE4
  replace hB1 := hB1.ext hE4 id; replace hB2 := hB2.ext hE4 id; replace hB3 := hB3.ext hE4 id
  replace hT := hT.allT hE4
  obtain ⟨bs, hIt, hbs, hbsl⟩ := hR4; obtain ⟨fk, ck, hfk, _⟩ := id hIt; subst hfk
  have hzz := hE4.size
  refine wl_nil ?_
  refine W_block ?_   -- block 0
  have hszr := hW3
  refine W_rangeFuncE w3.heap.size (fun i => i = bs) (M := fun i => i < w3.heap.size) (w0 := w4) (I := fun pre N A => Box N A b2 [.func (.yield l) #[] #[]] ∧ Box N A b3 [.int .i64 (pre.length : Nat)] ∧ Ext Tru W A ∧ MkN W [] N A ∧ (Ts M w0 W (J (numb pre)) (fun i => Al W w4 i ∨ N i) A) ∧ (True)) (X := fun c N A => c = .ret ∧ Ext Tru W A ∧ MkN W [] N A ∧ (Ts M w0 W Jx (fun i => Al W w4 i ∨ N i) A) ∧ (True)) (encs := fun x : Str => [Sv x]) (xs := spl 47 s) rfl (hIt) (Ext.refl _ w4) (hE4.size) (fun i hi => by rw [hi]; exact ⟨hbs, hbsl⟩) (fun _ => rfl) (fun pre => (Stab.box _ _).and ((Stab.box _ _).and ((Stab.oldM hW3).and ((Stab.mk _ _).and ((Ts.stabS _ _ _ _ _).and ((Stab.pure _))))))) (fun c => (Stab.pure _).and ((Stab.oldM hW3).and ((Stab.mk _ _).and ((Ts.stabS _ _ _ _ _).and ((Stab.pure _)))))) ⟨⟨hB2, fun e => by omega⟩, ⟨hB3, fun e => by omega⟩, hX, ⟨Mk.nil, fun r h => by cases h⟩, hT.less (fun i hi => hi.elim id (fun e => by rw [e]; exact ⟨by omega, hbsl⟩)), trivial⟩ ?_ ?_ ?_
  · rintro l N pre x A hl hN hA hst ⟨hK2, hK3, hXo, hDk, hT, hIr⟩ ⟨post, hpre⟩
    have hB2 := hK2.1
    have hB3 := hK3.1; have hl3 : Mine (Yc (fun i => i < w3.heap.size) w4 N) A b3 := .inl ⟨hK3.2, .inl (by omega)⟩
    have hX := Ext.refl (Yc (fun i => i < w3.heap.size) w4 N) A
    refine W_region ?_
    refine wl_val (rn_assign (by conv => lhs; whnf)) ?_
    refine wl_nil ?_
    refine ⟨rfl, hX, fun A2 hE2r hz2r hst2 => ?_⟩
    have hNl := (hN l hl).2
    replace hB2 := hB2.ext hE2r (fun e => hK2.2 (by rw [e]; exact hl))
    replace hB3 := hB3.ext hE2r (fun e => hK3.2 (by rw [e]; exact hl))
    replace hXo := hXo.mine hE2r (.inr (Nat.le_trans hszr (hN l hl).1)); replace hDk := hDk.lp hE2r hl
    replace hT := hT.ext hE2r (fun i e => .inr (by rw [e]; exact hl))
    have hl3 : Mine (Yc (fun i => i < w3.heap.size) w4 N) A2 b3 := .inl ⟨hK3.2, .inl (by omega)⟩
    have hX := Ext.refl (Yc (fun i => i < w3.heap.size) w4 N) A2
    obtain ⟨q, hq⟩ := numb_pre hpre
    have hpl : pre.length ≤ s.length := by have h1 := spl_len_le 47 s; rw [hpre] at h1; simp only [List.length_append, List.length_cons] at h1; omega
    refine W_block ?_   -- block 1
    refine W_seq ?_
    refine W_seq ?_
    refine W_region ?_
    refine wl_val (rn_load1 p_144 rfl hB2 rfl) ?_
    refine wl_val (rn_load1 p_3 rfl hB3 rfl) ?_
    refine wl_val (rn_move (by conv => lhs; whnf)) ?_
    refine wl_yield rfl rfl (hY (numb pre) (pre.length, x) q (fun i => Al W w4 i ∨ N i) A2 hq hT) ?_; intro y11 w5 ⟨hE5, hyT, hyF⟩
    replace hX := hX.trans (hE5.mono fun i h => ⟨fun hn => h.1 (.inr hn), (Nat.lt_or_ge i w3.heap.size).imp id (fun h3 => (Nat.lt_or_ge i w4.heap.size).elim (fun h4 => absurd (Or.inl ⟨Nat.le_trans hW3 h3, h4⟩) h.1) id)⟩)
    replace hXo := hXo.trans (hE5.mono fun _ _ => trivial); replace hDk : MkN W [] N w5 := ⟨Mk.nil, fun r h => by cases h⟩
    replace hB2 := hB2.ext hE5 (fun h => h.1 (.inl ⟨hq2, by omega⟩)); replace hB3 := hB3.ext hE5 (fun h => h.1 (.inl ⟨hq3, by omega⟩))
    refine wl_val (rn_not rfl) ?_
    refine wl_nil ?_
    refine W_cond rfl (fun hc0 => ?_) (fun hc0 => ?_)
    · have hTx := hyF (by simpa using hc0)
      refine W_ret ?_
      exact ⟨hX, rfl, hXo, hDk, hTx, trivial⟩
    · replace hT := hyT (by simpa using hc0)
      refine W_skip ?_
      refine W_region ?_
      refine wl_val (rn_load1 p_3 rfl hB3 rfl) ?_
      refine wl_val (rn_add rfl rfl (by omega)) ?_
      have hBo := hB3
      refine wl_store1 (b := b3) p_3 rfl (by conv => lhs; whnf) rfl rfl hB3 (Nat.le_of_ble_eq_true rfl) ?_; intro w6 hE6 hB3 hz6
      replace hX := hX.mine hE6 hl3
      replace hB2 := hB2.ext hE6 (fun h => by omega)
      replace hXo := hXo.mine hE6 (.inl trivial)
      replace hDk := hDk.box hE6 hBo
      replace hT := hT.ext hE6 (fun i e => .inl (by rw [e]; exact ⟨hq3, by omega⟩))
      refine wl_nil ?_
      replace hB3 := hB3.cast (show [Value.int .i64 ((pre.length : Int) + 1)] = [.int .i64 ((pre ++ [x]).length : Nat)] by simp)
      exact ⟨hX, ⟨hB2, hK2.2⟩, ⟨hB3, hK3.2⟩, hXo, hDk, (by rw [numb_snoc]; exact hT), trivial⟩
  · rintro N rk w' ⟨hK2, hK3, hXo, hDk, hT, hIr⟩ hN hA hr hrd
    have hB2 := hK2.1
    have hB3 := hK3.1
    have hX := hXo; have hD := hDk.add hrd (Nat.le_trans hszr (hN rk hr).1) hr
    refine hD.leave fun B hB => ?_
    have hB2 := hB2.ext hB (hD.ne hB2)
    have hB3 := hB3.ext hB (hD.ne hB3)
    exact ⟨_, rfl, .inl ((hT.ext hB (fun i hi => .inr (by simp only [List.mem_singleton] at hi; rw [mark_inj hi]; exact hr))).less (fun _ h => h.elim))⟩
  · rintro c N rk w' ⟨rfl, hXo, hDk, hTx, hIr⟩ hN hA hr hrd
    have hX := hXo; have hD := hDk.add hrd (Nat.le_trans hszr (hN rk hr).1) hr
    refine W_ret ?_
    refine hD.leave fun B hB => ?_
    exact ⟨_, rfl, .inr ((hTx.ext hB (fun i hi => .inr (by simp only [List.mem_singleton] at hi; rw [mark_inj hi]; exact hr))).less (fun _ h => h.elim))⟩
-- bellman/topic.Each
theorem each_ok (w : World) (s : Str) (M : Nat → Prop) (hM : ∀ i, M i → i < w.heap.size) (hsn : s.length ≤ 1000000) : Fn Tryz.prog 47 #[Sv s] w fun u w' => Iter Tryz.prog M w' u (fun p : Nat × Str => #[.int .i64 (p.1 : Nat), Sv p.2]) (numb (spl 47 s)) := by
  have hX := Ext.refl Non w
  refine fn_of_W (args := [_]) Tryz.func47 rfl (by kernel_rfl) rfl ?_
  refine W_seq ?_
  refine W_region ?_
  refine wl_box1 (by conv => lhs; whnf) rfl ?_; intro b1 w1 hb1 hE1 hB1
  have hq1 : w.heap.size ≤ b1 := Nat.le_trans hX.size hb1
  have hl1 : Mine Non w b1 := .inr hq1
  replace hX := hX.tr hE1
  refine wl_val (rn_assign (by conv => lhs; whnf)) ?_
  refine wl_nil ?_
  refine W_seq ?_
  refine W_region ?_
  refine wl_val (rn_makeFunc rfl) ?_
  refine wl_val (rn_assign (by conv => lhs; whnf)) ?_
  refine wl_nil ?_
  refine W_ret ?_
  exact ⟨_, resR1 (res1_tmp rfl), hX, each_iter s M _ b1 hB1 (fun h => by have := hM _ h; omega) hsn⟩
-- bellman/topic.Levels
theorem levels_ok (w : World) (s : Str) (hsn : s.length ≤ 1000000) : Fn Tryz.prog 26 #[Sv s] w fun u w' => Sl Non w' u 1 ((spl 47 s).map eS1) := by
  have hX := Ext.refl Non w
  refine fn_of_W (args := [_]) Tryz.func26 rfl (by kernel_rfl) rfl ?_
  refine W_seq ?_
  refine W_region ?_
  refine wl_val (rn_assign (by conv => lhs; whnf)) ?_
  refine wl_nil ?_
  refine W_seq ?_
  refine W_region ?_
  refine wl_alloc z_22 ?_; intro b3 w1 hb3 hE1 hB3
  have hq3 : w.heap.size ≤ b3 := Nat.le_trans hX.size hb3
  have hl3 : Mine Non w b3 := .inr hq3
  replace hX := hX.tr hE1
  refine wl_nil ?_
  refine W_seq ?_
  refine W_seq ?_
  refine W_region ?_
  refine wl_val (rn_move (by conv => lhs; whnf)) ?_
  refine wl_call e_47 rfl (each_ok w1 s (fun i => i = b3) (fun i e => by rw [e]; exact hB3.lt) hsn) ?_; intro v7 w2 hE2 hR2
  replace hX := hX.tr hE2
  replace hB3 := hB3.ext hE2 id
  have hIt := hR2; obtain ⟨fk, ck, hfk, _⟩ := id hIt; subst hfk
  have hW := Ext.refl (fun i => i = b3) w2; have hz3 := hB3.lt; have hspl := spl_len_le 47 s
  refine wl_nil ?_
  refine W_block ?_   -- block 0
  have hszr := hX.size
  have hsz_hW := hW.size
  have ho3 : w.heap.size ≤ b3 := by rcases hl3 with h | h; exact h.elim; exact h
  refine W_rangeFunc (M := fun i => i = b3) (w0 := w2) (I := fun pre N A => ∃ v3 : Value, ∃ oo : Option Nat, Box N A b3 [v3] ∧ Ext Non w A ∧ Ext (fun i => i = b3) w2 A ∧ MkN w [] N A ∧ (OwX w2.heap.size N A v3 oo 1 ((pre.map fun p => p.2).map eS1)) ∧ (True)) (X := fun c N A => False) (encs := fun p : Nat × Str => [.int .i64 (p.1 : Nat), Sv p.2]) (xs := numb (spl 47 s)) rfl (hIt) (hW) (fun _ => rfl) (fun pre => Stab.ex fun v3 => Stab.ex fun oo => (Stab.box _ _).and ((Stab.old hX.size).and ((Stab.oldM hW.size).and ((Stab.mk _ _).and ((Stab.owx _ _ _ _ _).and ((Stab.pure _))))))) (fun c => Stab.false) ⟨.slice none 0 0, none, ⟨hB3, id⟩, hX, hW, (Mk.nil : Mk w [] w2).toN, ⟨OwO.nil, by simp⟩, trivial⟩ ?_ ?_ ?_
  · rintro l N pre x A hl hN hA hst ⟨v3, oo, hK3, hXo, hW, hDk, hO, hIr⟩ ⟨post, hpre⟩
    have hB3 := hK3.1; have hl3 : Mine (Yc (fun i => i = b3) w2 N) A b3 := .inl ⟨hK3.2, .inl rfl⟩
    have hX := Ext.refl (Yc (fun i => i = b3) w2 N) A
    refine W_region ?_
    refine wl_val (rn_assign (by conv => lhs; whnf)) ?_
    refine wl_nil ?_
    refine ⟨rfl, hX, fun A2 hE2r hz2r hst2 => ?_⟩
    have hNl := (hN l hl).2
    replace hB3 := hB3.ext hE2r (fun e => hK3.2 (by rw [e]; exact hl))
    replace hXo := hXo.mine hE2r (.inr (Nat.le_trans hszr (hN l hl).1)); replace hDk := hDk.lp hE2r hl
    replace hW := hW.mine hE2r (.inr (Nat.le_trans hsz_hW (hN l hl).1))
    replace hO := hO.ext hE2r (fun i hi e => (hO.2 i hi).1 (by rw [e]; exact hl))
    have hl3 : Mine (Yc (fun i => i = b3) w2 N) A2 b3 := .inl ⟨hK3.2, .inl rfl⟩
    have hX := Ext.refl (Yc (fun i => i = b3) w2 N) A2
    refine W_block ?_   -- block 1
    refine W_region ?_
    have hpl : (spl 47 s).length = pre.length + (post.length + 1) := by have := congrArg List.length hpre; rw [numb_len] at this; rw [this]; simp
    refine wl_val (rn_load1 p_22 rfl hB3 rfl) ?_
    refine wl_val (rn_move (by conv => lhs; whnf)) ?_
    refine wl_lit1 (r := eS1 x.2) sl_22 rfl rfl rfl rfl (by decide) ?_; intro v12 w3 b12 hb12 hE3 hO12
    replace hX := hX.tr hE3
    replace hB3 := hB3.ext hE3 id
    replace hXo := hXo.tr hE3
    replace hDk := hDk.non hE3
    replace hW := hW.tr hE3
    replace hO := hO.ext hE3 (fun _ _ h => h)
    have hsx := hX.size; have hsw := hW.size
    refine wl_app sl_22 rfl rfl rfl hO.1 (hO12.sl (M := Non) id) (fun r hr => by simp only [List.mem_singleton] at hr; subst hr; exact one1 rfl) (by simp only [List.length_map, List.length_cons, List.length_nil]; omega) (by simp only [List.length_map, List.length_cons, List.length_nil, big]; omega) ?_; intro v13 w4 o13 hE4 hO13 hf13
    obtain ⟨a13, c13, hv13⟩ := id hO13.len; subst hv13
    replace hX := hX.mineO hE4 (fun i hi => .inl ⟨(hO.2 i hi).1, .inr (hO.2 i hi).2⟩); replace hXo := hXo.mineO hE4 (fun i hi => .inr (Nat.le_trans hszr (hO.2 i hi).2)); replace hW := hW.mineO hE4 (fun i hi => .inr (hO.2 i hi).2); replace hDk : MkN w [] N w4 := ⟨Mk.nil, fun r h => by cases h⟩
    replace hB3 := hB3.ext hE4 (fun e => by have := (hO.2 _ e).2; omega)
    have hOn : OwX w2.heap.size N w4 _ o13 1 (((pre ++ [x]).map fun p => p.2).map eS1) := ⟨by rw [List.map_append, List.map_append]; exact hO13, fun i hi => by rcases hf13 i hi with h | h; exact hO.2 i h; exact ⟨fun hNi => by have := (hN i hNi).2; omega, by omega⟩⟩
    have hBo := hB3
    refine wl_store1 (b := b3) p_22 rfl (by conv => lhs; whnf) rfl rfl hB3 (Nat.le_of_ble_eq_true rfl) ?_; intro w5 hE5 hB3 hz5
    replace hX := hX.mine hE5 hl3
    replace hXo := hXo.mine hE5 (.inr ho3)
    replace hDk := hDk.box hE5 hBo
    replace hW := hW.mine hE5 (.inl rfl)
    replace hOn := hOn.ext hE5 (fun i hi e => by have := (hOn.2 i hi).2; omega)
    refine wl_nil ?_
    exact ⟨hX, .slice a13 _ c13, o13, ⟨hB3, hK3.2⟩, hXo, hW, hDk, hOn, trivial⟩
  · rintro N rk w' ⟨v3, oo, hK3, hXo, hW, hDk, hO, hIr⟩ hN hA hr hrd
    have hB3 := hK3.1
    have hX := hXo; have hD := hDk.add hrd (Nat.le_trans hszr (hN rk hr).1) hr
    rw [numb_snd] at hO
    obtain ⟨a3, c3, hv3⟩ := id hO.1.len; subst hv3
    refine W_seq ?_
    refine W_region ?_
    refine wl_val (rn_load1 p_22 rfl hB3 rfl) ?_
    refine wl_val (rn_assign (by conv => lhs; whnf)) ?_
    refine wl_nil ?_
    refine W_ret ?_
    refine hD.leave fun B hB => ?_
    have hB3 := hB3.ext hB (hD.ne hB3)
    have hX := hD.out hX hB
    exact ⟨_, resR1 (res1_tmp rfl), hX, (hO.ext hB (fun i hi h => (hO.2 i hi).1 (by simp only [List.mem_singleton] at h; rw [mark_inj h]; exact hr))).1.sl (fun i hi => id)⟩
  · intro c N rk w' h; exact h.elim
end Go.Proofs.YtaddeakfojpdoaaGreatDoorC
