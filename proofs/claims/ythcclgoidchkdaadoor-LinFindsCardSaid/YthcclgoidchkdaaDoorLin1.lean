/- Layer 8: the leaves of what its laws reach. -/
import Derived.Test.YthcclgoidchkdaaDoorLinP
import Derived.Test.YthcclgoidchkdaaDoorCoreX
import Derived.Test.YthcclgoidchkdaaDoorSet2
set_option linter.unusedVariables false
set_option linter.unusedSimpArgs false
set_option maxRecDepth 100000
namespace Go.Proofs.YthcclgoidchkdaaDoorC
open Go.RowKit
def eN (i : Nat) : List Value := [.int .i64 (i : Nat)]
theorem eN_at {l : List Nat} {i x : Nat} (h : l[i]? = some x) : (l.map eN)[i]? = some (eN x) := by simp [h]
def eBo (b : Bool) : List Value := [.bool b]
theorem eBo_at {l : List Bool} {i : Nat} {x : Bool} (h : l[i]? = some x) : (l.map eBo)[i]? = some (eBo x) := by simp [h]
theorem seen_at {l : List Bool} {i : Nat} {x : Bool} (h : l[i]? = some x) : seen l i = x := by simp [seen, h]
theorem seen_out {l : List Bool} {i : Nat} (h : l.length ≤ i) : seen l i = false := by simp [seen, List.getElem?_eq_none h]
/-- Is it free of the first k calls? -/
def accB (l : List CallD) (done : List Bool) (i k : Nat) : Bool := !seen done i && (List.range k).all (clearB l done i)
theorem accB_succ (l : List CallD) (done : List Bool) (i k : Nat) : accB l done i (k + 1) = (accB l done i k && clearB l done i k) := by
  unfold accB; rw [List.range_succ, List.all_append]; simp [Bool.and_assoc]
theorem acc_eq {l : List CallD} {done : List Bool} {i k : Nat} (h : accB l done i k = true) (e : decide ((k : Int) = (i : Int)) = true) : true = accB l done i (k + 1) := by
  have : k = i := by have := of_decide_eq_true e; omega
  rw [accB_succ, h]; subst this; simp [clearB]
theorem acc_seen {l : List CallD} {done : List Bool} {i k : Nat} (h : accB l done i k = true) (e : seen done k = true) : true = accB l done i (k + 1) := by
  rw [accB_succ, h]; simp [clearB, e]
theorem acc_ahead {l : List CallD} {done : List Bool} {i k : Nat} {x y : CallD} (h : accB l done i k = true) (e : decide ((k : Int) = (i : Int)) = false) (e2 : seen done k = false) (hi : l[i]? = some x) (hj : l[k]? = some y) : (!decide (y.to_ < x.from_)) = accB l done i (k + 1) := by
  have hne : ¬ k = i := fun h' => by have := of_decide_eq_false e; omega
  have hb : (k == i) = false := by simpa using hne
  rw [accB_succ, h]; simp only [clearB, e2, hb, aheadB, hi, hj, Bool.false_or, Bool.true_and]
theorem acc_no {l : List CallD} {done : List Bool} {i k : Nat} (h : accB l done i k = false) : false = accB l done i (k + 1) := by rw [accB_succ, h]; rfl
theorem acc_all (l : List CallD) (done : List Bool) (i : Nat) : accB l done i l.length = freeB l done i := rfl
theorem acc_zero (l : List CallD) (done : List Bool) (i : Nat) : (!seen done i) = accB l done i 0 := by simp [accB]
/-- The free ones of the first i. -/
def miniT (l : List CallD) (done : List Bool) (i : Nat) : List Nat := (List.range i).filter (freeB l done)
theorem miniT_yes {l : List CallD} {done : List Bool} {i : Nat} (h : freeB l done i = true) : miniT l done (i + 1) = miniT l done i ++ [i] := by unfold miniT; rw [List.range_succ, List.filter_append]; simp [h]
theorem miniT_no {l : List CallD} {done : List Bool} {i : Nat} (h : freeB l done i = false) : miniT l done (i + 1) = miniT l done i := by unfold miniT; rw [List.range_succ, List.filter_append]; simp [h]
theorem miniT_len (l : List CallD) (done : List Bool) (i : Nat) : (miniT l done i).length ≤ i := by have := List.length_filter_le (freeB l done) (List.range i); simpa [miniT] using this
theorem digit_at (d : Nat) (h : d < 10) : ([48, 49, 50, 51, 52, 53, 54, 55, 56, 57] : Str).drop d = UInt8.ofNat (48 + d) :: ([48, 49, 50, 51, 52, 53, 54, 55, 56, 57] : Str).drop (d + 1) := by
  have : ∀ d : Fin 10, ([48, 49, 50, 51, 52, 53, 54, 55, 56, 57] : Str).drop d.val = UInt8.ofNat (48 + d.val) :: ([48, 49, 50, 51, 52, 53, 54, 55, 56, 57] : Str).drop (d.val + 1) := by decide
  exact this ⟨d, h⟩
theorem dec_len (u : Nat) : (Lib.decDigits u).length ≤ u + 1 := by
  induction u using Nat.strongRecOn with
  | _ u ih =>
    by_cases h : u < 10
    · rw [Lib.decDigits, dif_pos h]; simp
    · rw [Lib.decDigits, dif_neg h, List.length_append]
      have := ih (u / 10) (by omega)
      simp only [List.length_cons, List.length_nil]; omega
theorem itoa_len (n : Int) : (Lib.itoa n).length ≤ n.natAbs + 2 := by
  unfold Lib.itoa; split
  · have := dec_len n.natAbs; simp only [List.length_cons]; omega
  · have := dec_len n.toNat; omega
-- bellman/hist.Ahead
theorem ahead_ok (w : World) (x y : CallD) : Fn Tryd.prog 119 #[.agg x.enc.toArray, .agg y.enc.toArray] w fun u w' => u = .bool (decide (x.to_ < y.from_)) := by
  have hX := Ext.refl Non w
  refine fn_of_W (args := [_, _]) Tryd.func119 rfl (by kernel_rfl) rfl ?_
  refine W_seq ?_
  refine W_region ?_
  refine wl_boxS rfl ?_; intro b2 w1 hb2 hE1 hB2
  have hq2 : w.heap.size ≤ b2 := Nat.le_trans hX.size hb2
  have hl2 : Mine Non w b2 := .inr hq2
  replace hX := hX.tr hE1
  refine wl_boxS rfl ?_; intro b3 w2 hb3 hE2 hB3
  have hn2_3 : b2 < b3 := Nat.lt_of_lt_of_le hB2.lt hb3
  have hq3 : w.heap.size ≤ b3 := Nat.le_trans hX.size hb3
  have hl3 : Mine Non w b3 := .inr hq3
  replace hX := hX.tr hE2
  replace hB2 := hB2.ext hE2 id
  refine wl_val (rn_assign (by conv => lhs; whnf)) ?_
  refine wl_nil ?_
  refine W_seq ?_
  refine W_region ?_
  refine wl_val (rn_fieldAddr f_38_5 (by decide) rfl) ?_
  refine wl_val (rn_load1 p_3 rfl hB2 rfl) ?_
  refine wl_val (rn_fieldAddr f_38_4 (by decide) rfl) ?_
  refine wl_val (rn_load1 p_3 rfl hB3 rfl) ?_
  refine wl_val (rn_lss rfl rfl) ?_
  refine wl_val (rn_assign (by conv => lhs; whnf)) ?_
  refine wl_nil ?_
  refine W_ret ?_
  exact ⟨_, resR1 (res1_tmp rfl), hX, rfl⟩
-- bellman/hist.Minimal$1
theorem is_ok (w : World) (i : Nat) (done : List Bool) {v : Value} (b1 : Nat) (hB1 : IsBox w b1 [v]) (hs : Sl Non w v 1 (done.map eBo)) : Fn Tryd.prog 118 #[.int .i64 (i : Nat), .pointer (some ⟨b1, 0, none⟩)] w fun u w' => u = .bool (seen done i) := by
  obtain ⟨a, c, rfl, _⟩ := hs.len
  simp only [List.length_map] at hs hB1 ⊢
  have hX := Ext.refl Non w
  refine fn_of_W (args := [_, _]) Tryd.func118 rfl (by kernel_rfl) rfl ?_
  refine W_seq ?_
  refine W_region ?_
  refine wl_val (rn_assign (by conv => lhs; whnf)) ?_
  refine wl_nil ?_
  refine W_seq ?_
  refine W_region ?_
  refine wl_val (rn_move (by conv => lhs; whnf)) ?_
  refine wl_val (rn_load1 p_117 rfl hB1 rfl) ?_
  refine wl_val (rn_len sl_117 rfl) ?_
  refine wl_val (rn_lss rfl rfl) ?_
  refine wl_val (rn_move (by conv => lhs; whnf)) ?_
  refine wl_split (d := 8) rfl (fun hg8 => ?_) (fun hg8 => ?_)
  · have hlt := of_decide_eq_true hg8; simp only [Int.ofNat_lt] at hlt
    obtain ⟨x, hi⟩ : ∃ x, done[i]? = some x := ⟨_, List.getElem?_eq_getElem hlt⟩
    obtain ⟨bb, oo, ea⟩ := hs.base (by intro e; have := congrArg List.length e; simp only [List.length_map, List.length_nil] at this; omega); subst ea
    have hR := seen_at hi
    refine wl_yes rfl (congrArg Value.bool hg8) ?_
    refine wl_val (rn_load1 p_117 rfl hB1 rfl) ?_
    refine wl_yes rfl (congrArg Value.bool hg8) ?_
    refine wl_val (rn_move (by conv => lhs; whnf)) ?_
    refine wl_yes rfl (congrArg Value.bool hg8) ?_
    refine wl_val (rn_indexAddr sl_117 rfl rfl (by omega)) ?_
    refine wl_yes rfl (congrArg Value.bool hg8) ?_
    refine wl_val (rn_load p_4 rfl ((hs.ext hX (fun _ h => h)).at0 (eBo_at hi) rfl)) ?_
    refine wl_val (rn_pickT (congrArg Value.bool hg8) (by conv => lhs; whnf)) ?_
    refine wl_val (rn_assign (by conv => lhs; whnf)) ?_
    refine wl_nil ?_
    refine W_ret ?_
    exact ⟨_, resR1 (res1_tmp rfl), hX, by rw [hR]; rfl⟩
  · have hge := of_decide_eq_false hg8; simp only [Int.ofNat_lt, Nat.not_lt] at hge
    have hR := seen_out hge
    refine wl_no rfl (congrArg Value.bool hg8) ?_
    refine wl_no rfl (congrArg Value.bool hg8) ?_
    refine wl_no rfl (congrArg Value.bool hg8) ?_
    refine wl_no rfl (congrArg Value.bool hg8) ?_
    refine wl_val (rn_pickF (congrArg Value.bool hg8) (by conv => lhs; whnf)) ?_
    refine wl_val (rn_assign (by conv => lhs; whnf)) ?_
    refine wl_nil ?_
    refine W_ret ?_
    exact ⟨_, resR1 (res1_tmp rfl), hX, by rw [hR]; rfl⟩
-- bellman/hist.Minimal
set_option maxHeartbeats 2000000 in
theorem mini_ok (w : World) (l : List CallD) (done : List Bool) {v vd : Value} (hs : Sl Non w v 15 (l.map CallD.enc)) (hd : Sl Non w vd 1 (done.map eBo)) (hn : l.length ≤ 100000) : Fn Tryd.prog 70 #[v, vd] w fun u w' => ∃ oo, OwO w' u oo 1 ((mini l done).map eN) ∧ ∀ j, oo = some j → w.heap.size ≤ j := by
  obtain ⟨a, c, rfl, _⟩ := hs.len; obtain ⟨ad, cd, rfl, _⟩ := hd.len
  simp only [List.length_map] at hs hd ⊢
  have hbig2 : big = 9223372036854775807 := rfl
  have hX := Ext.refl Non w
  refine fn_of_W (args := [_, _]) Tryd.func70 rfl (by kernel_rfl) rfl ?_
  refine W_seq ?_
  refine W_region ?_
  refine wl_box1 (by conv => lhs; whnf) rfl ?_; intro b3 w1 hb3 hE1 hB3
  have hq3 : w.heap.size ≤ b3 := Nat.le_trans hX.size hb3
  have hl3 : Mine Non w b3 := .inr hq3
  replace hX := hX.tr hE1
  refine wl_val (rn_assign (by conv => lhs; whnf)) ?_
  refine wl_nil ?_
  refine W_seq ?_
  refine W_region ?_
  refine wl_val (rn_makeFunc rfl) ?_
  refine wl_val (rn_assign (by conv => lhs; whnf)) ?_
  refine wl_nil ?_
  refine W_seq ?_
  refine W_region ?_
  refine wl_val (rn_assign (by conv => lhs; whnf)) ?_
  refine wl_nil ?_
  refine W_seq ?_
  refine W_seq ?_
  refine W_region ?_
  refine wl_val (rn_move (by conv => lhs; whnf)) ?_
  refine wl_val (rn_len sl_25 rfl) ?_
  refine wl_val (rn_move (by conv => lhs; whnf)) ?_
  refine wl_nil ?_
  refine W_block ?_   -- block 0
  refine W_loopS (S := Nat × Value × Option Nat) [0, 3, 5, 6, 13, 14, 15] (fun ⟨i, v6, oo⟩ => [.slice a l.length c, .pointer (some ⟨b3, 0, none⟩), .func (.func 118) #[] #[.pointer (some ⟨b3, 0, none⟩)], v6, .slice a l.length c, .int .i64 (l.length : Nat), .int .i64 (i : Nat)]) (fun ⟨i, v6, oo⟩ A => (Ext Non w A) ∧ (IsBox A b3 [.slice ad done.length cd]) ∧ (Mine Non w b3) ∧ (i ≤ l.length ∧ OwO A v6 oo 1 ((miniT l done i).map eN) ∧ (∀ j, oo = some j → b3 < j))) (fun ⟨i, v6, oo⟩ => l.length - i) (0, .slice none 0 0, none) ⟨rfl, rfl, rfl, rfl, rfl, rfl, rfl, trivial⟩ ⟨hX, hB3, hl3, ⟨Nat.zero_le _, OwO.nil, by simp⟩⟩ ?_
  rintro τ0 ⟨i, v6, oo⟩ A0 ⟨hX, hB3, hl3, hI0⟩
  obtain ⟨hI, hO, ho⟩ := hI0
  have hz3 := hB3.lt
  have hoA : ∀ j, oo = some j → j < A0.heap.size := fun j hj => hO.lt hj
  refine W_seq ?_
  refine W_region ?_
  refine wl_val (rn_lss rfl rfl) ?_
  refine wl_nil ?_
  refine W_seq ?_
  refine W_cond rfl (fun hc0 => ?_) (fun hc0 => ?_)
  · have hlt := of_decide_eq_true hc0; simp only [Int.ofNat_lt] at hlt
    obtain ⟨x, hi⟩ : ∃ x, l[i]? = some x := ⟨_, List.getElem?_eq_getElem hlt⟩
    obtain ⟨bb, ob, ea⟩ := hs.base (by intro e; simp at e; subst e; simp at hlt); subst ea
    refine W_skip ?_
    refine W_seq ?_
    refine W_block ?_   -- block 1
    refine W_seq ?_
    refine W_region ?_
    refine wl_val (rn_move (by conv => lhs; whnf)) ?_
    refine wl_val (rn_indexAddr sl_25 rfl rfl (by omega)) ?_
    refine wl_val (rn_loadS s_38 rfl rfl ((hs.ext hX (fun _ h => h)).all0 (map_at hi))) ?_
    refine wl_alloc z_38 ?_; intro b8 w2 hb8 hE2 hB8
    have hn3_8 : b3 < b8 := Nat.lt_of_lt_of_le hB3.lt hb8
    have hq8 : w.heap.size ≤ b8 := Nat.le_trans hX.size hb8
    have hl8 : Mine Non w b8 := .inr hq8
    replace hX := hX.tr hE2
    replace hB3 := hB3.ext hE2 id
    replace hO := hO.ext hE2 (fun _ _ h => h)
    refine wl_val (rn_assign (by conv => lhs; whnf)) ?_
    have hBo := hB8
    refine wl_storeB s_38 rfl rfl rfl (CallD.one x) hB8 rfl ?_; intro w3 hE3 hB8 hz3
    replace hX := hX.mine hE3 hl8
    replace hB3 := hB3.ext hE3 (fun h => by omega)
    replace hO := hO.ext hE3 (fun j hj e => by have := hoA j hj; have := ho j hj; omega)
    refine wl_nil ?_
    refine W_seq ?_
    refine W_region ?_
    refine wl_val (rn_move (by conv => lhs; whnf)) ?_
    refine wl_val (rn_move (by conv => lhs; whnf)) ?_
    refine wl_callF (M := Non) rfl e_118 rfl (is_ok w3 i done b3 hB3 (hd.ext hX (fun _ h => h))) ?_; intro v22 w4 hE4 hR4; subst hR4
    replace hX := hX.tr hE4
    replace hB3 := hB3.ext hE4 id; replace hB8 := hB8.ext hE4 id
    replace hO := hO.ext hE4 (fun _ _ h => h)
    refine wl_val (rn_not rfl) ?_
    refine wl_val (rn_assign (by conv => lhs; whnf)) ?_
    refine wl_nil ?_
    refine W_seq ?_
    refine W_seq ?_
    refine W_region ?_
    have hz8 := hB8.lt
    refine wl_val (rn_move (by conv => lhs; whnf)) ?_
    refine wl_val (rn_len sl_25 rfl) ?_
    refine wl_val (rn_move (by conv => lhs; whnf)) ?_
    refine wl_nil ?_
    refine W_block ?_   -- block 2
    refine W_loopS (S := Nat) [0, 3, 5, 6, 7, 8, 9, 13, 14, 15, 24, 25, 26] (fun k => [.slice (some ⟨bb, ob, none⟩) l.length c, .pointer (some ⟨b3, 0, none⟩), .func (.func 118) #[] #[.pointer (some ⟨b3, 0, none⟩)], v6, .int .i64 (i : Nat), .pointer (some ⟨b8, 0, none⟩), .bool (accB l done i k), .slice (some ⟨bb, ob, none⟩) l.length c, .int .i64 (l.length : Nat), .int .i64 (i : Nat), .slice (some ⟨bb, ob, none⟩) l.length c, .int .i64 (l.length : Nat), .int .i64 (k : Nat)]) (fun k A => (Ext Non w A) ∧ (IsBox A b3 [.slice ad done.length cd]) ∧ (IsBox A b8 x.enc) ∧ (Mine Non w b3) ∧ (Mine Non w b8) ∧ (b3 < b8) ∧ (k ≤ l.length ∧ OwO A v6 oo 1 ((miniT l done i).map eN) ∧ (∀ j, oo = some j → j < b8))) (fun k => l.length - k) 0 ⟨rfl, rfl, rfl, rfl, rfl, rfl, (congrArg Value.bool (acc_zero l done i)), rfl, rfl, rfl, rfl, rfl, rfl, trivial⟩ ⟨hX, hB3, hB8, hl3, hl8, hn3_8, ⟨Nat.zero_le _, hO, fun j hj => by have := hoA j hj; omega⟩⟩ ?_
    rintro τ1 k A1 ⟨hX, hB3, hB8, hl3, hl8, hn3_8, hI1⟩
    obtain ⟨hJ, hO, ho8⟩ := hI1
    have hoB : ∀ j, oo = some j → j < A1.heap.size := fun j hj => hO.lt hj
    refine W_seq ?_
    refine W_region ?_
    refine wl_val (rn_lss rfl rfl) ?_
    refine wl_nil ?_
    refine W_seq ?_
    refine W_cond rfl (fun hc1 => ?_) (fun hc1 => ?_)
    · have hlk := of_decide_eq_true hc1; simp only [Int.ofNat_lt] at hlk
      obtain ⟨y, hj⟩ : ∃ y, l[k]? = some y := ⟨_, List.getElem?_eq_getElem hlk⟩
      refine W_skip ?_
      refine W_seq ?_
      refine W_block ?_   -- block 3
      refine W_seq ?_
      refine W_region ?_
      refine wl_val (rn_move (by conv => lhs; whnf)) ?_
      refine wl_val (rn_indexAddr sl_25 rfl rfl (by omega)) ?_
      refine wl_val (rn_loadS s_38 rfl rfl ((hs.ext hX (fun _ h => h)).all0 (map_at hj))) ?_
      refine wl_alloc z_38 ?_; intro b11 w5 hb11 hE5 hB11
      have hn3_11 : b3 < b11 := Nat.lt_of_lt_of_le hB3.lt hb11
      have hn8_11 : b8 < b11 := Nat.lt_of_lt_of_le hB8.lt hb11
      have hq11 : w.heap.size ≤ b11 := Nat.le_trans hX.size hb11
      have hl11 : Mine Non w b11 := .inr hq11
      replace hX := hX.tr hE5
      replace hB3 := hB3.ext hE5 id; replace hB8 := hB8.ext hE5 id
      replace hO := hO.ext hE5 (fun _ _ h => h)
      refine wl_val (rn_assign (by conv => lhs; whnf)) ?_
      have hBo := hB11
      refine wl_storeB s_38 rfl rfl rfl (CallD.one y) hB11 rfl ?_; intro w6 hE6 hB11 hz6
      replace hX := hX.mine hE6 hl11
      replace hB3 := hB3.ext hE6 (fun h => by omega); replace hB8 := hB8.ext hE6 (fun h => by omega)
      replace hO := hO.ext hE6 (fun j hj e => by have := hoB j hj; have := ho j hj; have := ho8 j hj; omega)
      refine wl_nil ?_
      refine W_region ?_
      refine wl_val (rn_move (by conv => lhs; whnf)) ?_
      refine wl_val (rn_move (by conv => lhs; whnf)) ?_
      refine wl_split (d := 32) rfl (fun hg32 => ?_) (fun hg32 => ?_)
      · refine wl_yes rfl (congrArg Value.bool hg32) ?_
        refine wl_val (rn_move (by conv => lhs; whnf)) ?_
        refine wl_yes rfl (congrArg Value.bool hg32) ?_
        refine wl_val (rn_move (by conv => lhs; whnf)) ?_
        refine wl_yes rfl (congrArg Value.bool hg32) ?_
        refine wl_val (rn_eql rfl rfl) ?_
        refine wl_yes rfl (congrArg Value.bool hg32) ?_
        refine wl_val (rn_move (by conv => lhs; whnf)) ?_
        refine wl_split (d := 36) rfl (fun hg36 => ?_) (fun hg36 => ?_)
        · refine wl_no rfl (congrArg Value.bool hg36) ?_
          refine wl_no rfl (congrArg Value.bool hg36) ?_
          refine wl_no rfl (congrArg Value.bool hg36) ?_
          refine wl_yes rfl (congrArg Value.bool hg32) ?_
          refine wl_val (rn_pickT (congrArg Value.bool hg36) (by conv => lhs; whnf)) ?_
          refine wl_yes rfl (congrArg Value.bool hg32) ?_
          refine wl_val (rn_move (by conv => lhs; whnf)) ?_
          refine wl_no rfl rfl ?_
          refine wl_no rfl rfl ?_
          refine wl_no rfl rfl ?_
          refine wl_no rfl rfl ?_
          refine wl_yes rfl (congrArg Value.bool hg32) ?_
          refine wl_val (rn_pickT rfl (by conv => lhs; whnf)) ?_
          refine wl_val (rn_pickT (congrArg Value.bool hg32) (by conv => lhs; whnf)) ?_
          refine wl_val (rn_assign (by conv => lhs; whnf)) ?_
          refine wl_nil ?_
          refine W_region ?_
          refine wl_val (rn_add rfl rfl (by omega)) ?_
          refine wl_val (rn_move (by conv => lhs; whnf)) ?_
          refine wl_nil ?_
          
          exact ⟨rfl, k + 1, ⟨rfl, rfl, rfl, rfl, rfl, rfl, (by first | exact congrArg Value.bool (acc_eq hg32 hg36) | exact congrArg Value.bool (acc_seen hg32 hg41) | exact congrArg Value.bool (acc_ahead hg32 hg36 hg41 hi hj) | exact congrArg Value.bool (acc_no hg32)), rfl, rfl, rfl, rfl, rfl, rfl, trivial⟩, ⟨hX, hB3, hB8, hl3, hl8, hn3_8, ⟨hlk, hO, ho8⟩⟩, by omega⟩
        · refine wl_yes rfl (congrArg Value.bool hg36) ?_
          refine wl_val (rn_move (by conv => lhs; whnf)) ?_
          refine wl_yes rfl (congrArg Value.bool hg36) ?_
          refine wl_val (rn_move (by conv => lhs; whnf)) ?_
          refine wl_yes rfl (congrArg Value.bool hg36) ?_
          refine wl_callF (M := Non) rfl e_118 rfl (is_ok w6 k done b3 hB3 (hd.ext hX (fun _ h => h))) ?_; intro v39 w7 hE7 hR7; subst hR7
          replace hX := hX.tr hE7
          replace hB3 := hB3.ext hE7 id; replace hB8 := hB8.ext hE7 id; replace hB11 := hB11.ext hE7 id
          replace hO := hO.ext hE7 (fun _ _ h => h)
          refine wl_yes rfl (congrArg Value.bool hg32) ?_
          refine wl_val (rn_pickF (congrArg Value.bool hg36) (by conv => lhs; whnf)) ?_
          refine wl_yes rfl (congrArg Value.bool hg32) ?_
          refine wl_val (rn_move (by conv => lhs; whnf)) ?_
          refine wl_split (d := 41) rfl (fun hg41 => ?_) (fun hg41 => ?_)
          · refine wl_no rfl (congrArg Value.bool hg41) ?_
            refine wl_no rfl (congrArg Value.bool hg41) ?_
            refine wl_no rfl (congrArg Value.bool hg41) ?_
            refine wl_no rfl (congrArg Value.bool hg41) ?_
            refine wl_yes rfl (congrArg Value.bool hg32) ?_
            refine wl_val (rn_pickT (congrArg Value.bool hg41) (by conv => lhs; whnf)) ?_
            refine wl_val (rn_pickT (congrArg Value.bool hg32) (by conv => lhs; whnf)) ?_
            refine wl_val (rn_assign (by conv => lhs; whnf)) ?_
            refine wl_nil ?_
            refine W_region ?_
            refine wl_val (rn_add rfl rfl (by omega)) ?_
            refine wl_val (rn_move (by conv => lhs; whnf)) ?_
            refine wl_nil ?_
            
            exact ⟨rfl, k + 1, ⟨rfl, rfl, rfl, rfl, rfl, rfl, (by first | exact congrArg Value.bool (acc_eq hg32 hg36) | exact congrArg Value.bool (acc_seen hg32 hg41) | exact congrArg Value.bool (acc_ahead hg32 hg36 hg41 hi hj) | exact congrArg Value.bool (acc_no hg32)), rfl, rfl, rfl, rfl, rfl, rfl, trivial⟩, ⟨hX, hB3, hB8, hl3, hl8, hn3_8, ⟨hlk, hO, ho8⟩⟩, by omega⟩
          · refine wl_yes rfl (congrArg Value.bool hg41) ?_
            refine wl_val (rn_loadB s_38 rfl rfl hB11) ?_
            refine wl_yes rfl (congrArg Value.bool hg41) ?_
            refine wl_val (rn_loadB s_38 rfl rfl hB8) ?_
            refine wl_yes rfl (congrArg Value.bool hg41) ?_
            refine wl_call e_119 rfl (ahead_ok w7 y x) ?_; intro v44 w8 hE8 hR8
            replace hX := hX.tr hE8
            replace hB3 := hB3.ext hE8 id; replace hB8 := hB8.ext hE8 id; replace hB11 := hB11.ext hE8 id
            replace hO := hO.ext hE8 (fun _ _ h => h)
            subst hR8
            refine wl_yes rfl (congrArg Value.bool hg41) ?_
            refine wl_val (rn_not rfl) ?_
            refine wl_yes rfl (congrArg Value.bool hg32) ?_
            refine wl_val (rn_pickF (congrArg Value.bool hg41) (by conv => lhs; whnf)) ?_
            refine wl_val (rn_pickT (congrArg Value.bool hg32) (by conv => lhs; whnf)) ?_
            refine wl_val (rn_assign (by conv => lhs; whnf)) ?_
            refine wl_nil ?_
            refine W_region ?_
            refine wl_val (rn_add rfl rfl (by omega)) ?_
            refine wl_val (rn_move (by conv => lhs; whnf)) ?_
            refine wl_nil ?_
            
            exact ⟨rfl, k + 1, ⟨rfl, rfl, rfl, rfl, rfl, rfl, (by first | exact congrArg Value.bool (acc_eq hg32 hg36) | exact congrArg Value.bool (acc_seen hg32 hg41) | exact congrArg Value.bool (acc_ahead hg32 hg36 hg41 hi hj) | exact congrArg Value.bool (acc_no hg32)), rfl, rfl, rfl, rfl, rfl, rfl, trivial⟩, ⟨hX, hB3, hB8, hl3, hl8, hn3_8, ⟨hlk, hO, ho8⟩⟩, by omega⟩
      · refine wl_no rfl (congrArg Value.bool hg32) ?_
        refine wl_no rfl (congrArg Value.bool hg32) ?_
        refine wl_no rfl (congrArg Value.bool hg32) ?_
        refine wl_no rfl (congrArg Value.bool hg32) ?_
        refine wl_nou rfl rfl ?_
        refine wl_nou rfl rfl ?_
        refine wl_nou rfl rfl ?_
        refine wl_no rfl (congrArg Value.bool hg32) ?_
        refine wl_no rfl (congrArg Value.bool hg32) ?_
        refine wl_nou rfl rfl ?_
        refine wl_nou rfl rfl ?_
        refine wl_nou rfl rfl ?_
        refine wl_nou rfl rfl ?_
        refine wl_no rfl (congrArg Value.bool hg32) ?_
        refine wl_val (rn_pickF (congrArg Value.bool hg32) (by conv => lhs; whnf)) ?_
        refine wl_val (rn_assign (by conv => lhs; whnf)) ?_
        refine wl_nil ?_
        refine W_region ?_
        refine wl_val (rn_add rfl rfl (by omega)) ?_
        refine wl_val (rn_move (by conv => lhs; whnf)) ?_
        refine wl_nil ?_
        
        exact ⟨rfl, k + 1, ⟨rfl, rfl, rfl, rfl, rfl, rfl, (by first | exact congrArg Value.bool (acc_eq hg32 hg36) | exact congrArg Value.bool (acc_seen hg32 hg41) | exact congrArg Value.bool (acc_ahead hg32 hg36 hg41 hi hj) | exact congrArg Value.bool (acc_no hg32)), rfl, rfl, rfl, rfl, rfl, rfl, trivial⟩, ⟨hX, hB3, hB8, hl3, hl8, hn3_8, ⟨hlk, hO, ho8⟩⟩, by omega⟩
    · have hge := of_decide_eq_false hc1; simp only [Int.ofNat_lt, Nat.not_lt] at hge
      have hke : k = l.length := by omega
      subst hke
      refine W_exit ?_   -- exit 2
      refine W_seq ?_
      refine W_region ?_
      refine wl_val (rn_move (by conv => lhs; whnf)) ?_
      refine wl_nil ?_
      refine W_cond rfl (fun hc2 => ?_) (fun hc2 => ?_)
      · have hfr : freeB l done i = true := hc2
        refine W_region ?_
        refine wl_val (rn_move (by conv => lhs; whnf)) ?_
        refine wl_val (rn_move (by conv => lhs; whnf)) ?_
        refine wl_lit1 (r := eN i) sl_39 rfl rfl rfl rfl (by decide) ?_; intro v52 w9 b52 hb52 hE9 hO52
        replace hX := hX.tr hE9
        replace hB3 := hB3.ext hE9 id; replace hB8 := hB8.ext hE9 id
        replace hO := hO.ext hE9 (fun _ _ h => h)
        have hzc := hB3.lt
        have hml := miniT_len l done i
        have hXo := hX
        refine wl_app sl_39 rfl rfl rfl hO (hO52.sl (M := Non) id) (fun r hr => by simp only [List.mem_singleton] at hr; subst hr; exact one1 rfl) (by simp only [List.length_map, List.length_cons, List.length_nil]; omega) (by simp only [List.length_map, List.length_cons, List.length_nil, big]; omega) ?_; intro v53 w10 o53 hE10 hO53 hf53
        replace hX := hX.mineO hE10 (fun j hj => .inr (by have := ho j hj; omega))
        replace hB3 := hB3.ext hE10 (fun e => by have := ho _ e; omega); replace hB8 := hB8.ext hE10 (fun e => by have := ho8 _ e; omega)
        refine wl_val (rn_assign (by conv => lhs; whnf)) ?_
        refine wl_nil ?_
        refine W_region ?_
        refine wl_val (rn_add rfl rfl (by omega)) ?_
        refine wl_val (rn_move (by conv => lhs; whnf)) ?_
        refine wl_nil ?_
        exact ⟨rfl, (i + 1, v53, o53), ⟨rfl, rfl, rfl, rfl, rfl, rfl, rfl, trivial⟩, ⟨hX, hB3, hl3, ⟨hlt, by rw [miniT_yes hfr]; simpa using hO53, fun j hj => by rcases hf53 j hj with h | h; exact ho j h; exact Nat.lt_of_lt_of_le hzc h⟩⟩, by show l.length - (i + 1) < l.length - i; omega⟩
      · have hfr : freeB l done i = false := hc2
        refine W_skip ?_
        refine W_region ?_
        refine wl_val (rn_add rfl rfl (by omega)) ?_
        refine wl_val (rn_move (by conv => lhs; whnf)) ?_
        refine wl_nil ?_
        exact ⟨rfl, (i + 1, v6, oo), ⟨rfl, rfl, rfl, rfl, rfl, rfl, rfl, trivial⟩, ⟨hX, hB3, hl3, ⟨hlt, by rw [miniT_no hfr]; exact hO, ho⟩⟩, by show l.length - (i + 1) < l.length - i; omega⟩
  · have hge := of_decide_eq_false hc0; simp only [Int.ofNat_lt, Nat.not_lt] at hge
    have hie : i = l.length := by omega
    subst hie
    refine W_exit ?_   -- exit 0
    refine W_seq ?_
    refine W_region ?_
    refine wl_val (rn_move (by conv => lhs; whnf)) ?_
    refine wl_val (rn_assign (by conv => lhs; whnf)) ?_
    refine wl_nil ?_
    refine W_ret ?_
    exact ⟨_, resR1 (res1_tmp rfl), hX, ⟨_, hO, fun j hj => by have := ho j hj; omega⟩⟩
-- slices.Index[[]int,int]
theorem indexN_ok (w : World) (l : List Nat) (x : Int) {v : Value} (hs : Sl Non w v 1 (l.map eN)) : Fn Tryd.prog 117 #[v, .int .i64 x] w fun u w' => ∃ k : Int, u = .int .i64 k ∧ (0 ≤ k ↔ ∃ i : Nat, x = i ∧ i ∈ l) := by
  obtain ⟨a, c, rfl, hbg⟩ := hs.len
  simp only [List.length_map] at hs hbg ⊢
  have hbig2 : big = 9223372036854775807 := rfl
  have hX := Ext.refl Non w
  refine fn_of_W (args := [_, _]) Tryd.func117 rfl (by kernel_rfl) rfl ?_
  refine W_seq ?_
  refine W_region ?_
  refine wl_val (rn_assign (by conv => lhs; whnf)) ?_
  refine wl_nil ?_
  refine W_seq ?_
  refine W_seq ?_
  refine W_region ?_
  refine wl_val (rn_move (by conv => lhs; whnf)) ?_
  refine wl_val (rn_len sl_39 rfl) ?_
  refine wl_val (rn_move (by conv => lhs; whnf)) ?_
  refine wl_nil ?_
  refine W_block ?_   -- block 0
  refine W_loopS (S := Nat) [0, 1, 7, 8] (fun i => [.slice a l.length c, .int .i64 x, .int .i64 (l.length : Nat), .int .i64 (i : Nat)]) (fun i A => (Ext Non w A) ∧ (i ≤ l.length ∧ ∀ q : Nat, x = q → ¬ q ∈ l.take i)) (fun i => l.length - i) 0 ⟨rfl, rfl, rfl, rfl, trivial⟩ ⟨hX, ⟨Nat.zero_le _, by simp⟩⟩ ?_
  rintro τ0 i A0 ⟨hX, hI0⟩
  obtain ⟨hil, hno⟩ := hI0
  refine W_seq ?_
  refine W_region ?_
  refine wl_val (rn_lss rfl rfl) ?_
  refine wl_nil ?_
  refine W_seq ?_
  refine W_cond rfl (fun hc0 => ?_) (fun hc0 => ?_)
  · have hlt := of_decide_eq_true hc0; simp only [Int.ofNat_lt] at hlt
    obtain ⟨y, hi⟩ : ∃ y, (l)[i]? = some y := ⟨_, List.getElem?_eq_getElem hlt⟩
    obtain ⟨bb, oo, ea⟩ := hs.base (by intro e; have := congrArg List.length e; simp only [List.length_map, List.length_nil] at this; omega); subst ea
    refine W_skip ?_
    refine W_seq ?_
    refine W_block ?_   -- block 1
    refine W_seq ?_
    refine W_region ?_
    refine wl_val (rn_move (by conv => lhs; whnf)) ?_
    refine wl_val (rn_assign (by conv => lhs; whnf)) ?_
    refine wl_nil ?_
    refine W_seq ?_
    refine W_region ?_
    refine wl_val (rn_move (by conv => lhs; whnf)) ?_
    refine wl_val (rn_move (by conv => lhs; whnf)) ?_
    refine wl_val (rn_move (by conv => lhs; whnf)) ?_
    refine wl_val (rn_indexAddr sl_39 rfl rfl (by omega)) ?_
    refine wl_val (rn_load p_3 rfl ((hs.ext hX (fun _ h => h)).at0 (eN_at hi) rfl)) ?_
    refine wl_val (rn_eql rfl rfl) ?_
    refine wl_nil ?_
    refine W_cond rfl (fun hc1 => ?_) (fun hc1 => ?_)
    · refine W_seq ?_
      refine W_region ?_
      refine wl_val (rn_move (by conv => lhs; whnf)) ?_
      refine wl_val (rn_assign (by conv => lhs; whnf)) ?_
      refine wl_nil ?_
      refine W_ret ?_
      exact ⟨_, resR1 (res1_tmp rfl), hX, ⟨_, rfl, ⟨fun _ => ⟨y, of_decide_eq_true hc1, List.mem_of_getElem? hi⟩, fun _ => by omega⟩⟩⟩
    · refine W_skip ?_
      refine W_region ?_
      refine wl_val (rn_add rfl rfl (by omega)) ?_
      refine wl_val (rn_move (by conv => lhs; whnf)) ?_
      refine wl_nil ?_
      exact ⟨rfl, i + 1, ⟨rfl, rfl, rfl, rfl, trivial⟩, ⟨hX, ⟨hlt, fun q hq hm => by rw [List.take_add_one, hi] at hm; rcases List.mem_append.1 hm with hm | hm; exact hno q hq hm; simp at hm; subst hm; exact of_decide_eq_false hc1 hq⟩⟩, by omega⟩
  · have hge := of_decide_eq_false hc0; simp only [Int.ofNat_lt, Nat.not_lt] at hge
    rw [List.take_of_length_le hge] at hno
    refine W_exit ?_   -- exit 0
    refine W_seq ?_
    refine W_region ?_
    refine wl_val (rn_assign (by conv => lhs; whnf)) ?_
    refine wl_nil ?_
    refine W_ret ?_
    exact ⟨_, resR1 (res1_tmp rfl), hX, ⟨_, rfl, ⟨fun h => absurd h (by decide), fun ⟨q, hq, hm⟩ => absurd hm (hno q hq)⟩⟩⟩
-- slices.Contains[[]int,int]
theorem containsN_ok (w : World) (l : List Nat) (x : Int) {v : Value} (hs : Sl Non w v 1 (l.map eN)) : Fn Tryd.prog 69 #[v, .int .i64 x] w fun u w' => ∃ b : Bool, u = .bool b ∧ (b = true ↔ ∃ i : Nat, x = i ∧ i ∈ l) := by
  have hX := Ext.refl Non w
  refine fn_of_W (args := [_, _]) Tryd.func69 rfl (by kernel_rfl) rfl ?_
  refine W_seq ?_
  refine W_region ?_
  refine wl_val (rn_assign (by conv => lhs; whnf)) ?_
  refine wl_nil ?_
  refine W_seq ?_
  refine W_region ?_
  refine wl_val (rn_move (by conv => lhs; whnf)) ?_
  refine wl_val (rn_move (by conv => lhs; whnf)) ?_
  refine wl_call e_117 rfl (indexN_ok w l x (hs.ext hX (fun _ h => h))) ?_; intro v7 w1 hE1 hR1
  replace hX := hX.tr hE1
  obtain ⟨k, rfl, hk⟩ := hR1
  refine wl_val (rn_geq rfl rfl) ?_
  refine wl_val (rn_assign (by conv => lhs; whnf)) ?_
  refine wl_nil ?_
  refine W_ret ?_
  exact ⟨_, resR1 (res1_tmp rfl), hX, ⟨_, rfl, by rw [decide_eq_true_iff]; exact hk⟩⟩
-- bellman/bellmanref01.Ints
theorem ints_ok (w : World) (l m : List Int) {v x : Value} (hs : Sl Non w v 1 (l.map eI1)) (hx : Sl Non w x 1 (m.map eI1)) (hn : l.length ≤ 1000000) : Fn Tryd.prog 22 #[v, x] w fun u w' => u = .bool (decide (l = m)) := by
  obtain ⟨a, c, rfl, _⟩ := hs.len
  obtain ⟨a2, c2, rfl, _⟩ := hx.len
  simp only [List.length_map] at hs hx ⊢
  have hX := Ext.refl Non w
  refine fn_of_W (args := [_, _]) Tryd.func22 rfl (by kernel_rfl) rfl ?_
  refine W_seq ?_
  refine W_region ?_
  refine wl_val (rn_assign (by conv => lhs; whnf)) ?_
  refine wl_nil ?_
  refine W_seq ?_
  refine W_seq ?_
  refine W_region ?_
  refine wl_val (rn_move (by conv => lhs; whnf)) ?_
  refine wl_val (rn_len sl_39 rfl) ?_
  refine wl_val (rn_move (by conv => lhs; whnf)) ?_
  refine wl_val (rn_len sl_39 rfl) ?_
  refine wl_val (rn_neq rfl rfl) ?_
  refine wl_nil ?_
  refine W_cond rfl (fun hc0 => ?_) (fun hc0 => ?_)
  · refine W_seq ?_
    refine W_region ?_
    refine wl_val (rn_assign (by conv => lhs; whnf)) ?_
    refine wl_nil ?_
    refine W_ret ?_
    have hnl : ¬ l = m := fun e => by have := of_decide_eq_true hc0; simp only [ne_eq, Int.natCast_inj] at this; exact this (by rw [e])
    exact ⟨_, resR1 (res1_tmp rfl), hX, by rw [decide_eq_false hnl]; rfl⟩
  · have hln : l.length = m.length := by have := of_decide_eq_false hc0; simp only [ne_eq, Int.natCast_inj, Classical.not_not] at this; exact this
    refine W_skip ?_
    refine W_seq ?_
    refine W_seq ?_
    refine W_region ?_
    refine wl_val (rn_assign (by conv => lhs; whnf)) ?_
    refine wl_nil ?_
    refine W_block ?_   -- block 0
    refine W_loopS (S := Nat) [0, 1, 5] (fun i => [.slice a l.length c, .slice a2 m.length c2, .int .i64 (i : Nat)]) (fun i A => (Ext Non w A) ∧ (i ≤ l.length ∧ l.take i = m.take i)) (fun i => l.length - i) 0 ⟨rfl, rfl, rfl, trivial⟩ ⟨hX, ⟨Nat.zero_le _, by simp⟩⟩ ?_
    rintro τ0 i A0 ⟨hX, hI0⟩
    obtain ⟨hil, htk⟩ := hI0
    refine W_seq ?_
    refine W_seq ?_
    refine W_region ?_
    refine wl_val (rn_move (by conv => lhs; whnf)) ?_
    refine wl_val (rn_move (by conv => lhs; whnf)) ?_
    refine wl_val (rn_len sl_39 rfl) ?_
    refine wl_val (rn_lss rfl rfl) ?_
    refine wl_nil ?_
    refine W_cond rfl (fun hc1 => ?_) (fun hc1 => ?_)
    · have hlt := of_decide_eq_true hc1; simp only [Int.ofNat_lt] at hlt
      obtain ⟨x, hi⟩ : ∃ x, l[i]? = some x := ⟨_, List.getElem?_eq_getElem hlt⟩
      obtain ⟨y, hj⟩ : ∃ y, m[i]? = some y := ⟨_, List.getElem?_eq_getElem (by omega)⟩
      obtain ⟨b, o, ea⟩ := hs.base (by intro e; simp at e; subst e; simp at hlt); subst ea
      obtain ⟨b2, o2, ea2⟩ := hx.base (by intro e; have := congrArg List.length e; simp only [List.length_map, List.length_nil] at this; omega); subst ea2
      refine W_skip ?_
      refine W_seq ?_
      refine W_block ?_   -- block 1
      refine W_seq ?_
      refine W_drawE mixed ?_; intro w1 hE1
      replace hX := hX.tr hE1
      have hS := Ext.refl Non w1
      refine wd_take 0 _ _ rfl (by kernel_rfl) hS (yd_do fun A hA => rn_move (by conv => lhs; whnf)) ?_
      refine wd_take 1 _ _ rfl (by kernel_rfl) hS (yd_do fun A hA => rn_move (by conv => lhs; whnf)) ?_
      refine wd_take 2 _ _ rfl (by kernel_rfl) hS (yd_do fun A hA => rn_indexAddr sl_39 rfl rfl (by omega)) ?_
      refine wd_take 3 _ _ rfl (by kernel_rfl) hS (yd_do fun A hA => rn_load p_3 rfl (((hs.ext hX (fun _ h => h)).ext hA (fun _ h => h.elim)).at0 (eI_at hi) rfl)) ?_
      refine wd_take 4 _ _ rfl (by kernel_rfl) hS (yd_do fun A hA => rn_move (by conv => lhs; whnf)) ?_
      refine wd_take 5 _ _ rfl (by kernel_rfl) hS (yd_do fun A hA => rn_move (by conv => lhs; whnf)) ?_
      refine wd_take 6 _ _ rfl (by kernel_rfl) hS (yd_do fun A hA => rn_indexAddr sl_39 rfl rfl (by omega)) ?_
      refine wd_take 7 _ _ rfl (by kernel_rfl) hS (yd_do fun A hA => rn_load p_3 rfl (((hx.ext hX (fun _ h => h)).ext hA (fun _ h => h.elim)).at0 (eI_at hj) rfl)) ?_
      refine wd_take 8 _ _ rfl (by kernel_rfl) hS (yd_do fun A hA => rn_neq rfl rfl) ?_
      refine wd_done (by kernel_rfl) ?_ _
      replace hX := hX.tr hS
      refine W_cond rfl (fun hc2 => ?_) (fun hc2 => ?_)
      · refine W_seq ?_
        refine W_region ?_
        refine wl_val (rn_assign (by conv => lhs; whnf)) ?_
        refine wl_nil ?_
        refine W_ret ?_
        have hnl : ¬ l = m := fun e => by have h1 := of_decide_eq_true hc2; rw [e, hj] at hi; cases hi; exact h1 rfl
        exact ⟨_, resR1 (res1_tmp rfl), hX, by rw [decide_eq_false hnl]; rfl⟩
      · refine W_skip ?_
        refine W_region ?_
        refine wl_val (rn_move (by conv => lhs; whnf)) ?_
        refine wl_val (rn_add rfl rfl (by omega)) ?_
        refine wl_val (rn_assign (by conv => lhs; whnf)) ?_
        refine wl_nil ?_
        have hxy : x = y := by have := of_decide_eq_false hc2; simpa using this
        exact ⟨rfl, i + 1, ⟨rfl, rfl, rfl, trivial⟩, ⟨hX, ⟨hlt, by rw [List.take_add_one, List.take_add_one, htk, hi, hj, hxy]⟩⟩, by omega⟩
    · have hge := of_decide_eq_false hc1; simp only [Int.ofNat_lt, Nat.not_lt] at hge
      have hlm : l = m := by have h1 : l.take i = l := List.take_of_length_le hge; have h2 : m.take i = m := List.take_of_length_le (by omega); rw [← h1, ← h2, htk]
      refine W_exit ?_   -- exit 0
      refine W_seq ?_
      refine W_region ?_
      refine wl_val (rn_assign (by conv => lhs; whnf)) ?_
      refine wl_nil ?_
      refine W_ret ?_
      exact ⟨_, resR1 (res1_tmp rfl), hX, by rw [decide_eq_true hlm]; rfl⟩
-- bellman/bellmanref08.text
theorem textD_step (w : World) (u0 : Nat) (hu : u0 ≤ 1000000000) (ih : ∀ m, m < u0 → ∀ w, Fn Tryd.prog 116 #[.int .i64 (m : Nat)] w fun u w' => u = Sv (Lib.decDigits m)) : Fn Tryd.prog 116 #[.int .i64 (u0 : Nat)] w fun u w' => u = Sv (Lib.decDigits u0) := by
  have hX := Ext.refl Non w
  refine fn_of_W (args := [_]) Tryd.func116 rfl (by kernel_rfl) rfl ?_
  refine W_seq ?_
  refine W_region ?_
  refine wl_val (rn_assign (by conv => lhs; whnf)) ?_
  refine wl_nil ?_
  refine W_seq ?_
  refine W_seq ?_
  refine W_region ?_
  refine wl_val (rn_move (by conv => lhs; whnf)) ?_
  refine wl_val (rn_lss rfl rfl) ?_
  refine wl_nil ?_
  refine W_cond rfl (fun hc0 => ?_) (fun hc0 => ?_)
  · exact absurd (of_decide_eq_true hc0) (by omega)
  · refine W_skip ?_
    refine W_seq ?_
    refine W_seq ?_
    refine W_region ?_
    refine wl_val (rn_move (by conv => lhs; whnf)) ?_
    refine wl_val (rn_geq rfl rfl) ?_
    refine wl_nil ?_
    refine W_cond rfl (fun hc1 => ?_) (fun hc1 => ?_)
    · have h10 := of_decide_eq_true hc1
      refine W_seq ?_
      refine W_region ?_
      refine wl_val (rn_move (by conv => lhs; whnf)) ?_
      refine wl_val (Rn.cast (rn_quo rfl rfl (by decide) (by rw [show ((u0 : Nat) : Int).tdiv 10 = ((u0 / 10 : Nat) : Int) by simp]; omega)) (v' := .int .i64 ((u0 / 10 : Nat) : Int)) (congrArg (Value.int .i64) (by simp))) ?_
      refine wl_call e_116 rfl (ih (u0 / 10) (by omega) w) ?_; intro v13 w1 hE1 hR1
      replace hX := hX.tr hE1
      subst hR1
      refine wl_val (rn_move (by conv => lhs; whnf)) ?_
      refine wl_val (rn_rem (b := 10) rfl rfl (by decide) (by omega)) ?_
      refine wl_call e_116 rfl (ih (u0 % 10) (by omega) w1) ?_; intro v16 w2 hE2 hR2
      replace hX := hX.tr hE2
      subst hR2
      refine wl_val (rn_sadd rfl rfl (by have h1 := dec_len (u0 / 10); have h2 := dec_len (u0 % 10); omega)) ?_
      refine wl_val (rn_assign (by conv => lhs; whnf)) ?_
      refine wl_nil ?_
      refine W_ret ?_
      exact ⟨_, resR1 (res1_tmp rfl), hX, by
          have h1 : ¬ u0 < 10 := by omega
          have h2 : u0 % 10 < 10 := Nat.mod_lt _ (by decide)
          rw [show Lib.decDigits u0 = Lib.decDigits (u0 / 10) ++ [UInt8.ofNat (48 + u0 % 10)] by rw [Lib.decDigits, dif_neg h1]]
          rw [show Lib.decDigits (u0 % 10) = [UInt8.ofNat (48 + u0 % 10)] by rw [Lib.decDigits, dif_pos h2]]
          rfl⟩
    · have h10 := of_decide_eq_false hc1
      have hd := digit_at u0 (by omega)
      refine W_skip ?_
      refine W_seq ?_
      refine W_region ?_
      refine wl_val (rn_move (by conv => lhs; whnf)) ?_
      refine wl_val (rn_move (by conv => lhs; whnf)) ?_
      refine wl_val (rn_add rfl rfl (by omega)) ?_
      refine wl_val (rn_sslice us_9 (l := u0) (h := (u0 + 1)) rfl ⟨_, rfl⟩ ⟨_, rfl⟩ (by omega) (by first | omega | (simp only [List.length_cons, List.length_nil, List.length_append]; omega))) ?_
      refine wl_val (rn_assign (by conv => lhs; whnf)) ?_
      refine wl_nil ?_
      refine W_ret ?_
      exact ⟨_, resR1 (res1_tmp rfl), hX, by
          rw [show Lib.decDigits u0 = [UInt8.ofNat (48 + u0)] by rw [Lib.decDigits, dif_pos (by omega)]]
          show Sv ((([48, 49, 50, 51, 52, 53, 54, 55, 56, 57] : Str).drop u0).take (u0 + 1 - u0)) = _
          rw [hd, show u0 + 1 - u0 = 1 by omega]; rfl⟩
theorem textD_ok (u0 : Nat) : u0 ≤ 1000000000 → ∀ w, Fn Tryd.prog 116 #[.int .i64 (u0 : Nat)] w fun u w' => u = Sv (Lib.decDigits u0) := by
  induction u0 using Nat.strongRecOn with
  | _ u0 ih => exact fun h w => textD_step w u0 h fun m hm w => ih m hm (by omega) w
-- bellman/bellmanref08.text
theorem textM_ok (w : World) (m : Nat) (hm : 0 < m) (hu : m ≤ 1000000000) : Fn Tryd.prog 116 #[.int .i64 (-(m : Int))] w fun u w' => u = Sv (45 :: Lib.decDigits m) := by
  have hX := Ext.refl Non w
  refine fn_of_W (args := [_]) Tryd.func116 rfl (by kernel_rfl) rfl ?_
  refine W_seq ?_
  refine W_region ?_
  refine wl_val (rn_assign (by conv => lhs; whnf)) ?_
  refine wl_nil ?_
  refine W_seq ?_
  refine W_seq ?_
  refine W_region ?_
  refine wl_val (rn_move (by conv => lhs; whnf)) ?_
  refine wl_val (rn_lss rfl rfl) ?_
  refine wl_nil ?_
  refine W_cond rfl (fun hc0 => ?_) (fun hc0 => ?_)
  · refine W_seq ?_
    refine W_region ?_
    refine wl_val (rn_move (by conv => lhs; whnf)) ?_
    refine wl_val (rn_neg rfl (by omega)) ?_
    refine wl_call e_116 rfl (show Fn _ _ #[.int .i64 (- -(m : Int))] _ _ from by rw [Int.neg_neg]; exact textD_ok m hu w) ?_; intro v7 w1 hE1 hR1
    replace hX := hX.tr hE1
    subst hR1
    refine wl_val (rn_sadd rfl rfl (by have h1 := dec_len m; simp only [List.length_cons, List.length_nil]; omega)) ?_
    refine wl_val (rn_assign (by conv => lhs; whnf)) ?_
    refine wl_nil ?_
    refine W_ret ?_
    exact ⟨_, resR1 (res1_tmp rfl), hX, rfl⟩
  · exact absurd (of_decide_eq_false hc0) (by omega)
theorem text8_ok (w : World) (n : Int) (h : -1000000000 ≤ n ∧ n ≤ 1000000000) : Fn Tryd.prog 116 #[.int .i64 n] w fun u w' => u = Sv (Lib.itoa n) := by
  unfold Lib.itoa
  by_cases h0 : n < 0
  · rw [if_pos h0]
    have e : n = -((n.natAbs : Nat) : Int) := by omega
    have := textM_ok w n.natAbs (by omega) (by omega)
    rw [← e] at this; exact this
  · rw [if_neg h0]
    have e : n = ((n.toNat : Nat) : Int) := by omega
    have := textD_ok n.toNat (by omega) w
    rw [← e] at this; exact this
-- bellman/bellmanref08.Key
theorem key8_ok (w : World) (s : StD) (h : -1000000 ≤ s.n ∧ s.n ≤ 1000000) (hl : s.slot.length ≤ 1000000) : Fn Tryd.prog 68 #[.agg s.enc.toArray] w fun u w' => u = Sv (keyS s) := by
  have hX := Ext.refl Non w
  refine fn_of_W (args := [_]) Tryd.func68 rfl (by kernel_rfl) rfl ?_
  refine W_seq ?_
  refine W_region ?_
  refine wl_boxS rfl ?_; intro b1 w1 hb1 hE1 hB1
  have hq1 : w.heap.size ≤ b1 := Nat.le_trans hX.size hb1
  have hl1 : Mine Non w b1 := .inr hq1
  replace hX := hX.tr hE1
  refine wl_val (rn_assign (by conv => lhs; whnf)) ?_
  refine wl_nil ?_
  refine W_seq ?_
  refine W_drawE mixed ?_; intro w2 hE2
  replace hX := hX.tr hE2
  replace hB1 := hB1.ext hE2 id
  have hS := Ext.refl Non w2
  refine wd_take 0 _ _ rfl (by kernel_rfl) hS (yd_do fun A hA => rn_fieldAddr f_27_0 (by decide) rfl) ?_
  refine wd_take 1 _ _ rfl (by kernel_rfl) hS (yd_do fun A hA => rn_load1 p_3 rfl (hB1.ext hA id) rfl) ?_
  refine wd_take 4 _ _ rfl (by kernel_rfl) hS (yd_do fun A hA => rn_fieldAddr f_27_1 (by decide) rfl) ?_
  refine wd_take 5 _ _ rfl (by kernel_rfl) hS (yd_do fun A hA => rn_load1 p_9 rfl (hB1.ext hA id) rfl) ?_
  refine wd_only 2 _ rfl (by kernel_rfl) ?_
  refine s1_do ?_
  refine wl_call e_116 rfl (text8_ok w2 s.n (by omega)) ?_; intro v5 w3 hE3 hR3
  replace hS := hS.tr hE3
  subst hR3
  refine wl_nil ⟨hS, ?_⟩
  refine wd_take 3 _ _ rfl (by kernel_rfl) hS (yd_do fun A hA => rn_sadd rfl rfl (by have h1 := itoa_len s.n; simp only [List.length_cons, List.length_nil]; omega)) ?_
  refine wd_take 6 _ _ rfl (by kernel_rfl) hS (yd_do fun A hA => rn_sadd rfl rfl (by have h1 := itoa_len s.n; simp only [List.length_append, List.length_cons, List.length_nil]; omega)) ?_
  refine wd_take 7 _ _ rfl (by kernel_rfl) hS (yd_do fun A hA => rn_assign (by conv => lhs; whnf)) ?_
  refine wd_done (by kernel_rfl) ?_ _
  replace hX := hX.tr hS
  replace hB1 := hB1.ext hS id
  refine W_ret ?_
  exact ⟨_, resR1 (res1_tmp rfl), hX, by show Sv ((Lib.itoa s.n ++ [44]) ++ s.slot) = _; unfold keyS; rw [List.append_assoc]; rfl⟩
end Go.Proofs.YthcclgoidchkdaaDoorC
