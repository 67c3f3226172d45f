/- Whether a text has one of two bytes: the library's search; the program's topics. -/
import Derived.Test.YthcclgoidchkdaaDoorTop2
import Derived.Test.YthcclgoidchkdaaDoorCoreT
import Derived.Shelf.Strings.IndexAnyAll
set_option linter.unusedVariables false
set_option linter.unusedSimpArgs false
set_option maxRecDepth 100000
namespace Go.Proofs.YthcclgoidchkdaaDoorC
open Go.RowKit Go.Shelf
def Tryd.lays153_ren : Go.Shelf.Ren := ⟨fun | 153 => 158 | 152 => 190 | 226 => 191 | 227 => 192 | 228 => 193 | 137 => 157 | 119 => 219 | 224 => 220 | 225 => 221 | 217 => 189 | 266 => 218 | n => n, fun | 9 => 9 | 3 => 3 | 4 => 4 | 5 => 5 | 21 => 21 | 117 => 237 | 116 => 236 | 0 => 0 | 46 => 148 | 124 => 257 | n => n, fun | n => n⟩
theorem Tryd.lays153 : Go.Proofs.Lays.n153 Tryd.prog Tryd.lays153_ren := {
  mixed := by kernel_rfl
  f119 := Tryd.func219.trans (congrArg some (by kernel_rfl))
  f137 := Tryd.func157.trans (congrArg some (by kernel_rfl))
  f152 := Tryd.func190.trans (congrArg some (by kernel_rfl))
  f153 := Tryd.func158.trans (congrArg some (by kernel_rfl))
  f217 := Tryd.func189.trans (congrArg some (by kernel_rfl))
  f224 := Tryd.func220.trans (congrArg some (by kernel_rfl))
  f225 := Tryd.func221.trans (congrArg some (by kernel_rfl))
  f226 := Tryd.func191.trans (congrArg some (by kernel_rfl))
  f227 := Tryd.func192.trans (congrArg some (by kernel_rfl))
  f228 := Tryd.func193.trans (congrArg some (by kernel_rfl))
  f266 := Tryd.func218.trans (congrArg some (by kernel_rfl))
  t0 := Tryd.underlying0
  a0 := Tryd.isAgg0
  z0 := Tryd.sizeOf0
  v0 := Tryd.zeroValue0
  t3 := Tryd.underlying3
  a3 := Tryd.isAgg3
  z3 := Tryd.sizeOf3
  v3 := Tryd.zeroValue3
  t4 := Tryd.underlying4
  a4 := Tryd.isAgg4
  z4 := Tryd.sizeOf4
  v4 := Tryd.zeroValue4
  t5 := Tryd.underlying5
  a5 := Tryd.isAgg5
  z5 := Tryd.sizeOf5
  v5 := Tryd.zeroValue5
  t9 := Tryd.underlying9
  a9 := Tryd.isAgg9
  z9 := Tryd.sizeOf9
  v9 := Tryd.zeroValue9
  t21 := Tryd.underlying21
  a21 := Tryd.isAgg21
  z21 := Tryd.sizeOf21
  v21 := Tryd.zeroValue21
  t46 := Tryd.underlying148
  a46 := Tryd.isAgg148
  z46 := Tryd.sizeOf148
  v46 := Tryd.zeroValue148
  t116 := Tryd.underlying236
  a116 := Tryd.isAgg236
  z116 := Tryd.sizeOf236
  t117 := Tryd.underlying237
  a117 := Tryd.isAgg237
  z117 := Tryd.sizeOf237
  v117 := Tryd.zeroValue237
  t124 := Tryd.underlying257
  a124 := Tryd.isAgg257
  z124 := Tryd.sizeOf257
  v124 := Tryd.zeroValue257 }

theorem wrap_u8 {a : Int} (h : 0 ≤ a ∧ a ≤ 255) : IntKind.u8.wrap a = a := by
  have hm : a % 256 = a := by omega
  unfold IntKind.wrap; simp [IntKind.bits, IntKind.signed, hm]
theorem valid_iff (r : Int) : Utf8.valid r = true ↔ (0 ≤ r ∧ r < 55296) ∨ (57344 ≤ r ∧ r ≤ 1114111) := by
  unfold Utf8.valid
  rw [Bool.or_eq_true, Bool.and_eq_true, Bool.and_eq_true, decide_eq_true_eq, decide_eq_true_eq, decide_eq_true_eq, decide_eq_true_eq]
theorem runeText (r : Int) (h128 : 128 ≤ r) (hv : Utf8.valid r = true) : ∃ e : Str, Utf8.encode r = ⟨e.toArray⟩ ∧ 2 ≤ e.length ∧ e.length ≤ 4 ∧ ∃ x, e[e.length - 1]? = some x ∧ 128 ≤ x.toNat := by
  obtain ⟨h1, h2, h3⟩ := encode_facts r hv h128
  have hs : (Utf8.encode r).size = (Utf8.encode r).data.toList.length := (Array.length_toList (xs := (Utf8.encode r).data)).symm
  have hlt : (Utf8.encode r).size - 1 < (Utf8.encode r).size := by omega
  refine ⟨(Utf8.encode r).data.toList, rfl, by rw [← hs]; exact h1, by rw [← hs]; exact h2, (Utf8.encode r)[(Utf8.encode r).size - 1]'hlt, ?_, h3 hlt⟩
  rw [← hs, List.getElem?_eq_getElem (by rw [← hs]; exact hlt)]; rfl
/-- Has a text one of the two signs? -/
def anyB (s : Str) : Bool := decide ((43 : UInt8) ∈ s) || decide ((35 : UInt8) ∈ s)
theorem indexAny_eq : ∀ s : Str, decide (0 ≤ Lib.indexAny s [43, 35]) = anyB s
  | [] => rfl
  | b :: l => by
    have ih := indexAny_eq l
    have hge := Lib.indexAny_ge [43, 35] l
    unfold Lib.indexAny
    by_cases hb : ([43, 35] : Str).contains b = true
    · rw [if_pos hb]
      have : b = 43 ∨ b = 35 := by simpa using hb
      unfold anyB
      rcases this with rfl | rfl <;> simp
    · rw [if_neg hb]
      have hne : ¬ (43 : UInt8) = b ∧ ¬ (35 : UInt8) = b := by
        refine ⟨fun e => hb (by rw [← e]; decide), fun e => hb (by rw [← e]; decide)⟩
      have e2 : anyB (b :: l) = anyB l := by unfold anyB; simp [hne.1, hne.2]
      rw [e2, ← ih]
      by_cases h1 : (Lib.indexAny l [43, 35] == -1) = true
      · rw [if_pos h1]
        have := eq_of_beq h1
        rw [this]
      · rw [if_neg h1]
        have h2 : ¬ Lib.indexAny l [43, 35] = -1 := fun e => h1 (by rw [e]; rfl)
        exact decide_eq_decide.2 (by omega)
theorem anyB_yes {s : Str} {i : Nat} {c : UInt8} (h : s[i]? = some c) (hc : c = 43 ∨ c = 35) : anyB s = true := by
  have := List.mem_of_getElem? h
  unfold anyB
  rcases hc with rfl | rfl <;> simp [this]
theorem anyB_no {s : Str} (h1 : ¬ (43 : UInt8) ∈ s) (h2 : ¬ (35 : UInt8) ∈ s) : anyB s = false := by unfold anyB; simp [h1, h2]
/-- Nothing of what was gone over is x. -/
theorem gone_over {s : Str} {i k : Nat} {x : UInt8} (h : ¬ x ∈ s.take i) (hn : ∀ j c, i ≤ j → j < k → s[j]? = some c → c ≠ x) : ¬ x ∈ s.take k := by
  intro hm
  obtain ⟨j, hj⟩ := List.getElem?_of_mem hm
  rw [List.getElem?_take] at hj
  split at hj
  · rename_i hjk
    rcases Nat.lt_or_ge j i with h1 | h1
    · exact h (List.mem_of_getElem? (i := j) (by rw [List.getElem?_take, if_pos h1]; exact hj))
    · exact hn j x h1 hjk hj rfl
  · cases hj
theorem fi_two (c : UInt8) : 0 ≤ fi [43, 35] c ↔ c = 43 ∨ c = 35 := by rw [fi_ge]; simp
-- unicode/utf8.ValidRune
theorem validRune_ok (w : World) (r : Nat) (hv : Utf8.valid (r : Int) = true) : Fn Tryd.prog 219 #[.int .i32 (r : Nat)] w fun u w' => u = .bool true := by
  have hv2 := (valid_iff r).1 hv
  have hX := Ext.refl Non w
  refine fn_of_W (args := [_]) Tryd.func219 rfl (by kernel_rfl) rfl ?_
  refine W_seq ?_
  refine W_region ?_
  refine wl_val (rn_assign (by conv => lhs; whnf)) ?_
  refine wl_nil ?_
  refine W_seq ?_
  refine W_block ?_   -- block 0
  refine W_seq ?_
  refine W_region ?_
  refine wl_val (rn_move (by conv => lhs; whnf)) ?_
  refine wl_val (rn_leq rfl rfl) ?_
  refine wl_val (rn_move (by conv => lhs; whnf)) ?_
  refine wl_split (d := 6) rfl (fun hg6 => ?_) (fun hg6 => ?_)
  · have q1 := of_decide_eq_true hg6
    refine wl_yes rfl (congrArg Value.bool hg6) ?_
    refine wl_val (rn_move (by conv => lhs; whnf)) ?_
    refine wl_yes rfl (congrArg Value.bool hg6) ?_
    refine wl_val (rn_lss rfl rfl) ?_
    refine wl_val (rn_pickT (congrArg Value.bool hg6) (by conv => lhs; whnf)) ?_
    refine wl_val (rn_assign (by conv => lhs; whnf)) ?_
    refine wl_nil ?_
    refine W_cond rfl (fun hc0 => ?_) (fun hc0 => ?_)
    · refine W_seq ?_
      refine W_region ?_
      refine wl_val (rn_assign (by conv => lhs; whnf)) ?_
      refine wl_nil ?_
      refine W_ret ?_
      first | exact ⟨_, resR1 (res1_tmp rfl), hX, rfl⟩ | exact ⟨_, resR1 (res1_tmp rfl), hX, (by omega : False).elim⟩
    · have q2 := of_decide_eq_false hc0
      refine W_seq ?_
      refine W_region ?_
      refine wl_val (rn_move (by conv => lhs; whnf)) ?_
      refine wl_val (rn_lss rfl rfl) ?_
      refine wl_val (rn_move (by conv => lhs; whnf)) ?_
      refine wl_split (d := 13) rfl (fun hg13 => ?_) (fun hg13 => ?_)
      · have q3 := of_decide_eq_true hg13
        refine wl_yes rfl (congrArg Value.bool hg13) ?_
        refine wl_val (rn_move (by conv => lhs; whnf)) ?_
        refine wl_yes rfl (congrArg Value.bool hg13) ?_
        refine wl_val (rn_leq rfl rfl) ?_
        refine wl_val (rn_pickT (congrArg Value.bool hg13) (by conv => lhs; whnf)) ?_
        refine wl_val (rn_assign (by conv => lhs; whnf)) ?_
        refine wl_nil ?_
        refine W_cond rfl (fun hc1 => ?_) (fun hc1 => ?_)
        · refine W_seq ?_
          refine W_region ?_
          refine wl_val (rn_assign (by conv => lhs; whnf)) ?_
          refine wl_nil ?_
          refine W_ret ?_
          first | exact ⟨_, resR1 (res1_tmp rfl), hX, rfl⟩ | exact ⟨_, resR1 (res1_tmp rfl), hX, (by omega : False).elim⟩
        · have q4 := of_decide_eq_false hc1
          refine W_skip ?_
          refine W_seq ?_
          refine W_region ?_
          refine wl_val (rn_assign (by conv => lhs; whnf)) ?_
          refine wl_nil ?_
          refine W_ret ?_
          first | exact ⟨_, resR1 (res1_tmp rfl), hX, rfl⟩ | exact ⟨_, resR1 (res1_tmp rfl), hX, (by omega : False).elim⟩
      · have q3 := of_decide_eq_false hg13
        refine wl_no rfl (congrArg Value.bool hg13) ?_
        refine wl_no rfl (congrArg Value.bool hg13) ?_
        refine wl_val (rn_pickF (congrArg Value.bool hg13) (by conv => lhs; whnf)) ?_
        refine wl_val (rn_assign (by conv => lhs; whnf)) ?_
        refine wl_nil ?_
        refine W_condF rfl ?_
        refine W_skip ?_
        refine W_seq ?_
        refine W_region ?_
        refine wl_val (rn_assign (by conv => lhs; whnf)) ?_
        refine wl_nil ?_
        refine W_ret ?_
        first | exact ⟨_, resR1 (res1_tmp rfl), hX, rfl⟩ | exact ⟨_, resR1 (res1_tmp rfl), hX, (by omega : False).elim⟩
  · have q1 := of_decide_eq_false hg6
    refine wl_no rfl (congrArg Value.bool hg6) ?_
    refine wl_no rfl (congrArg Value.bool hg6) ?_
    refine wl_val (rn_pickF (congrArg Value.bool hg6) (by conv => lhs; whnf)) ?_
    refine wl_val (rn_assign (by conv => lhs; whnf)) ?_
    refine wl_nil ?_
    refine W_condF rfl ?_
    refine W_seq ?_
    refine W_region ?_
    refine wl_val (rn_move (by conv => lhs; whnf)) ?_
    refine wl_val (rn_lss rfl rfl) ?_
    refine wl_val (rn_move (by conv => lhs; whnf)) ?_
    refine wl_split (d := 13) rfl (fun hg13 => ?_) (fun hg13 => ?_)
    · have q3 := of_decide_eq_true hg13
      refine wl_yes rfl (congrArg Value.bool hg13) ?_
      refine wl_val (rn_move (by conv => lhs; whnf)) ?_
      refine wl_yes rfl (congrArg Value.bool hg13) ?_
      refine wl_val (rn_leq rfl rfl) ?_
      refine wl_val (rn_pickT (congrArg Value.bool hg13) (by conv => lhs; whnf)) ?_
      refine wl_val (rn_assign (by conv => lhs; whnf)) ?_
      refine wl_nil ?_
      refine W_cond rfl (fun hc1 => ?_) (fun hc1 => ?_)
      · refine W_seq ?_
        refine W_region ?_
        refine wl_val (rn_assign (by conv => lhs; whnf)) ?_
        refine wl_nil ?_
        refine W_ret ?_
        first | exact ⟨_, resR1 (res1_tmp rfl), hX, rfl⟩ | exact ⟨_, resR1 (res1_tmp rfl), hX, (by omega : False).elim⟩
      · have q4 := of_decide_eq_false hc1
        refine W_skip ?_
        refine W_seq ?_
        refine W_region ?_
        refine wl_val (rn_assign (by conv => lhs; whnf)) ?_
        refine wl_nil ?_
        refine W_ret ?_
        first | exact ⟨_, resR1 (res1_tmp rfl), hX, rfl⟩ | exact ⟨_, resR1 (res1_tmp rfl), hX, (by omega : False).elim⟩
    · have q3 := of_decide_eq_false hg13
      refine wl_no rfl (congrArg Value.bool hg13) ?_
      refine wl_no rfl (congrArg Value.bool hg13) ?_
      refine wl_val (rn_pickF (congrArg Value.bool hg13) (by conv => lhs; whnf)) ?_
      refine wl_val (rn_assign (by conv => lhs; whnf)) ?_
      refine wl_nil ?_
      refine W_condF rfl ?_
      refine W_skip ?_
      refine W_seq ?_
      refine W_region ?_
      refine wl_val (rn_assign (by conv => lhs; whnf)) ?_
      refine wl_nil ?_
      refine W_ret ?_
      first | exact ⟨_, resR1 (res1_tmp rfl), hX, rfl⟩ | exact ⟨_, resR1 (res1_tmp rfl), hX, (by omega : False).elim⟩
-- strings.shouldUseASCIISet
theorem shouldUse_ok (w : World) (n : Int) : Fn Tryd.prog 191 #[.int .i64 n] w fun u w' => u = .bool (decide (n > 8)) := by
  have hX := Ext.refl Non w
  refine fn_of_W (args := [_]) Tryd.func191 rfl (by kernel_rfl) rfl ?_
  refine W_seq ?_
  refine W_region ?_
  refine wl_val (rn_assign (by conv => lhs; whnf)) ?_
  refine wl_nil ?_
  refine W_seq ?_
  refine W_region ?_
  refine wl_val (rn_move (by conv => lhs; whnf)) ?_
  refine wl_val (rn_gtr rfl rfl) ?_
  refine wl_val (rn_assign (by conv => lhs; whnf)) ?_
  refine wl_nil ?_
  refine W_ret ?_
  exact ⟨_, resR1 (res1_tmp rfl), hX, rfl⟩
-- strings.IndexRune
set_option maxHeartbeats 800000 in
theorem idxRuneA_ok (w : World) (s : Str) (c : UInt8) (hc : c.toNat < 128) : Fn Tryd.prog 190 #[Sv s, .int .i32 (c.toNat : Nat)] w fun u w' => u = .int .i64 (fi s c) := by
  have hX := Ext.refl Non w
  refine fn_of_W (args := [_, _]) Tryd.func190 rfl (by kernel_rfl) rfl ?_
  refine W_seq ?_
  refine W_region ?_
  refine wl_val (rn_assign (by conv => lhs; whnf)) ?_
  refine wl_nil ?_
  refine W_block ?_   -- block 0
  refine W_seq ?_
  refine W_region ?_
  refine wl_val (rn_move (by conv => lhs; whnf)) ?_
  refine wl_val (rn_leq rfl rfl) ?_
  refine wl_val (rn_move (by conv => lhs; whnf)) ?_
  refine wl_split (d := 163) rfl (fun hg163 => ?_) (fun hg163 => ?_)
  · refine wl_yes rfl (congrArg Value.bool hg163) ?_
    refine wl_val (rn_move (by conv => lhs; whnf)) ?_
    refine wl_yes rfl (congrArg Value.bool hg163) ?_
    refine wl_val (rn_lss rfl rfl) ?_
    refine wl_val (rn_pickT (congrArg Value.bool hg163) (by conv => lhs; whnf)) ?_
    refine wl_val (rn_assign (by conv => lhs; whnf)) ?_
    refine wl_nil ?_
    refine W_cond rfl (fun hc0 => ?_) (fun hc0 => ?_)
    · refine W_seq ?_
      refine W_region ?_
      refine wl_val (rn_move (by conv => lhs; whnf)) ?_
      refine wl_val (rn_move (by conv => lhs; whnf)) ?_
      refine wl_val (rn_convert ui_21 ui_5 rfl (wrap_u8 (by omega))) ?_
      refine wl_call e_157 rfl (sindexByte_ok w s c) ?_; intro v170 w1 hE1 hR1
      replace hX := hX.tr hE1
      subst hR1
      refine wl_val (rn_assign (by conv => lhs; whnf)) ?_
      refine wl_nil ?_
      refine W_ret ?_
      exact ⟨_, resR1 (res1_tmp rfl), hX, rfl⟩
    · exact absurd (of_decide_eq_false hc0) (by omega)
  · exact absurd (of_decide_eq_false hg163) (by omega)
-- strings.IndexRune
set_option maxHeartbeats 1600000 in
theorem idxRuneH_ok (w : World) (r : Nat) (h128 : 128 ≤ r) (hv : Utf8.valid (r : Int) = true) : Fn Tryd.prog 190 #[Sv [43, 35], .int .i32 (r : Nat)] w fun u w' => u = .int .i64 (-1) := by
  obtain ⟨e, he, he2, he4, x, hx, hx8⟩ := runeText r (by omega) hv
  have hX := Ext.refl Non w
  refine fn_of_W (args := [_, _]) Tryd.func190 rfl (by kernel_rfl) rfl ?_
  refine W_seq ?_
  refine W_region ?_
  refine wl_val (rn_assign (by conv => lhs; whnf)) ?_
  refine wl_nil ?_
  refine W_block ?_   -- block 0
  refine W_seq ?_
  refine W_region ?_
  refine wl_val (rn_move (by conv => lhs; whnf)) ?_
  refine wl_val (rn_leq rfl rfl) ?_
  refine wl_val (rn_move (by conv => lhs; whnf)) ?_
  refine wl_split (d := 163) rfl (fun hg163 => ?_) (fun hg163 => ?_)
  · refine wl_yes rfl (congrArg Value.bool hg163) ?_
    refine wl_val (rn_move (by conv => lhs; whnf)) ?_
    refine wl_yes rfl (congrArg Value.bool hg163) ?_
    refine wl_val (rn_lss rfl rfl) ?_
    refine wl_val (rn_pickT (congrArg Value.bool hg163) (by conv => lhs; whnf)) ?_
    refine wl_val (rn_assign (by conv => lhs; whnf)) ?_
    refine wl_nil ?_
    refine W_cond rfl (fun hc0 => ?_) (fun hc0 => ?_)
    · exact absurd (of_decide_eq_true hc0) (by omega)
    · refine W_seq ?_
      refine W_region ?_
      refine wl_val (rn_move (by conv => lhs; whnf)) ?_
      refine wl_val (rn_eql rfl rfl) ?_
      refine wl_val (rn_assign (by conv => lhs; whnf)) ?_
      refine wl_nil ?_
      refine W_cond rfl (fun hc1 => ?_) (fun hc1 => ?_)
      · refine W_seq ?_
        refine W_seq ?_
        refine W_region ?_
        refine wl_val (rn_move (by conv => lhs; whnf)) ?_
        refine wl_rangeS us_9 rfl ?_; intro b175 w1 hb175 hE1 hI175
        have hq175 : w.heap.size ≤ b175 := Nat.le_trans hX.size hb175
        replace hX := hX.tr hE1
        refine wl_nil ?_
        refine W_block ?_   -- block 9
        refine W_loopS (S := Nat) [175] (fun pos => [.pointer (some ⟨b175, 0, none⟩)]) (fun pos A => (Ext Non w A) ∧ (IsIt A b175 [43, 35] pos ∧ pos ≤ 2)) (fun pos => 2 - pos) 0 ⟨rfl, trivial⟩ ⟨hX, ⟨hI175, by omega⟩⟩ ?_
        rintro τ0 pos A0 ⟨hX, hI0⟩
        obtain ⟨hI175, hp2⟩ := hI0
        refine W_seq ?_
        refine W_region ?_
        refine wl_nextS rfl hI175 ?_; intro w2 hE2 hz2 hI176
        replace hX := hX.mine hE2 (.inr hq175)
        refine wl_val (rn_extract rfl (nx0 _ _)) ?_
        refine wl_nil ?_
        refine W_seq ?_
        refine W_cond rfl (fun hc2 => ?_) (fun hc2 => ?_)
        · have hlt : pos < ([43, 35] : Str).length := of_decide_eq_true hc2
          have hd : (dec [43, 35] pos).1 < 65533 ∧ (dec [43, 35] pos).2 = 1 := by (have h01 : pos = 0 ∨ pos = 1 := by simp at hlt; omega); rcases h01 with rfl | rfl; exact (by rw [dec_low (c := 43) rfl (by decide)]; decide); exact (by rw [dec_low (c := 35) rfl (by decide)]; decide)
          have hnx : nxP [43, 35] pos = pos + 1 := by unfold nxP; rw [if_pos hlt, hd.2]
          rw [hnx] at hI176
          refine W_skip ?_
          refine W_block ?_   -- block 10
          refine W_seq ?_
          refine W_region ?_
          refine wl_val (rn_extract rfl (nx1 hlt)) ?_
          refine wl_val (rn_extract rfl (nx2 hlt)) ?_
          refine wl_val (rn_assign (by conv => lhs; whnf)) ?_
          refine wl_val (rn_assign (by conv => lhs; whnf)) ?_
          refine wl_nil ?_
          refine W_seq ?_
          refine W_region ?_
          refine wl_val (rn_move (by conv => lhs; whnf)) ?_
          refine wl_val (rn_eql rfl rfl) ?_
          refine wl_nil ?_
          refine W_cond rfl (fun hc3 => ?_) (fun hc3 => ?_)
          · exact absurd (of_decide_eq_true hc3) (by omega)
          · refine W_skip ?_
            exact ⟨rfl, pos + 1, ⟨rfl, trivial⟩, ⟨hX, ⟨hI176, by simp at hlt; omega⟩⟩, by simp at hlt; omega⟩
        · refine W_exit ?_   -- exit 9
          refine W_seq ?_
          refine W_region ?_
          refine wl_val (rn_assign (by conv => lhs; whnf)) ?_
          refine wl_nil ?_
          refine W_ret ?_
          exact ⟨_, resR1 (res1_tmp rfl), hX, rfl⟩
      · refine W_seq ?_
        refine W_region ?_
        refine wl_val (rn_move (by conv => lhs; whnf)) ?_
        refine wl_call e_219 rfl (validRune_ok w r hv) ?_; intro v185 w3 hE3 hR3
        replace hX := hX.tr hE3
        subst hR3
        refine wl_val (rn_not rfl) ?_
        refine wl_val (rn_assign (by conv => lhs; whnf)) ?_
        refine wl_nil ?_
        refine W_cond rfl (fun hc4 => ?_) (fun hc4 => ?_)
        · exact absurd hc4 (by simp)
        · refine W_scope ?_
          refine W_seq ?_
          refine W_region ?_
          refine wl_val (rn_move (by conv => lhs; whnf)) ?_
          refine wl_val (Rn.cast (rn_runeText (by kernel_rfl) us_9 rfl) (congrArg Value.string he)) ?_
          refine wl_val (rn_assign (by conv => lhs; whnf)) ?_
          refine wl_nil ?_
          refine W_seq ?_
          refine W_region ?_
          refine wl_val (rn_move (by conv => lhs; whnf)) ?_
          refine wl_val (rn_slen us_9 rfl) ?_
          refine wl_val (rn_sub rfl rfl (by omega)) ?_
          refine wl_val (rn_assign (by conv => lhs; whnf)) ?_
          refine wl_nil ?_
          refine W_seq ?_
          refine W_region ?_
          refine wl_val (rn_move (by conv => lhs; whnf)) ?_
          refine wl_val (rn_assign (by conv => lhs; whnf)) ?_
          refine wl_nil ?_
          refine W_seq ?_
          refine W_region ?_
          refine wl_val (rn_assign (by conv => lhs; whnf)) ?_
          refine wl_nil ?_
          refine W_seq ?_
          refine W_block ?_   -- block 1
          refine W_loopS (S := Unit) [0, 7, 8, 9] (fun _ => [Sv [43, 35], Sv e, .int .i64 ((e.length : Int) - 1), .int .i64 ((e.length : Int) - 1)]) (fun _ A => (Ext Non w A) ∧ (True)) (fun _ => 0) () ⟨rfl, rfl, rfl, rfl, trivial⟩ ⟨hX, trivial⟩ ?_
          rintro τ1 _ A1 ⟨hX, hI1⟩
          refine W_seq ?_
          refine W_seq ?_
          refine W_region ?_
          refine wl_val (rn_move (by conv => lhs; whnf)) ?_
          refine wl_val (rn_move (by conv => lhs; whnf)) ?_
          refine wl_val (rn_slen us_9 rfl) ?_
          refine wl_val (rn_lss rfl rfl) ?_
          refine wl_nil ?_
          refine W_cond rfl (fun hc5 => ?_) (fun hc5 => ?_)
          · have hlt2 := of_decide_eq_true hc5
            have hel : e.length = 2 := by simp at hlt2; omega
            have hto : ((e.length : Int) - 1).toNat = e.length - 1 := by omega
            have hto1 : ((e.length : Int) - 1).toNat = 1 := by omega
            refine W_skip ?_
            refine W_block ?_   -- block 2
            refine W_scope ?_
            refine W_seq ?_
            refine W_seq ?_
            refine W_drawE mixed ?_; intro w4 hE4
            replace hX := hX.tr hE4
            have hS := Ext.refl Non w4
            refine wd_take 0 _ _ rfl (by kernel_rfl) hS (yd_do fun A hA => rn_move (by conv => lhs; whnf)) ?_
            refine wd_take 1 _ _ rfl (by kernel_rfl) hS (yd_do fun A hA => rn_move (by conv => lhs; whnf)) ?_
            refine wd_take 2 _ _ rfl (by kernel_rfl) hS (yd_do fun A hA => rn_sindex us_9 rfl rfl (by omega) (show ([43, 35] : Str)[((e.length : Int) - 1).toNat]? = some 35 by rw [hto1]; rfl)) ?_
            refine wd_take 3 _ _ rfl (by kernel_rfl) hS (yd_do fun A hA => rn_move (by conv => lhs; whnf)) ?_
            refine wd_take 4 _ _ rfl (by kernel_rfl) hS (yd_do fun A hA => rn_move (by conv => lhs; whnf)) ?_
            refine wd_take 5 _ _ rfl (by kernel_rfl) hS (yd_do fun A hA => rn_sindex us_9 rfl rfl (by omega) (by rw [hto]; exact hx)) ?_
            refine wd_take 6 _ _ rfl (by kernel_rfl) hS (yd_do fun A hA => rn_neq rfl rfl) ?_
            refine wd_done (by kernel_rfl) ?_ _
            replace hX := hX.tr hS
            refine W_cond rfl (fun hc6 => ?_) (fun hc6 => ?_)
            · refine W_seq ?_
              refine W_drawE mixed ?_; intro w5 hE5
              replace hX := hX.tr hE5
              have hS := Ext.refl Non w5
              refine wd_take 0 _ _ rfl (by kernel_rfl) hS (yd_do fun A hA => rn_move (by conv => lhs; whnf)) ?_
              refine wd_take 1 _ _ rfl (by kernel_rfl) hS (yd_do fun A hA => rn_move (by conv => lhs; whnf)) ?_
              refine wd_take 2 _ _ rfl (by kernel_rfl) hS (yd_do fun A hA => Rn.cast (rn_add rfl rfl (by omega)) (v' := .int .i64 ((2 : Nat) : Int)) (congrArg (Value.int .i64) (show (e.length : Int) - 1 + 1 = 2 by omega))) ?_
              refine wd_take 3 _ _ rfl (by kernel_rfl) hS (yd_do fun A hA => rn_sslice us_9 (l := 2) (h := 2) rfl ⟨_, rfl⟩ rfl (by omega) (by omega)) ?_
              refine wd_take 4 _ _ rfl (by kernel_rfl) hS (yd_do fun A hA => rn_move (by conv => lhs; whnf)) ?_
              refine wd_take 5 _ _ rfl (by kernel_rfl) hS (yd_do fun A hA => rn_move (by conv => lhs; whnf)) ?_
              refine wd_take 6 _ _ rfl (by kernel_rfl) hS (yd_do fun A hA => rn_sindex us_9 rfl rfl (by omega) (by rw [hto]; exact hx)) ?_
              refine wd_only 7 _ rfl (by kernel_rfl) ?_
              refine s1_do ?_
              refine wl_call e_157 rfl (sindexByte_ok w5 ((([43, 35] : Str).drop 2).take (2 - 2)) x) ?_; intro v41 w6 hE6 hR6
              replace hS := hS.tr hE6
              subst hR6
              refine wl_nil ⟨hS, ?_⟩
              refine wd_take 8 _ _ rfl (by kernel_rfl) hS (yd_do fun A hA => rn_assign (by conv => lhs; whnf)) ?_
              refine wd_done (by kernel_rfl) ?_ _
              replace hX := hX.tr hS
              refine W_seq ?_
              refine W_seq ?_
              refine W_region ?_
              refine wl_val (rn_move (by conv => lhs; whnf)) ?_
              refine wl_val (rn_lss rfl rfl) ?_
              refine wl_nil ?_
              refine W_cond rfl (fun hc7 => ?_) (fun hc7 => ?_)
              · refine W_seq ?_
                refine W_region ?_
                refine wl_val (rn_assign (by conv => lhs; whnf)) ?_
                refine wl_nil ?_
                refine W_ret ?_
                exact ⟨_, resR1 (res1_tmp rfl), hX, rfl⟩
              · exact absurd (of_decide_eq_false hc7) (by simp [fi])
            · exact absurd (of_decide_eq_false hc6) (by simp only [ne_eq, Classical.not_not]; intro e; have e2 : (35 : Int) = x.toNat := e; omega)
          · refine W_exit ?_   -- exit 1
            refine W_seq ?_
            refine W_seq ?_
            refine W_region ?_
            refine wl_val (rn_assign (by conv => lhs; whnf)) ?_
            refine wl_nil ?_
            refine W_ret ?_
            exact ⟨_, resR1 (res1_tmp rfl), hX, rfl⟩
  · exact absurd (of_decide_eq_false hg163) (by omega)
theorem idxRune_ok (w : World) (s : Str) (i : Nat) (c : UInt8) (h : s[i]? = some c) : Fn Tryd.prog 190 #[Sv [43, 35], .int .i32 ((dec s i).1 : Nat)] w fun u w' => ∃ k : Int, u = .int .i64 k ∧ (0 ≤ k ↔ c = 43 ∨ c = 35) := by
  by_cases hc : c.toNat < 128
  · rw [dec_low h hc]
    exact (idxRuneA_ok w [43, 35] c hc).mono fun v w' _ hv => ⟨_, hv, fi_two c⟩
  · have hd := dec_high h (by omega)
    exact (idxRuneH_ok w (dec s i).1 hd.1 hd.2.2.1).mono fun v w' _ hv => ⟨_, hv, ⟨fun h => absurd h (by decide), fun h => by rcases h with rfl | rfl <;> exact absurd hc (by decide)⟩⟩
theorem step_over {s : Str} {i : Nat} {c x : UInt8} (h : s[i]? = some c) (hx : x = 43 ∨ x = 35) (hc : c ≠ x) (hno : ¬ x ∈ s.take i) : nxP s i ≤ s.length ∧ i < nxP s i ∧ ¬ x ∈ s.take (nxP s i) := by
  have hlt := (List.getElem?_eq_some_iff.1 h).1
  have e : nxP s i = i + (dec s i).2 := if_pos hlt
  rw [e]
  by_cases h8 : c.toNat < 128
  · have hd : (dec s i).2 = 1 := by rw [dec_low h h8]
    rw [hd]
    refine ⟨by omega, by omega, gone_over hno fun j y h1 h2 hy => ?_⟩
    obtain rfl : j = i := by omega
    rw [h] at hy; cases hy; exact hc
  · have hd := dec_high h (by omega)
    have hx8 : x.toNat < 128 := by rcases hx with rfl | rfl <;> decide
    refine ⟨?_, by have := hd.2.1; omega, gone_over hno fun j y h1 h2 hy => ?_⟩
    · obtain ⟨y, hy, _⟩ := hd.2.2.2 (i + (dec s i).2 - 1) (by have := hd.2.1; omega) (by have := hd.2.1; omega)
      have := (List.getElem?_eq_some_iff.1 hy).1; have := hd.2.1; omega
    · obtain ⟨z, hz, h3⟩ := hd.2.2.2 j h1 h2
      rw [hz] at hy; cases hy
      intro e; subst e; omega
-- strings.IndexAny
set_option maxHeartbeats 1600000 in
theorem indexAnyS_ok (w : World) (s : Str) (hn : s.length ≤ 8) : Fn Tryd.prog 158 #[Sv s, Sv [43, 35]] w fun u w' => ∃ k : Int, u = .int .i64 k ∧ decide (k ≥ 0) = anyB s := by
  have hX := Ext.refl Non w
  refine fn_of_W (args := [_, _]) Tryd.func158 rfl (by kernel_rfl) rfl ?_
  refine W_seq ?_
  refine W_region ?_
  refine wl_val (rn_assign (by conv => lhs; whnf)) ?_
  refine wl_nil ?_
  refine W_seq ?_
  refine W_seq ?_
  refine W_region ?_
  refine wl_val (rn_move (by conv => lhs; whnf)) ?_
  refine wl_val (rn_seql rfl rfl) ?_
  refine wl_nil ?_
  refine W_cond rfl (fun hc0 => ?_) (fun hc0 => ?_)
  · exact absurd (of_decide_eq_true hc0) (by simp)
  · refine W_skip ?_
    refine W_seq ?_
    refine W_seq ?_
    refine W_region ?_
    refine wl_val (rn_move (by conv => lhs; whnf)) ?_
    refine wl_val (rn_slen us_9 rfl) ?_
    refine wl_val (rn_eql rfl rfl) ?_
    refine wl_nil ?_
    refine W_cond rfl (fun hc1 => ?_) (fun hc1 => ?_)
    · exact absurd (of_decide_eq_true hc1) (by simp)
    · refine W_skip ?_
      refine W_seq ?_
      refine W_seq ?_
      refine W_region ?_
      refine wl_val (rn_move (by conv => lhs; whnf)) ?_
      refine wl_val (rn_slen us_9 rfl) ?_
      refine wl_call e_191 rfl (shouldUse_ok w (s.length : Nat)) ?_; intro v26 w1 hE1 hR1
      replace hX := hX.tr hE1
      subst hR1
      refine wl_nil ?_
      refine W_cond rfl (fun hc2 => ?_) (fun hc2 => ?_)
      · exact absurd (of_decide_eq_true hc2) (by omega)
      · refine W_skip ?_
        refine W_seq ?_
        refine W_seq ?_
        refine W_region ?_
        refine wl_val (rn_move (by conv => lhs; whnf)) ?_
        refine wl_rangeS us_9 rfl ?_; intro b45 w2 hb45 hE2 hI45
        have hq45 : w.heap.size ≤ b45 := Nat.le_trans hX.size hb45
        replace hX := hX.tr hE2
        refine wl_nil ?_
        refine W_block ?_   -- block 2
        refine W_loopS (S := Nat) [1, 45] (fun pos => [Sv [43, 35], .pointer (some ⟨b45, 0, none⟩)]) (fun pos A => (Ext Non w A) ∧ (IsIt A b45 s pos ∧ pos ≤ s.length ∧ (¬ (43 : UInt8) ∈ s.take pos) ∧ ¬ (35 : UInt8) ∈ s.take pos)) (fun pos => s.length - pos) 0 ⟨rfl, rfl, trivial⟩ ⟨hX, ⟨hI45, Nat.zero_le _, by simp, by simp⟩⟩ ?_
        rintro τ0 pos A0 ⟨hX, hI0⟩
        obtain ⟨hI45, hpl, h43, h35⟩ := hI0
        refine W_seq ?_
        refine W_region ?_
        refine wl_nextS rfl hI45 ?_; intro w3 hE3 hz3 hI46
        replace hX := hX.mine hE3 (.inr hq45)
        refine wl_val (rn_extract rfl (nx0 _ _)) ?_
        refine wl_nil ?_
        refine W_seq ?_
        refine W_cond rfl (fun hc3 => ?_) (fun hc3 => ?_)
        · have hlt : pos < s.length := of_decide_eq_true hc3
          obtain ⟨c, hcc⟩ : ∃ c, s[pos]? = some c := ⟨_, List.getElem?_eq_getElem hlt⟩
          refine W_skip ?_
          refine W_block ?_   -- block 3
          refine W_seq ?_
          refine W_region ?_
          refine wl_val (rn_extract rfl (nx1 hlt)) ?_
          refine wl_val (rn_extract rfl (nx2 hlt)) ?_
          refine wl_val (rn_assign (by conv => lhs; whnf)) ?_
          refine wl_val (rn_assign (by conv => lhs; whnf)) ?_
          refine wl_nil ?_
          refine W_seq ?_
          refine W_region ?_
          refine wl_val (rn_move (by conv => lhs; whnf)) ?_
          refine wl_val (rn_move (by conv => lhs; whnf)) ?_
          refine wl_call e_190 rfl (idxRune_ok w3 s pos c hcc) ?_; intro v52 w4 hE4 hR4
          replace hX := hX.tr hE4
          obtain ⟨k, rfl, hk⟩ := hR4
          replace hI46 := hI46.ext hE4 id
          refine wl_val (rn_geq rfl rfl) ?_
          refine wl_nil ?_
          refine W_cond rfl (fun hc4 => ?_) (fun hc4 => ?_)
          · have hR := anyB_yes hcc (hk.1 (of_decide_eq_true hc4))
            refine W_seq ?_
            refine W_region ?_
            refine wl_val (rn_move (by conv => lhs; whnf)) ?_
            refine wl_val (rn_assign (by conv => lhs; whnf)) ?_
            refine wl_nil ?_
            refine W_ret ?_
            exact ⟨_, resR1 (res1_tmp rfl), hX, ⟨_, rfl, by rw [hR]; exact decide_eq_true (by omega)⟩⟩
          · have hno : ¬ (c = 43 ∨ c = 35) := fun h => of_decide_eq_false hc4 (hk.2 h)
            have hs1 := step_over hcc (.inl rfl) (fun e => hno (.inl e)) h43
            have hs2 := step_over hcc (.inr rfl) (fun e => hno (.inr e)) h35
            refine W_skip ?_
            exact ⟨rfl, nxP s pos, ⟨rfl, rfl, trivial⟩, ⟨hX, ⟨hI46, hs1.1, hs1.2.2, hs2.2.2⟩⟩, by have := hs1.1; have := hs1.2.1; omega⟩
        · have hge := of_decide_eq_false hc3
          rw [List.take_of_length_le (by omega)] at h43 h35
          have hR := anyB_no h43 h35
          refine W_exit ?_   -- exit 2
          refine W_seq ?_
          refine W_region ?_
          refine wl_val (rn_assign (by conv => lhs; whnf)) ?_
          refine wl_nil ?_
          refine W_ret ?_
          exact ⟨_, resR1 (res1_tmp rfl), hX, ⟨_, rfl, by rw [hR]; rfl⟩⟩
theorem indexAny_ok (w : World) (s : Str) (hn : s.length ≤ 1000000) : Fn Tryd.prog 158 #[Sv s, Sv [43, 35]] w fun u w' => ∃ k : Int, u = .int .i64 k ∧ decide (k ≥ 0) = anyB s := by
  by_cases h8 : s.length ≤ 8
  · exact indexAnyS_ok w s h8
  · have hz116 := zero_of_info (P := Tryd.prog) (t := Tryd.lays153_ren.t 116) (v := .agg (Array.replicate 256 (.bool false))) (n := 256) (by kernel_rfl)
    have h := Any.strings_IndexAny_long Tryd.lays153 hz116.1 hz116.2 ⟨s.toArray⟩ ⟨([43, 35] : Str).toArray⟩ w (by rw [size_str]; decide) (by rw [size_str]; omega) (by rw [size_str]; omega) (by rw [size_str]; decide) (by intro j b hb; have := List.mem_of_getElem? hb; simp at this; rcases this with rfl | rfl <;> decide)
    refine Calls.mono h fun e w' ⟨he, hw⟩ => ⟨_, he, ?_, _, rfl, ?_⟩
    · rw [hw]; exact (Ext.alloc _ _).trans (Ext.alloc _ _)
    · exact indexAny_eq s
-- strings.ContainsAny
theorem containsAny_ok (w : World) (s : Str) (hn : s.length ≤ 1000000) : Fn Tryd.prog 125 #[Sv s, Sv [43, 35]] w fun u w' => u = .bool (anyB s) := by
  have hX := Ext.refl Non w
  refine fn_of_W (args := [_, _]) Tryd.func125 rfl (by kernel_rfl) rfl ?_
  refine W_seq ?_
  refine W_region ?_
  refine wl_val (rn_assign (by conv => lhs; whnf)) ?_
  refine wl_nil ?_
  refine W_seq ?_
  refine W_region ?_
  refine wl_val (rn_move (by conv => lhs; whnf)) ?_
  refine wl_val (rn_move (by conv => lhs; whnf)) ?_
  refine wl_call e_158 rfl (indexAny_ok w s hn) ?_; intro v7 w1 hE1 hR1
  replace hX := hX.tr hE1
  obtain ⟨k, rfl, hk⟩ := hR1
  refine wl_val (rn_geq rfl rfl) ?_
  refine wl_val (rn_assign (by conv => lhs; whnf)) ?_
  refine wl_nil ?_
  refine W_ret ?_
  exact ⟨_, resR1 (res1_tmp rfl), hX, by rw [← hk]; rfl⟩
theorem topicB_eq (s : Str) : topicB s = (sizedB s && !anyB s) := by
  unfold topicB anyB
  by_cases h1 : (43 : UInt8) ∈ s <;> by_cases h2 : (35 : UInt8) ∈ s <;> simp [h1, h2]
-- bellman/topic.Topic
theorem ttopic_ok (w : World) (s : Str) (hn : s.length ≤ 1000000) : Fn Tryd.prog 78 #[Sv s] w fun u w' => u = .bool (topicB s) := by
  have hX := Ext.refl Non w
  refine fn_of_W (args := [_]) Tryd.func78 rfl (by kernel_rfl) rfl ?_
  refine W_seq ?_
  refine W_region ?_
  refine wl_val (rn_assign (by conv => lhs; whnf)) ?_
  refine wl_nil ?_
  refine W_seq ?_
  refine W_region ?_
  refine wl_val (rn_move (by conv => lhs; whnf)) ?_
  refine wl_call e_124 rfl (tsized_ok w s) ?_; intro v4 w1 hE1 hR1
  replace hX := hX.tr hE1
  subst hR1
  refine wl_val (rn_move (by conv => lhs; whnf)) ?_
  refine wl_split (d := 5) rfl (fun hg5 => ?_) (fun hg5 => ?_)
  · refine wl_yes rfl (congrArg Value.bool hg5) ?_
    refine wl_val (rn_move (by conv => lhs; whnf)) ?_
    refine wl_yes rfl (congrArg Value.bool hg5) ?_
    refine wl_call e_125 rfl (containsAny_ok w1 s hn) ?_; intro v7 w2 hE2 hR2
    replace hX := hX.tr hE2
    subst hR2
    refine wl_yes rfl (congrArg Value.bool hg5) ?_
    refine wl_val (rn_not rfl) ?_
    refine wl_val (rn_pickT (congrArg Value.bool hg5) (by conv => lhs; whnf)) ?_
    refine wl_val (rn_assign (by conv => lhs; whnf)) ?_
    refine wl_nil ?_
    refine W_ret ?_
    exact ⟨_, resR1 (res1_tmp rfl), hX, by rw [topicB_eq, hg5]; rfl⟩
  · refine wl_no rfl (congrArg Value.bool hg5) ?_
    refine wl_no rfl (congrArg Value.bool hg5) ?_
    refine wl_no rfl (congrArg Value.bool hg5) ?_
    refine wl_val (rn_pickF (congrArg Value.bool hg5) (by conv => lhs; whnf)) ?_
    refine wl_val (rn_assign (by conv => lhs; whnf)) ?_
    refine wl_nil ?_
    refine W_ret ?_
    exact ⟨_, resR1 (res1_tmp rfl), hX, by rw [topicB_eq, hg5]; rfl⟩
end Go.Proofs.YthcclgoidchkdaaDoorC
