/- Layer 26's counting: the walks of what AuditCounts reaches. -/
import Derived.Test.YtfdfphaiefbflaaEnc
set_option linter.unusedVariables false
set_option linter.unusedSimpArgs false
set_option maxRecDepth 100000
namespace Go.Proofs.YtfdfphaiefbflaaC
open Go.RowKit
/-- Are two calls at once? -/
def over (x y : CallD) : Bool := !(decide (x.to_ < y.from_)) && !(decide (y.to_ < x.from_))
/-- How many of these are at once with one. -/
def cnt (x : CallD) (l : List CallD) : Nat := (l.filter (over x)).length
/-- .. of the first i calls, with those ahead of them. -/
def tot (cs : List CallD) : Nat → Nat
  | 0 => 0
  | i + 1 => tot cs i + match cs[i]? with | some x => cnt x (cs.take i) | none => 0
theorem cnt_le (x : CallD) (l : List CallD) : cnt x l ≤ l.length := List.length_filter_le _ _
theorem cnt_succ (x : CallD) (l : List CallD) (k : Nat) (y : CallD) (h : l[k]? = some y) : cnt x (l.take (k + 1)) = cnt x (l.take k) + if over x y then 1 else 0 := by
  rw [List.take_add_one, h]
  simp only [cnt, Option.toList_some, List.filter_append, List.length_append, List.filter_cons, List.filter_nil]
  split <;> simp
theorem tot_succ {cs : List CallD} {i : Nat} {x : CallD} (h : cs[i]? = some x) : tot cs (i + 1) = tot cs i + cnt x (cs.take i) := by simp [tot, h]
theorem tot_le (cs : List CallD) (i : Nat) : tot cs i ≤ i * i := by
  induction i with
  | zero => simp [tot]
  | succ i ih =>
    simp only [tot]
    have : (match cs[i]? with | some x => cnt x (cs.take i) | none => 0) ≤ i := by
      split
      · exact Nat.le_trans (cnt_le _ _) (by simp; omega)
      · omega
    have : (i + 1) * (i + 1) = i * i + 2 * i + 1 := by simp [Nat.add_mul, Nat.mul_add]; omega
    omega
-- bellman/hist.Ahead
theorem ahead_ok (w : World) (x y : CallD) : Fn Try.prog 64 #[.agg x.enc.toArray, .agg y.enc.toArray] w fun u w' => u = .bool (decide (x.to_ < y.from_)) := by
  have hX := Ext.refl Non w
  refine fn_of_W (args := [_, _]) Try.func64 rfl (by kernel_rfl) rfl ?_
  refine W_seq ?_
  refine W_region ?_
  refine wl_box rfl ?_; intro b2 w1 hb2 hE1 hB2
  have hq2 : w.heap.size ≤ b2 := Nat.le_trans hX.size hb2
  have hl2 : Mine Non w b2 := .inr hq2
  replace hX := hX.tr hE1
  refine wl_box rfl ?_; intro b3 w2 hb3 hE2 hB3
  have hn2_3 : b2 < b3 := Nat.lt_of_lt_of_le hB2.lt hb3
  have hq3 : w.heap.size ≤ b3 := Nat.le_trans hX.size hb3
  have hl3 : Mine Non w b3 := .inr hq3
  replace hX := hX.tr hE2
  replace hB2 := hB2.ext hE2 id
  refine wl_val (rn_assign rfl) ?_
  refine wl_nil ?_
  refine W_seq ?_
  refine W_region ?_
  refine wl_val (rn_fieldAddr f_102_5 (by decide) rfl) ?_
  refine wl_val (rn_load1 p_3 rfl hB2 rfl) ?_
  refine wl_val (rn_fieldAddr f_102_4 (by decide) rfl) ?_
  refine wl_val (rn_load1 p_3 rfl hB3 rfl) ?_
  refine wl_val (rn_lss rfl rfl) ?_
  refine wl_val (rn_assign rfl) ?_
  refine wl_nil ?_
  refine W_ret ?_
  exact ⟨_, resR1 (res1_tmp rfl), hX, rfl⟩
-- bellman/audit.Overlaps
theorem overlaps_ok (w : World) (cs : List CallD) {v : Value} (hs : Sl Non w v 15 (cs.map CallD.enc)) (hn : cs.length ≤ 1000) : Fn Try.prog 17 #[v] w fun u w' => u = .int .i64 (tot cs cs.length : Nat) := by
  obtain ⟨a, c, rfl, _⟩ := hs.len
  have hcap : cs.length ≤ c := by obtain ⟨⟨a', c', e1, e2, _⟩, _⟩ := hs; simp only [Value.slice.injEq] at e1; simp at e2; omega
  simp only [List.length_map] at hs ⊢
  have hq := tot_le cs
  have hX := Ext.refl Non w
  refine fn_of_W (args := [_]) Try.func17 rfl (by kernel_rfl) rfl ?_
  refine W_seq ?_
  refine W_region ?_
  refine wl_val (rn_assign rfl) ?_
  refine wl_nil ?_
  refine W_seq ?_
  refine W_region ?_
  refine wl_val (rn_assign rfl) ?_
  refine wl_nil ?_
  refine W_seq ?_
  refine W_seq ?_
  refine W_region ?_
  refine wl_val (rn_move rfl) ?_
  refine wl_val (rn_len sl_22 rfl) ?_
  refine wl_val (rn_move rfl) ?_
  refine wl_nil ?_
  refine W_block ?_   -- block 0
  refine W_loopS (S := Nat) [0, 3, 8, 9, 10] (fun i => [.slice a cs.length c, .int .i64 (tot cs i : Nat), .slice a cs.length c, .int .i64 (cs.length : Nat), .int .i64 (i : Nat)]) (fun i A => (Ext Non w A) ∧ (i ≤ cs.length)) (fun i => cs.length - i) 0 ⟨rfl, rfl, rfl, rfl, rfl, trivial⟩ ⟨hX, Nat.zero_le _⟩ ?_
  rintro τ0 i A0 ⟨hX, hI0⟩
  refine W_seq ?_
  refine W_region ?_
  refine wl_val (rn_lss rfl rfl) ?_
  refine wl_nil ?_
  refine W_seq ?_
  refine W_cond rfl (fun hc0 => ?_) (fun hc0 => ?_)
  · have hlt := of_decide_eq_true hc0; simp only [Int.ofNat_lt] at hlt
    obtain ⟨x, hi⟩ : ∃ x, cs[i]? = some x := ⟨_, List.getElem?_eq_getElem hlt⟩
    obtain ⟨b, o, ea⟩ := hs.base (by intro e; simp at e; subst e; simp at hlt); subst ea
    refine W_skip ?_
    refine W_seq ?_
    refine W_block ?_   -- block 1
    refine W_seq ?_
    refine W_region ?_
    refine wl_val (rn_move rfl) ?_
    refine wl_val (rn_indexAddr sl_22 rfl rfl (by omega)) ?_
    refine wl_val (rn_loadS s_102 rfl rfl ((hs.ext hX (fun _ h => h)).all0 (map_at hi))) ?_
    refine wl_alloc z_102 ?_; intro b5 w1 hb5 hE1 hB5
    have hq5 : w.heap.size ≤ b5 := Nat.le_trans hX.size hb5
    have hl5 : Mine Non w b5 := .inr hq5
    replace hX := hX.tr hE1
    refine wl_val (rn_assign rfl) ?_
    refine wl_storeB s_102 rfl rfl rfl (CallD.one x) hB5 rfl ?_; intro w2 hE2 hB5 hz2
    replace hX := hX.mine hE2 hl5
    refine wl_nil ?_
    refine W_seq ?_
    refine W_region ?_
    refine wl_val (rn_move rfl) ?_
    refine wl_val (rn_move rfl) ?_
    refine wl_val (rn_slice0 sl_22 (h := i) (m := c) rfl rfl ⟨_, rfl⟩ rfl (by simp) (by omega) (by omega)) ?_
    refine wl_val (rn_len sl_22 rfl) ?_
    refine wl_val (rn_move rfl) ?_
    refine wl_nil ?_
    refine W_block ?_   -- block 2
    refine W_loopS (S := Nat) [0, 3, 5, 8, 9, 10, 17, 18, 19] (fun k => [.slice (some ⟨b, o, none⟩) cs.length c, .int .i64 (tot cs i + cnt x (cs.take k) : Nat), .pointer (some ⟨b5, 0, none⟩), .slice (some ⟨b, o, none⟩) cs.length c, .int .i64 (cs.length : Nat), .int .i64 (i : Nat), .slice (some ⟨b, o, none⟩) i c, .int .i64 (i : Nat), .int .i64 (k : Nat)]) (fun k A => (Ext Non w A) ∧ (IsBox A b5 x.enc) ∧ (Mine Non w b5) ∧ (k ≤ i)) (fun k => i - k) 0 ⟨rfl, rfl, rfl, rfl, rfl, rfl, rfl, rfl, rfl, trivial⟩ ⟨hX, hB5, hl5, Nat.zero_le _⟩ ?_
    rintro τ1 k A1 ⟨hX, hB5, hl5, hI1⟩
    refine W_seq ?_
    refine W_region ?_
    refine wl_val (rn_lss rfl rfl) ?_
    refine wl_nil ?_
    refine W_seq ?_
    refine W_cond rfl (fun hc1 => ?_) (fun hc1 => ?_)
    · have hlk := of_decide_eq_true hc1; simp only [Int.ofNat_lt] at hlk
      obtain ⟨y, hj⟩ : ∃ y, cs[k]? = some y := ⟨_, List.getElem?_eq_getElem (by omega)⟩
      have hstep := cnt_succ x (cs.take i) k y (by rw [List.getElem?_take_of_lt hlk]; exact hj)
      have hti : (cs.take i).take (k + 1) = cs.take (k + 1) := by rw [List.take_take]; congr 1; omega
      have htk : (cs.take i).take k = cs.take k := by rw [List.take_take]; congr 1; omega
      rw [hti, htk] at hstep
      have hck := cnt_le x (cs.take k)
      have hql := hq i
      have hii : i * i ≤ 1000 * 1000 := Nat.mul_le_mul (by omega) (by omega)
      simp only [List.length_take] at hck
      refine W_skip ?_
      refine W_seq ?_
      refine W_block ?_   -- block 3
      refine W_seq ?_
      refine W_region ?_
      refine wl_val (rn_indexAddr sl_22 rfl rfl (by omega)) ?_
      refine wl_val (rn_loadS s_102 rfl rfl ((hs.ext hX (fun _ h => h)).all0 (map_at hj))) ?_
      refine wl_alloc z_102 ?_; intro b7 w3 hb7 hE3 hB7
      have hn5_7 : b5 < b7 := Nat.lt_of_lt_of_le hB5.lt hb7
      have hq7 : w.heap.size ≤ b7 := Nat.le_trans hX.size hb7
      have hl7 : Mine Non w b7 := .inr hq7
      replace hX := hX.tr hE3
      replace hB5 := hB5.ext hE3 id
      refine wl_storeB s_102 rfl rfl rfl (CallD.one y) hB7 rfl ?_; intro w4 hE4 hB7 hz4
      replace hX := hX.mine hE4 hl7
      replace hB5 := hB5.ext hE4 (fun h => by omega)
      refine wl_nil ?_
      refine W_seq ?_
      refine W_region ?_
      refine wl_val (rn_loadB s_102 rfl rfl hB5) ?_
      refine wl_val (rn_loadB s_102 rfl rfl hB7) ?_
      refine wl_call e_64 rfl (ahead_ok w4 x y) ?_; intro v25 w5 hE5 hR5
      replace hX := hX.tr hE5
      replace hB5 := hB5.ext hE5 id; replace hB7 := hB7.ext hE5 id
      subst hR5
      refine wl_val (rn_not rfl) ?_
      refine wl_val (rn_move rfl) ?_
      refine wl_split (d := 27) rfl (fun hg27 => ?_) (fun hg27 => ?_)
      · refine wl_yes rfl (congrArg Value.bool hg27) ?_
        refine wl_val (rn_loadB s_102 rfl rfl hB7) ?_
        refine wl_yes rfl (congrArg Value.bool hg27) ?_
        refine wl_val (rn_loadB s_102 rfl rfl hB5) ?_
        refine wl_yes rfl (congrArg Value.bool hg27) ?_
        refine wl_call e_64 rfl (ahead_ok w5 y x) ?_; intro v30 w6 hE6 hR6
        replace hX := hX.tr hE6
        replace hB5 := hB5.ext hE6 id; replace hB7 := hB7.ext hE6 id
        subst hR6
        refine wl_yes rfl (congrArg Value.bool hg27) ?_
        refine wl_val (rn_not rfl) ?_
        refine wl_val (rn_pickT (congrArg Value.bool hg27)) ?_
        refine wl_nil ?_
        refine W_cond rfl (fun hc2 => ?_) (fun hc2 => ?_)
        · refine W_region ?_
          refine wl_val (rn_move rfl) ?_
          refine wl_val (rn_add rfl rfl (by omega)) ?_
          refine wl_val (rn_assign rfl) ?_
          refine wl_nil ?_
          refine W_region ?_
          refine wl_val (rn_add rfl rfl (by omega)) ?_
          refine wl_val (rn_move rfl) ?_
          refine wl_nil ?_
          have ho : over x y = true := by unfold over; rw [hg27, hc2]; rfl
          rw [if_pos ho] at hstep
          exact ⟨rfl, k + 1, ⟨rfl, (congrArg (Value.int .i64) (show ((tot cs i + cnt x (cs.take k) : Nat) : Int) + 1 = ((tot cs i + cnt x (cs.take (k + 1)) : Nat) : Int) by rw [hstep]; omega)), rfl, rfl, rfl, rfl, rfl, rfl, rfl, trivial⟩, ⟨hX, hB5, hl5, hlk⟩, by omega⟩
        · refine W_skip ?_
          refine W_region ?_
          refine wl_val (rn_add rfl rfl (by omega)) ?_
          refine wl_val (rn_move rfl) ?_
          refine wl_nil ?_
          have ho : ¬ over x y = true := by unfold over; intro h; simp only [Bool.and_eq_true] at h; rw [h.2] at hc2; cases hc2
          rw [if_neg ho, Nat.add_zero] at hstep
          exact ⟨rfl, k + 1, ⟨rfl, (congrArg (Value.int .i64) (show ((tot cs i + cnt x (cs.take k) : Nat) : Int) = ((tot cs i + cnt x (cs.take (k + 1)) : Nat) : Int) by rw [hstep]; rfl)), rfl, rfl, rfl, rfl, rfl, rfl, rfl, trivial⟩, ⟨hX, hB5, hl5, hlk⟩, by omega⟩
      · refine wl_no rfl (congrArg Value.bool hg27) ?_
        refine wl_no rfl (congrArg Value.bool hg27) ?_
        refine wl_no rfl (congrArg Value.bool hg27) ?_
        refine wl_no rfl (congrArg Value.bool hg27) ?_
        refine wl_val (rn_pickF (congrArg Value.bool hg27)) ?_
        refine wl_nil ?_
        refine W_condF rfl ?_
        refine W_skip ?_
        refine W_region ?_
        refine wl_val (rn_add rfl rfl (by omega)) ?_
        refine wl_val (rn_move rfl) ?_
        refine wl_nil ?_
        have ho : ¬ over x y = true := by unfold over; intro h; simp only [Bool.and_eq_true] at h; rw [h.1] at hg27; cases hg27
        rw [if_neg ho, Nat.add_zero] at hstep
        exact ⟨rfl, k + 1, ⟨rfl, (congrArg (Value.int .i64) (show ((tot cs i + cnt x (cs.take k) : Nat) : Int) = ((tot cs i + cnt x (cs.take (k + 1)) : Nat) : Int) by rw [hstep]; rfl)), rfl, rfl, rfl, rfl, rfl, rfl, rfl, trivial⟩, ⟨hX, hB5, hl5, hlk⟩, by omega⟩
    · refine W_exit ?_   -- exit 2
      refine W_region ?_
      refine wl_val (rn_add rfl rfl (by omega)) ?_
      refine wl_val (rn_move rfl) ?_
      refine wl_nil ?_
      have hge := of_decide_eq_false hc1; simp only [Int.ofNat_lt, Nat.not_lt] at hge
      have hk : i = k := by omega
      subst hk
      have hts := tot_succ hi
      exact ⟨rfl, i + 1, ⟨rfl, (by rw [hts]; rfl), rfl, rfl, rfl, trivial⟩, ⟨hX, hlt⟩, by omega⟩
  · refine W_exit ?_   -- exit 0
    refine W_seq ?_
    refine W_region ?_
    refine wl_val (rn_move rfl) ?_
    refine wl_val (rn_assign rfl) ?_
    refine wl_nil ?_
    refine W_ret ?_
    have hge := of_decide_eq_false hc0; simp only [Int.ofNat_lt, Nat.not_lt] at hge
    have hie : i = cs.length := by omega
    subst hie
    exact ⟨_, resR1 (res1_tmp rfl), hX, rfl⟩
-- bellman/bellmanref26.Overlaps
theorem refOverlaps_ok (w : World) (cs : List CallD) {v : Value} (hs : Sl Non w v 15 (cs.map CallD.enc)) (hn : cs.length ≤ 1000) : Fn Try.prog 18 #[v] w fun u w' => u = .int .i64 (tot cs cs.length : Nat) := by
  obtain ⟨a, c, rfl, _⟩ := hs.len
  simp only [List.length_map] at hs ⊢
  have hq := tot_le cs
  have hX := Ext.refl Non w
  refine fn_of_W (args := [_]) Try.func18 rfl (by kernel_rfl) rfl ?_
  refine W_seq ?_
  refine W_region ?_
  refine wl_val (rn_assign rfl) ?_
  refine wl_nil ?_
  refine W_seq ?_
  refine W_region ?_
  refine wl_val (rn_assign rfl) ?_
  refine wl_nil ?_
  refine W_seq ?_
  refine W_seq ?_
  refine W_region ?_
  refine wl_val (rn_assign rfl) ?_
  refine wl_nil ?_
  refine W_block ?_   -- block 0
  refine W_loopS (S := Nat) [0, 3, 4] (fun i => [.slice a cs.length c, .int .i64 (tot cs i : Nat), .int .i64 (i : Nat)]) (fun i A => (Ext Non w A) ∧ (i ≤ cs.length)) (fun i => cs.length - i) 0 ⟨rfl, rfl, rfl, trivial⟩ ⟨hX, Nat.zero_le _⟩ ?_
  rintro τ0 i A0 ⟨hX, hI0⟩
  refine W_seq ?_
  refine W_seq ?_
  refine W_region ?_
  refine wl_val (rn_move rfl) ?_
  refine wl_val (rn_move rfl) ?_
  refine wl_val (rn_len sl_22 rfl) ?_
  refine wl_val (rn_lss rfl rfl) ?_
  refine wl_nil ?_
  refine W_cond rfl (fun hc0 => ?_) (fun hc0 => ?_)
  · have hlt := of_decide_eq_true hc0; simp only [Int.ofNat_lt] at hlt
    obtain ⟨x, hi⟩ : ∃ x, cs[i]? = some x := ⟨_, List.getElem?_eq_getElem hlt⟩
    obtain ⟨b, o, ea⟩ := hs.base (by intro e; simp at e; subst e; simp at hlt); subst ea
    refine W_skip ?_
    refine W_seq ?_
    refine W_block ?_   -- block 1
    refine W_seq ?_
    refine W_region ?_
    refine wl_val (rn_assign rfl) ?_
    refine wl_nil ?_
    refine W_block ?_   -- block 2
    refine W_loopS (S := Nat) [0, 3, 4, 5] (fun k => [.slice (some ⟨b, o, none⟩) cs.length c, .int .i64 (tot cs i + cnt x (cs.take k) : Nat), .int .i64 (i : Nat), .int .i64 (k : Nat)]) (fun k A => (Ext Non w A) ∧ (k ≤ i)) (fun k => i - k) 0 ⟨rfl, rfl, rfl, rfl, trivial⟩ ⟨hX, Nat.zero_le _⟩ ?_
    rintro τ1 k A1 ⟨hX, hI1⟩
    refine W_seq ?_
    refine W_seq ?_
    refine W_region ?_
    refine wl_val (rn_move rfl) ?_
    refine wl_val (rn_move rfl) ?_
    refine wl_val (rn_lss rfl rfl) ?_
    refine wl_nil ?_
    refine W_cond rfl (fun hc1 => ?_) (fun hc1 => ?_)
    · have hlk := of_decide_eq_true hc1; simp only [Int.ofNat_lt] at hlk
      obtain ⟨y, hj⟩ : ∃ y, cs[k]? = some y := ⟨_, List.getElem?_eq_getElem (by omega)⟩
      have hstep := cnt_succ x (cs.take i) k y (by rw [List.getElem?_take_of_lt hlk]; exact hj)
      have hti : (cs.take i).take (k + 1) = cs.take (k + 1) := by rw [List.take_take]; congr 1; omega
      have htk : (cs.take i).take k = cs.take k := by rw [List.take_take]; congr 1; omega
      rw [hti, htk] at hstep
      have hck := cnt_le x (cs.take k)
      have hql := hq i
      have hii : i * i ≤ 1000 * 1000 := Nat.mul_le_mul (by omega) (by omega)
      simp only [List.length_take] at hck
      refine W_skip ?_
      refine W_seq ?_
      refine W_block ?_   -- block 3
      refine W_seq ?_
      refine W_drawE mixed ?_; intro w1 hE1
      replace hX := hX.tr hE1
      have hS := Ext.refl Non w1
      refine wd_take 0 _ _ rfl (by kernel_rfl) hS (yd_do fun A hA => rn_move rfl) ?_
      refine wd_take 1 _ _ rfl (by kernel_rfl) hS (yd_do fun A hA => rn_move rfl) ?_
      refine wd_take 2 _ _ rfl (by kernel_rfl) hS (yd_do fun A hA => rn_indexAddr sl_22 rfl rfl (by omega)) ?_
      refine wd_take 3 _ _ rfl (by kernel_rfl) hS (yd_do fun A hA => rn_fieldAddr f_102_5 (by decide) rfl) ?_
      refine wd_take 4 _ _ rfl (by kernel_rfl) hS (yd_do fun A hA => rn_load p_3 rfl (((hs.ext hX (fun _ h => h)).ext hA (fun _ h => h.elim)).at1 (map_at hi) rfl)) ?_
      refine wd_take 5 _ _ rfl (by kernel_rfl) hS (yd_do fun A hA => rn_move rfl) ?_
      refine wd_take 6 _ _ rfl (by kernel_rfl) hS (yd_do fun A hA => rn_move rfl) ?_
      refine wd_take 7 _ _ rfl (by kernel_rfl) hS (yd_do fun A hA => rn_indexAddr sl_22 rfl rfl (by omega)) ?_
      refine wd_take 8 _ _ rfl (by kernel_rfl) hS (yd_do fun A hA => rn_fieldAddr f_102_4 (by decide) rfl) ?_
      refine wd_take 9 _ _ rfl (by kernel_rfl) hS (yd_do fun A hA => rn_load p_3 rfl (((hs.ext hX (fun _ h => h)).ext hA (fun _ h => h.elim)).at1 (map_at hj) rfl)) ?_
      refine wd_take 10 _ _ rfl (by kernel_rfl) hS (yd_do fun A hA => rn_lss rfl rfl) ?_
      refine wd_take 11 _ _ rfl (by kernel_rfl) hS (yd_do fun A hA => rn_not rfl) ?_
      refine wd_take 12 _ _ rfl (by kernel_rfl) hS (yd_do fun A hA => rn_move rfl) ?_
      refine wd_split (d := 29) rfl (fun hg29 => ?_) (fun hg29 => ?_)
      · refine wd_take 13 _ _ rfl (by kernel_rfl) hS (yd_yes rfl (congrArg Value.bool hg29) fun A hA => rn_move rfl) ?_
        refine wd_take 14 _ _ rfl (by kernel_rfl) hS (yd_yes rfl (congrArg Value.bool hg29) fun A hA => rn_move rfl) ?_
        refine wd_take 15 _ _ rfl (by kernel_rfl) hS (yd_yes rfl (congrArg Value.bool hg29) fun A hA => rn_indexAddr sl_22 rfl rfl (by omega)) ?_
        refine wd_take 16 _ _ rfl (by kernel_rfl) hS (yd_yes rfl (congrArg Value.bool hg29) fun A hA => rn_fieldAddr f_102_5 (by decide) rfl) ?_
        refine wd_take 17 _ _ rfl (by kernel_rfl) hS (yd_yes rfl (congrArg Value.bool hg29) fun A hA => rn_load p_3 rfl (((hs.ext hX (fun _ h => h)).ext hA (fun _ h => h.elim)).at1 (map_at hj) rfl)) ?_
        refine wd_take 18 _ _ rfl (by kernel_rfl) hS (yd_yes rfl (congrArg Value.bool hg29) fun A hA => rn_move rfl) ?_
        refine wd_take 19 _ _ rfl (by kernel_rfl) hS (yd_yes rfl (congrArg Value.bool hg29) fun A hA => rn_move rfl) ?_
        refine wd_take 20 _ _ rfl (by kernel_rfl) hS (yd_yes rfl (congrArg Value.bool hg29) fun A hA => rn_indexAddr sl_22 rfl rfl (by omega)) ?_
        refine wd_take 21 _ _ rfl (by kernel_rfl) hS (yd_yes rfl (congrArg Value.bool hg29) fun A hA => rn_fieldAddr f_102_4 (by decide) rfl) ?_
        refine wd_take 22 _ _ rfl (by kernel_rfl) hS (yd_yes rfl (congrArg Value.bool hg29) fun A hA => rn_load p_3 rfl (((hs.ext hX (fun _ h => h)).ext hA (fun _ h => h.elim)).at1 (map_at hi) rfl)) ?_
        refine wd_take 23 _ _ rfl (by kernel_rfl) hS (yd_yes rfl (congrArg Value.bool hg29) fun A hA => rn_lss rfl rfl) ?_
        refine wd_take 24 _ _ rfl (by kernel_rfl) hS (yd_yes rfl (congrArg Value.bool hg29) fun A hA => rn_not rfl) ?_
        refine wd_take 25 _ _ rfl (by kernel_rfl) hS (yd_do fun A hA => rn_pickT (congrArg Value.bool hg29)) ?_
        refine wd_done (by kernel_rfl) ?_ _
        replace hX := hX.tr hS
        refine W_cond rfl (fun hc2 => ?_) (fun hc2 => ?_)
        · refine W_region ?_
          refine wl_val (rn_move rfl) ?_
          refine wl_val (rn_add rfl rfl (by omega)) ?_
          refine wl_val (rn_assign rfl) ?_
          refine wl_nil ?_
          refine W_region ?_
          refine wl_val (rn_move rfl) ?_
          refine wl_val (rn_add rfl rfl (by omega)) ?_
          refine wl_val (rn_assign rfl) ?_
          refine wl_nil ?_
          have ho : over x y = true := by unfold over; rw [hg29, hc2]; rfl
          rw [if_pos ho] at hstep
          exact ⟨rfl, k + 1, ⟨rfl, (congrArg (Value.int .i64) (show ((tot cs i + cnt x (cs.take k) : Nat) : Int) + 1 = ((tot cs i + cnt x (cs.take (k + 1)) : Nat) : Int) by rw [hstep]; omega)), rfl, rfl, trivial⟩, ⟨hX, hlk⟩, by omega⟩
        · refine W_skip ?_
          refine W_region ?_
          refine wl_val (rn_move rfl) ?_
          refine wl_val (rn_add rfl rfl (by omega)) ?_
          refine wl_val (rn_assign rfl) ?_
          refine wl_nil ?_
          have ho : ¬ over x y = true := by unfold over; intro h; simp only [Bool.and_eq_true] at h; rw [h.2] at hc2; cases hc2
          rw [if_neg ho, Nat.add_zero] at hstep
          exact ⟨rfl, k + 1, ⟨rfl, (congrArg (Value.int .i64) (show ((tot cs i + cnt x (cs.take k) : Nat) : Int) = ((tot cs i + cnt x (cs.take (k + 1)) : Nat) : Int) by rw [hstep]; rfl)), rfl, rfl, trivial⟩, ⟨hX, hlk⟩, by omega⟩
      · refine wd_take 13 _ _ rfl (by kernel_rfl) hS (yd_no rfl (congrArg Value.bool hg29)) ?_
        refine wd_take 14 _ _ rfl (by kernel_rfl) hS (yd_no rfl (congrArg Value.bool hg29)) ?_
        refine wd_take 15 _ _ rfl (by kernel_rfl) hS (yd_no rfl (congrArg Value.bool hg29)) ?_
        refine wd_take 16 _ _ rfl (by kernel_rfl) hS (yd_no rfl (congrArg Value.bool hg29)) ?_
        refine wd_take 17 _ _ rfl (by kernel_rfl) hS (yd_no rfl (congrArg Value.bool hg29)) ?_
        refine wd_take 18 _ _ rfl (by kernel_rfl) hS (yd_no rfl (congrArg Value.bool hg29)) ?_
        refine wd_take 19 _ _ rfl (by kernel_rfl) hS (yd_no rfl (congrArg Value.bool hg29)) ?_
        refine wd_take 20 _ _ rfl (by kernel_rfl) hS (yd_no rfl (congrArg Value.bool hg29)) ?_
        refine wd_take 21 _ _ rfl (by kernel_rfl) hS (yd_no rfl (congrArg Value.bool hg29)) ?_
        refine wd_take 22 _ _ rfl (by kernel_rfl) hS (yd_no rfl (congrArg Value.bool hg29)) ?_
        refine wd_take 23 _ _ rfl (by kernel_rfl) hS (yd_no rfl (congrArg Value.bool hg29)) ?_
        refine wd_take 24 _ _ rfl (by kernel_rfl) hS (yd_no rfl (congrArg Value.bool hg29)) ?_
        refine wd_take 25 _ _ rfl (by kernel_rfl) hS (yd_do fun A hA => rn_pickF (congrArg Value.bool hg29)) ?_
        refine wd_done (by kernel_rfl) ?_ _
        replace hX := hX.tr hS
        refine W_condF rfl ?_
        refine W_skip ?_
        refine W_region ?_
        refine wl_val (rn_move rfl) ?_
        refine wl_val (rn_add rfl rfl (by omega)) ?_
        refine wl_val (rn_assign rfl) ?_
        refine wl_nil ?_
        have ho : ¬ over x y = true := by unfold over; intro h; simp only [Bool.and_eq_true] at h; rw [h.1] at hg29; cases hg29
        rw [if_neg ho, Nat.add_zero] at hstep
        exact ⟨rfl, k + 1, ⟨rfl, (congrArg (Value.int .i64) (show ((tot cs i + cnt x (cs.take k) : Nat) : Int) = ((tot cs i + cnt x (cs.take (k + 1)) : Nat) : Int) by rw [hstep]; rfl)), rfl, rfl, trivial⟩, ⟨hX, hlk⟩, by omega⟩
    · refine W_exit ?_   -- exit 2
      refine W_region ?_
      refine wl_val (rn_move rfl) ?_
      refine wl_val (rn_add rfl rfl (by omega)) ?_
      refine wl_val (rn_assign rfl) ?_
      refine wl_nil ?_
      have hge := of_decide_eq_false hc1; simp only [Int.ofNat_lt, Nat.not_lt] at hge
      have hk : i = k := by omega
      subst hk
      have hts := tot_succ hi
      exact ⟨rfl, i + 1, ⟨rfl, (by rw [hts]; rfl), rfl, trivial⟩, ⟨hX, hlt⟩, by omega⟩
  · refine W_exit ?_   -- exit 0
    refine W_seq ?_
    refine W_region ?_
    refine wl_val (rn_move rfl) ?_
    refine wl_val (rn_assign rfl) ?_
    refine wl_nil ?_
    refine W_ret ?_
    have hge := of_decide_eq_false hc0; simp only [Int.ofNat_lt, Nat.not_lt] at hge
    have hie : i = cs.length := by omega
    subst hie
    exact ⟨_, resR1 (res1_tmp rfl), hX, rfl⟩
-- bellman/bellmanlaw26.great
theorem great_ok (w : World) (cs : List CallD) (most : Int) {v : Value} (hs : Sl Non w v 15 (cs.map CallD.enc)) : Fn Try.prog 14 #[v, .int .i64 most] w fun u w' => ∃ b, u = .bool b ∧ (b = false → (cs.length : Int) ≤ most) := by
  obtain ⟨a, c, rfl, _⟩ := hs.len
  have hbig : cs.length ≤ big := by obtain ⟨⟨a1, c1, e1, e2, e3, _⟩, _⟩ := hs; simp at e2; omega
  simp only [List.length_map] at hs ⊢
  have hbig2 : big = 9223372036854775807 := rfl
  have hX := Ext.refl Non w
  refine fn_of_W (args := [_, _]) Try.func14 rfl (by kernel_rfl) rfl ?_
  refine W_seq ?_
  refine W_region ?_
  refine wl_val (rn_assign rfl) ?_
  refine wl_nil ?_
  refine W_seq ?_
  refine W_seq ?_
  refine W_region ?_
  refine wl_val (rn_assign rfl) ?_
  refine wl_nil ?_
  refine W_block ?_   -- block 0
  refine W_loopS (S := Nat) [0, 1, 5] (fun i => [.slice a cs.length c, .int .i64 most, .int .i64 (i : Nat)]) (fun i A => (Ext Non w A) ∧ (i ≤ cs.length)) (fun i => cs.length - i) 0 ⟨rfl, rfl, rfl, trivial⟩ ⟨hX, Nat.zero_le _⟩ ?_
  rintro τ0 i A0 ⟨hX, hI0⟩
  refine W_seq ?_
  refine W_seq ?_
  refine W_region ?_
  refine wl_val (rn_move rfl) ?_
  refine wl_val (rn_move rfl) ?_
  refine wl_val (rn_len sl_22 rfl) ?_
  refine wl_val (rn_lss rfl rfl) ?_
  refine wl_nil ?_
  refine W_cond rfl (fun hc0 => ?_) (fun hc0 => ?_)
  · have hlt := of_decide_eq_true hc0; simp only [Int.ofNat_lt] at hlt
    obtain ⟨x, hi⟩ : ∃ x, cs[i]? = some x := ⟨_, List.getElem?_eq_getElem hlt⟩
    obtain ⟨b, o, ea⟩ := hs.base (by intro e; simp at e; subst e; simp at hlt); subst ea
    refine W_skip ?_
    refine W_seq ?_
    refine W_block ?_   -- block 1
    refine W_seq ?_
    refine W_region ?_
    refine wl_val (rn_move rfl) ?_
    refine wl_val (rn_move rfl) ?_
    refine wl_val (rn_indexAddr sl_22 rfl rfl (by omega)) ?_
    refine wl_val (rn_fieldAddr f_102_2 (by decide) rfl) ?_
    refine wl_val (rn_fieldAddr f_97_2 (by decide) rfl) ?_
    refine wl_val (rn_load p_9 rfl ((hs.ext hX (fun _ h => h)).at2 (map_at hi) rfl)) ?_
    refine wl_val (rn_slen us_9 rfl) ?_
    refine wl_val (rn_gtr rfl rfl) ?_
    refine wl_val (rn_move rfl) ?_
    refine wl_split (d := 20) rfl (fun hg20 => ?_) (fun hg20 => ?_)
    · refine wl_no rfl (congrArg Value.bool hg20) ?_
      refine wl_no rfl (congrArg Value.bool hg20) ?_
      refine wl_no rfl (congrArg Value.bool hg20) ?_
      refine wl_no rfl (congrArg Value.bool hg20) ?_
      refine wl_no rfl (congrArg Value.bool hg20) ?_
      refine wl_no rfl (congrArg Value.bool hg20) ?_
      refine wl_no rfl (congrArg Value.bool hg20) ?_
      refine wl_no rfl (congrArg Value.bool hg20) ?_
      refine wl_val (rn_pickT (congrArg Value.bool hg20)) ?_
      refine wl_val (rn_move rfl) ?_
      refine wl_no rfl rfl ?_
      refine wl_no rfl rfl ?_
      refine wl_no rfl rfl ?_
      refine wl_no rfl rfl ?_
      refine wl_no rfl rfl ?_
      refine wl_no rfl rfl ?_
      refine wl_no rfl rfl ?_
      refine wl_no rfl rfl ?_
      refine wl_no rfl rfl ?_
      refine wl_val (rn_pickT rfl) ?_
      refine wl_val (rn_move rfl) ?_
      refine wl_no rfl rfl ?_
      refine wl_no rfl rfl ?_
      refine wl_no rfl rfl ?_
      refine wl_no rfl rfl ?_
      refine wl_no rfl rfl ?_
      refine wl_no rfl rfl ?_
      refine wl_no rfl rfl ?_
      refine wl_no rfl rfl ?_
      refine wl_no rfl rfl ?_
      refine wl_val (rn_pickT rfl) ?_
      refine wl_nil ?_
      refine W_condT rfl ?_
      refine W_seq ?_
      refine W_region ?_
      refine wl_val (rn_assign rfl) ?_
      refine wl_nil ?_
      refine W_ret ?_
      first | exact ⟨_, resR1 (res1_tmp rfl), hX, ⟨true, rfl, by simp⟩⟩ | exact ⟨_, resR1 (res1_tmp rfl), hX, ⟨_, rfl, fun h => by have := of_decide_eq_false h; omega⟩⟩
    · refine wl_yes rfl (congrArg Value.bool hg20) ?_
      refine wl_val (rn_move rfl) ?_
      refine wl_yes rfl (congrArg Value.bool hg20) ?_
      refine wl_val (rn_move rfl) ?_
      refine wl_yes rfl (congrArg Value.bool hg20) ?_
      refine wl_val (rn_indexAddr sl_22 rfl rfl (by omega)) ?_
      refine wl_yes rfl (congrArg Value.bool hg20) ?_
      refine wl_val (rn_fieldAddr f_102_2 (by decide) rfl) ?_
      refine wl_yes rfl (congrArg Value.bool hg20) ?_
      refine wl_val (rn_fieldAddr f_97_3 (by decide) rfl) ?_
      refine wl_yes rfl (congrArg Value.bool hg20) ?_
      refine wl_val (rn_load p_9 rfl ((hs.ext hX (fun _ h => h)).at2 (map_at hi) rfl)) ?_
      refine wl_yes rfl (congrArg Value.bool hg20) ?_
      refine wl_val (rn_slen us_9 rfl) ?_
      refine wl_yes rfl (congrArg Value.bool hg20) ?_
      refine wl_val (rn_gtr rfl rfl) ?_
      refine wl_val (rn_pickF (congrArg Value.bool hg20)) ?_
      refine wl_val (rn_move rfl) ?_
      refine wl_split (d := 30) rfl (fun hg30 => ?_) (fun hg30 => ?_)
      · refine wl_no rfl (congrArg Value.bool hg30) ?_
        refine wl_no rfl (congrArg Value.bool hg30) ?_
        refine wl_no rfl (congrArg Value.bool hg30) ?_
        refine wl_no rfl (congrArg Value.bool hg30) ?_
        refine wl_no rfl (congrArg Value.bool hg30) ?_
        refine wl_no rfl (congrArg Value.bool hg30) ?_
        refine wl_no rfl (congrArg Value.bool hg30) ?_
        refine wl_no rfl (congrArg Value.bool hg30) ?_
        refine wl_no rfl (congrArg Value.bool hg30) ?_
        refine wl_val (rn_pickT (congrArg Value.bool hg30)) ?_
        refine wl_val (rn_move rfl) ?_
        refine wl_no rfl rfl ?_
        refine wl_no rfl rfl ?_
        refine wl_no rfl rfl ?_
        refine wl_no rfl rfl ?_
        refine wl_no rfl rfl ?_
        refine wl_no rfl rfl ?_
        refine wl_no rfl rfl ?_
        refine wl_no rfl rfl ?_
        refine wl_no rfl rfl ?_
        refine wl_val (rn_pickT rfl) ?_
        refine wl_nil ?_
        refine W_condT rfl ?_
        refine W_seq ?_
        refine W_region ?_
        refine wl_val (rn_assign rfl) ?_
        refine wl_nil ?_
        refine W_ret ?_
        first | exact ⟨_, resR1 (res1_tmp rfl), hX, ⟨true, rfl, by simp⟩⟩ | exact ⟨_, resR1 (res1_tmp rfl), hX, ⟨_, rfl, fun h => by have := of_decide_eq_false h; omega⟩⟩
      · refine wl_yes rfl (congrArg Value.bool hg30) ?_
        refine wl_val (rn_move rfl) ?_
        refine wl_yes rfl (congrArg Value.bool hg30) ?_
        refine wl_val (rn_move rfl) ?_
        refine wl_yes rfl (congrArg Value.bool hg30) ?_
        refine wl_val (rn_indexAddr sl_22 rfl rfl (by omega)) ?_
        refine wl_yes rfl (congrArg Value.bool hg30) ?_
        refine wl_val (rn_fieldAddr f_102_3 (by decide) rfl) ?_
        refine wl_yes rfl (congrArg Value.bool hg30) ?_
        refine wl_val (rn_fieldAddr f_100_3 (by decide) rfl) ?_
        refine wl_yes rfl (congrArg Value.bool hg30) ?_
        refine wl_val (rn_fieldAddr f_32_0 (by decide) rfl) ?_
        refine wl_yes rfl (congrArg Value.bool hg30) ?_
        refine wl_val (rn_load p_9 rfl ((hs.ext hX (fun _ h => h)).at3 (map_at hi) rfl)) ?_
        refine wl_yes rfl (congrArg Value.bool hg30) ?_
        refine wl_val (rn_slen us_9 rfl) ?_
        refine wl_yes rfl (congrArg Value.bool hg30) ?_
        refine wl_val (rn_gtr rfl rfl) ?_
        refine wl_val (rn_pickF (congrArg Value.bool hg30)) ?_
        refine wl_val (rn_move rfl) ?_
        refine wl_split (d := 41) rfl (fun hg41 => ?_) (fun hg41 => ?_)
        · refine wl_no rfl (congrArg Value.bool hg41) ?_
          refine wl_no rfl (congrArg Value.bool hg41) ?_
          refine wl_no rfl (congrArg Value.bool hg41) ?_
          refine wl_no rfl (congrArg Value.bool hg41) ?_
          refine wl_no rfl (congrArg Value.bool hg41) ?_
          refine wl_no rfl (congrArg Value.bool hg41) ?_
          refine wl_no rfl (congrArg Value.bool hg41) ?_
          refine wl_no rfl (congrArg Value.bool hg41) ?_
          refine wl_no rfl (congrArg Value.bool hg41) ?_
          refine wl_val (rn_pickT (congrArg Value.bool hg41)) ?_
          refine wl_nil ?_
          refine W_condT rfl ?_
          refine W_seq ?_
          refine W_region ?_
          refine wl_val (rn_assign rfl) ?_
          refine wl_nil ?_
          refine W_ret ?_
          first | exact ⟨_, resR1 (res1_tmp rfl), hX, ⟨true, rfl, by simp⟩⟩ | exact ⟨_, resR1 (res1_tmp rfl), hX, ⟨_, rfl, fun h => by have := of_decide_eq_false h; omega⟩⟩
        · refine wl_yes rfl (congrArg Value.bool hg41) ?_
          refine wl_val (rn_move rfl) ?_
          refine wl_yes rfl (congrArg Value.bool hg41) ?_
          refine wl_val (rn_move rfl) ?_
          refine wl_yes rfl (congrArg Value.bool hg41) ?_
          refine wl_val (rn_indexAddr sl_22 rfl rfl (by omega)) ?_
          refine wl_yes rfl (congrArg Value.bool hg41) ?_
          refine wl_val (rn_fieldAddr f_102_3 (by decide) rfl) ?_
          refine wl_yes rfl (congrArg Value.bool hg41) ?_
          refine wl_val (rn_fieldAddr f_100_3 (by decide) rfl) ?_
          refine wl_yes rfl (congrArg Value.bool hg41) ?_
          refine wl_val (rn_fieldAddr f_32_1 (by decide) rfl) ?_
          refine wl_yes rfl (congrArg Value.bool hg41) ?_
          refine wl_val (rn_load p_9 rfl ((hs.ext hX (fun _ h => h)).at3 (map_at hi) rfl)) ?_
          refine wl_yes rfl (congrArg Value.bool hg41) ?_
          refine wl_val (rn_slen us_9 rfl) ?_
          refine wl_yes rfl (congrArg Value.bool hg41) ?_
          refine wl_val (rn_gtr rfl rfl) ?_
          refine wl_val (rn_pickF (congrArg Value.bool hg41)) ?_
          refine wl_nil ?_
          refine W_cond rfl (fun hc1 => ?_) (fun hc1 => ?_)
          · refine W_seq ?_
            refine W_region ?_
            refine wl_val (rn_assign rfl) ?_
            refine wl_nil ?_
            refine W_ret ?_
            first | exact ⟨_, resR1 (res1_tmp rfl), hX, ⟨true, rfl, by simp⟩⟩ | exact ⟨_, resR1 (res1_tmp rfl), hX, ⟨_, rfl, fun h => by have := of_decide_eq_false h; omega⟩⟩
          · refine W_skip ?_
            refine W_region ?_
            refine wl_val (rn_move rfl) ?_
            refine wl_val (rn_add rfl rfl (by omega)) ?_
            refine wl_val (rn_assign rfl) ?_
            refine wl_nil ?_
            exact ⟨rfl, i + 1, ⟨rfl, rfl, rfl, trivial⟩, ⟨hX, hlt⟩, by omega⟩
  · refine W_exit ?_   -- exit 0
    refine W_seq ?_
    refine W_region ?_
    refine wl_val (rn_move rfl) ?_
    refine wl_val (rn_len sl_22 rfl) ?_
    refine wl_val (rn_move rfl) ?_
    refine wl_val (rn_gtr rfl rfl) ?_
    refine wl_val (rn_assign rfl) ?_
    refine wl_nil ?_
    refine W_ret ?_
    first | exact ⟨_, resR1 (res1_tmp rfl), hX, ⟨true, rfl, by simp⟩⟩ | exact ⟨_, resR1 (res1_tmp rfl), hX, ⟨_, rfl, fun h => by have := of_decide_eq_false h; omega⟩⟩
/-- Was a call a poll of this subscriber, that told a message? -/
def isPoll (sub : Int) (c : CallD) : Bool := decide (c.op.kind = 4) && (decide (c.op.sub = sub) && decide (c.ans.err = 0))
/-- What was polled. -/
def pol (sub : Int) (cs : List CallD) : List MsgD := (cs.filter (isPoll sub)).map fun c => c.ans.msg
theorem pol_len (sub : Int) (cs : List CallD) : (pol sub cs).length ≤ cs.length := by simp only [pol, List.length_map]; exact List.length_filter_le _ _
theorem pol_yes {sub : Int} {cs : List CallD} {i : Nat} {x : CallD} (h : cs[i]? = some x) (hp : isPoll sub x = true) : pol sub (cs.take (i + 1)) = pol sub (cs.take i) ++ [x.ans.msg] := by
  rw [List.take_add_one, h]; simp [pol, List.filter_append, hp]
theorem pol_no {sub : Int} {cs : List CallD} {i : Nat} {x : CallD} (h : cs[i]? = some x) (hp : ¬ isPoll sub x = true) : pol sub (cs.take (i + 1)) = pol sub (cs.take i) := by
  rw [List.take_add_one, h]; simp [pol, List.filter_append, hp]
theorem pol_split {sub : Int} {cs : List CallD} {i : Nat} {x : CallD} (h : cs[i]? = some x) (hp : isPoll sub x = true) : pol sub cs = pol sub (cs.take i) ++ x.ans.msg :: pol sub (cs.drop (i + 1)) := by
  have hlt := (List.getElem?_eq_some_iff.1 h).1
  have e : cs = cs.take (i + 1) ++ cs.drop (i + 1) := (List.take_append_drop _ _).symm
  have e2 := pol_yes h hp
  have hap : ∀ l1 l2, pol sub (l1 ++ l2) = pol sub l1 ++ pol sub l2 := by intro l1 l2; simp [pol]
  conv => lhs; rw [e]
  rw [show pol sub (cs.take (i + 1) ++ cs.drop (i + 1)) = pol sub (cs.take (i + 1)) ++ pol sub (cs.drop (i + 1)) from hap _ _, e2]; simp
-- bellman/bellmanref24.Polled
theorem refPolled_ok (w : World) (cs : List CallD) (sub : Int) {v : Value} (hs : Sl Non w v 15 (cs.map CallD.enc)) (hn : cs.length ≤ 1000) : Fn Try.prog 15 #[v, .int .i64 sub] w fun u w' => ∃ oo, OwO w' u oo 3 ((pol sub cs).map MsgD.enc) ∧ ∀ j, oo = some j → w.heap.size ≤ j := by
  obtain ⟨a, c, rfl, _⟩ := hs.len
  have hbig : cs.length ≤ big := by obtain ⟨⟨a1, c1, e1, e2, e3, _⟩, _⟩ := hs; simp at e2; omega
  simp only [List.length_map] at hs ⊢
  have hX := Ext.refl Non w
  refine fn_of_W (args := [_, _]) Try.func15 rfl (by kernel_rfl) rfl ?_
  refine W_seq ?_
  refine W_region ?_
  refine wl_val (rn_assign rfl) ?_
  refine wl_nil ?_
  refine W_seq ?_
  refine W_region ?_
  refine wl_val (rn_assign rfl) ?_
  refine wl_nil ?_
  refine W_seq ?_
  refine W_seq ?_
  refine W_region ?_
  refine wl_val (rn_assign rfl) ?_
  refine wl_nil ?_
  refine W_block ?_   -- block 0
  refine W_loopS (S := Nat × Value × Option Nat) [0, 1, 5, 6] (fun ⟨i, v, oo⟩ => [.slice a cs.length c, .int .i64 sub, v, .int .i64 (i : Nat)]) (fun ⟨i, v, oo⟩ A => (Ext Non w A) ∧ (i ≤ cs.length ∧ OwO A v oo 3 ((pol sub (cs.take i)).map MsgD.enc) ∧ ∀ j, oo = some j → w.heap.size ≤ j)) (fun ⟨i, v, oo⟩ => cs.length - i) (0, .slice none 0 0, none) ⟨rfl, rfl, rfl, rfl, trivial⟩ ⟨hX, ⟨Nat.zero_le _, OwO.nil, by simp⟩⟩ ?_
  rintro τ0 ⟨i, v, oo⟩ A0 ⟨hX, hI0⟩
  obtain ⟨hI0, hO, ho⟩ := hI0
  refine W_seq ?_
  refine W_seq ?_
  refine W_region ?_
  refine wl_val (rn_move rfl) ?_
  refine wl_val (rn_move rfl) ?_
  refine wl_val (rn_len sl_22 rfl) ?_
  refine wl_val (rn_lss rfl rfl) ?_
  refine wl_nil ?_
  refine W_cond rfl (fun hc0 => ?_) (fun hc0 => ?_)
  · have hlt := of_decide_eq_true hc0; simp only [Int.ofNat_lt] at hlt
    obtain ⟨x, hi⟩ : ∃ x, cs[i]? = some x := ⟨_, List.getElem?_eq_getElem hlt⟩
    obtain ⟨b, o, ea⟩ := hs.base (by intro e; simp at e; subst e; simp at hlt); subst ea
    refine W_skip ?_
    refine W_seq ?_
    refine W_block ?_   -- block 1
    refine W_seq ?_
    refine W_region ?_
    refine wl_val (rn_move rfl) ?_
    refine wl_val (rn_move rfl) ?_
    refine wl_val (rn_indexAddr sl_22 rfl rfl (by omega)) ?_
    refine wl_val (rn_fieldAddr f_102_2 (by decide) rfl) ?_
    refine wl_val (rn_fieldAddr f_97_0 (by decide) rfl) ?_
    refine wl_val (rn_load p_3 rfl ((hs.ext hX (fun _ h => h)).at2 (map_at hi) rfl)) ?_
    refine wl_val (rn_eql rfl rfl) ?_
    refine wl_val (rn_move rfl) ?_
    refine wl_split (d := 20) rfl (fun hg20 => ?_) (fun hg20 => ?_)
    · refine wl_yes rfl (congrArg Value.bool hg20) ?_
      refine wl_val (rn_move rfl) ?_
      refine wl_yes rfl (congrArg Value.bool hg20) ?_
      refine wl_val (rn_move rfl) ?_
      refine wl_yes rfl (congrArg Value.bool hg20) ?_
      refine wl_val (rn_indexAddr sl_22 rfl rfl (by omega)) ?_
      refine wl_yes rfl (congrArg Value.bool hg20) ?_
      refine wl_val (rn_fieldAddr f_102_2 (by decide) rfl) ?_
      refine wl_yes rfl (congrArg Value.bool hg20) ?_
      refine wl_val (rn_fieldAddr f_97_1 (by decide) rfl) ?_
      refine wl_yes rfl (congrArg Value.bool hg20) ?_
      refine wl_val (rn_load p_3 rfl ((hs.ext hX (fun _ h => h)).at2 (map_at hi) rfl)) ?_
      refine wl_yes rfl (congrArg Value.bool hg20) ?_
      refine wl_val (rn_move rfl) ?_
      refine wl_yes rfl (congrArg Value.bool hg20) ?_
      refine wl_val (rn_eql rfl rfl) ?_
      refine wl_val (rn_pickT (congrArg Value.bool hg20)) ?_
      refine wl_val (rn_move rfl) ?_
      refine wl_split (d := 30) rfl (fun hg30 => ?_) (fun hg30 => ?_)
      · refine wl_yes rfl (congrArg Value.bool hg30) ?_
        refine wl_val (rn_move rfl) ?_
        refine wl_yes rfl (congrArg Value.bool hg30) ?_
        refine wl_val (rn_move rfl) ?_
        refine wl_yes rfl (congrArg Value.bool hg30) ?_
        refine wl_val (rn_indexAddr sl_22 rfl rfl (by omega)) ?_
        refine wl_yes rfl (congrArg Value.bool hg30) ?_
        refine wl_val (rn_fieldAddr f_102_3 (by decide) rfl) ?_
        refine wl_yes rfl (congrArg Value.bool hg30) ?_
        refine wl_val (rn_fieldAddr f_100_0 (by decide) rfl) ?_
        refine wl_yes rfl (congrArg Value.bool hg30) ?_
        refine wl_val (rn_load p_98 rfl ((hs.ext hX (fun _ h => h)).at2 (map_at hi) rfl)) ?_
        refine wl_yes rfl (congrArg Value.bool hg30) ?_
        refine wl_val (rn_eql rfl rfl) ?_
        refine wl_val (rn_pickT (congrArg Value.bool hg30)) ?_
        refine wl_nil ?_
        refine W_cond rfl (fun hc1 => ?_) (fun hc1 => ?_)
        · refine W_region ?_
          refine wl_val (rn_move rfl) ?_
          refine wl_val (rn_move rfl) ?_
          refine wl_val (rn_move rfl) ?_
          refine wl_val (rn_indexAddr sl_22 rfl rfl (by omega)) ?_
          refine wl_val (rn_fieldAddr f_102_3 (by decide) rfl) ?_
          refine wl_val (rn_fieldAddr f_100_3 (by decide) rfl) ?_
          refine wl_val (rn_loadS s_32 (vs := x.ans.msg.enc) rfl rfl ((hs.ext hX (fun _ h => h)).part2 (map_at hi) rfl (Nat.le_of_ble_eq_true rfl))) ?_
          have hpl : ((pol sub (cs.take i)).map MsgD.enc).length ≤ 1000 := by rw [List.length_map]; exact Nat.le_trans (pol_len _ _) (by rw [List.length_take]; omega)
          refine wl_lit1 (r := x.ans.msg.enc) sl_25 rfl rfl rfl rfl (by decide) ?_; intro v46 w1 b46 hb46 hE1 hO46
          replace hX := hX.tr hE1
          replace hO := hO.ext hE1 (fun _ _ h => h)
          have hXo := hX
          refine wl_app sl_25 rfl rfl rfl hO (hO46.sl (M := Non) id) (fun r hr => by simp only [List.mem_singleton] at hr; subst hr; exact MsgD.one _) (by simp only [List.length_cons, List.length_nil]; omega) (by simp only [List.length_cons, List.length_nil, big]; omega) ?_; intro v47 w2 o47 hE2 hO47 hf47
          replace hX := hX.mineO hE2 (fun i hi => .inr (ho i hi))
          refine wl_val (rn_assign rfl) ?_
          refine wl_nil ?_
          refine W_region ?_
          refine wl_val (rn_move rfl) ?_
          refine wl_val (rn_add rfl rfl (by omega)) ?_
          refine wl_val (rn_assign rfl) ?_
          refine wl_nil ?_
          have hp : isPoll sub x = true := by simp_all [isPoll]
          have hts := pol_yes (sub := sub) hi hp
          exact ⟨rfl, (i + 1, v47, o47), ⟨rfl, rfl, rfl, rfl, trivial⟩, ⟨hX, ⟨hlt, by rw [hts]; simpa using hO47, fun j hj => by rcases hf47 j hj with h | h; exact ho j h; exact Nat.le_trans hXo.size h⟩⟩, by show cs.length - (i + 1) < cs.length - i; omega⟩
        · refine W_skip ?_
          refine W_region ?_
          refine wl_val (rn_move rfl) ?_
          refine wl_val (rn_add rfl rfl (by omega)) ?_
          refine wl_val (rn_assign rfl) ?_
          refine wl_nil ?_
          have hp : ¬ isPoll sub x = true := by unfold isPoll; intro h; simp only [Bool.and_eq_true] at h; rcases h with ⟨h1, h2, h3⟩; simp_all
          have hts := pol_no (sub := sub) hi hp
          exact ⟨rfl, (i + 1, v, oo), ⟨rfl, rfl, rfl, rfl, trivial⟩, ⟨hX, ⟨hlt, by rw [hts]; exact hO, ho⟩⟩, by show cs.length - (i + 1) < cs.length - i; omega⟩
      · refine wl_no rfl (congrArg Value.bool hg30) ?_
        refine wl_no rfl (congrArg Value.bool hg30) ?_
        refine wl_no rfl (congrArg Value.bool hg30) ?_
        refine wl_no rfl (congrArg Value.bool hg30) ?_
        refine wl_no rfl (congrArg Value.bool hg30) ?_
        refine wl_no rfl (congrArg Value.bool hg30) ?_
        refine wl_no rfl (congrArg Value.bool hg30) ?_
        refine wl_val (rn_pickF (congrArg Value.bool hg30)) ?_
        refine wl_nil ?_
        refine W_condF rfl ?_
        refine W_skip ?_
        refine W_region ?_
        refine wl_val (rn_move rfl) ?_
        refine wl_val (rn_add rfl rfl (by omega)) ?_
        refine wl_val (rn_assign rfl) ?_
        refine wl_nil ?_
        have hp : ¬ isPoll sub x = true := by unfold isPoll; intro h; simp only [Bool.and_eq_true] at h; rcases h with ⟨h1, h2, h3⟩; simp_all
        have hts := pol_no (sub := sub) hi hp
        exact ⟨rfl, (i + 1, v, oo), ⟨rfl, rfl, rfl, rfl, trivial⟩, ⟨hX, ⟨hlt, by rw [hts]; exact hO, ho⟩⟩, by show cs.length - (i + 1) < cs.length - i; omega⟩
    · refine wl_no rfl (congrArg Value.bool hg20) ?_
      refine wl_no rfl (congrArg Value.bool hg20) ?_
      refine wl_no rfl (congrArg Value.bool hg20) ?_
      refine wl_no rfl (congrArg Value.bool hg20) ?_
      refine wl_no rfl (congrArg Value.bool hg20) ?_
      refine wl_no rfl (congrArg Value.bool hg20) ?_
      refine wl_no rfl (congrArg Value.bool hg20) ?_
      refine wl_no rfl (congrArg Value.bool hg20) ?_
      refine wl_val (rn_pickF (congrArg Value.bool hg20)) ?_
      refine wl_val (rn_move rfl) ?_
      refine wl_no rfl rfl ?_
      refine wl_no rfl rfl ?_
      refine wl_no rfl rfl ?_
      refine wl_no rfl rfl ?_
      refine wl_no rfl rfl ?_
      refine wl_no rfl rfl ?_
      refine wl_no rfl rfl ?_
      refine wl_val (rn_pickF rfl) ?_
      refine wl_nil ?_
      refine W_condF rfl ?_
      refine W_skip ?_
      refine W_region ?_
      refine wl_val (rn_move rfl) ?_
      refine wl_val (rn_add rfl rfl (by omega)) ?_
      refine wl_val (rn_assign rfl) ?_
      refine wl_nil ?_
      have hp : ¬ isPoll sub x = true := by unfold isPoll; intro h; simp only [Bool.and_eq_true] at h; rcases h with ⟨h1, h2, h3⟩; simp_all
      have hts := pol_no (sub := sub) hi hp
      exact ⟨rfl, (i + 1, v, oo), ⟨rfl, rfl, rfl, rfl, trivial⟩, ⟨hX, ⟨hlt, by rw [hts]; exact hO, ho⟩⟩, by show cs.length - (i + 1) < cs.length - i; omega⟩
  · refine W_exit ?_   -- exit 0
    refine W_seq ?_
    refine W_region ?_
    refine wl_val (rn_move rfl) ?_
    refine wl_val (rn_assign rfl) ?_
    refine wl_nil ?_
    refine W_ret ?_
    have hge := of_decide_eq_false hc0; simp only [Int.ofNat_lt, Nat.not_lt] at hge
    have hie : i = cs.length := by omega
    subst hie
    rw [List.take_length] at hO
    exact ⟨_, resR1 (res1_tmp rfl), hX, ⟨_, hO, ho⟩⟩
end Go.Proofs.YtfdfphaiefbflaaC
