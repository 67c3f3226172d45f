/- Layer 8: whether an order is one. -/
import Derived.Test.YthcclgoidchkdaaDoorLin6
set_option linter.unusedVariables false
set_option linter.unusedSimpArgs false
set_option maxRecDepth 100000
namespace Go.Proofs.YthcclgoidchkdaaDoorC
open Go.RowKit
/-- Is it an order of these calls? -/
def chkR (l : List CallD) (o : List Int) : Bool := decide (o.length = l.length) && chkF l (none0 l) st0 o
theorem chk_no {l : List CallD} {done : List Bool} {s : StD} {x : Int} {rest : List Int} (h : ¬ ∃ q : Nat, x = q ∧ q ∈ mini l done) : chkF l done s (x :: rest) = false := by
  cases hc : chkF l done s (x :: rest) with
  | false => rfl
  | true =>
    simp only [chkF, Bool.and_eq_true, decide_eq_true_eq] at hc
    exact absurd ⟨x.toNat, by omega, mem_mini.2 ⟨by omega, hc.2.2.1⟩⟩ h
theorem chk_ans {l : List CallD} {done : List Bool} {s : StD} {q : Nat} {rest : List Int} (h : stepB l s q = none) : chkF l done s ((q : Int) :: rest) = false := by
  simp only [chkF, Int.toNat_natCast, h]; simp
theorem chk_go {l : List CallD} {done : List Bool} {s s' : StD} {q : Nat} {rest : List Int} (hq : q ∈ mini l done) (h : stepB l s q = some s') : chkF l done s ((q : Int) :: rest) = chkF l (done.set q true) s' rest := by
  obtain ⟨h1, h2⟩ := mem_mini.1 hq
  simp only [chkF, Int.toNat_natCast, h, h2]
  have e1 : decide ((0 : Int) ≤ (q : Int)) = true := decide_eq_true (by omega)
  have e2 : decide ((q : Int) < (l.length : Int)) = true := decide_eq_true (by omega)
  rw [e1, e2]; simp
theorem drop_at {α : Type} {l : List α} {k : Nat} {x : α} (h : l[k]? = some x) : l.drop k = x :: l.drop (k + 1) := by
  obtain ⟨h1, h2⟩ := List.getElem?_eq_some_iff.1 h
  rw [List.drop_eq_getElem_cons h1, h2]
theorem none0_eBo (l : List CallD) : List.replicate l.length [Value.bool false] = (none0 l).map eBo := by simp [none0, eBo]
theorem all_succ {p : Nat → Bool} {j : Nat} (h : (List.range j).all p = true) (hp : p j = true) : (List.range (j + 1)).all p = true := by rw [List.range_succ, List.all_append, h]; simp [hp]
theorem not_free {l : List CallD} {done : List Bool} {q j : Nat} {x y : CallD} (hj : l[j]? = some y) (hi : l[q]? = some x) (h1 : seen done j = false) (h2 : ¬ j = q) (h3 : y.to_ < x.from_) : ¬ q ∈ mini l done := fun h => by
  have hf := (mem_mini.1 h).2
  unfold freeB at hf
  rw [Bool.and_eq_true, List.all_eq_true] at hf
  have := hf.2 j (List.mem_range.2 (List.getElem?_eq_some_iff.1 hj).1)
  unfold clearB aheadB at this
  rw [hj, hi, h1] at this
  simp [h2] at this; omega
-- bellman/lin.Check[bellman/bellmanref08.State]
set_option maxHeartbeats 4000000 in
theorem check_ok (w : World) (l : List CallD) (o : List Int) {vl vo : Value} (hs : Sl Non w vl 15 (l.map CallD.enc)) (ho : Sl Non w vo 1 (o.map eI1)) (hn : l.length ≤ 1000) : Fn Tryd.prog 19 #[.agg mcells.toArray, vl, vo] w fun u w' => u = .bool (chkR l o) := by
  obtain ⟨al, cl, rfl, _⟩ := hs.len; obtain ⟨ao, co, rfl, _⟩ := ho.len
  simp only [List.length_map] at hs ho ⊢
  have hbig2 : big = 9223372036854775807 := rfl
  have hX := Ext.refl Non w
  refine fn_of_W (args := [_, _, _]) Tryd.func19 rfl (by kernel_rfl) rfl ?_
  refine W_seq ?_
  refine W_region ?_
  refine wl_boxS rfl ?_; intro b3 w1 hb3 hE1 hB3
  have hq3 : w.heap.size ≤ b3 := Nat.le_trans hX.size hb3
  have hl3 : Mine Non w b3 := .inr hq3
  replace hX := hX.tr hE1
  refine wl_val (rn_assign (by conv => lhs; whnf)) ?_
  refine wl_nil ?_
  refine W_seq ?_
  refine W_seq ?_
  refine W_region ?_
  refine wl_val (rn_fieldAddr f_44_1 (by decide) rfl) ?_
  refine wl_val (rn_load1 p_36 rfl hB3 rfl) ?_
  refine wl_val (rn_func_eql uf_36 rfl rfl) ?_
  refine wl_val (rn_move (by conv => lhs; whnf)) ?_
  refine wl_yes rfl rfl ?_
  refine wl_val (rn_move (by conv => lhs; whnf)) ?_
  refine wl_yes rfl rfl ?_
  refine wl_val (rn_len sl_39 rfl) ?_
  refine wl_yes rfl rfl ?_
  refine wl_val (rn_move (by conv => lhs; whnf)) ?_
  refine wl_yes rfl rfl ?_
  refine wl_val (rn_len sl_25 rfl) ?_
  refine wl_yes rfl rfl ?_
  refine wl_val (rn_neq rfl rfl) ?_
  refine wl_val (rn_pickF rfl (by conv => lhs; whnf)) ?_
  refine wl_nil ?_
  refine W_cond rfl (fun hc0 => ?_) (fun hc0 => ?_)
  · have hol : ¬ o.length = l.length := by have := of_decide_eq_true hc0; simp only [ne_eq, Int.natCast_inj] at this; exact this
    refine W_seq ?_
    refine W_region ?_
    refine wl_val (rn_assign (by conv => lhs; whnf)) ?_
    refine wl_nil ?_
    refine W_ret ?_
    exact ⟨_, resR1 (res1_tmp rfl), hX, by unfold chkR; rw [decide_eq_false hol]; rfl⟩
  · have hol : o.length = l.length := by have := of_decide_eq_false hc0; simp only [ne_eq, Int.natCast_inj, Classical.not_not] at this; exact this
    refine W_skip ?_
    refine W_seq ?_
    refine W_region ?_
    refine wl_val (rn_fieldAddr f_44_0 (by decide) rfl) ?_
    refine wl_val (rn_loadS s_27 (vs := st0.enc) rfl rfl (hB3.part rfl (Nat.le_of_ble_eq_true rfl))) ?_
    refine wl_alloc z_27 ?_; intro b7 w2 hb7 hE2 hB7
    have hn3_7 : b3 < b7 := Nat.lt_of_lt_of_le hB3.lt hb7
    have hq7 : w.heap.size ≤ b7 := Nat.le_trans hX.size hb7
    have hl7 : Mine Non w b7 := .inr hq7
    replace hX := hX.tr hE2
    replace hB3 := hB3.ext hE2 id
    refine wl_storeB s_27 rfl rfl rfl (StD.one _) hB7 rfl ?_; intro w3 hE3 hB7 hz3
    replace hX := hX.mine hE3 hl7
    replace hB3 := hB3.ext hE3 (fun h => by omega)
    refine wl_nil ?_
    refine W_seq ?_
    refine W_region ?_
    refine wl_val (rn_move (by conv => lhs; whnf)) ?_
    refine wl_val (rn_len sl_25 rfl) ?_
    refine wl_make sl_117 rfl rfl rfl (by omega) (by omega) ?_; intro w4 bd hbd hE4 hDn
    have hyd : w.heap.size ≤ bd := Nat.le_trans hX.size hbd; have hzd := hDn.box.lt
    rw [none0_eBo] at hDn
    have hn3_d : b3 < bd := Nat.lt_of_lt_of_le hB3.lt hbd
    have hn7_d : b7 < bd := Nat.lt_of_lt_of_le hB7.lt hbd
    
    replace hX := hX.tr hE4
    replace hB3 := hB3.ext hE4 id; replace hB7 := hB7.ext hE4 id
    refine wl_val (rn_assign (by conv => lhs; whnf)) ?_
    refine wl_nil ?_
    refine W_seq ?_
    refine W_seq ?_
    refine W_region ?_
    refine wl_val (rn_move (by conv => lhs; whnf)) ?_
    refine wl_val (rn_len sl_39 rfl) ?_
    refine wl_val (rn_move (by conv => lhs; whnf)) ?_
    refine wl_nil ?_
    refine W_block ?_   -- block 0
    refine W_loopS (S := Nat × List Bool × StD) [1, 3, 7, 8, 28, 29, 30] (fun ⟨k, done, s⟩ => [.slice al l.length cl, .pointer (some ⟨b3, 0, none⟩), .pointer (some ⟨b7, 0, none⟩), .slice (some ⟨bd, 0, none⟩) l.length l.length, .slice ao o.length co, .int .i64 (o.length : Nat), .int .i64 (k : Nat)]) (fun ⟨k, done, s⟩ A => (Ext Non w A) ∧ (IsBox A b3 mcells) ∧ (IsBox A b7 s.enc) ∧ (Mine Non w b3) ∧ (Mine Non w b7) ∧ (b3 < b7) ∧ (k ≤ o.length ∧ done.length = l.length ∧ Ow A (.slice (some ⟨bd, 0, none⟩) l.length l.length) bd 1 (done.map eBo) [] ∧ chkF l (none0 l) st0 o = chkF l done s (o.drop k) ∧ -(99 * k : Int) ≤ s.n ∧ s.n ≤ 99 * k)) (fun ⟨k, done, s⟩ => o.length - k) (0, none0 l, st0) ⟨rfl, rfl, rfl, rfl, rfl, rfl, rfl, trivial⟩ ⟨hX, hB3, hB7, hl3, hl7, hn3_7, ⟨Nat.zero_le _, by simp [none0], hDn, rfl, by decide, by decide⟩⟩ ?_
    rintro τ0 ⟨k, done, s⟩ A0 ⟨hX, hB3, hB7, hl3, hl7, hn3_7, hI0⟩
    obtain ⟨hI, hdl, hDn, hchk, hb1, hb2⟩ := hI0
    have hzd := hDn.box.lt
    have hzA : A0.heap.size ≤ A0.heap.size := Nat.le_refl _
    refine W_seq ?_
    refine W_region ?_
    refine wl_val (rn_lss rfl rfl) ?_
    refine wl_nil ?_
    refine W_seq ?_
    refine W_cond rfl (fun hc1 => ?_) (fun hc1 => ?_)
    · have hlt := of_decide_eq_true hc1; simp only [Int.ofNat_lt] at hlt
      obtain ⟨x, hi⟩ : ∃ x, o[k]? = some x := ⟨_, List.getElem?_eq_getElem hlt⟩
      obtain ⟨bbo, ooo, eao⟩ := ho.base (by intro e; have := congrArg List.length e; simp only [List.length_map, List.length_nil] at this; omega); subst eao
      rw [drop_at hi] at hchk
      refine W_skip ?_
      refine W_seq ?_
      refine W_block ?_   -- block 1
      refine W_seq ?_
      refine W_region ?_
      refine wl_val (rn_indexAddr sl_39 rfl rfl (by omega)) ?_
      refine wl_val (rn_load p_3 rfl ((ho.ext hX (fun _ h => h)).at0 (eI_at hi) rfl)) ?_
      refine wl_val (rn_assign (by conv => lhs; whnf)) ?_
      refine wl_nil ?_
      refine W_seq ?_
      refine W_seq ?_
      refine W_region ?_
      refine wl_val (rn_move (by conv => lhs; whnf)) ?_
      refine wl_val (rn_move (by conv => lhs; whnf)) ?_
      refine wl_call e_70 rfl (mini_ok A0 l done (hs.ext hX (fun _ h => h)) (hDn.sl (M := Non) id) (by omega)) ?_; intro v36 w5 hE5 hR5
      replace hX := hX.tr hE5
      replace hB3 := hB3.ext hE5 id; replace hB7 := hB7.ext hE5 id
      replace hDn := hDn.ext hE5 id
      replace hzA := Nat.le_trans hzA hE5.size
      obtain ⟨om, hOm, hom⟩ := hR5
      obtain ⟨am, cm, hvm⟩ := id hOm.len; subst hvm; simp only [List.length_map] at hOm ⊢
      refine wl_val (rn_move (by conv => lhs; whnf)) ?_
      refine wl_call e_69 rfl (containsN_ok w5 (mini l done) x (hOm.sl (M := Non) (fun _ _ h => h))) ?_; intro v38 w6 hE6 hR6
      replace hX := hX.tr hE6
      replace hB3 := hB3.ext hE6 id; replace hB7 := hB7.ext hE6 id
      replace hDn := hDn.ext hE6 id
      replace hzA := Nat.le_trans hzA hE6.size
      obtain ⟨bc, rfl, hbc⟩ := hR6
      refine wl_val (rn_not rfl) ?_
      refine wl_nil ?_
      refine W_cond rfl (fun hc2 => ?_) (fun hc2 => ?_)
      · have hf : bc = false := by simpa using hc2
        refine W_seq ?_
        refine W_region ?_
        refine wl_val (rn_assign (by conv => lhs; whnf)) ?_
        refine wl_nil ?_
        refine W_ret ?_
        exact ⟨_, resR1 (res1_tmp rfl), hX, by unfold chkR; rw [decide_eq_true hol, hchk, chk_no (fun h => by rw [hbc.2 h] at hf; cases hf)]; rfl⟩
      · have hf : bc = true := by simpa using hc2
        obtain ⟨q, hxq, hq⟩ := hbc.1 hf
        subst hxq
        obtain ⟨c, hcq⟩ : ∃ c, l[q]? = some c := ⟨_, List.getElem?_eq_getElem (mini_lt hq)⟩
        have hql := mini_lt hq
        obtain ⟨bbl, ool, eal⟩ := hs.base (by intro e; have := congrArg List.length e; simp only [List.length_map, List.length_nil] at this; omega); subst eal
        have hbd2 := doS_bound s c.op (k := 99 * k) ⟨hb1, hb2⟩
        refine W_skip ?_
        refine W_cut (T := Unit × Nat × Nat) [1, 3, 7, 8, 10, 11, 12, 28, 29, 30] (fun ⟨_, b11, b12⟩ => [.slice (some ⟨bbl, ool, none⟩) l.length cl, .pointer (some ⟨b3, 0, none⟩), .pointer (some ⟨b7, 0, none⟩), .slice (some ⟨bd, 0, none⟩) l.length l.length, .int .i64 (q : Nat), .pointer (some ⟨b11, 0, none⟩), .pointer (some ⟨b12, 0, none⟩), .slice (some ⟨bbo, ooo, none⟩) o.length co, .int .i64 (o.length : Nat), .int .i64 (k : Nat)]) (fun ⟨_, b11, b12⟩ A => (Ext Non w A) ∧ (IsBox A b3 mcells) ∧ (IsBox A b7 s.enc) ∧ (IsBox A b11 (doS s c.op).1.enc) ∧ (IsBox A b12 (doS s c.op).2.enc) ∧ (Mine Non w b3) ∧ (Mine Non w b7) ∧ (Mine Non w b11) ∧ (Mine Non w b12) ∧ (b3 < b7) ∧ (b7 < b11) ∧ (b7 < b12) ∧ (Ow A (.slice (some ⟨bd, 0, none⟩) l.length l.length) bd 1 (done.map eBo) [] ∧ A0.heap.size ≤ b11 ∧ A0.heap.size ≤ b12)) ?_ ?_
        · refine W_drawX (fun j => false) mixed ?_; intro w7 hE7
          replace hX := hX.tr hE7
          replace hB3 := hB3.ext hE7 id; replace hB7 := hB7.ext hE7 id
          replace hDn := hDn.ext hE7 id
          replace hzA := Nat.le_trans hzA hE7.size
          have hS := Ext.refl Non w7
          have hzS := hzA
          refine wx_take 0 [1, 8, 9, 10, 11, 14, 15] _ _ rfl (by kernel_rfl) hS (yd_do fun A hA => rn_fieldAddr f_44_1 (by decide) rfl) ?_
          refine wx_take 1 [8, 9, 10, 11, 14, 15] _ _ rfl (by kernel_rfl) hS (yd_do fun A hA => rn_load1 p_36 rfl (hB3.ext hA id) rfl) ?_
          refine wx_take 2 [8, 9, 10, 11, 14, 15] _ _ rfl (by kernel_rfl) hS (yd_do fun A hA => rn_loadB s_27 rfl rfl (hB7.ext hA id)) ?_
          refine wx_take 3 [5, 6, 7, 8, 9, 10, 11, 14, 15] _ _ rfl (by kernel_rfl) hS (yd_do fun A hA => rn_move (by conv => lhs; whnf)) ?_
          refine wx_take 4 [5, 6, 7, 8, 9, 10, 11, 14, 15] _ _ rfl (by kernel_rfl) hS (yd_do fun A hA => rn_move (by conv => lhs; whnf)) ?_
          refine wx_take 5 [6, 7, 8, 9, 10, 11, 14, 15] _ _ rfl (by kernel_rfl) hS (yd_do fun A hA => rn_indexAddr sl_25 rfl rfl (by omega)) ?_
          refine wx_take 6 [7, 8, 9, 10, 11, 14, 15] _ _ rfl (by kernel_rfl) hS (yd_do fun A hA => rn_fieldAddr f_38_2 (by decide) rfl) ?_
          refine wx_take 7 [8, 9, 10, 11, 14, 15] _ _ rfl (by kernel_rfl) hS (yd_do fun A hA => rn_loadS s_29 (vs := c.op.enc) rfl rfl (((hs.ext hX (fun _ h => h)).ext hA (fun _ h => h.elim)).part1 (map_at hcq) rfl (Nat.le_of_ble_eq_true rfl))) ?_
          refine wx_three 8 12 13 _ _ _ rfl rfl rfl (by kernel_rfl) ?_ ?_ ?_
          · refine s1_do ?_
            refine wl_callF (M := Non) rfl e_66 rfl (machine1_ok w7 s c.op (by omega)) ?_; intro v49 w8 hE8 hR8; subst hR8
            replace hS := hS.tr hE8
            refine wl_nil ⟨fun _ => hS, ?_⟩
            refine wx_take 9 [10, 11, 14, 15] _ _ rfl (by kernel_rfl) hS (yd_do fun A hA => rn_move (by conv => lhs; whnf)) ?_
            refine wx_take 10 [14, 15] _ _ rfl (by kernel_rfl) hS (yd_do fun A hA => rn_extract rfl rfl) ?_
            refine wx_take 11 [15] _ _ rfl (by kernel_rfl) hS (yd_do fun A hA => rn_extract rfl rfl) ?_
            refine wx_two 12 13 _ _ rfl rfl (by kernel_rfl) ?_ ?_
            · refine s1_do ?_
              refine wl_alloc z_27 ?_; intro b11 w9 hb11 hE9 hB11
              have hn3_11 : b3 < b11 := Nat.lt_of_lt_of_le (Nat.lt_of_lt_of_le hB3.lt hS.size) hb11
              have hn7_11 : b7 < b11 := Nat.lt_of_lt_of_le (Nat.lt_of_lt_of_le hB7.lt hS.size) hb11
              have hq11 : w.heap.size ≤ b11 := Nat.le_trans (hX.tr hS).size hb11
              have hl11 : Mine Non w b11 := .inr hq11
              have hm11 : w7.heap.size ≤ b11 := Nat.le_trans hS.size hb11
              replace hS := hS.tr hE9
              refine wl_nil ⟨fun _ => hS, ?_⟩
              refine wx_only 13 _ rfl (by kernel_rfl) ?_
              refine s1_do ?_
              refine wl_alloc z_34 ?_; intro b12 w10 hb12 hE10 hB12
              have hn3_12 : b3 < b12 := Nat.lt_of_lt_of_le (Nat.lt_of_lt_of_le hB3.lt hS.size) hb12
              have hn7_12 : b7 < b12 := Nat.lt_of_lt_of_le (Nat.lt_of_lt_of_le hB7.lt hS.size) hb12
              have hn11_12 : b11 < b12 := Nat.lt_of_lt_of_le hB11.lt hb12
              have hq12 : w.heap.size ≤ b12 := Nat.le_trans (hX.tr hS).size hb12
              have hl12 : Mine Non w b12 := .inr hq12
              have hm12 : w7.heap.size ≤ b12 := Nat.le_trans hS.size hb12
              replace hB11 := hB11.ext hE10 id
              replace hS := hS.tr hE10
              refine wl_nil ⟨fun _ => hS, ?_⟩
              refine wx_only 14 _ rfl (by kernel_rfl) ?_
              refine s1_do ?_
              refine wl_storeB s_27 rfl rfl rfl (StD.one _) hB11 rfl ?_; intro w11 hE11 hB11 hz11
              replace hB12 := hB12.ext hE11 (fun h => by omega)
              replace hS := hS.mine hE11 (.inr (by omega))
              refine wl_nil ⟨fun _ => hS, ?_⟩
              refine wx_only 15 _ rfl (by kernel_rfl) ?_
              refine s1_do ?_
              refine wl_storeB s_34 rfl rfl rfl (AnsD.one _) hB12 rfl ?_; intro w12 hE12 hB12 hz12
              replace hB11 := hB11.ext hE12 (fun h => by omega)
              replace hS := hS.mine hE12 (.inr (by omega))
              refine wl_nil ⟨fun _ => hS, ?_⟩
              refine wx_done (by kernel_rfl) ?_ _
              replace hX := hX.tr hS
              replace hB3 := hB3.ext hS id; replace hB7 := hB7.ext hS id
              replace hDn := hDn.ext hS id
              replace hzA := Nat.le_trans hzA hS.size
              have hy11 := Nat.le_trans hzS hm11; have hy12 := Nat.le_trans hzS hm12
              exact ⟨rfl, ((), b11, b12), ⟨rfl, rfl, rfl, rfl, rfl, rfl, rfl, rfl, rfl, rfl, trivial⟩, ⟨hX, hB3, hB7, hB11, hB12, hl3, hl7, hl11, hl12, hn3_7, hn7_11, hn7_12, ⟨hDn, hy11, hy12⟩⟩⟩
            · refine s1_do ?_
              refine wl_alloc z_34 ?_; intro b12 w13 hb12 hE13 hB12
              have hn3_12 : b3 < b12 := Nat.lt_of_lt_of_le (Nat.lt_of_lt_of_le hB3.lt hS.size) hb12
              have hn7_12 : b7 < b12 := Nat.lt_of_lt_of_le (Nat.lt_of_lt_of_le hB7.lt hS.size) hb12
              have hq12 : w.heap.size ≤ b12 := Nat.le_trans (hX.tr hS).size hb12
              have hl12 : Mine Non w b12 := .inr hq12
              have hm12 : w7.heap.size ≤ b12 := Nat.le_trans hS.size hb12
              replace hS := hS.tr hE13
              refine wl_nil ⟨fun _ => hS, ?_⟩
              refine wx_only 12 _ rfl (by kernel_rfl) ?_
              refine s1_do ?_
              refine wl_alloc z_27 ?_; intro b11 w14 hb11 hE14 hB11
              have hn3_11 : b3 < b11 := Nat.lt_of_lt_of_le (Nat.lt_of_lt_of_le hB3.lt hS.size) hb11
              have hn7_11 : b7 < b11 := Nat.lt_of_lt_of_le (Nat.lt_of_lt_of_le hB7.lt hS.size) hb11
              have hn12_11 : b12 < b11 := Nat.lt_of_lt_of_le hB12.lt hb11
              have hq11 : w.heap.size ≤ b11 := Nat.le_trans (hX.tr hS).size hb11
              have hl11 : Mine Non w b11 := .inr hq11
              have hm11 : w7.heap.size ≤ b11 := Nat.le_trans hS.size hb11
              replace hB12 := hB12.ext hE14 id
              replace hS := hS.tr hE14
              refine wl_nil ⟨fun _ => hS, ?_⟩
              refine wx_only 14 _ rfl (by kernel_rfl) ?_
              refine s1_do ?_
              refine wl_storeB s_27 rfl rfl rfl (StD.one _) hB11 rfl ?_; intro w15 hE15 hB11 hz15
              replace hB12 := hB12.ext hE15 (fun h => by omega)
              replace hS := hS.mine hE15 (.inr (by omega))
              refine wl_nil ⟨fun _ => hS, ?_⟩
              refine wx_only 15 _ rfl (by kernel_rfl) ?_
              refine s1_do ?_
              refine wl_storeB s_34 rfl rfl rfl (AnsD.one _) hB12 rfl ?_; intro w16 hE16 hB12 hz16
              replace hB11 := hB11.ext hE16 (fun h => by omega)
              replace hS := hS.mine hE16 (.inr (by omega))
              refine wl_nil ⟨fun _ => hS, ?_⟩
              refine wx_done (by kernel_rfl) ?_ _
              replace hX := hX.tr hS
              replace hB3 := hB3.ext hS id; replace hB7 := hB7.ext hS id
              replace hDn := hDn.ext hS id
              replace hzA := Nat.le_trans hzA hS.size
              have hy11 := Nat.le_trans hzS hm11; have hy12 := Nat.le_trans hzS hm12
              exact ⟨rfl, ((), b11, b12), ⟨rfl, rfl, rfl, rfl, rfl, rfl, rfl, rfl, rfl, rfl, trivial⟩, ⟨hX, hB3, hB7, hB11, hB12, hl3, hl7, hl11, hl12, hn3_7, hn7_11, hn7_12, ⟨hDn, hy11, hy12⟩⟩⟩
          · refine s1_do ?_
            refine wl_alloc z_27 ?_; intro b11 w17 hb11 hE17 hB11
            have hn3_11 : b3 < b11 := Nat.lt_of_lt_of_le (Nat.lt_of_lt_of_le hB3.lt hS.size) hb11
            have hn7_11 : b7 < b11 := Nat.lt_of_lt_of_le (Nat.lt_of_lt_of_le hB7.lt hS.size) hb11
            have hq11 : w.heap.size ≤ b11 := Nat.le_trans (hX.tr hS).size hb11
            have hl11 : Mine Non w b11 := .inr hq11
            have hm11 : w7.heap.size ≤ b11 := Nat.le_trans hS.size hb11
            replace hS := hS.tr hE17
            refine wl_nil ⟨fun _ => hS, ?_⟩
            refine wx_two 8 13 _ _ rfl rfl (by kernel_rfl) ?_ ?_
            · refine s1_do ?_
              refine wl_callF (M := Non) rfl e_66 rfl (machine1_ok w17 s c.op (by omega)) ?_; intro v49 w18 hE18 hR18; subst hR18
              replace hB11 := hB11.ext hE18 id
              replace hS := hS.tr hE18
              refine wl_nil ⟨fun _ => hS, ?_⟩
              refine wx_take 9 [10, 11, 14, 15] _ _ rfl (by kernel_rfl) hS (yd_do fun A hA => rn_move (by conv => lhs; whnf)) ?_
              refine wx_take 10 [14, 15] _ _ rfl (by kernel_rfl) hS (yd_do fun A hA => rn_extract rfl rfl) ?_
              refine wx_take 11 [15] _ _ rfl (by kernel_rfl) hS (yd_do fun A hA => rn_extract rfl rfl) ?_
              refine wx_only 13 _ rfl (by kernel_rfl) ?_
              refine s1_do ?_
              refine wl_alloc z_34 ?_; intro b12 w19 hb12 hE19 hB12
              have hn3_12 : b3 < b12 := Nat.lt_of_lt_of_le (Nat.lt_of_lt_of_le hB3.lt hS.size) hb12
              have hn7_12 : b7 < b12 := Nat.lt_of_lt_of_le (Nat.lt_of_lt_of_le hB7.lt hS.size) hb12
              have hn11_12 : b11 < b12 := Nat.lt_of_lt_of_le hB11.lt hb12
              have hq12 : w.heap.size ≤ b12 := Nat.le_trans (hX.tr hS).size hb12
              have hl12 : Mine Non w b12 := .inr hq12
              have hm12 : w7.heap.size ≤ b12 := Nat.le_trans hS.size hb12
              replace hB11 := hB11.ext hE19 id
              replace hS := hS.tr hE19
              refine wl_nil ⟨fun _ => hS, ?_⟩
              refine wx_only 14 _ rfl (by kernel_rfl) ?_
              refine s1_do ?_
              refine wl_storeB s_27 rfl rfl rfl (StD.one _) hB11 rfl ?_; intro w20 hE20 hB11 hz20
              replace hB12 := hB12.ext hE20 (fun h => by omega)
              replace hS := hS.mine hE20 (.inr (by omega))
              refine wl_nil ⟨fun _ => hS, ?_⟩
              refine wx_only 15 _ rfl (by kernel_rfl) ?_
              refine s1_do ?_
              refine wl_storeB s_34 rfl rfl rfl (AnsD.one _) hB12 rfl ?_; intro w21 hE21 hB12 hz21
              replace hB11 := hB11.ext hE21 (fun h => by omega)
              replace hS := hS.mine hE21 (.inr (by omega))
              refine wl_nil ⟨fun _ => hS, ?_⟩
              refine wx_done (by kernel_rfl) ?_ _
              replace hX := hX.tr hS
              replace hB3 := hB3.ext hS id; replace hB7 := hB7.ext hS id
              replace hDn := hDn.ext hS id
              replace hzA := Nat.le_trans hzA hS.size
              have hy11 := Nat.le_trans hzS hm11; have hy12 := Nat.le_trans hzS hm12
              exact ⟨rfl, ((), b11, b12), ⟨rfl, rfl, rfl, rfl, rfl, rfl, rfl, rfl, rfl, rfl, trivial⟩, ⟨hX, hB3, hB7, hB11, hB12, hl3, hl7, hl11, hl12, hn3_7, hn7_11, hn7_12, ⟨hDn, hy11, hy12⟩⟩⟩
            · refine s1_do ?_
              refine wl_alloc z_34 ?_; intro b12 w22 hb12 hE22 hB12
              have hn3_12 : b3 < b12 := Nat.lt_of_lt_of_le (Nat.lt_of_lt_of_le hB3.lt hS.size) hb12
              have hn7_12 : b7 < b12 := Nat.lt_of_lt_of_le (Nat.lt_of_lt_of_le hB7.lt hS.size) hb12
              have hn11_12 : b11 < b12 := Nat.lt_of_lt_of_le hB11.lt hb12
              have hq12 : w.heap.size ≤ b12 := Nat.le_trans (hX.tr hS).size hb12
              have hl12 : Mine Non w b12 := .inr hq12
              have hm12 : w7.heap.size ≤ b12 := Nat.le_trans hS.size hb12
              replace hB11 := hB11.ext hE22 id
              replace hS := hS.tr hE22
              refine wl_nil ⟨fun _ => hS, ?_⟩
              refine wx_only 8 _ rfl (by kernel_rfl) ?_
              refine s1_do ?_
              refine wl_callF (M := Non) rfl e_66 rfl (machine1_ok w22 s c.op (by omega)) ?_; intro v49 w23 hE23 hR23; subst hR23
              replace hB11 := hB11.ext hE23 id
              replace hB12 := hB12.ext hE23 id
              replace hS := hS.tr hE23
              refine wl_nil ⟨fun _ => hS, ?_⟩
              refine wx_take 9 [10, 11, 14, 15] _ _ rfl (by kernel_rfl) hS (yd_do fun A hA => rn_move (by conv => lhs; whnf)) ?_
              refine wx_take 10 [14, 15] _ _ rfl (by kernel_rfl) hS (yd_do fun A hA => rn_extract rfl rfl) ?_
              refine wx_take 11 [15] _ _ rfl (by kernel_rfl) hS (yd_do fun A hA => rn_extract rfl rfl) ?_
              refine wx_only 14 _ rfl (by kernel_rfl) ?_
              refine s1_do ?_
              refine wl_storeB s_27 rfl rfl rfl (StD.one _) hB11 rfl ?_; intro w24 hE24 hB11 hz24
              replace hB12 := hB12.ext hE24 (fun h => by omega)
              replace hS := hS.mine hE24 (.inr (by omega))
              refine wl_nil ⟨fun _ => hS, ?_⟩
              refine wx_only 15 _ rfl (by kernel_rfl) ?_
              refine s1_do ?_
              refine wl_storeB s_34 rfl rfl rfl (AnsD.one _) hB12 rfl ?_; intro w25 hE25 hB12 hz25
              replace hB11 := hB11.ext hE25 (fun h => by omega)
              replace hS := hS.mine hE25 (.inr (by omega))
              refine wl_nil ⟨fun _ => hS, ?_⟩
              refine wx_done (by kernel_rfl) ?_ _
              replace hX := hX.tr hS
              replace hB3 := hB3.ext hS id; replace hB7 := hB7.ext hS id
              replace hDn := hDn.ext hS id
              replace hzA := Nat.le_trans hzA hS.size
              have hy11 := Nat.le_trans hzS hm11; have hy12 := Nat.le_trans hzS hm12
              exact ⟨rfl, ((), b11, b12), ⟨rfl, rfl, rfl, rfl, rfl, rfl, rfl, rfl, rfl, rfl, trivial⟩, ⟨hX, hB3, hB7, hB11, hB12, hl3, hl7, hl11, hl12, hn3_7, hn7_11, hn7_12, ⟨hDn, hy11, hy12⟩⟩⟩
          · refine s1_do ?_
            refine wl_alloc z_34 ?_; intro b12 w26 hb12 hE26 hB12
            have hn3_12 : b3 < b12 := Nat.lt_of_lt_of_le (Nat.lt_of_lt_of_le hB3.lt hS.size) hb12
            have hn7_12 : b7 < b12 := Nat.lt_of_lt_of_le (Nat.lt_of_lt_of_le hB7.lt hS.size) hb12
            have hq12 : w.heap.size ≤ b12 := Nat.le_trans (hX.tr hS).size hb12
            have hl12 : Mine Non w b12 := .inr hq12
            have hm12 : w7.heap.size ≤ b12 := Nat.le_trans hS.size hb12
            replace hS := hS.tr hE26
            refine wl_nil ⟨fun _ => hS, ?_⟩
            refine wx_two 8 12 _ _ rfl rfl (by kernel_rfl) ?_ ?_
            · refine s1_do ?_
              refine wl_callF (M := Non) rfl e_66 rfl (machine1_ok w26 s c.op (by omega)) ?_; intro v49 w27 hE27 hR27; subst hR27
              replace hB12 := hB12.ext hE27 id
              replace hS := hS.tr hE27
              refine wl_nil ⟨fun _ => hS, ?_⟩
              refine wx_take 9 [10, 11, 14, 15] _ _ rfl (by kernel_rfl) hS (yd_do fun A hA => rn_move (by conv => lhs; whnf)) ?_
              refine wx_take 10 [14, 15] _ _ rfl (by kernel_rfl) hS (yd_do fun A hA => rn_extract rfl rfl) ?_
              refine wx_take 11 [15] _ _ rfl (by kernel_rfl) hS (yd_do fun A hA => rn_extract rfl rfl) ?_
              refine wx_only 12 _ rfl (by kernel_rfl) ?_
              refine s1_do ?_
              refine wl_alloc z_27 ?_; intro b11 w28 hb11 hE28 hB11
              have hn3_11 : b3 < b11 := Nat.lt_of_lt_of_le (Nat.lt_of_lt_of_le hB3.lt hS.size) hb11
              have hn7_11 : b7 < b11 := Nat.lt_of_lt_of_le (Nat.lt_of_lt_of_le hB7.lt hS.size) hb11
              have hn12_11 : b12 < b11 := Nat.lt_of_lt_of_le hB12.lt hb11
              have hq11 : w.heap.size ≤ b11 := Nat.le_trans (hX.tr hS).size hb11
              have hl11 : Mine Non w b11 := .inr hq11
              have hm11 : w7.heap.size ≤ b11 := Nat.le_trans hS.size hb11
              replace hB12 := hB12.ext hE28 id
              replace hS := hS.tr hE28
              refine wl_nil ⟨fun _ => hS, ?_⟩
              refine wx_only 14 _ rfl (by kernel_rfl) ?_
              refine s1_do ?_
              refine wl_storeB s_27 rfl rfl rfl (StD.one _) hB11 rfl ?_; intro w29 hE29 hB11 hz29
              replace hB12 := hB12.ext hE29 (fun h => by omega)
              replace hS := hS.mine hE29 (.inr (by omega))
              refine wl_nil ⟨fun _ => hS, ?_⟩
              refine wx_only 15 _ rfl (by kernel_rfl) ?_
              refine s1_do ?_
              refine wl_storeB s_34 rfl rfl rfl (AnsD.one _) hB12 rfl ?_; intro w30 hE30 hB12 hz30
              replace hB11 := hB11.ext hE30 (fun h => by omega)
              replace hS := hS.mine hE30 (.inr (by omega))
              refine wl_nil ⟨fun _ => hS, ?_⟩
              refine wx_done (by kernel_rfl) ?_ _
              replace hX := hX.tr hS
              replace hB3 := hB3.ext hS id; replace hB7 := hB7.ext hS id
              replace hDn := hDn.ext hS id
              replace hzA := Nat.le_trans hzA hS.size
              have hy11 := Nat.le_trans hzS hm11; have hy12 := Nat.le_trans hzS hm12
              exact ⟨rfl, ((), b11, b12), ⟨rfl, rfl, rfl, rfl, rfl, rfl, rfl, rfl, rfl, rfl, trivial⟩, ⟨hX, hB3, hB7, hB11, hB12, hl3, hl7, hl11, hl12, hn3_7, hn7_11, hn7_12, ⟨hDn, hy11, hy12⟩⟩⟩
            · refine s1_do ?_
              refine wl_alloc z_27 ?_; intro b11 w31 hb11 hE31 hB11
              have hn3_11 : b3 < b11 := Nat.lt_of_lt_of_le (Nat.lt_of_lt_of_le hB3.lt hS.size) hb11
              have hn7_11 : b7 < b11 := Nat.lt_of_lt_of_le (Nat.lt_of_lt_of_le hB7.lt hS.size) hb11
              have hn12_11 : b12 < b11 := Nat.lt_of_lt_of_le hB12.lt hb11
              have hq11 : w.heap.size ≤ b11 := Nat.le_trans (hX.tr hS).size hb11
              have hl11 : Mine Non w b11 := .inr hq11
              have hm11 : w7.heap.size ≤ b11 := Nat.le_trans hS.size hb11
              replace hB12 := hB12.ext hE31 id
              replace hS := hS.tr hE31
              refine wl_nil ⟨fun _ => hS, ?_⟩
              refine wx_only 8 _ rfl (by kernel_rfl) ?_
              refine s1_do ?_
              refine wl_callF (M := Non) rfl e_66 rfl (machine1_ok w31 s c.op (by omega)) ?_; intro v49 w32 hE32 hR32; subst hR32
              replace hB12 := hB12.ext hE32 id
              replace hB11 := hB11.ext hE32 id
              replace hS := hS.tr hE32
              refine wl_nil ⟨fun _ => hS, ?_⟩
              refine wx_take 9 [10, 11, 14, 15] _ _ rfl (by kernel_rfl) hS (yd_do fun A hA => rn_move (by conv => lhs; whnf)) ?_
              refine wx_take 10 [14, 15] _ _ rfl (by kernel_rfl) hS (yd_do fun A hA => rn_extract rfl rfl) ?_
              refine wx_take 11 [15] _ _ rfl (by kernel_rfl) hS (yd_do fun A hA => rn_extract rfl rfl) ?_
              refine wx_only 14 _ rfl (by kernel_rfl) ?_
              refine s1_do ?_
              refine wl_storeB s_27 rfl rfl rfl (StD.one _) hB11 rfl ?_; intro w33 hE33 hB11 hz33
              replace hB12 := hB12.ext hE33 (fun h => by omega)
              replace hS := hS.mine hE33 (.inr (by omega))
              refine wl_nil ⟨fun _ => hS, ?_⟩
              refine wx_only 15 _ rfl (by kernel_rfl) ?_
              refine s1_do ?_
              refine wl_storeB s_34 rfl rfl rfl (AnsD.one _) hB12 rfl ?_; intro w34 hE34 hB12 hz34
              replace hB11 := hB11.ext hE34 (fun h => by omega)
              replace hS := hS.mine hE34 (.inr (by omega))
              refine wl_nil ⟨fun _ => hS, ?_⟩
              refine wx_done (by kernel_rfl) ?_ _
              replace hX := hX.tr hS
              replace hB3 := hB3.ext hS id; replace hB7 := hB7.ext hS id
              replace hDn := hDn.ext hS id
              replace hzA := Nat.le_trans hzA hS.size
              have hy11 := Nat.le_trans hzS hm11; have hy12 := Nat.le_trans hzS hm12
              exact ⟨rfl, ((), b11, b12), ⟨rfl, rfl, rfl, rfl, rfl, rfl, rfl, rfl, rfl, rfl, trivial⟩, ⟨hX, hB3, hB7, hB11, hB12, hl3, hl7, hl11, hl12, hn3_7, hn7_11, hn7_12, ⟨hDn, hy11, hy12⟩⟩⟩
        · rintro τ910 ⟨_, b11, b12⟩ C10 ⟨hX, hB3, hB7, hB11, hB12, hl3, hl7, hl11, hl12, hn3_7, hn7_11, hn7_12, hI⟩
          obtain ⟨hDn, hy11, hy12⟩ := hI
          refine W_seq ?_
          refine W_seq ?_
          refine W_drawE mixed ?_; intro w35 hE35
          replace hX := hX.tr hE35
          replace hB3 := hB3.ext hE35 id; replace hB7 := hB7.ext hE35 id; replace hB11 := hB11.ext hE35 id; replace hB12 := hB12.ext hE35 id
          replace hDn := hDn.ext hE35 id
          have hS := Ext.refl Non w35
          refine wd_take 0 _ _ rfl (by kernel_rfl) hS (yd_do fun A hA => rn_loadB s_34 rfl rfl (hB12.ext hA id)) ?_
          refine wd_take 1 _ _ rfl (by kernel_rfl) hS (yd_do fun A hA => rn_move (by conv => lhs; whnf)) ?_
          refine wd_take 2 _ _ rfl (by kernel_rfl) hS (yd_do fun A hA => rn_move (by conv => lhs; whnf)) ?_
          refine wd_take 3 _ _ rfl (by kernel_rfl) hS (yd_do fun A hA => rn_indexAddr sl_25 rfl rfl (by omega)) ?_
          refine wd_take 4 _ _ rfl (by kernel_rfl) hS (yd_do fun A hA => rn_fieldAddr f_38_3 (by decide) rfl) ?_
          refine wd_take 5 _ _ rfl (by kernel_rfl) hS (yd_do fun A hA => rn_loadS s_34 (vs := c.ans.enc) rfl rfl (((hs.ext hX (fun _ h => h)).ext hA (fun _ h => h.elim)).part1 (map_at hcq) rfl (Nat.le_of_ble_eq_true rfl))) ?_
          refine wd_take 6 _ _ rfl (by kernel_rfl) hS (yd_do fun A hA => rn_neqS rfl rfl eg_34 (by decide) (ans_eqs _ _)) ?_
          refine wd_done (by kernel_rfl) ?_ _
          replace hX := hX.tr hS
          replace hB3 := hB3.ext hS id; replace hB7 := hB7.ext hS id; replace hB11 := hB11.ext hS id; replace hB12 := hB12.ext hS id
          replace hDn := hDn.ext hS id
          refine W_cond rfl (fun hc3 => ?_) (fun hc3 => ?_)
          · have hsb : stepB l s q = none := by rw [stepB_at hcq, if_neg (by simpa using hc3)]
            refine W_seq ?_
            refine W_region ?_
            refine wl_val (rn_assign (by conv => lhs; whnf)) ?_
            refine wl_nil ?_
            refine W_ret ?_
            exact ⟨_, resR1 (res1_tmp rfl), hX, by unfold chkR; rw [decide_eq_true hol, hchk, chk_ans hsb]; rfl⟩
          · have hsb : stepB l s q = some (doS s c.op).1 := by rw [stepB_at hcq, if_pos (by simpa using hc3)]
            refine W_skip ?_
            refine W_region ?_
            refine wl_val (rn_move (by conv => lhs; whnf)) ?_
            refine wl_val (rn_move (by conv => lhs; whnf)) ?_
            refine wl_val (rn_loadB s_27 rfl rfl hB11) ?_
            have hBo := hB7
            refine wl_storeB s_27 rfl rfl rfl (StD.one _) hB7 rfl ?_; intro w36 hE36 hB7 hz36
            replace hX := hX.mine hE36 hl7
            replace hB3 := hB3.ext hE36 (fun h => by omega); replace hB11 := hB11.ext hE36 (fun h => by omega); replace hB12 := hB12.ext hE36 (fun h => by omega)
            replace hDn := hDn.ext hE36 (fun e => by omega)
            refine wl_val (rn_indexAddr sl_117 rfl rfl (by omega)) ?_
            refine wl_storeE (u := .bool true) (i := q) p_4 rfl rfl rfl rfl hDn (by rw [List.length_map]; omega) ?_; intro w37 hE37 hDn2
            replace hX := hX.mine hE37 (.inr hyd)
            replace hB3 := hB3.ext hE37 (fun e => by omega); replace hB7 := hB7.ext hE37 (fun e => by omega); replace hB11 := hB11.ext hE37 (fun e => by omega); replace hB12 := hB12.ext hE37 (fun e => by omega)
            rw [eBo_set] at hDn2; have hDn := hDn2
            refine wl_nil ?_
            refine W_region ?_
            refine wl_val (rn_add rfl rfl (by omega)) ?_
            refine wl_val (rn_move (by conv => lhs; whnf)) ?_
            refine wl_nil ?_
            exact ⟨rfl, (k + 1, done.set q true, (doS s c.op).1), ⟨rfl, rfl, rfl, rfl, rfl, rfl, rfl, trivial⟩, ⟨hX, hB3, hB7, hl3, hl7, hn3_7, ⟨hlt, by rw [List.length_set]; exact hdl, hDn, by rw [hchk, chk_go hq hsb], by have := hbd2.1; push_cast; omega, by have := hbd2.2; push_cast; omega⟩⟩, by show o.length - (k + 1) < o.length - k; omega⟩
    · have hge := of_decide_eq_false hc1; simp only [Int.ofNat_lt, Nat.not_lt] at hge
      rw [List.drop_of_length_le hge] at hchk
      refine W_exit ?_   -- exit 0
      refine W_seq ?_
      refine W_region ?_
      refine wl_val (rn_assign (by conv => lhs; whnf)) ?_
      refine wl_nil ?_
      refine W_ret ?_
      exact ⟨_, resR1 (res1_tmp rfl), hX, by unfold chkR; rw [decide_eq_true hol, hchk]; rfl⟩
theorem clear_ahead {l : List CallD} {done : List Bool} {q j : Nat} {x y : CallD} (hj : l[j]? = some y) (hi : l[q]? = some x) (h : decide (y.to_ < x.from_) = false) : clearB l done q j = true := by unfold clearB aheadB; rw [hj, hi]; simp only [h]; simp
theorem clear_eq {l : List CallD} {done : List Bool} {q j : Nat} (h : decide ((j : Int) ≠ (q : Int)) = false) : clearB l done q j = true := by
  have : j = q := by have := of_decide_eq_false h; omega
  unfold clearB; simp [this]
theorem clear_seen {l : List CallD} {done : List Bool} {q j : Nat} (h : seen done j = true) : clearB l done q j = true := by unfold clearB; rw [h]; simp
theorem free_all {l : List CallD} {done : List Bool} {q : Nat} (hq : q < l.length) (hs : seen done q = false) (h : (List.range l.length).all (clearB l done q) = true) : q ∈ mini l done := mem_mini.2 ⟨hq, by unfold freeB; rw [hs, h]; rfl⟩
-- bellman/bellmanref08.Check
set_option maxHeartbeats 4000000 in
theorem rcheck_ok (w : World) (l : List CallD) (o : List Int) {vl vo : Value} (hs : Sl Non w vl 15 (l.map CallD.enc)) (ho : Sl Non w vo 1 (o.map eI1)) (hn : l.length ≤ 1000) : Fn Tryd.prog 18 #[vl, vo] w fun u w' => u = .bool (chkR l o) := by
  obtain ⟨al, cl, rfl, _⟩ := hs.len; obtain ⟨ao, co, rfl, _⟩ := ho.len
  simp only [List.length_map] at hs ho ⊢
  have hbig2 : big = 9223372036854775807 := rfl
  have hX := Ext.refl Non w
  refine fn_of_W (args := [_, _]) Tryd.func18 rfl (by kernel_rfl) rfl ?_
  refine W_seq ?_
  refine W_region ?_
  refine wl_val (rn_assign (by conv => lhs; whnf)) ?_
  refine wl_nil ?_
  refine W_seq ?_
  refine W_seq ?_
  refine W_region ?_
  refine wl_val (rn_move (by conv => lhs; whnf)) ?_
  refine wl_val (rn_len sl_39 rfl) ?_
  refine wl_val (rn_move (by conv => lhs; whnf)) ?_
  refine wl_val (rn_len sl_25 rfl) ?_
  refine wl_val (rn_neq rfl rfl) ?_
  refine wl_nil ?_
  refine W_cond rfl (fun hc0 => ?_) (fun hc0 => ?_)
  · have hol : ¬ o.length = l.length := by have := of_decide_eq_true hc0; simp only [ne_eq, Int.natCast_inj] at this; exact this
    refine W_seq ?_
    refine W_region ?_
    refine wl_val (rn_assign (by conv => lhs; whnf)) ?_
    refine wl_nil ?_
    refine W_ret ?_
    exact ⟨_, resR1 (res1_tmp rfl), hX, by unfold chkR; rw [decide_eq_false hol]; rfl⟩
  · have hol : o.length = l.length := by have := of_decide_eq_false hc0; simp only [ne_eq, Int.natCast_inj, Classical.not_not] at this; exact this
    refine W_skip ?_
    refine W_seq ?_
    refine W_region ?_
    refine wl_val (rn_build' b_27 rfl rfl (cs := st0.enc) rfl) ?_
    refine wl_alloc z_27 ?_; intro b5 w1 hb5 hE1 hB5
    have hq5 : w.heap.size ≤ b5 := Nat.le_trans hX.size hb5
    have hl5 : Mine Non w b5 := .inr hq5
    replace hX := hX.tr hE1
    refine wl_storeB s_27 rfl rfl rfl (StD.one _) hB5 rfl ?_; intro w2 hE2 hB5 hz2
    replace hX := hX.mine hE2 hl5
    refine wl_nil ?_
    refine W_seq ?_
    refine W_region ?_
    refine wl_val (rn_move (by conv => lhs; whnf)) ?_
    refine wl_val (rn_len sl_25 rfl) ?_
    refine wl_make sl_117 rfl rfl rfl (by omega) (by omega) ?_; intro w3 bd hbd hE3 hDn
    have hyd : w.heap.size ≤ bd := Nat.le_trans hX.size hbd; have hzd := hDn.box.lt
    rw [none0_eBo] at hDn
    have hn5_d : b5 < bd := Nat.lt_of_lt_of_le hB5.lt hbd
    
    replace hX := hX.tr hE3
    replace hB5 := hB5.ext hE3 id
    refine wl_val (rn_assign (by conv => lhs; whnf)) ?_
    refine wl_nil ?_
    refine W_seq ?_
    refine W_seq ?_
    refine W_region ?_
    refine wl_val (rn_assign (by conv => lhs; whnf)) ?_
    refine wl_nil ?_
    refine W_block ?_   -- block 0
    refine W_loopS (S := Nat × List Bool × StD) [0, 1, 5, 6, 7] (fun ⟨k, done, s⟩ => [.slice al l.length cl, .slice ao o.length co, .pointer (some ⟨b5, 0, none⟩), .slice (some ⟨bd, 0, none⟩) l.length l.length, .int .i64 (k : Nat)]) (fun ⟨k, done, s⟩ A => (Ext Non w A) ∧ (IsBox A b5 s.enc) ∧ (Mine Non w b5) ∧ (k ≤ o.length ∧ done.length = l.length ∧ Ow A (.slice (some ⟨bd, 0, none⟩) l.length l.length) bd 1 (done.map eBo) [] ∧ chkF l (none0 l) st0 o = chkF l done s (o.drop k) ∧ -(99 * k : Int) ≤ s.n ∧ s.n ≤ 99 * k)) (fun ⟨k, done, s⟩ => o.length - k) (0, none0 l, st0) ⟨rfl, rfl, rfl, rfl, rfl, trivial⟩ ⟨hX, hB5, hl5, ⟨Nat.zero_le _, by simp [none0], hDn, rfl, by decide, by decide⟩⟩ ?_
    rintro τ0 ⟨k, done, s⟩ A0 ⟨hX, hB5, hl5, hI0⟩
    obtain ⟨hI, hdl, hDn, hchk, hb1, hb2⟩ := hI0
    have hzd := hDn.box.lt
    have hzA : A0.heap.size ≤ A0.heap.size := Nat.le_refl _
    refine W_seq ?_
    refine W_seq ?_
    refine W_region ?_
    refine wl_val (rn_move (by conv => lhs; whnf)) ?_
    refine wl_val (rn_move (by conv => lhs; whnf)) ?_
    refine wl_val (rn_len sl_39 rfl) ?_
    refine wl_val (rn_lss rfl rfl) ?_
    refine wl_nil ?_
    refine W_cond rfl (fun hc1 => ?_) (fun hc1 => ?_)
    · have hlt := of_decide_eq_true hc1; simp only [Int.ofNat_lt] at hlt
      obtain ⟨x, hi⟩ : ∃ x, o[k]? = some x := ⟨_, List.getElem?_eq_getElem hlt⟩
      obtain ⟨bbo, ooo, eao⟩ := ho.base (by intro e; have := congrArg List.length e; simp only [List.length_map, List.length_nil] at this; omega); subst eao
      rw [drop_at hi] at hchk
      refine W_skip ?_
      refine W_seq ?_
      refine W_block ?_   -- block 1
      refine W_seq ?_
      refine W_region ?_
      refine wl_val (rn_move (by conv => lhs; whnf)) ?_
      refine wl_val (rn_move (by conv => lhs; whnf)) ?_
      refine wl_val (rn_indexAddr sl_39 rfl rfl (by omega)) ?_
      refine wl_val (rn_load p_3 rfl ((ho.ext hX (fun _ h => h)).at0 (eI_at hi) rfl)) ?_
      refine wl_val (rn_assign (by conv => lhs; whnf)) ?_
      refine wl_nil ?_
      refine W_seq ?_
      refine W_seq ?_
      refine W_region ?_
      refine wl_val (rn_move (by conv => lhs; whnf)) ?_
      refine wl_val (rn_lss rfl rfl) ?_
      refine wl_val (rn_move (by conv => lhs; whnf)) ?_
      refine wl_split (d := 33) rfl (fun hg33 => ?_) (fun hg33 => ?_)
      · have hx0 := of_decide_eq_true hg33
        refine wl_no rfl (congrArg Value.bool hg33) ?_
        refine wl_no rfl (congrArg Value.bool hg33) ?_
        refine wl_no rfl (congrArg Value.bool hg33) ?_
        refine wl_no rfl (congrArg Value.bool hg33) ?_
        refine wl_val (rn_pickT (congrArg Value.bool hg33) (by conv => lhs; whnf)) ?_
        refine wl_val (rn_move (by conv => lhs; whnf)) ?_
        refine wl_no rfl rfl ?_
        refine wl_no rfl rfl ?_
        refine wl_no rfl rfl ?_
        refine wl_no rfl rfl ?_
        refine wl_val (rn_pickT rfl (by conv => lhs; whnf)) ?_
        refine wl_nil ?_
        refine W_condT rfl ?_
        refine W_seq ?_
        refine W_region ?_
        refine wl_val (rn_assign (by conv => lhs; whnf)) ?_
        refine wl_nil ?_
        refine W_ret ?_
        exact ⟨_, resR1 (res1_tmp rfl), hX, by unfold chkR; rw [decide_eq_true hol, hchk, chk_no (fun ⟨z, hz, hm⟩ => by omega)]; rfl⟩
      · have hx0 := of_decide_eq_false hg33
        refine wl_yes rfl (congrArg Value.bool hg33) ?_
        refine wl_val (rn_move (by conv => lhs; whnf)) ?_
        refine wl_yes rfl (congrArg Value.bool hg33) ?_
        refine wl_val (rn_move (by conv => lhs; whnf)) ?_
        refine wl_yes rfl (congrArg Value.bool hg33) ?_
        refine wl_val (rn_len sl_25 rfl) ?_
        refine wl_yes rfl (congrArg Value.bool hg33) ?_
        refine wl_val (rn_geq rfl rfl) ?_
        refine wl_val (rn_pickF (congrArg Value.bool hg33) (by conv => lhs; whnf)) ?_
        refine wl_val (rn_move (by conv => lhs; whnf)) ?_
        refine wl_split (d := 39) rfl (fun hg39 => ?_) (fun hg39 => ?_)
        · have hx1 := of_decide_eq_true hg39
          refine wl_no rfl (congrArg Value.bool hg39) ?_
          refine wl_no rfl (congrArg Value.bool hg39) ?_
          refine wl_no rfl (congrArg Value.bool hg39) ?_
          refine wl_no rfl (congrArg Value.bool hg39) ?_
          refine wl_val (rn_pickT (congrArg Value.bool hg39) (by conv => lhs; whnf)) ?_
          refine wl_nil ?_
          refine W_condT rfl ?_
          refine W_seq ?_
          refine W_region ?_
          refine wl_val (rn_assign (by conv => lhs; whnf)) ?_
          refine wl_nil ?_
          refine W_ret ?_
          exact ⟨_, resR1 (res1_tmp rfl), hX, by unfold chkR; rw [decide_eq_true hol, hchk, chk_no (fun ⟨z, hz, hm⟩ => by have := mini_lt hm; omega)]; rfl⟩
        · have hx1 := of_decide_eq_false hg39
          obtain ⟨q, hxq⟩ : ∃ q : Nat, x = q := ⟨x.toNat, by omega⟩
          subst hxq
          have hql : q < l.length := by omega
          obtain ⟨dq, hqd⟩ : ∃ d, done[q]? = some d := ⟨_, List.getElem?_eq_getElem (by omega)⟩
          have hsq := seen_at hqd
          obtain ⟨c, hcq⟩ : ∃ c, l[q]? = some c := ⟨_, List.getElem?_eq_getElem hql⟩
          obtain ⟨bbl, ool, eal⟩ := hs.base (by intro e; have := congrArg List.length e; simp only [List.length_map, List.length_nil] at this; omega); subst eal
          refine wl_yes rfl (congrArg Value.bool hg39) ?_
          refine wl_val (rn_move (by conv => lhs; whnf)) ?_
          refine wl_yes rfl (congrArg Value.bool hg39) ?_
          refine wl_val (rn_move (by conv => lhs; whnf)) ?_
          refine wl_yes rfl (congrArg Value.bool hg39) ?_
          refine wl_val (rn_indexAddr sl_117 rfl rfl (by omega)) ?_
          refine wl_yes rfl (congrArg Value.bool hg39) ?_
          refine wl_val (rn_load p_4 rfl ((hDn.sl (M := Non) id).at0 (eBo_at hqd) rfl)) ?_
          refine wl_val (rn_pickF (congrArg Value.bool hg39) (by conv => lhs; whnf)) ?_
          refine wl_nil ?_
          refine W_cond rfl (fun hc2 => ?_) (fun hc2 => ?_)
          · refine W_seq ?_
            refine W_region ?_
            refine wl_val (rn_assign (by conv => lhs; whnf)) ?_
            refine wl_nil ?_
            refine W_ret ?_
            exact ⟨_, resR1 (res1_tmp rfl), hX, by unfold chkR; rw [decide_eq_true hol, hchk, chk_no (fun ⟨z, hz, hm⟩ => by have e : z = q := (by omega); subst e; have := mini_unseen hm; rw [hsq, hc2] at this; cases this)]; rfl⟩
          · refine W_skip ?_
            refine W_seq ?_
            refine W_seq ?_
            refine W_region ?_
            refine wl_val (rn_assign (by conv => lhs; whnf)) ?_
            refine wl_nil ?_
            refine W_block ?_   -- block 2
            refine W_loopS (S := Nat) [0, 1, 5, 6, 7, 8, 9] (fun j => [.slice (some ⟨bbl, ool, none⟩) l.length cl, .slice (some ⟨bbo, ooo, none⟩) o.length co, .pointer (some ⟨b5, 0, none⟩), .slice (some ⟨bd, 0, none⟩) l.length l.length, .int .i64 (k : Nat), .int .i64 (q : Nat), .int .i64 (j : Nat)]) (fun j A => (Ext Non w A) ∧ (IsBox A b5 s.enc) ∧ (Mine Non w b5) ∧ (j ≤ l.length ∧ Ow A (.slice (some ⟨bd, 0, none⟩) l.length l.length) bd 1 (done.map eBo) [] ∧ (List.range j).all (clearB l done q) = true ∧ A0.heap.size ≤ A.heap.size)) (fun j => l.length - j) 0 ⟨rfl, rfl, rfl, rfl, rfl, rfl, rfl, trivial⟩ ⟨hX, hB5, hl5, ⟨Nat.zero_le _, hDn, rfl, hzA⟩⟩ ?_
            rintro τ1 j A1 ⟨hX, hB5, hl5, hI1⟩
            obtain ⟨hJ, hDn, hall, hzA⟩ := hI1
            refine W_seq ?_
            refine W_seq ?_
            refine W_region ?_
            refine wl_val (rn_move (by conv => lhs; whnf)) ?_
            refine wl_val (rn_move (by conv => lhs; whnf)) ?_
            refine wl_val (rn_len sl_25 rfl) ?_
            refine wl_val (rn_lss rfl rfl) ?_
            refine wl_nil ?_
            refine W_cond rfl (fun hc3 => ?_) (fun hc3 => ?_)
            · have hlj := of_decide_eq_true hc3; simp only [Int.ofNat_lt] at hlj
              obtain ⟨y, hjy⟩ : ∃ y, l[j]? = some y := ⟨_, List.getElem?_eq_getElem hlj⟩
              obtain ⟨dj, hjd⟩ : ∃ d, done[j]? = some d := ⟨_, List.getElem?_eq_getElem (by omega)⟩
              have hsj := seen_at hjd
              refine W_skip ?_
              refine W_seq ?_
              refine W_block ?_   -- block 3
              refine W_seq ?_
              refine W_drawE mixed ?_; intro w4 hE4
              replace hX := hX.tr hE4
              replace hB5 := hB5.ext hE4 id
              replace hDn := hDn.ext hE4 id
              replace hzA := Nat.le_trans hzA hE4.size
              have hS := Ext.refl Non w4
              refine wd_take 0 _ _ rfl (by kernel_rfl) hS (yd_do fun A hA => rn_move (by conv => lhs; whnf)) ?_
              refine wd_take 1 _ _ rfl (by kernel_rfl) hS (yd_do fun A hA => rn_move (by conv => lhs; whnf)) ?_
              refine wd_take 2 _ _ rfl (by kernel_rfl) hS (yd_do fun A hA => rn_indexAddr sl_117 rfl rfl (by omega)) ?_
              refine wd_take 3 _ _ rfl (by kernel_rfl) hS (yd_do fun A hA => rn_load p_4 rfl (((hDn.sl (M := Non) id).ext hA (fun _ h => h.elim)).at0 (eBo_at hjd) rfl)) ?_
              refine wd_take 4 _ _ rfl (by kernel_rfl) hS (yd_do fun A hA => rn_not rfl) ?_
              refine wd_take 5 _ _ rfl (by kernel_rfl) hS (yd_do fun A hA => rn_move (by conv => lhs; whnf)) ?_
              refine wd_split (d := 56) rfl (fun hg56 => ?_) (fun hg56 => ?_)
              · refine wd_take 6 _ _ rfl (by kernel_rfl) hS (yd_yes rfl (congrArg Value.bool hg56) fun A hA => rn_move (by conv => lhs; whnf)) ?_
                refine wd_take 7 _ _ rfl (by kernel_rfl) hS (yd_yes rfl (congrArg Value.bool hg56) fun A hA => rn_move (by conv => lhs; whnf)) ?_
                refine wd_take 8 _ _ rfl (by kernel_rfl) hS (yd_yes rfl (congrArg Value.bool hg56) fun A hA => rn_neq rfl rfl) ?_
                refine wd_take 9 _ _ rfl (by kernel_rfl) hS (yd_do fun A hA => rn_pickT (congrArg Value.bool hg56) (by conv => lhs; whnf)) ?_
                refine wd_take 10 _ _ rfl (by kernel_rfl) hS (yd_do fun A hA => rn_move (by conv => lhs; whnf)) ?_
                refine wd_split (d := 61) rfl (fun hg61 => ?_) (fun hg61 => ?_)
                · refine wd_take 11 _ _ rfl (by kernel_rfl) hS (yd_yes rfl (congrArg Value.bool hg61) fun A hA => rn_move (by conv => lhs; whnf)) ?_
                  refine wd_take 12 _ _ rfl (by kernel_rfl) hS (yd_yes rfl (congrArg Value.bool hg61) fun A hA => rn_move (by conv => lhs; whnf)) ?_
                  refine wd_take 13 _ _ rfl (by kernel_rfl) hS (yd_yes rfl (congrArg Value.bool hg61) fun A hA => rn_indexAddr sl_25 rfl rfl (by omega)) ?_
                  refine wd_take 14 _ _ rfl (by kernel_rfl) hS (yd_yes rfl (congrArg Value.bool hg61) fun A hA => rn_fieldAddr f_38_5 (by decide) rfl) ?_
                  refine wd_take 15 _ _ rfl (by kernel_rfl) hS (yd_yes rfl (congrArg Value.bool hg61) fun A hA => rn_load p_3 rfl (((hs.ext hX (fun _ h => h)).ext hA (fun _ h => h.elim)).at1 (map_at hjy) rfl)) ?_
                  refine wd_take 16 _ _ rfl (by kernel_rfl) hS (yd_yes rfl (congrArg Value.bool hg61) fun A hA => rn_move (by conv => lhs; whnf)) ?_
                  refine wd_take 17 _ _ rfl (by kernel_rfl) hS (yd_yes rfl (congrArg Value.bool hg61) fun A hA => rn_move (by conv => lhs; whnf)) ?_
                  refine wd_take 18 _ _ rfl (by kernel_rfl) hS (yd_yes rfl (congrArg Value.bool hg61) fun A hA => rn_indexAddr sl_25 rfl rfl (by omega)) ?_
                  refine wd_take 19 _ _ rfl (by kernel_rfl) hS (yd_yes rfl (congrArg Value.bool hg61) fun A hA => rn_fieldAddr f_38_4 (by decide) rfl) ?_
                  refine wd_take 20 _ _ rfl (by kernel_rfl) hS (yd_yes rfl (congrArg Value.bool hg61) fun A hA => rn_load p_3 rfl (((hs.ext hX (fun _ h => h)).ext hA (fun _ h => h.elim)).at1 (map_at hcq) rfl)) ?_
                  refine wd_take 21 _ _ rfl (by kernel_rfl) hS (yd_yes rfl (congrArg Value.bool hg61) fun A hA => rn_lss rfl rfl) ?_
                  refine wd_take 22 _ _ rfl (by kernel_rfl) hS (yd_do fun A hA => rn_pickT (congrArg Value.bool hg61) (by conv => lhs; whnf)) ?_
                  refine wd_done (by kernel_rfl) ?_ _
                  replace hX := hX.tr hS
                  replace hB5 := hB5.ext hS id
                  replace hDn := hDn.ext hS id
                  replace hzA := Nat.le_trans hzA hS.size
                  refine W_cond rfl (fun hc4 => ?_) (fun hc4 => ?_)
                  · refine W_seq ?_
                    refine W_region ?_
                    refine wl_val (rn_assign (by conv => lhs; whnf)) ?_
                    refine wl_nil ?_
                    refine W_ret ?_
                    exact ⟨_, resR1 (res1_tmp rfl), hX, by unfold chkR; rw [decide_eq_true hol, hchk, chk_no (fun ⟨z, hz, hm⟩ => by have e : z = q := (by omega); subst e; exact not_free hjy hcq (by rw [hsj]; simpa using hg56) (fun e => by have := of_decide_eq_true hg61; omega) (of_decide_eq_true hc4) hm)]; rfl⟩
                  · refine W_skip ?_
                    refine W_region ?_
                    refine wl_val (rn_move (by conv => lhs; whnf)) ?_
                    refine wl_val (rn_add rfl rfl (by omega)) ?_
                    refine wl_val (rn_assign (by conv => lhs; whnf)) ?_
                    refine wl_nil ?_
                    have hcl : clearB l done q j = true := by first | exact clear_ahead hjy hcq hc4 | exact clear_eq hg61 | exact clear_seen (by rw [hsj]; simpa using hg56)
                    exact ⟨rfl, j + 1, ⟨rfl, rfl, rfl, rfl, rfl, rfl, rfl, trivial⟩, ⟨hX, hB5, hl5, ⟨hlj, hDn, all_succ hall hcl, hzA⟩⟩, by omega⟩
                · refine wd_take 11 _ _ rfl (by kernel_rfl) hS (yd_no rfl (congrArg Value.bool hg61)) ?_
                  refine wd_take 12 _ _ rfl (by kernel_rfl) hS (yd_no rfl (congrArg Value.bool hg61)) ?_
                  refine wd_take 13 _ _ rfl (by kernel_rfl) hS (yd_no rfl (congrArg Value.bool hg61)) ?_
                  refine wd_take 14 _ _ rfl (by kernel_rfl) hS (yd_no rfl (congrArg Value.bool hg61)) ?_
                  refine wd_take 15 _ _ rfl (by kernel_rfl) hS (yd_no rfl (congrArg Value.bool hg61)) ?_
                  refine wd_take 16 _ _ rfl (by kernel_rfl) hS (yd_no rfl (congrArg Value.bool hg61)) ?_
                  refine wd_take 17 _ _ rfl (by kernel_rfl) hS (yd_no rfl (congrArg Value.bool hg61)) ?_
                  refine wd_take 18 _ _ rfl (by kernel_rfl) hS (yd_no rfl (congrArg Value.bool hg61)) ?_
                  refine wd_take 19 _ _ rfl (by kernel_rfl) hS (yd_no rfl (congrArg Value.bool hg61)) ?_
                  refine wd_take 20 _ _ rfl (by kernel_rfl) hS (yd_no rfl (congrArg Value.bool hg61)) ?_
                  refine wd_take 21 _ _ rfl (by kernel_rfl) hS (yd_no rfl (congrArg Value.bool hg61)) ?_
                  refine wd_take 22 _ _ rfl (by kernel_rfl) hS (yd_do fun A hA => rn_pickF (congrArg Value.bool hg61) (by conv => lhs; whnf)) ?_
                  refine wd_done (by kernel_rfl) ?_ _
                  replace hX := hX.tr hS
                  replace hB5 := hB5.ext hS id
                  replace hDn := hDn.ext hS id
                  replace hzA := Nat.le_trans hzA hS.size
                  refine W_condF rfl ?_
                  refine W_skip ?_
                  refine W_region ?_
                  refine wl_val (rn_move (by conv => lhs; whnf)) ?_
                  refine wl_val (rn_add rfl rfl (by omega)) ?_
                  refine wl_val (rn_assign (by conv => lhs; whnf)) ?_
                  refine wl_nil ?_
                  have hcl : clearB l done q j = true := by first | exact clear_ahead hjy hcq hc4 | exact clear_eq hg61 | exact clear_seen (by rw [hsj]; simpa using hg56)
                  exact ⟨rfl, j + 1, ⟨rfl, rfl, rfl, rfl, rfl, rfl, rfl, trivial⟩, ⟨hX, hB5, hl5, ⟨hlj, hDn, all_succ hall hcl, hzA⟩⟩, by omega⟩
              · refine wd_take 6 _ _ rfl (by kernel_rfl) hS (yd_no rfl (congrArg Value.bool hg56)) ?_
                refine wd_take 7 _ _ rfl (by kernel_rfl) hS (yd_no rfl (congrArg Value.bool hg56)) ?_
                refine wd_take 8 _ _ rfl (by kernel_rfl) hS (yd_no rfl (congrArg Value.bool hg56)) ?_
                refine wd_take 9 _ _ rfl (by kernel_rfl) hS (yd_do fun A hA => rn_pickF (congrArg Value.bool hg56) (by conv => lhs; whnf)) ?_
                refine wd_take 10 _ _ rfl (by kernel_rfl) hS (yd_do fun A hA => rn_move (by conv => lhs; whnf)) ?_
                refine wd_take 11 _ _ rfl (by kernel_rfl) hS (yd_no rfl rfl) ?_
                refine wd_take 12 _ _ rfl (by kernel_rfl) hS (yd_no rfl rfl) ?_
                refine wd_take 13 _ _ rfl (by kernel_rfl) hS (yd_no rfl rfl) ?_
                refine wd_take 14 _ _ rfl (by kernel_rfl) hS (yd_no rfl rfl) ?_
                refine wd_take 15 _ _ rfl (by kernel_rfl) hS (yd_no rfl rfl) ?_
                refine wd_take 16 _ _ rfl (by kernel_rfl) hS (yd_no rfl rfl) ?_
                refine wd_take 17 _ _ rfl (by kernel_rfl) hS (yd_no rfl rfl) ?_
                refine wd_take 18 _ _ rfl (by kernel_rfl) hS (yd_no rfl rfl) ?_
                refine wd_take 19 _ _ rfl (by kernel_rfl) hS (yd_no rfl rfl) ?_
                refine wd_take 20 _ _ rfl (by kernel_rfl) hS (yd_no rfl rfl) ?_
                refine wd_take 21 _ _ rfl (by kernel_rfl) hS (yd_no rfl rfl) ?_
                refine wd_take 22 _ _ rfl (by kernel_rfl) hS (yd_do fun A hA => rn_pickF rfl (by conv => lhs; whnf)) ?_
                refine wd_done (by kernel_rfl) ?_ _
                replace hX := hX.tr hS
                replace hB5 := hB5.ext hS id
                replace hDn := hDn.ext hS id
                replace hzA := Nat.le_trans hzA hS.size
                refine W_condF rfl ?_
                refine W_skip ?_
                refine W_region ?_
                refine wl_val (rn_move (by conv => lhs; whnf)) ?_
                refine wl_val (rn_add rfl rfl (by omega)) ?_
                refine wl_val (rn_assign (by conv => lhs; whnf)) ?_
                refine wl_nil ?_
                have hcl : clearB l done q j = true := by first | exact clear_ahead hjy hcq hc4 | exact clear_eq hg61 | exact clear_seen (by rw [hsj]; simpa using hg56)
                exact ⟨rfl, j + 1, ⟨rfl, rfl, rfl, rfl, rfl, rfl, rfl, trivial⟩, ⟨hX, hB5, hl5, ⟨hlj, hDn, all_succ hall hcl, hzA⟩⟩, by omega⟩
            · have hgj := of_decide_eq_false hc3; simp only [Int.ofNat_lt, Nat.not_lt] at hgj
              have hje : j = l.length := by omega
              subst hje
              have hq := free_all hql (by rw [hsq]; exact hc2) hall
              have hbd2 := doS_bound s c.op (k := 99 * k) ⟨hb1, hb2⟩
              refine W_exit ?_   -- exit 2
              refine W_cut (T := Unit × Nat × Nat) [0, 1, 5, 6, 7, 8, 10, 11] (fun ⟨_, b10, b11⟩ => [.slice (some ⟨bbl, ool, none⟩) l.length cl, .slice (some ⟨bbo, ooo, none⟩) o.length co, .pointer (some ⟨b5, 0, none⟩), .slice (some ⟨bd, 0, none⟩) l.length l.length, .int .i64 (k : Nat), .int .i64 (q : Nat), .pointer (some ⟨b10, 0, none⟩), .pointer (some ⟨b11, 0, none⟩)]) (fun ⟨_, b10, b11⟩ A => (Ext Non w A) ∧ (IsBox A b5 s.enc) ∧ (IsBox A b10 (doS s c.op).1.enc) ∧ (IsBox A b11 (doS s c.op).2.enc) ∧ (Mine Non w b5) ∧ (Mine Non w b10) ∧ (Mine Non w b11) ∧ (b5 < b10) ∧ (b5 < b11) ∧ (Ow A (.slice (some ⟨bd, 0, none⟩) l.length l.length) bd 1 (done.map eBo) [] ∧ A0.heap.size ≤ b10 ∧ A0.heap.size ≤ b11)) ?_ ?_
              · refine W_drawX (fun j => false) mixed ?_; intro w5 hE5
                replace hX := hX.tr hE5
                replace hB5 := hB5.ext hE5 id
                replace hDn := hDn.ext hE5 id
                replace hzA := Nat.le_trans hzA hE5.size
                have hS := Ext.refl Non w5
                have hzS := hzA
                refine wx_take 0 [6, 7, 8, 9, 12, 13] _ _ rfl (by kernel_rfl) hS (yd_do fun A hA => rn_loadB s_27 rfl rfl (hB5.ext hA id)) ?_
                refine wx_take 1 [3, 4, 5, 6, 7, 8, 9, 12, 13] _ _ rfl (by kernel_rfl) hS (yd_do fun A hA => rn_move (by conv => lhs; whnf)) ?_
                refine wx_take 2 [3, 4, 5, 6, 7, 8, 9, 12, 13] _ _ rfl (by kernel_rfl) hS (yd_do fun A hA => rn_move (by conv => lhs; whnf)) ?_
                refine wx_take 3 [4, 5, 6, 7, 8, 9, 12, 13] _ _ rfl (by kernel_rfl) hS (yd_do fun A hA => rn_indexAddr sl_25 rfl rfl (by omega)) ?_
                refine wx_take 4 [5, 6, 7, 8, 9, 12, 13] _ _ rfl (by kernel_rfl) hS (yd_do fun A hA => rn_fieldAddr f_38_2 (by decide) rfl) ?_
                refine wx_take 5 [6, 7, 8, 9, 12, 13] _ _ rfl (by kernel_rfl) hS (yd_do fun A hA => rn_loadS s_29 (vs := c.op.enc) rfl rfl (((hs.ext hX (fun _ h => h)).ext hA (fun _ h => h.elim)).part1 (map_at hcq) rfl (Nat.le_of_ble_eq_true rfl))) ?_
                refine wx_three 6 10 11 _ _ _ rfl rfl rfl (by kernel_rfl) ?_ ?_ ?_
                · refine s1_do ?_
                  refine wl_call e_15 rfl (do8_ok w5 s c.op (by omega)) ?_; intro v81 w6 hE6 hR6
                  replace hS := hS.tr hE6
                  subst hR6
                  refine wl_nil ⟨fun _ => hS, ?_⟩
                  refine wx_take 7 [8, 9, 12, 13] _ _ rfl (by kernel_rfl) hS (yd_do fun A hA => rn_move (by conv => lhs; whnf)) ?_
                  refine wx_take 8 [12, 13] _ _ rfl (by kernel_rfl) hS (yd_do fun A hA => rn_extract rfl rfl) ?_
                  refine wx_take 9 [13] _ _ rfl (by kernel_rfl) hS (yd_do fun A hA => rn_extract rfl rfl) ?_
                  refine wx_two 10 11 _ _ rfl rfl (by kernel_rfl) ?_ ?_
                  · refine s1_do ?_
                    refine wl_alloc z_27 ?_; intro b10 w7 hb10 hE7 hB10
                    have hn5_10 : b5 < b10 := Nat.lt_of_lt_of_le (Nat.lt_of_lt_of_le hB5.lt hS.size) hb10
                    have hq10 : w.heap.size ≤ b10 := Nat.le_trans (hX.tr hS).size hb10
                    have hl10 : Mine Non w b10 := .inr hq10
                    have hm10 : w5.heap.size ≤ b10 := Nat.le_trans hS.size hb10
                    replace hS := hS.tr hE7
                    refine wl_nil ⟨fun _ => hS, ?_⟩
                    refine wx_only 11 _ rfl (by kernel_rfl) ?_
                    refine s1_do ?_
                    refine wl_alloc z_34 ?_; intro b11 w8 hb11 hE8 hB11
                    have hn5_11 : b5 < b11 := Nat.lt_of_lt_of_le (Nat.lt_of_lt_of_le hB5.lt hS.size) hb11
                    have hn10_11 : b10 < b11 := Nat.lt_of_lt_of_le hB10.lt hb11
                    have hq11 : w.heap.size ≤ b11 := Nat.le_trans (hX.tr hS).size hb11
                    have hl11 : Mine Non w b11 := .inr hq11
                    have hm11 : w5.heap.size ≤ b11 := Nat.le_trans hS.size hb11
                    replace hB10 := hB10.ext hE8 id
                    replace hS := hS.tr hE8
                    refine wl_nil ⟨fun _ => hS, ?_⟩
                    refine wx_only 12 _ rfl (by kernel_rfl) ?_
                    refine s1_do ?_
                    refine wl_storeB s_27 rfl rfl rfl (StD.one _) hB10 rfl ?_; intro w9 hE9 hB10 hz9
                    replace hB11 := hB11.ext hE9 (fun h => by omega)
                    replace hS := hS.mine hE9 (.inr (by omega))
                    refine wl_nil ⟨fun _ => hS, ?_⟩
                    refine wx_only 13 _ rfl (by kernel_rfl) ?_
                    refine s1_do ?_
                    refine wl_storeB s_34 rfl rfl rfl (AnsD.one _) hB11 rfl ?_; intro w10 hE10 hB11 hz10
                    replace hB10 := hB10.ext hE10 (fun h => by omega)
                    replace hS := hS.mine hE10 (.inr (by omega))
                    refine wl_nil ⟨fun _ => hS, ?_⟩
                    refine wx_done (by kernel_rfl) ?_ _
                    replace hX := hX.tr hS
                    replace hB5 := hB5.ext hS id
                    replace hDn := hDn.ext hS id
                    replace hzA := Nat.le_trans hzA hS.size
                    have hy10 := Nat.le_trans hzS hm10; have hy11 := Nat.le_trans hzS hm11
                    exact ⟨rfl, ((), b10, b11), ⟨rfl, rfl, rfl, rfl, rfl, rfl, rfl, rfl, trivial⟩, ⟨hX, hB5, hB10, hB11, hl5, hl10, hl11, hn5_10, hn5_11, ⟨hDn, hy10, hy11⟩⟩⟩
                  · refine s1_do ?_
                    refine wl_alloc z_34 ?_; intro b11 w11 hb11 hE11 hB11
                    have hn5_11 : b5 < b11 := Nat.lt_of_lt_of_le (Nat.lt_of_lt_of_le hB5.lt hS.size) hb11
                    have hq11 : w.heap.size ≤ b11 := Nat.le_trans (hX.tr hS).size hb11
                    have hl11 : Mine Non w b11 := .inr hq11
                    have hm11 : w5.heap.size ≤ b11 := Nat.le_trans hS.size hb11
                    replace hS := hS.tr hE11
                    refine wl_nil ⟨fun _ => hS, ?_⟩
                    refine wx_only 10 _ rfl (by kernel_rfl) ?_
                    refine s1_do ?_
                    refine wl_alloc z_27 ?_; intro b10 w12 hb10 hE12 hB10
                    have hn5_10 : b5 < b10 := Nat.lt_of_lt_of_le (Nat.lt_of_lt_of_le hB5.lt hS.size) hb10
                    have hn11_10 : b11 < b10 := Nat.lt_of_lt_of_le hB11.lt hb10
                    have hq10 : w.heap.size ≤ b10 := Nat.le_trans (hX.tr hS).size hb10
                    have hl10 : Mine Non w b10 := .inr hq10
                    have hm10 : w5.heap.size ≤ b10 := Nat.le_trans hS.size hb10
                    replace hB11 := hB11.ext hE12 id
                    replace hS := hS.tr hE12
                    refine wl_nil ⟨fun _ => hS, ?_⟩
                    refine wx_only 12 _ rfl (by kernel_rfl) ?_
                    refine s1_do ?_
                    refine wl_storeB s_27 rfl rfl rfl (StD.one _) hB10 rfl ?_; intro w13 hE13 hB10 hz13
                    replace hB11 := hB11.ext hE13 (fun h => by omega)
                    replace hS := hS.mine hE13 (.inr (by omega))
                    refine wl_nil ⟨fun _ => hS, ?_⟩
                    refine wx_only 13 _ rfl (by kernel_rfl) ?_
                    refine s1_do ?_
                    refine wl_storeB s_34 rfl rfl rfl (AnsD.one _) hB11 rfl ?_; intro w14 hE14 hB11 hz14
                    replace hB10 := hB10.ext hE14 (fun h => by omega)
                    replace hS := hS.mine hE14 (.inr (by omega))
                    refine wl_nil ⟨fun _ => hS, ?_⟩
                    refine wx_done (by kernel_rfl) ?_ _
                    replace hX := hX.tr hS
                    replace hB5 := hB5.ext hS id
                    replace hDn := hDn.ext hS id
                    replace hzA := Nat.le_trans hzA hS.size
                    have hy10 := Nat.le_trans hzS hm10; have hy11 := Nat.le_trans hzS hm11
                    exact ⟨rfl, ((), b10, b11), ⟨rfl, rfl, rfl, rfl, rfl, rfl, rfl, rfl, trivial⟩, ⟨hX, hB5, hB10, hB11, hl5, hl10, hl11, hn5_10, hn5_11, ⟨hDn, hy10, hy11⟩⟩⟩
                · refine s1_do ?_
                  refine wl_alloc z_27 ?_; intro b10 w15 hb10 hE15 hB10
                  have hn5_10 : b5 < b10 := Nat.lt_of_lt_of_le (Nat.lt_of_lt_of_le hB5.lt hS.size) hb10
                  have hq10 : w.heap.size ≤ b10 := Nat.le_trans (hX.tr hS).size hb10
                  have hl10 : Mine Non w b10 := .inr hq10
                  have hm10 : w5.heap.size ≤ b10 := Nat.le_trans hS.size hb10
                  replace hS := hS.tr hE15
                  refine wl_nil ⟨fun _ => hS, ?_⟩
                  refine wx_two 6 11 _ _ rfl rfl (by kernel_rfl) ?_ ?_
                  · refine s1_do ?_
                    refine wl_call e_15 rfl (do8_ok w15 s c.op (by omega)) ?_; intro v81 w16 hE16 hR16
                    replace hB10 := hB10.ext hE16 id
                    replace hS := hS.tr hE16
                    subst hR16
                    refine wl_nil ⟨fun _ => hS, ?_⟩
                    refine wx_take 7 [8, 9, 12, 13] _ _ rfl (by kernel_rfl) hS (yd_do fun A hA => rn_move (by conv => lhs; whnf)) ?_
                    refine wx_take 8 [12, 13] _ _ rfl (by kernel_rfl) hS (yd_do fun A hA => rn_extract rfl rfl) ?_
                    refine wx_take 9 [13] _ _ rfl (by kernel_rfl) hS (yd_do fun A hA => rn_extract rfl rfl) ?_
                    refine wx_only 11 _ rfl (by kernel_rfl) ?_
                    refine s1_do ?_
                    refine wl_alloc z_34 ?_; intro b11 w17 hb11 hE17 hB11
                    have hn5_11 : b5 < b11 := Nat.lt_of_lt_of_le (Nat.lt_of_lt_of_le hB5.lt hS.size) hb11
                    have hn10_11 : b10 < b11 := Nat.lt_of_lt_of_le hB10.lt hb11
                    have hq11 : w.heap.size ≤ b11 := Nat.le_trans (hX.tr hS).size hb11
                    have hl11 : Mine Non w b11 := .inr hq11
                    have hm11 : w5.heap.size ≤ b11 := Nat.le_trans hS.size hb11
                    replace hB10 := hB10.ext hE17 id
                    replace hS := hS.tr hE17
                    refine wl_nil ⟨fun _ => hS, ?_⟩
                    refine wx_only 12 _ rfl (by kernel_rfl) ?_
                    refine s1_do ?_
                    refine wl_storeB s_27 rfl rfl rfl (StD.one _) hB10 rfl ?_; intro w18 hE18 hB10 hz18
                    replace hB11 := hB11.ext hE18 (fun h => by omega)
                    replace hS := hS.mine hE18 (.inr (by omega))
                    refine wl_nil ⟨fun _ => hS, ?_⟩
                    refine wx_only 13 _ rfl (by kernel_rfl) ?_
                    refine s1_do ?_
                    refine wl_storeB s_34 rfl rfl rfl (AnsD.one _) hB11 rfl ?_; intro w19 hE19 hB11 hz19
                    replace hB10 := hB10.ext hE19 (fun h => by omega)
                    replace hS := hS.mine hE19 (.inr (by omega))
                    refine wl_nil ⟨fun _ => hS, ?_⟩
                    refine wx_done (by kernel_rfl) ?_ _
                    replace hX := hX.tr hS
                    replace hB5 := hB5.ext hS id
                    replace hDn := hDn.ext hS id
                    replace hzA := Nat.le_trans hzA hS.size
                    have hy10 := Nat.le_trans hzS hm10; have hy11 := Nat.le_trans hzS hm11
                    exact ⟨rfl, ((), b10, b11), ⟨rfl, rfl, rfl, rfl, rfl, rfl, rfl, rfl, trivial⟩, ⟨hX, hB5, hB10, hB11, hl5, hl10, hl11, hn5_10, hn5_11, ⟨hDn, hy10, hy11⟩⟩⟩
                  · refine s1_do ?_
                    refine wl_alloc z_34 ?_; intro b11 w20 hb11 hE20 hB11
                    have hn5_11 : b5 < b11 := Nat.lt_of_lt_of_le (Nat.lt_of_lt_of_le hB5.lt hS.size) hb11
                    have hn10_11 : b10 < b11 := Nat.lt_of_lt_of_le hB10.lt hb11
                    have hq11 : w.heap.size ≤ b11 := Nat.le_trans (hX.tr hS).size hb11
                    have hl11 : Mine Non w b11 := .inr hq11
                    have hm11 : w5.heap.size ≤ b11 := Nat.le_trans hS.size hb11
                    replace hB10 := hB10.ext hE20 id
                    replace hS := hS.tr hE20
                    refine wl_nil ⟨fun _ => hS, ?_⟩
                    refine wx_only 6 _ rfl (by kernel_rfl) ?_
                    refine s1_do ?_
                    refine wl_call e_15 rfl (do8_ok w20 s c.op (by omega)) ?_; intro v81 w21 hE21 hR21
                    replace hB10 := hB10.ext hE21 id
                    replace hB11 := hB11.ext hE21 id
                    replace hS := hS.tr hE21
                    subst hR21
                    refine wl_nil ⟨fun _ => hS, ?_⟩
                    refine wx_take 7 [8, 9, 12, 13] _ _ rfl (by kernel_rfl) hS (yd_do fun A hA => rn_move (by conv => lhs; whnf)) ?_
                    refine wx_take 8 [12, 13] _ _ rfl (by kernel_rfl) hS (yd_do fun A hA => rn_extract rfl rfl) ?_
                    refine wx_take 9 [13] _ _ rfl (by kernel_rfl) hS (yd_do fun A hA => rn_extract rfl rfl) ?_
                    refine wx_only 12 _ rfl (by kernel_rfl) ?_
                    refine s1_do ?_
                    refine wl_storeB s_27 rfl rfl rfl (StD.one _) hB10 rfl ?_; intro w22 hE22 hB10 hz22
                    replace hB11 := hB11.ext hE22 (fun h => by omega)
                    replace hS := hS.mine hE22 (.inr (by omega))
                    refine wl_nil ⟨fun _ => hS, ?_⟩
                    refine wx_only 13 _ rfl (by kernel_rfl) ?_
                    refine s1_do ?_
                    refine wl_storeB s_34 rfl rfl rfl (AnsD.one _) hB11 rfl ?_; intro w23 hE23 hB11 hz23
                    replace hB10 := hB10.ext hE23 (fun h => by omega)
                    replace hS := hS.mine hE23 (.inr (by omega))
                    refine wl_nil ⟨fun _ => hS, ?_⟩
                    refine wx_done (by kernel_rfl) ?_ _
                    replace hX := hX.tr hS
                    replace hB5 := hB5.ext hS id
                    replace hDn := hDn.ext hS id
                    replace hzA := Nat.le_trans hzA hS.size
                    have hy10 := Nat.le_trans hzS hm10; have hy11 := Nat.le_trans hzS hm11
                    exact ⟨rfl, ((), b10, b11), ⟨rfl, rfl, rfl, rfl, rfl, rfl, rfl, rfl, trivial⟩, ⟨hX, hB5, hB10, hB11, hl5, hl10, hl11, hn5_10, hn5_11, ⟨hDn, hy10, hy11⟩⟩⟩
                · refine s1_do ?_
                  refine wl_alloc z_34 ?_; intro b11 w24 hb11 hE24 hB11
                  have hn5_11 : b5 < b11 := Nat.lt_of_lt_of_le (Nat.lt_of_lt_of_le hB5.lt hS.size) hb11
                  have hq11 : w.heap.size ≤ b11 := Nat.le_trans (hX.tr hS).size hb11
                  have hl11 : Mine Non w b11 := .inr hq11
                  have hm11 : w5.heap.size ≤ b11 := Nat.le_trans hS.size hb11
                  replace hS := hS.tr hE24
                  refine wl_nil ⟨fun _ => hS, ?_⟩
                  refine wx_two 6 10 _ _ rfl rfl (by kernel_rfl) ?_ ?_
                  · refine s1_do ?_
                    refine wl_call e_15 rfl (do8_ok w24 s c.op (by omega)) ?_; intro v81 w25 hE25 hR25
                    replace hB11 := hB11.ext hE25 id
                    replace hS := hS.tr hE25
                    subst hR25
                    refine wl_nil ⟨fun _ => hS, ?_⟩
                    refine wx_take 7 [8, 9, 12, 13] _ _ rfl (by kernel_rfl) hS (yd_do fun A hA => rn_move (by conv => lhs; whnf)) ?_
                    refine wx_take 8 [12, 13] _ _ rfl (by kernel_rfl) hS (yd_do fun A hA => rn_extract rfl rfl) ?_
                    refine wx_take 9 [13] _ _ rfl (by kernel_rfl) hS (yd_do fun A hA => rn_extract rfl rfl) ?_
                    refine wx_only 10 _ rfl (by kernel_rfl) ?_
                    refine s1_do ?_
                    refine wl_alloc z_27 ?_; intro b10 w26 hb10 hE26 hB10
                    have hn5_10 : b5 < b10 := Nat.lt_of_lt_of_le (Nat.lt_of_lt_of_le hB5.lt hS.size) hb10
                    have hn11_10 : b11 < b10 := Nat.lt_of_lt_of_le hB11.lt hb10
                    have hq10 : w.heap.size ≤ b10 := Nat.le_trans (hX.tr hS).size hb10
                    have hl10 : Mine Non w b10 := .inr hq10
                    have hm10 : w5.heap.size ≤ b10 := Nat.le_trans hS.size hb10
                    replace hB11 := hB11.ext hE26 id
                    replace hS := hS.tr hE26
                    refine wl_nil ⟨fun _ => hS, ?_⟩
                    refine wx_only 12 _ rfl (by kernel_rfl) ?_
                    refine s1_do ?_
                    refine wl_storeB s_27 rfl rfl rfl (StD.one _) hB10 rfl ?_; intro w27 hE27 hB10 hz27
                    replace hB11 := hB11.ext hE27 (fun h => by omega)
                    replace hS := hS.mine hE27 (.inr (by omega))
                    refine wl_nil ⟨fun _ => hS, ?_⟩
                    refine wx_only 13 _ rfl (by kernel_rfl) ?_
                    refine s1_do ?_
                    refine wl_storeB s_34 rfl rfl rfl (AnsD.one _) hB11 rfl ?_; intro w28 hE28 hB11 hz28
                    replace hB10 := hB10.ext hE28 (fun h => by omega)
                    replace hS := hS.mine hE28 (.inr (by omega))
                    refine wl_nil ⟨fun _ => hS, ?_⟩
                    refine wx_done (by kernel_rfl) ?_ _
                    replace hX := hX.tr hS
                    replace hB5 := hB5.ext hS id
                    replace hDn := hDn.ext hS id
                    replace hzA := Nat.le_trans hzA hS.size
                    have hy10 := Nat.le_trans hzS hm10; have hy11 := Nat.le_trans hzS hm11
                    exact ⟨rfl, ((), b10, b11), ⟨rfl, rfl, rfl, rfl, rfl, rfl, rfl, rfl, trivial⟩, ⟨hX, hB5, hB10, hB11, hl5, hl10, hl11, hn5_10, hn5_11, ⟨hDn, hy10, hy11⟩⟩⟩
                  · refine s1_do ?_
                    refine wl_alloc z_27 ?_; intro b10 w29 hb10 hE29 hB10
                    have hn5_10 : b5 < b10 := Nat.lt_of_lt_of_le (Nat.lt_of_lt_of_le hB5.lt hS.size) hb10
                    have hn11_10 : b11 < b10 := Nat.lt_of_lt_of_le hB11.lt hb10
                    have hq10 : w.heap.size ≤ b10 := Nat.le_trans (hX.tr hS).size hb10
                    have hl10 : Mine Non w b10 := .inr hq10
                    have hm10 : w5.heap.size ≤ b10 := Nat.le_trans hS.size hb10
                    replace hB11 := hB11.ext hE29 id
                    replace hS := hS.tr hE29
                    refine wl_nil ⟨fun _ => hS, ?_⟩
                    refine wx_only 6 _ rfl (by kernel_rfl) ?_
                    refine s1_do ?_
                    refine wl_call e_15 rfl (do8_ok w29 s c.op (by omega)) ?_; intro v81 w30 hE30 hR30
                    replace hB11 := hB11.ext hE30 id
                    replace hB10 := hB10.ext hE30 id
                    replace hS := hS.tr hE30
                    subst hR30
                    refine wl_nil ⟨fun _ => hS, ?_⟩
                    refine wx_take 7 [8, 9, 12, 13] _ _ rfl (by kernel_rfl) hS (yd_do fun A hA => rn_move (by conv => lhs; whnf)) ?_
                    refine wx_take 8 [12, 13] _ _ rfl (by kernel_rfl) hS (yd_do fun A hA => rn_extract rfl rfl) ?_
                    refine wx_take 9 [13] _ _ rfl (by kernel_rfl) hS (yd_do fun A hA => rn_extract rfl rfl) ?_
                    refine wx_only 12 _ rfl (by kernel_rfl) ?_
                    refine s1_do ?_
                    refine wl_storeB s_27 rfl rfl rfl (StD.one _) hB10 rfl ?_; intro w31 hE31 hB10 hz31
                    replace hB11 := hB11.ext hE31 (fun h => by omega)
                    replace hS := hS.mine hE31 (.inr (by omega))
                    refine wl_nil ⟨fun _ => hS, ?_⟩
                    refine wx_only 13 _ rfl (by kernel_rfl) ?_
                    refine s1_do ?_
                    refine wl_storeB s_34 rfl rfl rfl (AnsD.one _) hB11 rfl ?_; intro w32 hE32 hB11 hz32
                    replace hB10 := hB10.ext hE32 (fun h => by omega)
                    replace hS := hS.mine hE32 (.inr (by omega))
                    refine wl_nil ⟨fun _ => hS, ?_⟩
                    refine wx_done (by kernel_rfl) ?_ _
                    replace hX := hX.tr hS
                    replace hB5 := hB5.ext hS id
                    replace hDn := hDn.ext hS id
                    replace hzA := Nat.le_trans hzA hS.size
                    have hy10 := Nat.le_trans hzS hm10; have hy11 := Nat.le_trans hzS hm11
                    exact ⟨rfl, ((), b10, b11), ⟨rfl, rfl, rfl, rfl, rfl, rfl, rfl, rfl, trivial⟩, ⟨hX, hB5, hB10, hB11, hl5, hl10, hl11, hn5_10, hn5_11, ⟨hDn, hy10, hy11⟩⟩⟩
              · rintro τ916 ⟨_, b10, b11⟩ C16 ⟨hX, hB5, hB10, hB11, hl5, hl10, hl11, hn5_10, hn5_11, hI⟩
                obtain ⟨hDn, hy10, hy11⟩ := hI
                refine W_seq ?_
                refine W_seq ?_
                refine W_drawE mixed ?_; intro w33 hE33
                replace hX := hX.tr hE33
                replace hB5 := hB5.ext hE33 id; replace hB10 := hB10.ext hE33 id; replace hB11 := hB11.ext hE33 id
                replace hDn := hDn.ext hE33 id
                have hS := Ext.refl Non w33
                refine wd_take 0 _ _ rfl (by kernel_rfl) hS (yd_do fun A hA => rn_loadB s_34 rfl rfl (hB11.ext hA id)) ?_
                refine wd_take 1 _ _ rfl (by kernel_rfl) hS (yd_do fun A hA => rn_move (by conv => lhs; whnf)) ?_
                refine wd_take 2 _ _ rfl (by kernel_rfl) hS (yd_do fun A hA => rn_move (by conv => lhs; whnf)) ?_
                refine wd_take 3 _ _ rfl (by kernel_rfl) hS (yd_do fun A hA => rn_indexAddr sl_25 rfl rfl (by omega)) ?_
                refine wd_take 4 _ _ rfl (by kernel_rfl) hS (yd_do fun A hA => rn_fieldAddr f_38_3 (by decide) rfl) ?_
                refine wd_take 5 _ _ rfl (by kernel_rfl) hS (yd_do fun A hA => rn_loadS s_34 (vs := c.ans.enc) rfl rfl (((hs.ext hX (fun _ h => h)).ext hA (fun _ h => h.elim)).part1 (map_at hcq) rfl (Nat.le_of_ble_eq_true rfl))) ?_
                refine wd_take 6 _ _ rfl (by kernel_rfl) hS (yd_do fun A hA => rn_neqS rfl rfl eg_34 (by decide) (ans_eqs _ _)) ?_
                refine wd_done (by kernel_rfl) ?_ _
                replace hX := hX.tr hS
                replace hB5 := hB5.ext hS id; replace hB10 := hB10.ext hS id; replace hB11 := hB11.ext hS id
                replace hDn := hDn.ext hS id
                refine W_cond rfl (fun hc5 => ?_) (fun hc5 => ?_)
                · have hsb : stepB l s q = none := by rw [stepB_at hcq, if_neg (by simpa using hc5)]
                  refine W_seq ?_
                  refine W_region ?_
                  refine wl_val (rn_assign (by conv => lhs; whnf)) ?_
                  refine wl_nil ?_
                  refine W_ret ?_
                  exact ⟨_, resR1 (res1_tmp rfl), hX, by unfold chkR; rw [decide_eq_true hol, hchk, chk_ans hsb]; rfl⟩
                · have hsb : stepB l s q = some (doS s c.op).1 := by rw [stepB_at hcq, if_pos (by simpa using hc5)]
                  refine W_skip ?_
                  refine W_seq ?_
                  refine W_region ?_
                  refine wl_val (rn_loadB s_27 rfl rfl hB10) ?_
                  have hBo := hB5
                  refine wl_storeB s_27 rfl rfl rfl (StD.one _) hB5 rfl ?_; intro w34 hE34 hB5 hz34
                  replace hX := hX.mine hE34 hl5
                  replace hB10 := hB10.ext hE34 (fun h => by omega); replace hB11 := hB11.ext hE34 (fun h => by omega)
                  replace hDn := hDn.ext hE34 (fun e => by omega)
                  refine wl_nil ?_
                  refine W_region ?_
                  refine wl_val (rn_move (by conv => lhs; whnf)) ?_
                  refine wl_val (rn_move (by conv => lhs; whnf)) ?_
                  refine wl_val (rn_indexAddr sl_117 rfl rfl (by omega)) ?_
                  refine wl_storeE (u := .bool true) (i := q) p_4 rfl rfl rfl rfl hDn (by rw [List.length_map]; omega) ?_; intro w35 hE35 hDn2
                  replace hX := hX.mine hE35 (.inr hyd)
                  replace hB5 := hB5.ext hE35 (fun e => by omega); replace hB10 := hB10.ext hE35 (fun e => by omega); replace hB11 := hB11.ext hE35 (fun e => by omega)
                  rw [eBo_set] at hDn2; have hDn := hDn2
                  refine wl_nil ?_
                  refine W_region ?_
                  refine wl_val (rn_move (by conv => lhs; whnf)) ?_
                  refine wl_val (rn_add rfl rfl (by omega)) ?_
                  refine wl_val (rn_assign (by conv => lhs; whnf)) ?_
                  refine wl_nil ?_
                  exact ⟨rfl, (k + 1, done.set q true, (doS s c.op).1), ⟨rfl, rfl, rfl, rfl, rfl, trivial⟩, ⟨hX, hB5, hl5, ⟨hlt, by rw [List.length_set]; exact hdl, hDn, by rw [hchk, chk_go hq hsb], by have := hbd2.1; push_cast; omega, by have := hbd2.2; push_cast; omega⟩⟩, by show o.length - (k + 1) < o.length - k; omega⟩
    · have hge := of_decide_eq_false hc1; simp only [Int.ofNat_lt, Nat.not_lt] at hge
      rw [List.drop_of_length_le hge] at hchk
      refine W_exit ?_   -- exit 0
      refine W_seq ?_
      refine W_region ?_
      refine wl_val (rn_assign (by conv => lhs; whnf)) ?_
      refine wl_nil ?_
      refine W_ret ?_
      exact ⟨_, resR1 (res1_tmp rfl), hX, by unfold chkR; rw [decide_eq_true hol, hchk]; rfl⟩
end Go.Proofs.YthcclgoidchkdaaDoorC
