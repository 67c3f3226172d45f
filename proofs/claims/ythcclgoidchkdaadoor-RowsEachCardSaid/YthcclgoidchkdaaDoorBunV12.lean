/- Layer 27: rows that come one by one. -/
import Derived.Test.YthcclgoidchkdaaDoorBunV11
import Derived.Test.YthcclgoidchkdaaDoorBunV6
set_option linter.unusedVariables false
set_option linter.unusedSimpArgs false
set_option maxRecDepth 100000
namespace Go.Proofs.YthcclgoidchkdaaDoorC
open Go.RowKit
theorem numb_step {cs : List CallD} {i : Nat} {x : CallD} (hi : cs[i]? = some x) : numb ((cs.take (i + 1)).map rowR) = numb ((cs.take i).map rowR) ++ [(i, rowR x)] := by
  have hlt := (List.getElem?_eq_some_iff.1 hi).1
  rw [List.take_add_one, hi]
  simp only [Option.toList_some, List.map_append, List.map_cons, List.map_nil]
  rw [numb_snoc]; simp only [List.length_map, List.length_take]; rw [Nat.min_eq_left (by omega)]
theorem numb_split {cs : List CallD} {i : Nat} {x : CallD} (hi : cs[i]? = some x) : ∃ q, numb (cs.map rowR) = numb ((cs.take i).map rowR) ++ (i, rowR x) :: q := by
  have hlt := (List.getElem?_eq_some_iff.1 hi).1
  have e : cs.map rowR = (cs.take i).map rowR ++ rowR x :: (cs.drop (i + 1)).map rowR := by
    have h2 : cs = cs.take i ++ x :: cs.drop (i + 1) := by
      have := (List.getElem?_eq_some_iff.1 hi).2
      rw [← this, List.getElem_cons_drop, List.take_append_drop]
    conv => lhs; rw [h2]
    simp
  obtain ⟨q, hq⟩ := numb_pre e
  refine ⟨q, ?_⟩
  rw [hq]; simp only [List.length_map, List.length_take]; rw [Nat.min_eq_left (by omega)]
-- bellman/rows.Rows$1
theorem rows_iter (cs : List CallD) (hok : ∀ c ∈ cs, CallOk c) {v : Value} (M : Nat → Prop) (w0 : World) (b1 : Nat) (hs : Sl M w0 v 15 (cs.map CallD.enc)) (hC1 : IsBox w0 b1 [v]) (h1 : ¬ M b1) (hT : Tab w0) (B : Nat) (hMB : ∀ i, M i → B ≤ i) (hG : ∃ g, Tryd.prog.globalNamed "internal/strconv.uint64pow10" = some g ∧ g < B) :
    Iter Tryd.prog M w0 (.func (.func 76) #[] #[.pointer (some ⟨b1, 0, none⟩)]) (fun p : Nat × Str => #[.int .i64 (p.1 : Nat), Sv p.2]) (numb (cs.map rowR)) := by
  refine iter_of e_76 fun l W J Jx hW hX hY => ?_
  obtain ⟨a, c, rfl, _⟩ := hs.len
  simp only [List.length_map] at hs hC1 ⊢
  have hbig : cs.length ≤ big := by obtain ⟨⟨a1, c1, e1, e2, e3, _⟩, _⟩ := hs; simp at e2; omega
  have hbig2 : big = 9223372036854775807 := rfl
  have ea : (#[Value.func (.yield l) #[] #[]] ++ #[.pointer (some ⟨b1, 0, none⟩)] : Array Value) = [Value.func (.yield l) #[] #[], .pointer (some ⟨b1, 0, none⟩)].toArray := by simp
  rw [ea]
  refine calls_of_W (R := fun v W' => Tl M w0 W (J (numb (cs.map rowR))) [] W' ∨ Tl M w0 W Jx [] W') Tryd.func76 rfl (by kernel_rfl) rfl ?_
  refine W_seq ?_
  refine W_region ?_
  refine wl_val (rn_load1 p_25 rfl (hC1.ext hX.w0 h1) rfl) ?_
  refine wl_val (rn_len sl_25 rfl) ?_
  refine wl_val (rn_move (by conv => lhs; whnf)) ?_
  refine wl_nil ?_
  refine W_block ?_   -- block 0
  refine W_loopS (S := Nat) [0, 5, 6, 7] (fun i => [.func (.yield l) #[] #[], .slice a cs.length c, .int .i64 (cs.length : Nat), .int .i64 (i : Nat)]) (fun i A => (Tl M w0 W (J (numb ((cs.take i).map rowR))) [] A) ∧ (i ≤ cs.length)) (fun i => cs.length - i) 0 ⟨rfl, rfl, rfl, rfl, trivial⟩ ⟨(hX.less (by simp)), Nat.zero_le _⟩ ?_
  rintro τ0 i A0 ⟨hX, hI0⟩
  refine W_seq ?_
  refine W_region ?_
  refine wl_val (rn_lss rfl rfl) ?_
  refine wl_nil ?_
  refine W_seq ?_
  refine W_cond rfl (fun hc0 => ?_) (fun hc0 => ?_)
  · have hlt := of_decide_eq_true hc0; simp only [Int.ofNat_lt] at hlt
    obtain ⟨x, hi⟩ : ∃ x, cs[i]? = some x := ⟨_, List.getElem?_eq_getElem hlt⟩
    obtain ⟨b, o, ea⟩ := hs.base (by intro e; simp at e; subst e; simp at hlt); subst ea
    obtain ⟨q, hsp⟩ := numb_split hi
    refine W_skip ?_
    refine W_seq ?_
    refine W_block ?_   -- block 1
    refine W_seq ?_
    refine W_region ?_
    refine wl_val (rn_move (by conv => lhs; whnf)) ?_
    refine wl_val (rn_indexAddr sl_25 rfl rfl (by omega)) ?_
    refine wl_val (rn_loadS s_38 rfl rfl ((hs.ext hX.w0 (fun _ h => h)).all0 (map_at hi))) ?_
    refine wl_alloc z_38 ?_; intro b4 w1 hb4 hE1 hB4
    replace hX := hX.add hE1 hb4 hB4.lt
    have hl4 : b4 ∈ [b4] := by simp
    refine wl_val (rn_assign (by conv => lhs; whnf)) ?_
    refine wl_storeB s_38 rfl rfl rfl (CallD.one x) hB4 rfl ?_; intro w2 hE2 hB4 hz2
    replace hX := hX.mine hE2 hl4
    refine wl_nil ?_
    refine W_seq ?_
    refine W_region ?_
    refine wl_val (rn_move (by conv => lhs; whnf)) ?_
    refine wl_val (rn_move (by conv => lhs; whnf)) ?_
    refine wl_val (rn_loadB s_38 rfl rfl hB4) ?_
    refine wl_call e_54 rfl (row_ok w2 x (hok x (List.mem_of_getElem? hi)) (hT.ext hX.w0 hMB hG)) ?_; intro v15 w3 hE3 hR3
    replace hX := hX.tr hE3
    replace hB4 := hB4.ext hE3 id
    subst hR3
    refine wl_yield rfl rfl (hY _ _ _ _ _ hsp hX) ?_; rintro b16 w4 ⟨hE4, hyT, hyF⟩
    refine wl_val (rn_not rfl) ?_
    refine wl_nil ?_
    refine W_cond rfl (fun hc1 => ?_) (fun hc1 => ?_)
    · refine W_ret ?_
      first | exact ⟨_, rfl, .inr ((hyF (by simpa using hc1)).less (by simp))⟩ | exact ⟨_, rfl, .inl (by have hge := of_decide_eq_false hc0; simp only [Int.ofNat_lt, Nat.not_lt] at hge; have hie : i = cs.length := (by omega); subst hie; rw [List.take_length] at hX; exact hX.less (by simp))⟩
    · refine W_skip ?_
      refine W_region ?_
      refine wl_val (rn_add rfl rfl (by omega)) ?_
      refine wl_val (rn_move (by conv => lhs; whnf)) ?_
      refine wl_nil ?_
      have hts := numb_step hi
      replace hX := hyT (by simpa using hc1)
      rw [← hts] at hX
      exact ⟨rfl, i + 1, ⟨rfl, rfl, rfl, rfl, trivial⟩, ⟨(hX.less (by simp)), hlt⟩, by omega⟩
  · refine W_exit ?_   -- exit 0
    first | exact ⟨_, rfl, .inr ((hyF (by simpa using hc1)).less (by simp))⟩ | exact ⟨_, rfl, .inl (by have hge := of_decide_eq_false hc0; simp only [Int.ofNat_lt, Nat.not_lt] at hge; have hie : i = cs.length := (by omega); subst hie; rw [List.take_length] at hX; exact hX.less (by simp))⟩
-- bellman/rows.Rows
theorem rows_new (w : World) (cs : List CallD) (hok : ∀ c ∈ cs, CallOk c) {v : Value} (M : Nat → Prop) (hM : ∀ i, M i → i < w.heap.size) (hs : Sl M w v 15 (cs.map CallD.enc)) (hT : Tab w) (B : Nat) (hMB : ∀ i, M i → B ≤ i) (hG : ∃ g, Tryd.prog.globalNamed "internal/strconv.uint64pow10" = some g ∧ g < B) : Fn Tryd.prog 29 #[v] w fun u w' => Iter Tryd.prog M w' u (fun p : Nat × Str => #[.int .i64 (p.1 : Nat), Sv p.2]) (numb (cs.map rowR)) := by
  obtain ⟨a, c, rfl, _⟩ := hs.len
  have hX := Ext.refl Non w
  refine fn_of_W (args := [_]) Tryd.func29 rfl (by kernel_rfl) rfl ?_
  refine W_seq ?_
  refine W_region ?_
  refine wl_box1 (by conv => lhs; whnf) rfl ?_; intro b1 w1 hb1 hE1 hB1
  have hq1 : w.heap.size ≤ b1 := Nat.le_trans hX.size hb1
  have hl1 : Mine Non w b1 := .inr hq1
  replace hX := hX.tr hE1
  refine wl_val (rn_assign (by conv => lhs; whnf)) ?_
  refine wl_nil ?_
  refine W_seq ?_
  refine W_region ?_
  refine wl_val (rn_makeFunc rfl) ?_
  refine wl_val (rn_assign (by conv => lhs; whnf)) ?_
  refine wl_nil ?_
  refine W_ret ?_
  exact ⟨_, resR1 (res1_tmp rfl), hX, rows_iter cs hok M _ b1 (hs.ext hX.of_non (fun _ h => h)) hB1 (fun h => by have := hM _ h; omega) (hT.non hX) B hMB hG⟩
-- bellman/bellmanlaw27.RowsEach
set_option maxHeartbeats 3200000 in
theorem rowsEach_ok (w : World) (cs : List CallD) (hI : ∀ c ∈ cs, CallI c) (few : Int) (hf0 : 0 ≤ few) (hf1 : few ≤ 255) {v : Value} (hs : Sl Non w v 15 (cs.map CallD.enc)) (hT : Tab w) : Fn Tryd.prog 6 #[v, .int .u8 few] w fun u w' => u = .bool true := by
  obtain ⟨a, cc, rfl, _⟩ := hs.len
  simp only [List.length_map] at hs ⊢
  have hG := hT.gl (Nat.le_refl w.heap.size)
  have hX := Ext.refl Non w
  refine fn_of_W (args := [_, _]) Tryd.func6 rfl (by kernel_rfl) rfl ?_
  refine W_seq ?_
  refine W_region ?_
  refine wl_box1 (by conv => lhs; whnf) rfl ?_; intro b2 w1 hb2 hE1 hB2
  have hq2 : w.heap.size ≤ b2 := Nat.le_trans hX.size hb2
  have hl2 : Mine Non w b2 := .inr hq2
  replace hX := hX.tr hE1
  refine wl_box1 (by conv => lhs; whnf) rfl ?_; intro b3 w2 hb3 hE2 hB3
  have hn2_3 : b2 < b3 := Nat.lt_of_lt_of_le hB2.lt hb3
  have hq3 : w.heap.size ≤ b3 := Nat.le_trans hX.size hb3
  have hl3 : Mine Non w b3 := .inr hq3
  replace hX := hX.tr hE2
  replace hB2 := hB2.ext hE2 id
  refine wl_alloc z_4 ?_; intro b4 w3 hb4 hE3 hB4
  have hn2_4 : b2 < b4 := Nat.lt_of_lt_of_le hB2.lt hb4
  have hn3_4 : b3 < b4 := Nat.lt_of_lt_of_le hB3.lt hb4
  have hq4 : w.heap.size ≤ b4 := Nat.le_trans hX.size hb4
  have hl4 : Mine Non w b4 := .inr hq4
  replace hX := hX.tr hE3
  replace hB2 := hB2.ext hE3 id; replace hB3 := hB3.ext hE3 id
  refine wl_nil ?_
  refine W_seq ?_
  refine W_seq ?_
  refine W_region ?_
  refine wl_call e_27 rfl (awake27_ok w3 (hT.non hX)) ?_; intro v11 w4 hE4 hR4
  replace hX := hX.tr hE4
  replace hB2 := hB2.ext hE4 id; replace hB3 := hB3.ext hE4 id; replace hB4 := hB4.ext hE4 id
  subst hR4
  refine wl_val (rn_not rfl) ?_
  refine wl_nil ?_
  refine W_cond rfl (fun hc0 => ?_) (fun hc0 => ?_)
  · exact absurd hc0 (by decide)
  · refine W_skip ?_
    refine W_seq ?_
    refine W_seq ?_
    refine W_region ?_
    refine wl_val (rn_load1 p_25 rfl hB2 rfl) ?_
    refine wl_val (rn_len sl_25 rfl) ?_
    refine wl_val (rn_gtr rfl rfl) ?_
    refine wl_nil ?_
    refine W_cond rfl (fun hc1 => ?_) (fun hc1 => ?_)
    · refine W_seq ?_
      refine W_region ?_
      refine wl_store1 (b := b4) p_4 rfl (by conv => lhs; whnf) rfl rfl hB4 (Nat.le_of_ble_eq_true rfl) ?_; intro w5 hE5 hB4 hz5
      replace hX := hX.mine hE5 hl4
      replace hB2 := hB2.ext hE5 (fun h => by omega); replace hB3 := hB3.ext hE5 (fun h => by omega)
      refine wl_nil ?_
      refine W_ret ?_
      exact ⟨_, resR1 (res1_cell p_4 rfl hB4), hX, rfl⟩
    · have hlen : cs.length ≤ 60 := by have := of_decide_eq_false hc1; omega
      refine W_skip ?_
      refine W_seq ?_
      refine W_seq ?_
      refine W_region ?_
      refine wl_val (rn_assign (by conv => lhs; whnf)) ?_
      refine wl_nil ?_
      refine W_block ?_   -- block 0
      refine W_loopS (S := Nat) [2, 3, 4, 5] (fun i => [.pointer (some ⟨b2, 0, none⟩), .pointer (some ⟨b3, 0, none⟩), .pointer (some ⟨b4, 0, none⟩), .int .i64 (i : Nat)]) (fun i A => (Ext Non w A) ∧ (IsBox A b2 [.slice a cs.length cc]) ∧ (IsBox A b3 [.int .u8 few]) ∧ (IsBox A b4 [.bool false]) ∧ (Mine Non w b2) ∧ (Mine Non w b3) ∧ (Mine Non w b4) ∧ (b2 < b3) ∧ (b2 < b4) ∧ (b3 < b4) ∧ (i ≤ cs.length ∧ ∀ x ∈ cs.take i, CallS x)) (fun i => cs.length - i) 0 ⟨rfl, rfl, rfl, rfl, trivial⟩ ⟨hX, hB2, hB3, hB4, hl2, hl3, hl4, hn2_3, hn2_4, hn3_4, ⟨Nat.zero_le _, fun x h => by simp at h⟩⟩ ?_
      rintro τ0 i A0 ⟨hX, hB2, hB3, hB4, hl2, hl3, hl4, hn2_3, hn2_4, hn3_4, hI0⟩
      obtain ⟨hI0_, hall⟩ := hI0
      refine W_seq ?_
      refine W_seq ?_
      refine W_region ?_
      refine wl_val (rn_move (by conv => lhs; whnf)) ?_
      refine wl_val (rn_load1 p_25 rfl hB2 rfl) ?_
      refine wl_val (rn_len sl_25 rfl) ?_
      refine wl_val (rn_lss rfl rfl) ?_
      refine wl_nil ?_
      refine W_cond rfl (fun hc2 => ?_) (fun hc2 => ?_)
      · have hlt := of_decide_eq_true hc2; simp only [Int.ofNat_lt] at hlt
        obtain ⟨x, hi⟩ : ∃ x, cs[i]? = some x := ⟨_, List.getElem?_eq_getElem hlt⟩
        obtain ⟨bb, oo, ea⟩ := hs.base (by intro e; simp at e; subst e; simp at hlt); subst ea
        refine W_skip ?_
        refine W_seq ?_
        refine W_block ?_   -- block 1
        refine W_seq ?_
        refine W_region ?_
        refine wl_val (rn_load1 p_25 rfl hB2 rfl) ?_
        refine wl_val (rn_move (by conv => lhs; whnf)) ?_
        refine wl_val (rn_indexAddr sl_25 rfl rfl (by omega)) ?_
        refine wl_val (rn_loadS s_38 rfl rfl ((hs.ext hX (fun _ h => h)).all0 (map_at hi))) ?_
        refine wl_call e_28 rfl (long27_ok A0 x) ?_; intro v26 w6 hE6 hR6
        replace hX := hX.tr hE6
        replace hB2 := hB2.ext hE6 id; replace hB3 := hB3.ext hE6 id; replace hB4 := hB4.ext hE6 id
        obtain ⟨bl, rfl, hbl⟩ := hR6
        refine wl_nil ?_
        refine W_cond rfl (fun hc3 => ?_) (fun hc3 => ?_)
        · refine W_seq ?_
          refine W_region ?_
          refine wl_store1 (b := b4) p_4 rfl (by conv => lhs; whnf) rfl rfl hB4 (Nat.le_of_ble_eq_true rfl) ?_; intro w7 hE7 hB4 hz7
          replace hX := hX.mine hE7 hl4
          replace hB2 := hB2.ext hE7 (fun h => by omega); replace hB3 := hB3.ext hE7 (fun h => by omega)
          refine wl_nil ?_
          refine W_ret ?_
          exact ⟨_, resR1 (res1_cell p_4 rfl hB4), hX, rfl⟩
        · refine W_skip ?_
          refine W_region ?_
          refine wl_val (rn_move (by conv => lhs; whnf)) ?_
          refine wl_val (rn_add rfl rfl (by omega)) ?_
          refine wl_val (rn_assign (by conv => lhs; whnf)) ?_
          refine wl_nil ?_
          exact ⟨rfl, i + 1, ⟨rfl, rfl, rfl, rfl, trivial⟩, ⟨hX, hB2, hB3, hB4, hl2, hl3, hl4, hn2_3, hn2_4, hn3_4, ⟨hlt, fun y hy => by rw [List.take_add_one, hi] at hy; rcases List.mem_append.1 hy with h | h; exact hall y h; simp at h; rw [h]; exact hbl hc3⟩⟩, by show cs.length - (i + 1) < cs.length - i; omega⟩
      · have hge := of_decide_eq_false hc2; simp only [Int.ofNat_lt, Nat.not_lt] at hge
        have hok : ∀ c ∈ cs, CallOk c := fun x hx => (hI x hx).ok (hall x (by rw [List.take_of_length_le hge]; exact hx))
        refine W_exit ?_   -- exit 0
        refine W_seq ?_
        refine W_region ?_
        refine wl_val (rn_load1 p_25 rfl hB2 rfl) ?_
        refine wl_call e_29 rfl (rows_new A0 cs hok (fun i => i = b4) (fun i e => by rw [e]; exact hB4.lt) ((hs.sub (M' := fun i => i = b4) (fun i e hlt => by omega)).ext hX.of_non (fun _ h => h)) (hT.non hX) w.heap.size (fun i e => by rw [e]; exact hq4) hG) ?_; intro v28 w8 hE8 hR8
        replace hX := hX.tr hE8
        replace hB2 := hB2.ext hE8 id; replace hB3 := hB3.ext hE8 id; replace hB4 := hB4.ext hE8 id
        have hIt := hR8; obtain ⟨fk, ck, hfk, _⟩ := id hIt; subst hfk
        have hW := Ext.refl (fun i => i = b4) w8; have hwm4 : Mine (fun i => i = b4) w8 b4 := .inl rfl
        obtain ⟨wz, hwz⟩ : ∃ x, x = w8 := ⟨_, rfl⟩
        rw [← hwz] at hIt hwm4; replace hW : Ext (fun i => i = b4) wz w8 := by rw [hwz]; exact hW
        refine wl_val (rn_assign (by conv => lhs; whnf)) ?_
        refine wl_nil ?_
        refine W_seq ?_
        refine W_seq ?_
        refine W_region ?_
        refine wl_val (rn_move (by conv => lhs; whnf)) ?_
        refine wl_val (rn_func_eql uf_64 rfl rfl) ?_
        refine wl_nil ?_
        refine W_condF rfl ?_
        refine W_skip ?_
        refine W_seq ?_
        refine W_seq ?_
        refine W_region ?_
        refine wl_alloc z_3 ?_; intro b7 w9 hb7 hE9 hB7
        have hn2_7 : b2 < b7 := Nat.lt_of_lt_of_le hB2.lt hb7
        have hn3_7 : b3 < b7 := Nat.lt_of_lt_of_le hB3.lt hb7
        have hn4_7 : b4 < b7 := Nat.lt_of_lt_of_le hB4.lt hb7
        have hq7 : w.heap.size ≤ b7 := Nat.le_trans hX.size hb7
        have hl7 : Mine Non w b7 := .inr hq7
        have hwm7 : Mine (fun i => i = b4) wz b7 := .inr (Nat.le_trans hW.size hb7)
        replace hX := hX.tr hE9
        replace hB2 := hB2.ext hE9 id; replace hB3 := hB3.ext hE9 id; replace hB4 := hB4.ext hE9 id
        replace hW := hW.tr hE9
        have hBo := hB7
        refine wl_store1 (b := b7) p_3 rfl (by conv => lhs; whnf) rfl rfl hB7 (Nat.le_of_ble_eq_true rfl) ?_; intro w10 hE10 hB7 hz10
        replace hX := hX.mine hE10 hl7
        replace hB2 := hB2.ext hE10 (fun h => by omega); replace hB3 := hB3.ext hE10 (fun h => by omega); replace hB4 := hB4.ext hE10 (fun h => by omega)
        replace hW := hW.mine hE10 hwm7
        refine wl_nil ?_
        refine W_block ?_   -- block 2
        refine W_loopD (S := Nat × Nat) [2, 3, 4, 6, 7] (fun ⟨r, b7⟩ => [.pointer (some ⟨b2, 0, none⟩), .pointer (some ⟨b3, 0, none⟩), .pointer (some ⟨b4, 0, none⟩), .func (.func fk) #[] ck, .pointer (some ⟨b7, 0, none⟩)]) (fun ⟨r, b7⟩ D A => (Ext Non w A) ∧ (Mk w D A) ∧ (IsBox A b2 [.slice a cs.length cc]) ∧ (IsBox A b3 [.int .u8 few]) ∧ (IsBox A b4 [.bool false]) ∧ (IsBox A b7 [.int .i64 (r : Nat)]) ∧ (Mine Non w b2) ∧ (Mine Non w b3) ∧ (Mine Non w b4) ∧ (Mine Non w b7) ∧ (b2 < b3) ∧ (b2 < b4) ∧ (b2 < b7) ∧ (b3 < b4) ∧ (b3 < b7) ∧ (b4 < b7) ∧ (Ext (fun i => i = b4) wz A ∧ Mine (fun i => i = b4) wz b7 ∧ r ≤ 2)) (fun ⟨r, b7⟩ => 2 - r) (0, b7) ⟨rfl, rfl, rfl, rfl, rfl, trivial⟩ ⟨hX, Mk.nil, hB2, hB3, hB4, hB7, hl2, hl3, hl4, hl7, hn2_3, hn2_4, hn2_7, hn3_4, hn3_7, hn4_7, ⟨hW, hwm7, by omega⟩⟩ ?_
        rintro τ1 ⟨r, b7⟩ D A1 ⟨hX, hD, hB2, hB3, hB4, hB7, hl2, hl3, hl4, hl7, hn2_3, hn2_4, hn2_7, hn3_4, hn3_7, hn4_7, hI1⟩
        obtain ⟨hW, hwm7, hr2⟩ := hI1
        refine W_seq ?_
        refine W_seq ?_
        refine W_region ?_
        refine wl_val (rn_load1 p_3 rfl hB7 rfl) ?_
        refine wl_val (rn_lss rfl rfl) ?_
        refine wl_nil ?_
        refine W_cond rfl (fun hc5 => ?_) (fun hc5 => ?_)
        · have hr3 : r < 2 := by have := of_decide_eq_true hc5; omega
          refine W_skip ?_
          refine W_seq ?_
          refine W_block ?_   -- block 3
          refine W_seq ?_
          refine W_region ?_
          refine wl_alloc z_3 ?_; intro b8 w11 hb8 hE11 hB8
          have hn2_8 : b2 < b8 := Nat.lt_of_lt_of_le hB2.lt hb8
          have hn3_8 : b3 < b8 := Nat.lt_of_lt_of_le hB3.lt hb8
          have hn4_8 : b4 < b8 := Nat.lt_of_lt_of_le hB4.lt hb8
          have hn7_8 : b7 < b8 := Nat.lt_of_lt_of_le hB7.lt hb8
          have hq8 : w.heap.size ≤ b8 := Nat.le_trans hX.size hb8
          have hl8 : Mine Non w b8 := .inr hq8
          have hwm8 : Mine (fun i => i = b4) wz b8 := .inr (Nat.le_trans hW.size hb8)
          replace hX := hX.tr hE11
          replace hB2 := hB2.ext hE11 id; replace hB3 := hB3.ext hE11 id; replace hB4 := hB4.ext hE11 id; replace hB7 := hB7.ext hE11 id
          replace hW := hW.tr hE11
          replace hD := hD.non hE11
          have hBo := hB8
          refine wl_store1 (b := b8) p_3 rfl (by conv => lhs; whnf) rfl rfl hB8 (Nat.le_of_ble_eq_true rfl) ?_; intro w12 hE12 hB8 hz12
          replace hX := hX.mine hE12 hl8
          replace hB2 := hB2.ext hE12 (fun h => by omega); replace hB3 := hB3.ext hE12 (fun h => by omega); replace hB4 := hB4.ext hE12 (fun h => by omega); replace hB7 := hB7.ext hE12 (fun h => by omega)
          replace hW := hW.mine hE12 hwm8
          replace hD := hD.box hE12 hBo
          refine wl_nil ?_
          refine W_seq ?_
          refine W_seq ?_
          refine W_region ?_
          refine wl_val (rn_move (by conv => lhs; whnf)) ?_
          refine wl_nil ?_
          refine W_block ?_   -- block 4
          have hszr := hX.size
          have hsz_hW := hW.size
          have ho2 : w.heap.size ≤ b2 := by rcases hl2 with h | h; exact h.elim; exact h
          have ho3 : w.heap.size ≤ b3 := by rcases hl3 with h | h; exact h.elim; exact h
          have ho4 : w.heap.size ≤ b4 := by rcases hl4 with h | h; exact h.elim; exact h
          have ho7 : w.heap.size ≤ b7 := by rcases hl7 with h | h; exact h.elim; exact h
          have ho8 : w.heap.size ≤ b8 := by rcases hl8 with h | h; exact h.elim; exact h
          refine W_rangeFunc (M := fun i => i = b4) (w0 := wz) (I := fun pre N A => Box N A b2 [.slice a cs.length cc] ∧ Box N A b3 [.int .u8 few] ∧ Box N A b4 [.bool false] ∧ Box N A b7 [.int .i64 (r : Nat)] ∧ Box N A b8 [.int .i64 (pre.length : Nat)] ∧ Ext Non w A ∧ Ext (fun i => i = b4) wz A ∧ MkN w D N A ∧ (True)) (X := fun c N A => c = .exit 4 ∧ Box N A b2 [.slice a cs.length cc] ∧ Box N A b3 [.int .u8 few] ∧ Box N A b4 [.bool false] ∧ Box N A b7 [.int .i64 (r : Nat)] ∧ Ext Non w A ∧ Ext (fun i => i = b4) wz A ∧ MkN w D N A ∧ (r = 0)) (encs := fun p : Nat × Str => [.int .i64 (p.1 : Nat), Sv p.2]) (xs := numb (cs.map rowR)) rfl (hIt) (hW) (fun _ => rfl) (fun pre => (Stab.box _ _).and ((Stab.box _ _).and ((Stab.box _ _).and ((Stab.box _ _).and ((Stab.box _ _).and ((Stab.old hX.size).and ((Stab.oldM hW.size).and ((Stab.mk _ _).and ((Stab.pure _)))))))))) (fun c => (Stab.pure _).and ((Stab.box _ _).and ((Stab.box _ _).and ((Stab.box _ _).and ((Stab.box _ _).and ((Stab.old hX.size).and ((Stab.oldM hW.size).and ((Stab.mk _ _).and ((Stab.pure _)))))))))) ⟨⟨hB2, id⟩, ⟨hB3, id⟩, ⟨hB4, id⟩, ⟨hB7, id⟩, ⟨hB8, id⟩, hX, hW, hD.toN, trivial⟩ ?_ ?_ ?_
          · rintro l N pre x A hl hN hA hst ⟨hK2, hK3, hK4, hK7, hK8, hXo, hW, hDk, hIr⟩ ⟨post, hpre⟩
            have hB2 := hK2.1
            have hB3 := hK3.1
            have hB4 := hK4.1; have hl4 : Mine (Yc (fun i => i = b4) wz N) A b4 := .inl ⟨hK4.2, .inl rfl⟩
            have hB7 := hK7.1; have hl7 : Mine (Yc (fun i => i = b4) wz N) A b7 := .inl ⟨hK7.2, hwm7⟩
            have hB8 := hK8.1; have hl8 : Mine (Yc (fun i => i = b4) wz N) A b8 := .inl ⟨hK8.2, hwm8⟩
            have hX := Ext.refl (Yc (fun i => i = b4) wz N) A
            obtain ⟨hxi, hxl, _⟩ := numb_at (i := x.1) (x := x.2) (post := post) (pre := pre) (by rw [hpre])
            rw [List.getElem?_map] at hxl
            obtain ⟨cq, hcq, hcr⟩ := Option.map_eq_some_iff.1 hxl
            have hxlt := (List.getElem?_eq_some_iff.1 hcq).1
            have hpe : ((pre.length : Nat) : Int).toNat = x.1 := by omega
            obtain ⟨bq, ofq, eaq⟩ := hs.base (by intro e; have := congrArg List.length e; simp only [List.length_map, List.length_nil] at this; omega)
            have hs1 := hs; rw [eaq] at hs1
            refine W_seq ?_
            refine W_region ?_
            refine wl_val (rn_assign (by conv => lhs; whnf)) ?_
            refine wl_nil ?_
            refine W_region ?_
            refine wl_val (rn_assign (by conv => lhs; whnf)) ?_
            refine wl_nil ?_
            refine ⟨rfl, hX, fun A2 hE2r hz2r hst2 => ?_⟩
            have hNl := (hN l hl).2
            replace hB2 := hB2.ext hE2r (fun e => hK2.2 (by rw [e]; exact hl))
            replace hB3 := hB3.ext hE2r (fun e => hK3.2 (by rw [e]; exact hl))
            replace hB4 := hB4.ext hE2r (fun e => hK4.2 (by rw [e]; exact hl))
            replace hB7 := hB7.ext hE2r (fun e => hK7.2 (by rw [e]; exact hl))
            replace hB8 := hB8.ext hE2r (fun e => hK8.2 (by rw [e]; exact hl))
            replace hXo := hXo.mine hE2r (.inr (Nat.le_trans hszr (hN l hl).1)); replace hDk := hDk.lp hE2r hl
            replace hW := hW.mine hE2r (.inr (Nat.le_trans hsz_hW (hN l hl).1))
            have hl4 : Mine (Yc (fun i => i = b4) wz N) A2 b4 := .inl ⟨hK4.2, .inl rfl⟩
            have hl7 : Mine (Yc (fun i => i = b4) wz N) A2 b7 := .inl ⟨hK7.2, hwm7⟩
            have hl8 : Mine (Yc (fun i => i = b4) wz N) A2 b8 := .inl ⟨hK8.2, hwm8⟩
            have hX := Ext.refl (Yc (fun i => i = b4) wz N) A2
            refine W_block ?_   -- block 5
            refine W_seq ?_
            refine W_seq ?_
            refine W_region ?_
            refine wl_val (rn_move (by conv => lhs; whnf)) ?_
            refine wl_val (rn_load1 p_3 rfl hB8 rfl) ?_
            refine wl_val (rn_neq rfl rfl) ?_
            refine wl_val (rn_move (by conv => lhs; whnf)) ?_
            refine wl_split (d := 41) rfl (fun hg41 => ?_) (fun hg41 => ?_)
            · exact absurd (of_decide_eq_true hg41) (by rw [hxi]; simp)
            · refine wl_yes rfl (congrArg Value.bool hg41) ?_
              refine wl_val (rn_load1 p_3 rfl hB8 rfl) ?_
              refine wl_yes rfl (congrArg Value.bool hg41) ?_
              refine wl_val (rn_load1 p_25 rfl hB2 rfl) ?_
              refine wl_yes rfl (congrArg Value.bool hg41) ?_
              refine wl_val (rn_len sl_25 rfl) ?_
              refine wl_yes rfl (congrArg Value.bool hg41) ?_
              refine wl_val (rn_geq rfl rfl) ?_
              refine wl_val (rn_pickF (congrArg Value.bool hg41) (by conv => lhs; whnf)) ?_
              refine wl_val (rn_move (by conv => lhs; whnf)) ?_
              refine wl_split (d := 47) rfl (fun hg47 => ?_) (fun hg47 => ?_)
              · exact absurd (of_decide_eq_true hg47) (by omega)
              · refine wl_yes rfl (congrArg Value.bool hg47) ?_
                refine wl_val (rn_move (by conv => lhs; whnf)) ?_
                refine wl_yes rfl (congrArg Value.bool hg47) ?_
                refine wl_val (rn_load1 p_25 rfl hB2 rfl) ?_
                refine wl_yes rfl (congrArg Value.bool hg47) ?_
                refine wl_val (rn_load1 p_3 rfl hB8 rfl) ?_
                refine wl_yes rfl (congrArg Value.bool hg47) ?_
                refine wl_val (rn_indexAddr sl_25 (a := ⟨bq, ofq, none⟩) (n := cs.length) (c := cc) (by rw [← eaq]; rfl) rfl (by omega)) ?_
                refine wl_yes rfl (congrArg Value.bool hg47) ?_
                refine wl_val (rn_loadS s_38 rfl rfl ((hs1.ext hXo (fun _ h => h)).all0 (map_at (i := ((pre.length : Nat) : Int).toNat) (by rw [hpe]; exact hcq)))) ?_
                refine wl_yes rfl (congrArg Value.bool hg47) ?_
                refine wl_call e_30 rfl (rrow_ok A2 cq (hok cq (List.mem_of_getElem? hcq))) ?_; intro v53 w13 hE13 hR13
                replace hX := hX.tr hE13
                replace hB2 := hB2.ext hE13 id; replace hB3 := hB3.ext hE13 id; replace hB4 := hB4.ext hE13 id; replace hB7 := hB7.ext hE13 id; replace hB8 := hB8.ext hE13 id
                replace hXo := hXo.tr hE13
                replace hDk := hDk.non hE13
                replace hW := hW.tr hE13
                subst hR13
                refine wl_yes rfl (congrArg Value.bool hg47) ?_
                refine wl_val (rn_sneq rfl rfl) ?_
                refine wl_val (rn_pickF (congrArg Value.bool hg47) (by conv => lhs; whnf)) ?_
                refine wl_nil ?_
                refine W_cond rfl (fun hc6 => ?_) (fun hc6 => ?_)
                · exact absurd (of_decide_eq_true hc6) (by rw [hcr]; simp)
                · refine W_skip ?_
                  refine W_seq ?_
                  refine W_region ?_
                  refine wl_val (rn_load1 p_3 rfl hB8 rfl) ?_
                  refine wl_val (rn_add rfl rfl (by omega)) ?_
                  have hBo := hB8
                  refine wl_store1 (b := b8) p_3 rfl (by conv => lhs; whnf) rfl rfl hB8 (Nat.le_of_ble_eq_true rfl) ?_; intro w14 hE14 hB8 hz14
                  replace hX := hX.mine hE14 hl8
                  replace hB2 := hB2.ext hE14 (fun h => by omega); replace hB3 := hB3.ext hE14 (fun h => by omega); replace hB4 := hB4.ext hE14 (fun h => by omega); replace hB7 := hB7.ext hE14 (fun h => by omega)
                  replace hXo := hXo.mine hE14 (.inr ho8)
                  replace hDk := hDk.box hE14 hBo
                  replace hW := hW.mine hE14 hwm8
                  refine wl_nil ?_
                  refine W_seq ?_
                  refine W_region ?_
                  refine wl_val (rn_load1 p_3 rfl hB7 rfl) ?_
                  refine wl_val (rn_eql rfl rfl) ?_
                  refine wl_val (rn_move (by conv => lhs; whnf)) ?_
                  refine wl_split (d := 60) rfl (fun hg60 => ?_) (fun hg60 => ?_)
                  · refine wl_yes rfl (congrArg Value.bool hg60) ?_
                    refine wl_val (rn_load1 p_3 rfl hB8 rfl) ?_
                    refine wl_yes rfl (congrArg Value.bool hg60) ?_
                    refine wl_val (rn_load1 p_5 rfl hB3 rfl) ?_
                    refine wl_yes rfl (congrArg Value.bool hg60) ?_
                    refine wl_val (rn_convert ui_5 ui_3 rfl (wrap_id (by omega))) ?_
                    refine wl_yes rfl (congrArg Value.bool hg60) ?_
                    refine wl_val (rn_gtr rfl rfl) ?_
                    refine wl_val (rn_pickT (congrArg Value.bool hg60) (by conv => lhs; whnf)) ?_
                    refine wl_nil ?_
                    refine W_cond rfl (fun hc7 => ?_) (fun hc7 => ?_)
                    · refine W_exit ?_   -- exit 4
                      have hr0 : r = 0 := by have := of_decide_eq_true hg60; omega
                      exact ⟨hX, rfl, ⟨hB2, hK2.2⟩, ⟨hB3, hK3.2⟩, ⟨hB4, hK4.2⟩, ⟨hB7, hK7.2⟩, hXo, hW, hDk, hr0⟩
                    · refine W_skip ?_
                      replace hB8 := hB8.cast (cs' := [.int .i64 ((pre ++ [x]).length : Nat)]) (by rw [List.length_append]; rfl)
                      exact ⟨hX, ⟨hB2, hK2.2⟩, ⟨hB3, hK3.2⟩, ⟨hB4, hK4.2⟩, ⟨hB7, hK7.2⟩, ⟨hB8, hK8.2⟩, hXo, hW, hDk, trivial⟩
                  · refine wl_no rfl (congrArg Value.bool hg60) ?_
                    refine wl_no rfl (congrArg Value.bool hg60) ?_
                    refine wl_no rfl (congrArg Value.bool hg60) ?_
                    refine wl_no rfl (congrArg Value.bool hg60) ?_
                    refine wl_val (rn_pickF (congrArg Value.bool hg60) (by conv => lhs; whnf)) ?_
                    refine wl_nil ?_
                    refine W_condF rfl ?_
                    refine W_skip ?_
                    replace hB8 := hB8.cast (cs' := [.int .i64 ((pre ++ [x]).length : Nat)]) (by rw [List.length_append]; rfl)
                    exact ⟨hX, ⟨hB2, hK2.2⟩, ⟨hB3, hK3.2⟩, ⟨hB4, hK4.2⟩, ⟨hB7, hK7.2⟩, ⟨hB8, hK8.2⟩, hXo, hW, hDk, trivial⟩
          · rintro N rk w' ⟨hK2, hK3, hK4, hK7, hK8, hXo, hW, hDk, hIr⟩ hN hA hr hrd
            have hB2 := hK2.1
            have hB3 := hK3.1
            have hB4 := hK4.1
            have hB7 := hK7.1
            have hB8 := hK8.1
            have hX := hXo; have hD := hDk.add hrd (Nat.le_trans hszr (hN rk hr).1) hr
            refine W_seq ?_
            refine W_region ?_
            refine wl_val (rn_load1 p_3 rfl hB7 rfl) ?_
            refine wl_val (rn_eql rfl rfl) ?_
            refine wl_val (rn_move (by conv => lhs; whnf)) ?_
            refine wl_split (d := 68) rfl (fun hg68 => ?_) (fun hg68 => ?_)
            · refine wl_yes rfl (congrArg Value.bool hg68) ?_
              refine wl_val (rn_load1 p_3 rfl hB8 rfl) ?_
              refine wl_yes rfl (congrArg Value.bool hg68) ?_
              refine wl_val (rn_load1 p_25 rfl hB2 rfl) ?_
              refine wl_yes rfl (congrArg Value.bool hg68) ?_
              refine wl_val (rn_len sl_25 rfl) ?_
              refine wl_yes rfl (congrArg Value.bool hg68) ?_
              refine wl_val (rn_neq rfl rfl) ?_
              refine wl_val (rn_pickT (congrArg Value.bool hg68) (by conv => lhs; whnf)) ?_
              refine wl_nil ?_
              refine W_cond rfl (fun hc8 => ?_) (fun hc8 => ?_)
              · exact absurd (of_decide_eq_true hc8) (by rw [numb_len]; simp)
              · refine W_skip ?_
                refine W_seq ?_
                refine W_seq ?_
                refine W_region ?_
                refine wl_val (rn_load1 p_3 rfl hB7 rfl) ?_
                refine wl_nil ?_
                refine W_region ?_
                refine wl_alloc z_3 ?_; intro b7 w15 hb7 hE15 hB7
                have hn2_7 : b2 < b7 := Nat.lt_of_lt_of_le hB2.lt hb7
                have hn3_7 : b3 < b7 := Nat.lt_of_lt_of_le hB3.lt hb7
                have hn4_7 : b4 < b7 := Nat.lt_of_lt_of_le hB4.lt hb7
                have hn8_7 : b8 < b7 := Nat.lt_of_lt_of_le hB8.lt hb7
                have hq7 : w.heap.size ≤ b7 := Nat.le_trans hX.size hb7
                have hl7 : Mine Non w b7 := .inr hq7
                have hwm7 : Mine (fun i => i = b4) wz b7 := .inr (Nat.le_trans hW.size hb7)
                replace hX := hX.tr hE15
                replace hB2 := hB2.ext hE15 id; replace hB3 := hB3.ext hE15 id; replace hB4 := hB4.ext hE15 id; replace hB8 := hB8.ext hE15 id
                replace hW := hW.tr hE15
                replace hD := hD.non hE15
                have hBo := hB7
                refine wl_store1 (b := b7) p_3 rfl (by conv => lhs; whnf) rfl rfl hB7 (Nat.le_of_ble_eq_true rfl) ?_; intro w16 hE16 hB7 hz16
                replace hX := hX.mine hE16 hl7
                replace hB2 := hB2.ext hE16 (fun h => by omega); replace hB3 := hB3.ext hE16 (fun h => by omega); replace hB4 := hB4.ext hE16 (fun h => by omega); replace hB8 := hB8.ext hE16 (fun h => by omega)
                replace hW := hW.mine hE16 hwm7
                replace hD := hD.box hE16 hBo
                refine wl_nil ?_
                refine W_region ?_
                refine wl_val (rn_load1 p_3 rfl hB7 rfl) ?_
                refine wl_val (rn_add rfl rfl (by omega)) ?_
                have hBo := hB7
                refine wl_store1 (b := b7) p_3 rfl (by conv => lhs; whnf) rfl rfl hB7 (Nat.le_of_ble_eq_true rfl) ?_; intro w17 hE17 hB7 hz17
                replace hX := hX.mine hE17 hl7
                replace hB2 := hB2.ext hE17 (fun h => by omega); replace hB3 := hB3.ext hE17 (fun h => by omega); replace hB4 := hB4.ext hE17 (fun h => by omega); replace hB8 := hB8.ext hE17 (fun h => by omega)
                replace hW := hW.mine hE17 hwm7
                replace hD := hD.box hE17 hBo
                refine wl_nil ?_
                exact ⟨(r + 1, b7), ⟨rfl, rfl, rfl, rfl, rfl, trivial⟩, ⟨hX, hD, hB2, hB3, hB4, hB7, hl2, hl3, hl4, hl7, hn2_3, hn2_4, hn2_7, hn3_4, hn3_7, hn4_7, ⟨hW, hwm7, by omega⟩⟩, by show 2 - (r + 1) < 2 - r; omega⟩
            · refine wl_no rfl (congrArg Value.bool hg68) ?_
              refine wl_no rfl (congrArg Value.bool hg68) ?_
              refine wl_no rfl (congrArg Value.bool hg68) ?_
              refine wl_no rfl (congrArg Value.bool hg68) ?_
              refine wl_val (rn_pickF (congrArg Value.bool hg68) (by conv => lhs; whnf)) ?_
              refine wl_nil ?_
              refine W_condF rfl ?_
              refine W_skip ?_
              refine W_seq ?_
              refine W_seq ?_
              refine W_region ?_
              refine wl_val (rn_load1 p_3 rfl hB7 rfl) ?_
              refine wl_nil ?_
              refine W_region ?_
              refine wl_alloc z_3 ?_; intro b7 w18 hb7 hE18 hB7
              have hn2_7 : b2 < b7 := Nat.lt_of_lt_of_le hB2.lt hb7
              have hn3_7 : b3 < b7 := Nat.lt_of_lt_of_le hB3.lt hb7
              have hn4_7 : b4 < b7 := Nat.lt_of_lt_of_le hB4.lt hb7
              have hn8_7 : b8 < b7 := Nat.lt_of_lt_of_le hB8.lt hb7
              have hq7 : w.heap.size ≤ b7 := Nat.le_trans hX.size hb7
              have hl7 : Mine Non w b7 := .inr hq7
              have hwm7 : Mine (fun i => i = b4) wz b7 := .inr (Nat.le_trans hW.size hb7)
              replace hX := hX.tr hE18
              replace hB2 := hB2.ext hE18 id; replace hB3 := hB3.ext hE18 id; replace hB4 := hB4.ext hE18 id; replace hB8 := hB8.ext hE18 id
              replace hW := hW.tr hE18
              replace hD := hD.non hE18
              have hBo := hB7
              refine wl_store1 (b := b7) p_3 rfl (by conv => lhs; whnf) rfl rfl hB7 (Nat.le_of_ble_eq_true rfl) ?_; intro w19 hE19 hB7 hz19
              replace hX := hX.mine hE19 hl7
              replace hB2 := hB2.ext hE19 (fun h => by omega); replace hB3 := hB3.ext hE19 (fun h => by omega); replace hB4 := hB4.ext hE19 (fun h => by omega); replace hB8 := hB8.ext hE19 (fun h => by omega)
              replace hW := hW.mine hE19 hwm7
              replace hD := hD.box hE19 hBo
              refine wl_nil ?_
              refine W_region ?_
              refine wl_val (rn_load1 p_3 rfl hB7 rfl) ?_
              refine wl_val (rn_add rfl rfl (by omega)) ?_
              have hBo := hB7
              refine wl_store1 (b := b7) p_3 rfl (by conv => lhs; whnf) rfl rfl hB7 (Nat.le_of_ble_eq_true rfl) ?_; intro w20 hE20 hB7 hz20
              replace hX := hX.mine hE20 hl7
              replace hB2 := hB2.ext hE20 (fun h => by omega); replace hB3 := hB3.ext hE20 (fun h => by omega); replace hB4 := hB4.ext hE20 (fun h => by omega); replace hB8 := hB8.ext hE20 (fun h => by omega)
              replace hW := hW.mine hE20 hwm7
              replace hD := hD.box hE20 hBo
              refine wl_nil ?_
              exact ⟨(r + 1, b7), ⟨rfl, rfl, rfl, rfl, rfl, trivial⟩, ⟨hX, hD, hB2, hB3, hB4, hB7, hl2, hl3, hl4, hl7, hn2_3, hn2_4, hn2_7, hn3_4, hn3_7, hn4_7, ⟨hW, hwm7, by omega⟩⟩, by show 2 - (r + 1) < 2 - r; omega⟩
          · rintro c N rk w' ⟨rfl, hK2, hK3, hK4, hK7, hXo, hW, hDk, hIr⟩ hN hA hr hrd
            have hB2 := hK2.1
            have hB3 := hK3.1
            have hB4 := hK4.1
            have hB7 := hK7.1
            have hX := hXo; have hD := hDk.add hrd (Nat.le_trans hszr (hN rk hr).1) hr
            have hr67 : decide ((r : Int) = 1) = false := by subst hIr; rfl
            refine W_exit ?_   -- exit 4
            refine W_seq ?_
            refine W_region ?_
            refine wl_val (rn_load1 p_3 rfl hB7 rfl) ?_
            refine wl_val (rn_eql rfl rfl) ?_
            refine wl_val (rn_move (by conv => lhs; whnf)) ?_
            refine wl_no rfl (congrArg Value.bool hr67) ?_
            refine wl_no rfl (congrArg Value.bool hr67) ?_
            refine wl_no rfl (congrArg Value.bool hr67) ?_
            refine wl_no rfl (congrArg Value.bool hr67) ?_
            refine wl_val (rn_pickF (congrArg Value.bool hr67) (by conv => lhs; whnf)) ?_
            refine wl_nil ?_
            refine W_condF rfl ?_
            refine W_skip ?_
            refine W_seq ?_
            refine W_seq ?_
            refine W_region ?_
            refine wl_val (rn_load1 p_3 rfl hB7 rfl) ?_
            refine wl_nil ?_
            refine W_region ?_
            refine wl_alloc z_3 ?_; intro b7 w21 hb7 hE21 hB7
            have hn2_7 : b2 < b7 := Nat.lt_of_lt_of_le hB2.lt hb7
            have hn3_7 : b3 < b7 := Nat.lt_of_lt_of_le hB3.lt hb7
            have hn4_7 : b4 < b7 := Nat.lt_of_lt_of_le hB4.lt hb7
            have hq7 : w.heap.size ≤ b7 := Nat.le_trans hX.size hb7
            have hl7 : Mine Non w b7 := .inr hq7
            have hwm7 : Mine (fun i => i = b4) wz b7 := .inr (Nat.le_trans hW.size hb7)
            replace hX := hX.tr hE21
            replace hB2 := hB2.ext hE21 id; replace hB3 := hB3.ext hE21 id; replace hB4 := hB4.ext hE21 id
            replace hW := hW.tr hE21
            replace hD := hD.non hE21
            have hBo := hB7
            refine wl_store1 (b := b7) p_3 rfl (by conv => lhs; whnf) rfl rfl hB7 (Nat.le_of_ble_eq_true rfl) ?_; intro w22 hE22 hB7 hz22
            replace hX := hX.mine hE22 hl7
            replace hB2 := hB2.ext hE22 (fun h => by omega); replace hB3 := hB3.ext hE22 (fun h => by omega); replace hB4 := hB4.ext hE22 (fun h => by omega)
            replace hW := hW.mine hE22 hwm7
            replace hD := hD.box hE22 hBo
            refine wl_nil ?_
            refine W_region ?_
            refine wl_val (rn_load1 p_3 rfl hB7 rfl) ?_
            refine wl_val (rn_add rfl rfl (by omega)) ?_
            have hBo := hB7
            refine wl_store1 (b := b7) p_3 rfl (by conv => lhs; whnf) rfl rfl hB7 (Nat.le_of_ble_eq_true rfl) ?_; intro w23 hE23 hB7 hz23
            replace hX := hX.mine hE23 hl7
            replace hB2 := hB2.ext hE23 (fun h => by omega); replace hB3 := hB3.ext hE23 (fun h => by omega); replace hB4 := hB4.ext hE23 (fun h => by omega)
            replace hW := hW.mine hE23 hwm7
            replace hD := hD.box hE23 hBo
            refine wl_nil ?_
            exact ⟨(r + 1, b7), ⟨rfl, rfl, rfl, rfl, rfl, trivial⟩, ⟨hX, hD, hB2, hB3, hB4, hB7, hl2, hl3, hl4, hl7, hn2_3, hn2_4, hn2_7, hn3_4, hn3_7, hn4_7, ⟨hW, hwm7, by omega⟩⟩, by show 2 - (r + 1) < 2 - r; omega⟩
        · refine W_exit ?_   -- exit 2
          refine W_seq ?_
          refine W_region ?_
          have hBo := hB4
          refine wl_store1 (b := b4) p_4 rfl (by conv => lhs; whnf) rfl rfl hB4 (Nat.le_of_ble_eq_true rfl) ?_; intro w24 hE24 hB4 hz24
          replace hX := hX.mine hE24 hl4
          replace hB2 := hB2.ext hE24 (fun h => by omega); replace hB3 := hB3.ext hE24 (fun h => by omega); replace hB7 := hB7.ext hE24 (fun h => by omega)
          replace hW := hW.mine hE24 hwm4
          replace hD := hD.box hE24 hBo
          refine wl_nil ?_
          refine W_ret ?_
          refine hD.leave fun B hB => ?_
          have hB2 := hB2.ext hB (hD.ne hB2)
          have hB3 := hB3.ext hB (hD.ne hB3)
          have hB4 := hB4.ext hB (hD.ne hB4)
          have hB7 := hB7.ext hB (hD.ne hB7)
          have hX := hD.out hX hB
          exact ⟨_, resR1 (res1_cell p_4 rfl hB4), hX, rfl⟩
end Go.Proofs.YthcclgoidchkdaaDoorC
