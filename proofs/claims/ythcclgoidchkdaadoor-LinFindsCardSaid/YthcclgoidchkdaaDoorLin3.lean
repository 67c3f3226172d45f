/- Layer 8: where a search is; the calls that may come next, one by one. -/
import Derived.Test.YthcclgoidchkdaaDoorLinR
set_option linter.unusedVariables false
set_option linter.unusedSimpArgs false
set_option maxRecDepth 100000
namespace Go.Proofs.YthcclgoidchkdaaDoorC
open Go.RowKit
theorem bits_take {done : List Bool} {i : Nat} {x : Bool} (h : done[i]? = some x) : bitsB (done.take (i + 1)) = bitsB (done.take i) + (if x then 2 ^ i else 0) := by
  have hlt := (List.getElem?_eq_some_iff.1 h).1
  rw [List.take_add_one, h]
  show bitsB (done.take i ++ [x]) = _
  rw [bits_snoc, List.length_take, Nat.min_eq_left (by omega)]
theorem mini_split {m : List Nat} {k i : Nat} (h : m[k]? = some i) : m = m.take k ++ i :: m.drop (k + 1) := by
  obtain ⟨h1, h2⟩ := List.getElem?_eq_some_iff.1 h
  rw [← h2, List.getElem_cons_drop, List.take_append_drop]
theorem mini_take {m : List Nat} {k i : Nat} (h : m[k]? = some i) : m.take (k + 1) = m.take k ++ [i] := by rw [List.take_add_one, h]; rfl
-- (*bellman/lin.search[bellman/bellmanref08.State]).key
set_option maxHeartbeats 1000000 in
theorem key_ok (w : World) (done : List Bool) (s : StD) (vl vw : Value) (b0 bd bm : Nat) (hB0 : IsBox w b0 (scells vl bd done.length vw bm)) (hDn : Ow w (.slice (some ⟨bd, 0, none⟩) done.length done.length) bd 1 (done.map eBo) []) (hT : Tab w) (h : -1000000 ≤ s.n ∧ s.n ≤ 1000000) (hl : s.slot.length ≤ 1000000) (hdl : done.length ≤ 24) : Fn Tryd.prog 114 #[.pointer (some ⟨b0, 0, none⟩), .agg s.enc.toArray] w fun u w' => u = Sv (keyOf done s) := by
  have hl0 : Mine Non w b0 ∨ True := .inr trivial
  have hbb := bits_lt done
  have hpp : 2 ^ done.length ≤ 2 ^ 24 := Nat.pow_le_pow_right (by decide) hdl
  have hil := itoa_len ((bitsB done : Nat) : Int)
  have hin := itoa_len s.n
  have hkl : (keyS s).length ≤ 3000000 := by unfold keyS; simp only [List.length_append, List.length_cons]; omega
  have hX := Ext.refl Non w
  refine fn_of_W (args := [_, _]) Tryd.func114 rfl (by kernel_rfl) rfl ?_
  refine W_seq ?_
  refine W_region ?_
  refine wl_boxS rfl ?_; intro b3 w1 hb3 hE1 hB3
  have hn0_3 : b0 < b3 := Nat.lt_of_lt_of_le hB0.lt hb3
  have hq3 : w.heap.size ≤ b3 := Nat.le_trans hX.size hb3
  have hl3 : Mine Non w b3 := .inr hq3
  replace hX := hX.tr hE1
  replace hB0 := hB0.ext hE1 id
  replace hDn := hDn.ext hE1 id
  replace hT := hT.non hE1
  refine wl_val (rn_assign (by conv => lhs; whnf)) ?_
  refine wl_nil ?_
  refine W_seq ?_
  refine W_region ?_
  refine wl_val (rn_assign (by conv => lhs; whnf)) ?_
  refine wl_nil ?_
  refine W_seq ?_
  refine W_seq ?_
  refine W_region ?_
  refine wl_val (rn_move (by conv => lhs; whnf)) ?_
  refine wl_val (rn_nilCheck rfl) ?_
  refine wl_val (rn_fieldAddr f_120_2 (by decide) rfl) ?_
  refine wl_val (rn_load1 p_117 rfl hB0 rfl) ?_
  refine wl_val (rn_len sl_117 rfl) ?_
  refine wl_val (rn_move (by conv => lhs; whnf)) ?_
  refine wl_nil ?_
  refine W_block ?_   -- block 0
  refine W_loopS (S := Nat) [0, 3, 5, 11, 12, 13] (fun i => [.pointer (some ⟨b0, 0, none⟩), .pointer (some ⟨b3, 0, none⟩), .int .i64 (bitsB (done.take i) : Nat), .slice (some ⟨bd, 0, none⟩) done.length done.length, .int .i64 (done.length : Nat), .int .i64 (i : Nat)]) (fun i A => (Ext Non w A) ∧ (IsBox A b3 s.enc) ∧ (Mine Non w b3) ∧ (i ≤ done.length ∧ IsBox A b0 (scells vl bd done.length vw bm) ∧ Ow A (.slice (some ⟨bd, 0, none⟩) done.length done.length) bd 1 (done.map eBo) [] ∧ Tab A)) (fun i => done.length - i) 0 ⟨rfl, rfl, rfl, rfl, rfl, rfl, trivial⟩ ⟨hX, hB3, hl3, ⟨Nat.zero_le _, hB0, hDn, hT⟩⟩ ?_
  rintro τ0 i A0 ⟨hX, hB3, hl3, hI0⟩
  obtain ⟨hI, hB0, hDn, hT⟩ := hI0
  refine W_seq ?_
  refine W_region ?_
  refine wl_val (rn_lss rfl rfl) ?_
  refine wl_nil ?_
  refine W_seq ?_
  refine W_cond rfl (fun hc0 => ?_) (fun hc0 => ?_)
  · have hlt := of_decide_eq_true hc0; simp only [Int.ofNat_lt] at hlt
    obtain ⟨x, hi⟩ : ∃ x, done[i]? = some x := ⟨_, List.getElem?_eq_getElem hlt⟩
    have hbl : bitsB (done.take i) < 2 ^ i := by have := bits_lt (done.take i); rw [List.length_take, Nat.min_eq_left (by omega)] at this; exact this
    refine W_skip ?_
    refine W_seq ?_
    refine W_block ?_   -- block 1
    refine W_seq ?_
    refine W_region ?_
    refine wl_val (rn_move (by conv => lhs; whnf)) ?_
    refine wl_val (rn_indexAddr sl_117 rfl rfl (by omega)) ?_
    refine wl_val (rn_load p_4 rfl ((hDn.sl (M := Non) id).at0 (eBo_at hi) rfl)) ?_
    refine wl_val (rn_assign (by conv => lhs; whnf)) ?_
    refine wl_val (rn_assign (by conv => lhs; whnf)) ?_
    refine wl_nil ?_
    refine W_seq ?_
    refine W_region ?_
    refine wl_val (rn_move (by conv => lhs; whnf)) ?_
    refine wl_nil ?_
    refine W_cond rfl (fun hc1 => ?_) (fun hc1 => ?_)
    · refine W_region ?_
      refine wl_val (rn_move (by conv => lhs; whnf)) ?_
      refine wl_val (rn_move (by conv => lhs; whnf)) ?_
      refine wl_val (rn_shl1 rfl rfl (by omega)) ?_
      refine wl_val (rn_or2 rfl rfl hbl (by omega)) ?_
      refine wl_val (rn_assign (by conv => lhs; whnf)) ?_
      refine wl_nil ?_
      refine W_region ?_
      refine wl_val (rn_add rfl rfl (by omega)) ?_
      refine wl_val (rn_move (by conv => lhs; whnf)) ?_
      refine wl_nil ?_
      subst hc1; have hts := bits_take hi
      exact ⟨rfl, i + 1, ⟨rfl, rfl, (congrArg (fun z : Nat => Value.int .i64 (z : Int)) (by rw [hts]; rfl)), rfl, rfl, rfl, trivial⟩, ⟨hX, hB3, hl3, ⟨hlt, hB0, hDn, hT⟩⟩, by omega⟩
    · refine W_skip ?_
      refine W_region ?_
      refine wl_val (rn_add rfl rfl (by omega)) ?_
      refine wl_val (rn_move (by conv => lhs; whnf)) ?_
      refine wl_nil ?_
      subst hc1; have hts := bits_take hi
      exact ⟨rfl, i + 1, ⟨rfl, rfl, (congrArg (fun z : Nat => Value.int .i64 (z : Int)) (by rw [hts]; rfl)), rfl, rfl, rfl, trivial⟩, ⟨hX, hB3, hl3, ⟨hlt, hB0, hDn, hT⟩⟩, by omega⟩
  · have hge := of_decide_eq_false hc0; simp only [Int.ofNat_lt, Nat.not_lt] at hge
    have hie : i = done.length := by omega
    subst hie
    rw [List.take_length]
    refine W_exit ?_   -- exit 0
    refine W_seq ?_
    refine W_drawE mixed ?_; intro w2 hE2
    replace hX := hX.tr hE2
    replace hB3 := hB3.ext hE2 id
    replace hDn := hDn.ext hE2 id
    replace hT := hT.non hE2
    replace hB0 := hB0.ext hE2 id
    have hS := Ext.refl Non w2
    refine wd_take 0 _ _ rfl (by kernel_rfl) hS (yd_do fun A hA => rn_move (by conv => lhs; whnf)) ?_
    refine wd_take 3 _ _ rfl (by kernel_rfl) hS (yd_do fun A hA => rn_move (by conv => lhs; whnf)) ?_
    refine wd_take 4 _ _ rfl (by kernel_rfl) hS (yd_do fun A hA => rn_nilCheck rfl) ?_
    refine wd_take 5 _ _ rfl (by kernel_rfl) hS (yd_do fun A hA => rn_fieldAddr f_120_0 (by decide) rfl) ?_
    refine wd_take 6 _ _ rfl (by kernel_rfl) hS (yd_do fun A hA => rn_fieldAddr f_44_2 (by decide) rfl) ?_
    refine wd_take 7 _ _ rfl (by kernel_rfl) hS (yd_do fun A hA => rn_load1 p_42 rfl (hB0.ext hA id) rfl) ?_
    refine wd_take 8 _ _ rfl (by kernel_rfl) hS (yd_do fun A hA => rn_loadB s_27 rfl rfl (hB3.ext hA id)) ?_
    refine wd_only 1 _ rfl (by kernel_rfl) ?_
    refine s1_do ?_
    refine wl_call e_93 rfl (itoa_ok w2 (bitsB done : Nat) (by generalize 2 ^ done.length = q at hbb hpp; omega) (hT.non hS)) ?_; intro v25 w3 hE3 hR3
    replace hS := hS.tr hE3
    subst hR3
    refine wl_nil ⟨hS, ?_⟩
    refine wd_take 2 _ _ rfl (by kernel_rfl) hS (yd_do fun A hA => rn_sadd rfl rfl (by generalize 2 ^ done.length = q at hbb hpp; simp only [List.length_cons, List.length_nil]; omega)) ?_
    refine wd_only 9 _ rfl (by kernel_rfl) ?_
    refine s1_do ?_
    refine wl_callF (M := Non) rfl e_67 rfl (machine2_ok w3 s h hl) ?_; intro v33 w4 hE4 hR4; subst hR4
    replace hS := hS.tr hE4
    refine wl_nil ⟨hS, ?_⟩
    refine wd_take 10 _ _ rfl (by kernel_rfl) hS (yd_do fun A hA => rn_sadd rfl rfl (by generalize 2 ^ done.length = q at hbb hpp; simp only [List.length_append, List.length_cons, List.length_nil]; omega)) ?_
    refine wd_take 11 _ _ rfl (by kernel_rfl) hS (yd_do fun A hA => rn_assign (by conv => lhs; whnf)) ?_
    refine wd_done (by kernel_rfl) ?_ _
    replace hX := hX.tr hS
    replace hB3 := hB3.ext hS id
    replace hDn := hDn.ext hS id
    replace hT := hT.non hS
    replace hB0 := hB0.ext hS id
    refine W_ret ?_
    exact ⟨_, resR1 (res1_tmp rfl), hX, by show Sv ((Lib.itoa ((bitsB done : Nat) : Int) ++ [58]) ++ keyS s) = _; unfold keyOf; rw [List.append_assoc]; rfl⟩
-- (*bellman/lin.search[bellman/bellmanref08.State]).each
set_option maxHeartbeats 8000000 in
theorem each_ok (w : World) (l : List CallD) (done : List Bool) (way : List Nat) (s : StD) {vl vw : Value} (ow : Option Nat) (B b0 bd bm : Nat) (X : Nat → Prop) (fd : FuncId) (fi cap : Array Value) (J : List Nat → World → Prop) (T : List Nat → Nat → StD → World → Prop) (hf : entersB Tryd.prog fd = true) (hS : Srch w b0 bd bm vl done way vw ow) (hlv : Sl (fun i => B ≤ i) w vl 15 (l.map CallD.enc)) (hlow : ∀ i, Ms b0 bd ow X i → B ≤ i ∧ i < w.heap.size) (hXx : ∀ i, X i → i < w.heap.size ∧ i ≠ b0 ∧ i ≠ bd ∧ ow ≠ some i) (hbm : bm < w.heap.size) (hn : l.length ≤ 24) (hdl : done.length = l.length) (hwl : way.length ≤ 24) (hbnd : -1000000 ≤ s.n ∧ s.n ≤ 1000000)
  (hdo : ∀ p i q s' A vw' ow', mini l done = p ++ i :: q → stepB l s i = some s' → J p A → Ext (Ms b0 bd ow X) w A → (∀ j, ow' = some j → ow = some j ∨ w.heap.size ≤ j) → Srch A b0 bd bm vl (done.set i true) (way ++ [i]) vw' ow' →
    FnM Tryd.prog (Ms b0 bd ow' X) fd (fi ++ [Value.agg s'.enc.toArray].toArray ++ cap) A fun u B' => ∃ r, u = .bool r ∧ (r = true → T p i s' B') ∧ (r = false → J (p ++ [i]) B' ∧ ∃ vw2 ow2, Srch B' b0 bd bm vl (done.set i true) (way ++ [i]) vw2 ow2 ∧ ∀ j, ow2 = some j → ow' = some j ∨ A.heap.size ≤ j))
  (hskip : ∀ p i q A, mini l done = p ++ i :: q → stepB l s i = none → J p A → J (p ++ [i]) A) (hst : ∀ p A B' N, J p A → Ext N A B' → (∀ i, N i → ¬ X i) → J p B') (hJ : J [] w) : FnM Tryd.prog (Ms b0 bd ow X) 115 #[.pointer (some ⟨b0, 0, none⟩), .agg s.enc.toArray, .func (.func fd) fi cap] w fun u w' => ∃ r, u = .bool r ∧ (r = true → ∃ p i q s', mini l done = p ++ i :: q ∧ stepB l s i = some s' ∧ T p i s' w') ∧ (r = false → J (mini l done) w' ∧ ∃ vw' ow', Srch w' b0 bd bm vl done way vw' ow' ∧ ∀ j, ow' = some j → ow = some j ∨ w.heap.size ≤ j) := by
  obtain ⟨al, cl, rfl, _⟩ := hlv.len
  simp only [List.length_map] at hlv hS hdo ⊢
  obtain ⟨hB0, hDn, hWy, hn1, hn2, hn3, hn4⟩ := hS
  have hwy : ∀ j, ow = some j → j < w.heap.size := fun j hj => hWy.lt hj
  obtain ⟨aw, cw, hvw⟩ := id hWy.len; subst hvw
  have hz0 := hB0.lt; have hzd := hDn.box.lt
  have hl0 : Mine (Ms b0 bd ow X) w b0 := .inl (.inl rfl)
  have hom : ∀ j : Nat, (none : Option Nat) = some j → w.heap.size ≤ j := fun j h => by cases h
  have hml := mini_len l done
  simp only [List.length_map] at hB0 hWy hdo ⊢
  have hX := Ext.refl (Ms b0 bd ow X) w
  refine fnM_of_W (args := [_, _, _]) Tryd.func115 rfl (by kernel_rfl) rfl ?_
  refine W_seq ?_
  refine W_region ?_
  refine wl_boxS rfl ?_; intro b4 w1 hb4 hE1 hB4
  have hn0_4 : b0 < b4 := Nat.lt_of_lt_of_le hB0.lt hb4
  have hq4 : w.heap.size ≤ b4 := Nat.le_trans hX.size hb4
  have hl4 : Mine (Ms b0 bd ow X) w b4 := .inr hq4
  replace hX := hX.tr hE1
  replace hB0 := hB0.ext hE1 id
  replace hDn := hDn.ext hE1 id
  replace hWy := hWy.ext hE1 (fun _ _ h => h)
  replace hJ := hst _ _ _ _ hJ hE1 (fun i h _ => h)
  refine wl_val (rn_assign (by conv => lhs; whnf)) ?_
  refine wl_nil ?_
  refine W_seq ?_
  refine W_seq ?_
  refine W_drawX (fun j => false) mixed ?_; intro w2 hE2
  replace hX := hX.tr hE2
  replace hB0 := hB0.ext hE2 id; replace hB4 := hB4.ext hE2 id
  replace hDn := hDn.ext hE2 id
  replace hWy := hWy.ext hE2 (fun _ _ h => h)
  replace hJ := hst _ _ _ _ hJ hE2 (fun i h _ => h)
  have hS := Ext.refl Non w2
  refine wx_take 0 [1, 2, 3, 8, 9] _ _ rfl (by kernel_rfl) hS (yd_do fun A hA => rn_move (by conv => lhs; whnf)) ?_
  refine wx_take 1 [2, 3, 8, 9] _ _ rfl (by kernel_rfl) hS (yd_do fun A hA => rn_nilCheck rfl) ?_
  refine wx_take 2 [3, 8, 9] _ _ rfl (by kernel_rfl) hS (yd_do fun A hA => rn_fieldAddr f_120_1 (by decide) rfl) ?_
  refine wx_take 3 [8, 9] _ _ rfl (by kernel_rfl) hS (yd_do fun A hA => rn_load1 p_25 rfl (hB0.ext hA id) rfl) ?_
  refine wx_take 4 [5, 6, 7, 8, 9] _ _ rfl (by kernel_rfl) hS (yd_do fun A hA => rn_move (by conv => lhs; whnf)) ?_
  refine wx_take 5 [6, 7, 8, 9] _ _ rfl (by kernel_rfl) hS (yd_do fun A hA => rn_nilCheck rfl) ?_
  refine wx_take 6 [7, 8, 9] _ _ rfl (by kernel_rfl) hS (yd_do fun A hA => rn_fieldAddr f_120_2 (by decide) rfl) ?_
  refine wx_take 7 [8, 9] _ _ rfl (by kernel_rfl) hS (yd_do fun A hA => rn_load1 p_117 rfl (hB0.ext hA id) rfl) ?_
  refine wx_take 10 [] _ _ rfl (by kernel_rfl) hS (yd_do fun A hA => rn_move (by conv => lhs; whnf)) ?_
  refine wx_only 8 _ rfl (by kernel_rfl) ?_
  refine s1_do ?_
  refine wl_call e_70 rfl (mini_ok w2 l done (((hlv.ext (hX.tr hS) (fun i h => (hlow i h).1))).sub (M' := Non) (fun _ h => h.elim)) ((hDn.ext hS id).sl (M := Non) id) (by omega)) ?_; intro v19 w3 hE3 hR3
  replace hS := hS.tr hE3
  obtain ⟨om, hOm, hom⟩ := hR3
  obtain ⟨am, cm, hvm⟩ := id hOm.len; subst hvm; simp only [List.length_map] at hOm ⊢
  have hom : ∀ j, om = some j → w.heap.size ≤ j := fun j hj => by have h1 := hom j hj; have := hX.size; omega
  refine wl_nil ⟨fun _ => hS, ?_⟩
  refine wx_take 9 [] _ _ rfl (by kernel_rfl) hS (yd_do fun A hA => rn_len sl_39 rfl) ?_
  obtain ⟨W1, hW1e⟩ : ∃ x, x = w3.heap.size := ⟨_, rfl⟩
  have hwy0 := hwy
  have hW1 : W1 ≤ w3.heap.size := Nat.le_of_eq hW1e
  have hom1 : ∀ j, om = some j → j < W1 := fun j hj => by rw [hW1e]; exact hOm.lt hj
  have hwW1 : w.heap.size ≤ W1 := by rw [hW1e]; exact (hX.tr hS).size
  have hb4W : b4 < W1 := by rw [hW1e]; exact Nat.lt_of_lt_of_le hB4.lt hS.size
  refine wx_done (by kernel_rfl) ?_ _
  replace hX := hX.tr hS
  replace hB0 := hB0.ext hS id; replace hB4 := hB4.ext hS id
  replace hDn := hDn.ext hS id
  replace hWy := hWy.ext hS (fun _ _ h => h)
  replace hJ := hst _ _ _ _ hJ hS (fun i h _ => h)
  refine W_block ?_   -- block 0
  refine W_loopS (S := Nat × Option Addr × Nat × Option Nat) [0, 2, 4, 19, 20, 21] (fun ⟨k, aw, cw, ow1⟩ => [.pointer (some ⟨b0, 0, none⟩), .func (.func fd) fi cap, .pointer (some ⟨b4, 0, none⟩), .slice am (mini l done).length cm, .int .i64 ((mini l done).length : Nat), .int .i64 (k : Nat)]) (fun ⟨k, aw, cw, ow1⟩ A => (Ext (Ms b0 bd ow X) w A) ∧ (IsBox A b0 (scells (.slice al l.length cl) bd done.length (.slice aw way.length cw) bm)) ∧ (IsBox A b4 s.enc) ∧ (Mine (Ms b0 bd ow X) w b0) ∧ (Mine (Ms b0 bd ow X) w b4) ∧ (b0 < b4) ∧ (k ≤ (mini l done).length ∧ Ow A (.slice (some ⟨bd, 0, none⟩) done.length done.length) bd 1 (done.map eBo) [] ∧ OwO A (.slice aw way.length cw) ow1 1 (way.map eN) ∧ (∀ j, ow1 = some j → ow = some j ∨ W1 ≤ j) ∧ OwO A (.slice am (mini l done).length cm) om 1 ((mini l done).map eN) ∧ J ((mini l done).take k) A ∧ W1 ≤ A.heap.size ∧ (∀ j, ow1 = some j → j ≠ b0 ∧ j ≠ bd ∧ j ≠ bm))) (fun ⟨k, aw, cw, ow1⟩ => (mini l done).length - k) (0, aw, cw, ow) ⟨rfl, rfl, rfl, rfl, rfl, rfl, trivial⟩ ⟨hX, hB0, hB4, hl0, hl4, hn0_4, ⟨Nat.zero_le _, hDn, hWy, fun j h => .inl h, hOm, hJ, hW1, hn4⟩⟩ ?_
  rintro τ0 ⟨k, aw, cw, ow1⟩ A0 ⟨hX, hB0, hB4, hl0, hl4, hn0_4, hI0⟩
  obtain ⟨hI, hDn, hWy, hwc, hOm, hJ, hWA, hn4⟩ := hI0
  have hwy : ∀ j, ow1 = some j → j < A0.heap.size := fun j hj => hWy.lt hj
  have hzA : A0.heap.size ≤ A0.heap.size := Nat.le_refl _
  refine W_seq ?_
  refine W_region ?_
  refine wl_val (rn_lss rfl rfl) ?_
  refine wl_nil ?_
  refine W_seq ?_
  refine W_cond rfl (fun hc0 => ?_) (fun hc0 => ?_)
  · have hlt := of_decide_eq_true hc0; simp only [Int.ofNat_lt] at hlt
    obtain ⟨i, hi⟩ : ∃ i, (mini l done)[k]? = some i := ⟨_, List.getElem?_eq_getElem hlt⟩
    obtain ⟨bbm, oom, eam⟩ := (hOm.sl (M := Non) (fun _ _ h => h)).base (by intro e; have := congrArg List.length e; simp only [List.length_map, List.length_nil] at this; omega); subst eam
    have him := List.mem_of_getElem? hi
    have hil := mini_lt him
    obtain ⟨x, hx⟩ : ∃ x, l[i]? = some x := ⟨_, List.getElem?_eq_getElem hil⟩
    obtain ⟨bbl, ool, eal⟩ := hlv.base (by intro e; have := congrArg List.length e; simp only [List.length_map, List.length_nil] at this; omega); subst eal
    refine W_skip ?_
    refine W_seq ?_
    refine W_block ?_   -- block 1
    refine W_seq ?_
    refine W_region ?_
    refine wl_val (rn_indexAddr sl_39 rfl rfl (by omega)) ?_
    refine wl_val (rn_load p_3 rfl ((hOm.sl (M := Non) (fun _ _ h => h)).at0 (eN_at hi) rfl)) ?_
    refine wl_val (rn_assign (by conv => lhs; whnf)) ?_
    refine wl_nil ?_
    refine W_cut (T := Unit × Nat × Nat) [0, 2, 4, 8, 9, 10, 19, 20, 21] (fun ⟨_, b9, b10⟩ => [.pointer (some ⟨b0, 0, none⟩), .func (.func fd) fi cap, .pointer (some ⟨b4, 0, none⟩), .int .i64 (i : Nat), .pointer (some ⟨b9, 0, none⟩), .pointer (some ⟨b10, 0, none⟩), .slice (some ⟨bbm, oom, none⟩) (mini l done).length cm, .int .i64 ((mini l done).length : Nat), .int .i64 (k : Nat)]) (fun ⟨_, b9, b10⟩ A => (Ext (Ms b0 bd ow X) w A) ∧ (IsBox A b0 (scells (.slice (some ⟨bbl, ool, none⟩) l.length cl) bd done.length (.slice aw way.length cw) bm)) ∧ (IsBox A b4 s.enc) ∧ (IsBox A b9 (doS s x.op).1.enc) ∧ (IsBox A b10 (doS s x.op).2.enc) ∧ (Mine (Ms b0 bd ow X) w b0) ∧ (Mine (Ms b0 bd ow X) w b4) ∧ (Mine (Ms b0 bd ow X) w b9) ∧ (Mine (Ms b0 bd ow X) w b10) ∧ (b0 < b4) ∧ (b0 < b9) ∧ (b0 < b10) ∧ (Ow A (.slice (some ⟨bd, 0, none⟩) done.length done.length) bd 1 (done.map eBo) [] ∧ OwO A (.slice aw way.length cw) ow1 1 (way.map eN) ∧ OwO A (.slice (some ⟨bbm, oom, none⟩) (mini l done).length cm) om 1 ((mini l done).map eN) ∧ J ((mini l done).take k) A ∧ A0.heap.size ≤ b9 ∧ A0.heap.size ≤ b10 ∧ A0.heap.size ≤ A.heap.size)) ?_ ?_
    · refine W_drawX (fun j => false) mixed ?_; intro w4 hE4
      replace hX := hX.tr hE4
      replace hB0 := hB0.ext hE4 id; replace hB4 := hB4.ext hE4 id
      replace hDn := hDn.ext hE4 id
      replace hWy := hWy.ext hE4 (fun _ _ h => h)
      replace hOm := hOm.ext hE4 (fun _ _ h => h)
      replace hJ := hst _ _ _ _ hJ hE4 (fun i h _ => h)
      replace hzA := Nat.le_trans hzA hE4.size
      have hS := Ext.refl Non w4
      have hzS := hzA
      refine wx_take 0 [1, 2, 3, 4, 14, 15, 16, 17, 20, 21] _ _ rfl (by kernel_rfl) hS (yd_do fun A hA => rn_move (by conv => lhs; whnf)) ?_
      refine wx_take 1 [2, 3, 4, 14, 15, 16, 17, 20, 21] _ _ rfl (by kernel_rfl) hS (yd_do fun A hA => rn_nilCheck rfl) ?_
      refine wx_take 2 [3, 4, 14, 15, 16, 17, 20, 21] _ _ rfl (by kernel_rfl) hS (yd_do fun A hA => rn_fieldAddr f_120_0 (by decide) rfl) ?_
      refine wx_take 3 [4, 14, 15, 16, 17, 20, 21] _ _ rfl (by kernel_rfl) hS (yd_do fun A hA => rn_fieldAddr f_44_1 (by decide) rfl) ?_
      refine wx_take 4 [14, 15, 16, 17, 20, 21] _ _ rfl (by kernel_rfl) hS (yd_do fun A hA => rn_load1 p_36 rfl (hB0.ext hA id) rfl) ?_
      refine wx_take 5 [14, 15, 16, 17, 20, 21] _ _ rfl (by kernel_rfl) hS (yd_do fun A hA => rn_loadB s_27 rfl rfl (hB4.ext hA id)) ?_
      refine wx_take 6 [7, 8, 9, 11, 12, 13, 14, 15, 16, 17, 20, 21] _ _ rfl (by kernel_rfl) hS (yd_do fun A hA => rn_move (by conv => lhs; whnf)) ?_
      refine wx_take 7 [8, 9, 11, 12, 13, 14, 15, 16, 17, 20, 21] _ _ rfl (by kernel_rfl) hS (yd_do fun A hA => rn_nilCheck rfl) ?_
      refine wx_take 8 [9, 11, 12, 13, 14, 15, 16, 17, 20, 21] _ _ rfl (by kernel_rfl) hS (yd_do fun A hA => rn_fieldAddr f_120_1 (by decide) rfl) ?_
      refine wx_take 9 [11, 12, 13, 14, 15, 16, 17, 20, 21] _ _ rfl (by kernel_rfl) hS (yd_do fun A hA => rn_load1 p_25 rfl (hB0.ext hA id) rfl) ?_
      refine wx_take 10 [11, 12, 13, 14, 15, 16, 17, 20, 21] _ _ rfl (by kernel_rfl) hS (yd_do fun A hA => rn_move (by conv => lhs; whnf)) ?_
      refine wx_take 11 [12, 13, 14, 15, 16, 17, 20, 21] _ _ rfl (by kernel_rfl) hS (yd_do fun A hA => rn_indexAddr sl_25 rfl rfl (by omega)) ?_
      refine wx_take 12 [13, 14, 15, 16, 17, 20, 21] _ _ rfl (by kernel_rfl) hS (yd_do fun A hA => rn_fieldAddr f_38_2 (by decide) rfl) ?_
      refine wx_take 13 [14, 15, 16, 17, 20, 21] _ _ rfl (by kernel_rfl) hS (yd_do fun A hA => rn_loadS s_29 (vs := x.op.enc) rfl rfl (((hlv.ext hX (fun i h => (hlow i h).1)).ext hA (fun _ h => h.elim)).part1 (map_at hx) rfl (Nat.le_of_ble_eq_true rfl))) ?_
      refine wx_three 14 18 19 _ _ _ rfl rfl rfl (by kernel_rfl) ?_ ?_ ?_
      · refine s1_do ?_
        refine wl_callF (M := Non) rfl e_66 rfl (machine1_ok w4 s x.op hbnd) ?_; intro v40 w5 hE5 hR5; subst hR5
        replace hS := hS.tr hE5
        refine wl_nil ⟨fun _ => hS, ?_⟩
        refine wx_take 15 [16, 17, 20, 21] _ _ rfl (by kernel_rfl) hS (yd_do fun A hA => rn_move (by conv => lhs; whnf)) ?_
        refine wx_take 16 [20, 21] _ _ rfl (by kernel_rfl) hS (yd_do fun A hA => rn_extract rfl rfl) ?_
        refine wx_take 17 [21] _ _ rfl (by kernel_rfl) hS (yd_do fun A hA => rn_extract rfl rfl) ?_
        refine wx_two 18 19 _ _ rfl rfl (by kernel_rfl) ?_ ?_
        · refine s1_do ?_
          refine wl_alloc z_27 ?_; intro b9 w6 hb9 hE6 hB9
          have hn0_9 : b0 < b9 := Nat.lt_of_lt_of_le (Nat.lt_of_lt_of_le hB0.lt hS.size) hb9
          have hn4_9 : b4 < b9 := Nat.lt_of_lt_of_le (Nat.lt_of_lt_of_le hB4.lt hS.size) hb9
          have hq9 : w.heap.size ≤ b9 := Nat.le_trans (hX.tr hS).size hb9
          have hl9 : Mine (Ms b0 bd ow X) w b9 := .inr hq9
          have hm9 : w4.heap.size ≤ b9 := Nat.le_trans hS.size hb9
          replace hS := hS.tr hE6
          refine wl_nil ⟨fun _ => hS, ?_⟩
          refine wx_only 19 _ rfl (by kernel_rfl) ?_
          refine s1_do ?_
          refine wl_alloc z_34 ?_; intro b10 w7 hb10 hE7 hB10
          have hn0_10 : b0 < b10 := Nat.lt_of_lt_of_le (Nat.lt_of_lt_of_le hB0.lt hS.size) hb10
          have hn4_10 : b4 < b10 := Nat.lt_of_lt_of_le (Nat.lt_of_lt_of_le hB4.lt hS.size) hb10
          have hn9_10 : b9 < b10 := Nat.lt_of_lt_of_le hB9.lt hb10
          have hq10 : w.heap.size ≤ b10 := Nat.le_trans (hX.tr hS).size hb10
          have hl10 : Mine (Ms b0 bd ow X) w b10 := .inr hq10
          have hm10 : w4.heap.size ≤ b10 := Nat.le_trans hS.size hb10
          replace hB9 := hB9.ext hE7 id
          replace hS := hS.tr hE7
          refine wl_nil ⟨fun _ => hS, ?_⟩
          refine wx_only 20 _ rfl (by kernel_rfl) ?_
          refine s1_do ?_
          refine wl_storeB s_27 rfl rfl rfl (StD.one _) hB9 rfl ?_; intro w8 hE8 hB9 hz8
          replace hB10 := hB10.ext hE8 (fun h => by omega)
          replace hS := hS.mine hE8 (.inr (by omega))
          refine wl_nil ⟨fun _ => hS, ?_⟩
          refine wx_only 21 _ rfl (by kernel_rfl) ?_
          refine s1_do ?_
          refine wl_storeB s_34 rfl rfl rfl (AnsD.one _) hB10 rfl ?_; intro w9 hE9 hB10 hz9
          replace hB9 := hB9.ext hE9 (fun h => by omega)
          replace hS := hS.mine hE9 (.inr (by omega))
          refine wl_nil ⟨fun _ => hS, ?_⟩
          refine wx_done (by kernel_rfl) ?_ _
          replace hX := hX.tr hS
          replace hB0 := hB0.ext hS id; replace hB4 := hB4.ext hS id
          replace hDn := hDn.ext hS id
          replace hWy := hWy.ext hS (fun _ _ h => h)
          replace hOm := hOm.ext hS (fun _ _ h => h)
          replace hJ := hst _ _ _ _ hJ hS (fun i h _ => h)
          replace hzA := Nat.le_trans hzA hS.size
          have hy9 := Nat.le_trans hzS hm9; have hy10 := Nat.le_trans hzS hm10
          exact ⟨rfl, ((), b9, b10), ⟨rfl, rfl, rfl, rfl, rfl, rfl, rfl, rfl, rfl, trivial⟩, ⟨hX, hB0, hB4, hB9, hB10, hl0, hl4, hl9, hl10, hn0_4, hn0_9, hn0_10, ⟨hDn, hWy, hOm, hJ, hy9, hy10, hzA⟩⟩⟩
        · refine s1_do ?_
          refine wl_alloc z_34 ?_; intro b10 w10 hb10 hE10 hB10
          have hn0_10 : b0 < b10 := Nat.lt_of_lt_of_le (Nat.lt_of_lt_of_le hB0.lt hS.size) hb10
          have hn4_10 : b4 < b10 := Nat.lt_of_lt_of_le (Nat.lt_of_lt_of_le hB4.lt hS.size) hb10
          have hq10 : w.heap.size ≤ b10 := Nat.le_trans (hX.tr hS).size hb10
          have hl10 : Mine (Ms b0 bd ow X) w b10 := .inr hq10
          have hm10 : w4.heap.size ≤ b10 := Nat.le_trans hS.size hb10
          replace hS := hS.tr hE10
          refine wl_nil ⟨fun _ => hS, ?_⟩
          refine wx_only 18 _ rfl (by kernel_rfl) ?_
          refine s1_do ?_
          refine wl_alloc z_27 ?_; intro b9 w11 hb9 hE11 hB9
          have hn0_9 : b0 < b9 := Nat.lt_of_lt_of_le (Nat.lt_of_lt_of_le hB0.lt hS.size) hb9
          have hn4_9 : b4 < b9 := Nat.lt_of_lt_of_le (Nat.lt_of_lt_of_le hB4.lt hS.size) hb9
          have hn10_9 : b10 < b9 := Nat.lt_of_lt_of_le hB10.lt hb9
          have hq9 : w.heap.size ≤ b9 := Nat.le_trans (hX.tr hS).size hb9
          have hl9 : Mine (Ms b0 bd ow X) w b9 := .inr hq9
          have hm9 : w4.heap.size ≤ b9 := Nat.le_trans hS.size hb9
          replace hB10 := hB10.ext hE11 id
          replace hS := hS.tr hE11
          refine wl_nil ⟨fun _ => hS, ?_⟩
          refine wx_only 20 _ rfl (by kernel_rfl) ?_
          refine s1_do ?_
          refine wl_storeB s_27 rfl rfl rfl (StD.one _) hB9 rfl ?_; intro w12 hE12 hB9 hz12
          replace hB10 := hB10.ext hE12 (fun h => by omega)
          replace hS := hS.mine hE12 (.inr (by omega))
          refine wl_nil ⟨fun _ => hS, ?_⟩
          refine wx_only 21 _ rfl (by kernel_rfl) ?_
          refine s1_do ?_
          refine wl_storeB s_34 rfl rfl rfl (AnsD.one _) hB10 rfl ?_; intro w13 hE13 hB10 hz13
          replace hB9 := hB9.ext hE13 (fun h => by omega)
          replace hS := hS.mine hE13 (.inr (by omega))
          refine wl_nil ⟨fun _ => hS, ?_⟩
          refine wx_done (by kernel_rfl) ?_ _
          replace hX := hX.tr hS
          replace hB0 := hB0.ext hS id; replace hB4 := hB4.ext hS id
          replace hDn := hDn.ext hS id
          replace hWy := hWy.ext hS (fun _ _ h => h)
          replace hOm := hOm.ext hS (fun _ _ h => h)
          replace hJ := hst _ _ _ _ hJ hS (fun i h _ => h)
          replace hzA := Nat.le_trans hzA hS.size
          have hy9 := Nat.le_trans hzS hm9; have hy10 := Nat.le_trans hzS hm10
          exact ⟨rfl, ((), b9, b10), ⟨rfl, rfl, rfl, rfl, rfl, rfl, rfl, rfl, rfl, trivial⟩, ⟨hX, hB0, hB4, hB9, hB10, hl0, hl4, hl9, hl10, hn0_4, hn0_9, hn0_10, ⟨hDn, hWy, hOm, hJ, hy9, hy10, hzA⟩⟩⟩
      · refine s1_do ?_
        refine wl_alloc z_27 ?_; intro b9 w14 hb9 hE14 hB9
        have hn0_9 : b0 < b9 := Nat.lt_of_lt_of_le (Nat.lt_of_lt_of_le hB0.lt hS.size) hb9
        have hn4_9 : b4 < b9 := Nat.lt_of_lt_of_le (Nat.lt_of_lt_of_le hB4.lt hS.size) hb9
        have hq9 : w.heap.size ≤ b9 := Nat.le_trans (hX.tr hS).size hb9
        have hl9 : Mine (Ms b0 bd ow X) w b9 := .inr hq9
        have hm9 : w4.heap.size ≤ b9 := Nat.le_trans hS.size hb9
        replace hS := hS.tr hE14
        refine wl_nil ⟨fun _ => hS, ?_⟩
        refine wx_two 14 19 _ _ rfl rfl (by kernel_rfl) ?_ ?_
        · refine s1_do ?_
          refine wl_callF (M := Non) rfl e_66 rfl (machine1_ok w14 s x.op hbnd) ?_; intro v40 w15 hE15 hR15; subst hR15
          replace hB9 := hB9.ext hE15 id
          replace hS := hS.tr hE15
          refine wl_nil ⟨fun _ => hS, ?_⟩
          refine wx_take 15 [16, 17, 20, 21] _ _ rfl (by kernel_rfl) hS (yd_do fun A hA => rn_move (by conv => lhs; whnf)) ?_
          refine wx_take 16 [20, 21] _ _ rfl (by kernel_rfl) hS (yd_do fun A hA => rn_extract rfl rfl) ?_
          refine wx_take 17 [21] _ _ rfl (by kernel_rfl) hS (yd_do fun A hA => rn_extract rfl rfl) ?_
          refine wx_only 19 _ rfl (by kernel_rfl) ?_
          refine s1_do ?_
          refine wl_alloc z_34 ?_; intro b10 w16 hb10 hE16 hB10
          have hn0_10 : b0 < b10 := Nat.lt_of_lt_of_le (Nat.lt_of_lt_of_le hB0.lt hS.size) hb10
          have hn4_10 : b4 < b10 := Nat.lt_of_lt_of_le (Nat.lt_of_lt_of_le hB4.lt hS.size) hb10
          have hn9_10 : b9 < b10 := Nat.lt_of_lt_of_le hB9.lt hb10
          have hq10 : w.heap.size ≤ b10 := Nat.le_trans (hX.tr hS).size hb10
          have hl10 : Mine (Ms b0 bd ow X) w b10 := .inr hq10
          have hm10 : w4.heap.size ≤ b10 := Nat.le_trans hS.size hb10
          replace hB9 := hB9.ext hE16 id
          replace hS := hS.tr hE16
          refine wl_nil ⟨fun _ => hS, ?_⟩
          refine wx_only 20 _ rfl (by kernel_rfl) ?_
          refine s1_do ?_
          refine wl_storeB s_27 rfl rfl rfl (StD.one _) hB9 rfl ?_; intro w17 hE17 hB9 hz17
          replace hB10 := hB10.ext hE17 (fun h => by omega)
          replace hS := hS.mine hE17 (.inr (by omega))
          refine wl_nil ⟨fun _ => hS, ?_⟩
          refine wx_only 21 _ rfl (by kernel_rfl) ?_
          refine s1_do ?_
          refine wl_storeB s_34 rfl rfl rfl (AnsD.one _) hB10 rfl ?_; intro w18 hE18 hB10 hz18
          replace hB9 := hB9.ext hE18 (fun h => by omega)
          replace hS := hS.mine hE18 (.inr (by omega))
          refine wl_nil ⟨fun _ => hS, ?_⟩
          refine wx_done (by kernel_rfl) ?_ _
          replace hX := hX.tr hS
          replace hB0 := hB0.ext hS id; replace hB4 := hB4.ext hS id
          replace hDn := hDn.ext hS id
          replace hWy := hWy.ext hS (fun _ _ h => h)
          replace hOm := hOm.ext hS (fun _ _ h => h)
          replace hJ := hst _ _ _ _ hJ hS (fun i h _ => h)
          replace hzA := Nat.le_trans hzA hS.size
          have hy9 := Nat.le_trans hzS hm9; have hy10 := Nat.le_trans hzS hm10
          exact ⟨rfl, ((), b9, b10), ⟨rfl, rfl, rfl, rfl, rfl, rfl, rfl, rfl, rfl, trivial⟩, ⟨hX, hB0, hB4, hB9, hB10, hl0, hl4, hl9, hl10, hn0_4, hn0_9, hn0_10, ⟨hDn, hWy, hOm, hJ, hy9, hy10, hzA⟩⟩⟩
        · refine s1_do ?_
          refine wl_alloc z_34 ?_; intro b10 w19 hb10 hE19 hB10
          have hn0_10 : b0 < b10 := Nat.lt_of_lt_of_le (Nat.lt_of_lt_of_le hB0.lt hS.size) hb10
          have hn4_10 : b4 < b10 := Nat.lt_of_lt_of_le (Nat.lt_of_lt_of_le hB4.lt hS.size) hb10
          have hn9_10 : b9 < b10 := Nat.lt_of_lt_of_le hB9.lt hb10
          have hq10 : w.heap.size ≤ b10 := Nat.le_trans (hX.tr hS).size hb10
          have hl10 : Mine (Ms b0 bd ow X) w b10 := .inr hq10
          have hm10 : w4.heap.size ≤ b10 := Nat.le_trans hS.size hb10
          replace hB9 := hB9.ext hE19 id
          replace hS := hS.tr hE19
          refine wl_nil ⟨fun _ => hS, ?_⟩
          refine wx_only 14 _ rfl (by kernel_rfl) ?_
          refine s1_do ?_
          refine wl_callF (M := Non) rfl e_66 rfl (machine1_ok w19 s x.op hbnd) ?_; intro v40 w20 hE20 hR20; subst hR20
          replace hB9 := hB9.ext hE20 id
          replace hB10 := hB10.ext hE20 id
          replace hS := hS.tr hE20
          refine wl_nil ⟨fun _ => hS, ?_⟩
          refine wx_take 15 [16, 17, 20, 21] _ _ rfl (by kernel_rfl) hS (yd_do fun A hA => rn_move (by conv => lhs; whnf)) ?_
          refine wx_take 16 [20, 21] _ _ rfl (by kernel_rfl) hS (yd_do fun A hA => rn_extract rfl rfl) ?_
          refine wx_take 17 [21] _ _ rfl (by kernel_rfl) hS (yd_do fun A hA => rn_extract rfl rfl) ?_
          refine wx_only 20 _ rfl (by kernel_rfl) ?_
          refine s1_do ?_
          refine wl_storeB s_27 rfl rfl rfl (StD.one _) hB9 rfl ?_; intro w21 hE21 hB9 hz21
          replace hB10 := hB10.ext hE21 (fun h => by omega)
          replace hS := hS.mine hE21 (.inr (by omega))
          refine wl_nil ⟨fun _ => hS, ?_⟩
          refine wx_only 21 _ rfl (by kernel_rfl) ?_
          refine s1_do ?_
          refine wl_storeB s_34 rfl rfl rfl (AnsD.one _) hB10 rfl ?_; intro w22 hE22 hB10 hz22
          replace hB9 := hB9.ext hE22 (fun h => by omega)
          replace hS := hS.mine hE22 (.inr (by omega))
          refine wl_nil ⟨fun _ => hS, ?_⟩
          refine wx_done (by kernel_rfl) ?_ _
          replace hX := hX.tr hS
          replace hB0 := hB0.ext hS id; replace hB4 := hB4.ext hS id
          replace hDn := hDn.ext hS id
          replace hWy := hWy.ext hS (fun _ _ h => h)
          replace hOm := hOm.ext hS (fun _ _ h => h)
          replace hJ := hst _ _ _ _ hJ hS (fun i h _ => h)
          replace hzA := Nat.le_trans hzA hS.size
          have hy9 := Nat.le_trans hzS hm9; have hy10 := Nat.le_trans hzS hm10
          exact ⟨rfl, ((), b9, b10), ⟨rfl, rfl, rfl, rfl, rfl, rfl, rfl, rfl, rfl, trivial⟩, ⟨hX, hB0, hB4, hB9, hB10, hl0, hl4, hl9, hl10, hn0_4, hn0_9, hn0_10, ⟨hDn, hWy, hOm, hJ, hy9, hy10, hzA⟩⟩⟩
      · refine s1_do ?_
        refine wl_alloc z_34 ?_; intro b10 w23 hb10 hE23 hB10
        have hn0_10 : b0 < b10 := Nat.lt_of_lt_of_le (Nat.lt_of_lt_of_le hB0.lt hS.size) hb10
        have hn4_10 : b4 < b10 := Nat.lt_of_lt_of_le (Nat.lt_of_lt_of_le hB4.lt hS.size) hb10
        have hq10 : w.heap.size ≤ b10 := Nat.le_trans (hX.tr hS).size hb10
        have hl10 : Mine (Ms b0 bd ow X) w b10 := .inr hq10
        have hm10 : w4.heap.size ≤ b10 := Nat.le_trans hS.size hb10
        replace hS := hS.tr hE23
        refine wl_nil ⟨fun _ => hS, ?_⟩
        refine wx_two 14 18 _ _ rfl rfl (by kernel_rfl) ?_ ?_
        · refine s1_do ?_
          refine wl_callF (M := Non) rfl e_66 rfl (machine1_ok w23 s x.op hbnd) ?_; intro v40 w24 hE24 hR24; subst hR24
          replace hB10 := hB10.ext hE24 id
          replace hS := hS.tr hE24
          refine wl_nil ⟨fun _ => hS, ?_⟩
          refine wx_take 15 [16, 17, 20, 21] _ _ rfl (by kernel_rfl) hS (yd_do fun A hA => rn_move (by conv => lhs; whnf)) ?_
          refine wx_take 16 [20, 21] _ _ rfl (by kernel_rfl) hS (yd_do fun A hA => rn_extract rfl rfl) ?_
          refine wx_take 17 [21] _ _ rfl (by kernel_rfl) hS (yd_do fun A hA => rn_extract rfl rfl) ?_
          refine wx_only 18 _ rfl (by kernel_rfl) ?_
          refine s1_do ?_
          refine wl_alloc z_27 ?_; intro b9 w25 hb9 hE25 hB9
          have hn0_9 : b0 < b9 := Nat.lt_of_lt_of_le (Nat.lt_of_lt_of_le hB0.lt hS.size) hb9
          have hn4_9 : b4 < b9 := Nat.lt_of_lt_of_le (Nat.lt_of_lt_of_le hB4.lt hS.size) hb9
          have hn10_9 : b10 < b9 := Nat.lt_of_lt_of_le hB10.lt hb9
          have hq9 : w.heap.size ≤ b9 := Nat.le_trans (hX.tr hS).size hb9
          have hl9 : Mine (Ms b0 bd ow X) w b9 := .inr hq9
          have hm9 : w4.heap.size ≤ b9 := Nat.le_trans hS.size hb9
          replace hB10 := hB10.ext hE25 id
          replace hS := hS.tr hE25
          refine wl_nil ⟨fun _ => hS, ?_⟩
          refine wx_only 20 _ rfl (by kernel_rfl) ?_
          refine s1_do ?_
          refine wl_storeB s_27 rfl rfl rfl (StD.one _) hB9 rfl ?_; intro w26 hE26 hB9 hz26
          replace hB10 := hB10.ext hE26 (fun h => by omega)
          replace hS := hS.mine hE26 (.inr (by omega))
          refine wl_nil ⟨fun _ => hS, ?_⟩
          refine wx_only 21 _ rfl (by kernel_rfl) ?_
          refine s1_do ?_
          refine wl_storeB s_34 rfl rfl rfl (AnsD.one _) hB10 rfl ?_; intro w27 hE27 hB10 hz27
          replace hB9 := hB9.ext hE27 (fun h => by omega)
          replace hS := hS.mine hE27 (.inr (by omega))
          refine wl_nil ⟨fun _ => hS, ?_⟩
          refine wx_done (by kernel_rfl) ?_ _
          replace hX := hX.tr hS
          replace hB0 := hB0.ext hS id; replace hB4 := hB4.ext hS id
          replace hDn := hDn.ext hS id
          replace hWy := hWy.ext hS (fun _ _ h => h)
          replace hOm := hOm.ext hS (fun _ _ h => h)
          replace hJ := hst _ _ _ _ hJ hS (fun i h _ => h)
          replace hzA := Nat.le_trans hzA hS.size
          have hy9 := Nat.le_trans hzS hm9; have hy10 := Nat.le_trans hzS hm10
          exact ⟨rfl, ((), b9, b10), ⟨rfl, rfl, rfl, rfl, rfl, rfl, rfl, rfl, rfl, trivial⟩, ⟨hX, hB0, hB4, hB9, hB10, hl0, hl4, hl9, hl10, hn0_4, hn0_9, hn0_10, ⟨hDn, hWy, hOm, hJ, hy9, hy10, hzA⟩⟩⟩
        · refine s1_do ?_
          refine wl_alloc z_27 ?_; intro b9 w28 hb9 hE28 hB9
          have hn0_9 : b0 < b9 := Nat.lt_of_lt_of_le (Nat.lt_of_lt_of_le hB0.lt hS.size) hb9
          have hn4_9 : b4 < b9 := Nat.lt_of_lt_of_le (Nat.lt_of_lt_of_le hB4.lt hS.size) hb9
          have hn10_9 : b10 < b9 := Nat.lt_of_lt_of_le hB10.lt hb9
          have hq9 : w.heap.size ≤ b9 := Nat.le_trans (hX.tr hS).size hb9
          have hl9 : Mine (Ms b0 bd ow X) w b9 := .inr hq9
          have hm9 : w4.heap.size ≤ b9 := Nat.le_trans hS.size hb9
          replace hB10 := hB10.ext hE28 id
          replace hS := hS.tr hE28
          refine wl_nil ⟨fun _ => hS, ?_⟩
          refine wx_only 14 _ rfl (by kernel_rfl) ?_
          refine s1_do ?_
          refine wl_callF (M := Non) rfl e_66 rfl (machine1_ok w28 s x.op hbnd) ?_; intro v40 w29 hE29 hR29; subst hR29
          replace hB10 := hB10.ext hE29 id
          replace hB9 := hB9.ext hE29 id
          replace hS := hS.tr hE29
          refine wl_nil ⟨fun _ => hS, ?_⟩
          refine wx_take 15 [16, 17, 20, 21] _ _ rfl (by kernel_rfl) hS (yd_do fun A hA => rn_move (by conv => lhs; whnf)) ?_
          refine wx_take 16 [20, 21] _ _ rfl (by kernel_rfl) hS (yd_do fun A hA => rn_extract rfl rfl) ?_
          refine wx_take 17 [21] _ _ rfl (by kernel_rfl) hS (yd_do fun A hA => rn_extract rfl rfl) ?_
          refine wx_only 20 _ rfl (by kernel_rfl) ?_
          refine s1_do ?_
          refine wl_storeB s_27 rfl rfl rfl (StD.one _) hB9 rfl ?_; intro w30 hE30 hB9 hz30
          replace hB10 := hB10.ext hE30 (fun h => by omega)
          replace hS := hS.mine hE30 (.inr (by omega))
          refine wl_nil ⟨fun _ => hS, ?_⟩
          refine wx_only 21 _ rfl (by kernel_rfl) ?_
          refine s1_do ?_
          refine wl_storeB s_34 rfl rfl rfl (AnsD.one _) hB10 rfl ?_; intro w31 hE31 hB10 hz31
          replace hB9 := hB9.ext hE31 (fun h => by omega)
          replace hS := hS.mine hE31 (.inr (by omega))
          refine wl_nil ⟨fun _ => hS, ?_⟩
          refine wx_done (by kernel_rfl) ?_ _
          replace hX := hX.tr hS
          replace hB0 := hB0.ext hS id; replace hB4 := hB4.ext hS id
          replace hDn := hDn.ext hS id
          replace hWy := hWy.ext hS (fun _ _ h => h)
          replace hOm := hOm.ext hS (fun _ _ h => h)
          replace hJ := hst _ _ _ _ hJ hS (fun i h _ => h)
          replace hzA := Nat.le_trans hzA hS.size
          have hy9 := Nat.le_trans hzS hm9; have hy10 := Nat.le_trans hzS hm10
          exact ⟨rfl, ((), b9, b10), ⟨rfl, rfl, rfl, rfl, rfl, rfl, rfl, rfl, rfl, trivial⟩, ⟨hX, hB0, hB4, hB9, hB10, hl0, hl4, hl9, hl10, hn0_4, hn0_9, hn0_10, ⟨hDn, hWy, hOm, hJ, hy9, hy10, hzA⟩⟩⟩
    · rintro τ904 ⟨_, b9, b10⟩ C4 ⟨hX, hB0, hB4, hB9, hB10, hl0, hl4, hl9, hl10, hn0_4, hn0_9, hn0_10, hI⟩
      obtain ⟨hDn, hWy, hOm, hJ, hy9, hy10, hzA⟩ := hI
      have hwd : ∀ j, ow1 = some j → j ≠ b0 ∧ j ≠ bd ∧ j ≠ bm ∧ j ≠ b4 ∧ j ≠ b9 ∧ j ≠ b10 := fun j hj => by have h1 := hn4 j hj; have h2 := hwy j hj; rcases hwc j hj with h | h; (have := hwy0 j h; omega); omega
      have hwm : ∀ j, om = some j → ∀ k, ow1 = some k → k ≠ j := fun j hj k hk => by have h1 := hom j hj; have h2 := hom1 j hj; rcases hwc k hk with h | h; (have := hwy0 k h; omega); omega
      refine W_seq ?_
      refine W_seq ?_
      refine W_drawX (fun j => false) mixed ?_; intro w32 hE32
      replace hX := hX.tr hE32
      replace hB0 := hB0.ext hE32 id; replace hB4 := hB4.ext hE32 id; replace hB9 := hB9.ext hE32 id; replace hB10 := hB10.ext hE32 id
      replace hDn := hDn.ext hE32 id
      replace hWy := hWy.ext hE32 (fun _ _ h => h)
      replace hOm := hOm.ext hE32 (fun _ _ h => h)
      replace hJ := hst _ _ _ _ hJ hE32 (fun i h _ => h)
      replace hzA := Nat.le_trans hzA hE32.size
      have hS := Ext.refl Non w32
      refine wx_take 0 [9] _ _ rfl (by kernel_rfl) hS (yd_do fun A hA => rn_loadB s_34 rfl rfl (hB10.ext hA id)) ?_
      refine wx_take 1 [2, 3, 4, 6, 7, 8, 9] _ _ rfl (by kernel_rfl) hS (yd_do fun A hA => rn_move (by conv => lhs; whnf)) ?_
      refine wx_take 2 [3, 4, 6, 7, 8, 9] _ _ rfl (by kernel_rfl) hS (yd_do fun A hA => rn_nilCheck rfl) ?_
      refine wx_take 3 [4, 6, 7, 8, 9] _ _ rfl (by kernel_rfl) hS (yd_do fun A hA => rn_fieldAddr f_120_1 (by decide) rfl) ?_
      refine wx_take 4 [6, 7, 8, 9] _ _ rfl (by kernel_rfl) hS (yd_do fun A hA => rn_load1 p_25 rfl (hB0.ext hA id) rfl) ?_
      refine wx_take 5 [6, 7, 8, 9] _ _ rfl (by kernel_rfl) hS (yd_do fun A hA => rn_move (by conv => lhs; whnf)) ?_
      refine wx_take 6 [7, 8, 9] _ _ rfl (by kernel_rfl) hS (yd_do fun A hA => rn_indexAddr sl_25 rfl rfl (by omega)) ?_
      refine wx_take 7 [8, 9] _ _ rfl (by kernel_rfl) hS (yd_do fun A hA => rn_fieldAddr f_38_3 (by decide) rfl) ?_
      refine wx_take 8 [9] _ _ rfl (by kernel_rfl) hS (yd_do fun A hA => rn_loadS s_34 (vs := x.ans.enc) rfl rfl (((hlv.ext hX (fun i h => (hlow i h).1)).ext hA (fun _ h => h.elim)).part1 (map_at hx) rfl (Nat.le_of_ble_eq_true rfl))) ?_
      refine wx_take 9 [] _ _ rfl (by kernel_rfl) hS (yd_do fun A hA => rn_neqS rfl rfl eg_34 (by decide) (ans_eqs _ _)) ?_
      refine wx_done (by kernel_rfl) ?_ _
      replace hX := hX.tr hS
      replace hB0 := hB0.ext hS id; replace hB4 := hB4.ext hS id; replace hB9 := hB9.ext hS id; replace hB10 := hB10.ext hS id
      replace hDn := hDn.ext hS id
      replace hWy := hWy.ext hS (fun _ _ h => h)
      replace hOm := hOm.ext hS (fun _ _ h => h)
      replace hJ := hst _ _ _ _ hJ hS (fun i h _ => h)
      replace hzA := Nat.le_trans hzA hS.size
      refine W_cond rfl (fun hc1 => ?_) (fun hc1 => ?_)
      · have hsb : stepB l s i = none := by rw [stepB_at hx, if_neg (by simpa using hc1)]
        refine W_exit ?_   -- exit 1
        refine W_region ?_
        refine wl_val (rn_add rfl rfl (by omega)) ?_
        refine wl_val (rn_move (by conv => lhs; whnf)) ?_
        refine wl_nil ?_
        exact ⟨rfl, (k + 1, aw, cw, ow1), ⟨rfl, rfl, rfl, rfl, rfl, rfl, trivial⟩, ⟨hX, hB0, hB4, hl0, hl4, hn0_4, ⟨hlt, hDn, hWy, hwc, hOm, by rw [mini_take hi]; exact hskip _ i _ _ (mini_split hi) hsb hJ, by omega, hn4⟩⟩, by show (mini l done).length - (k + 1) < (mini l done).length - k; omega⟩
      · have hsb : stepB l s i = some (doS s x.op).1 := by rw [stepB_at hx, if_pos (by simpa using hc1)]
        refine W_skip ?_
        refine W_seq ?_
        refine W_region ?_
        refine wl_val (rn_move (by conv => lhs; whnf)) ?_
        refine wl_val (rn_nilCheck rfl) ?_
        refine wl_val (rn_fieldAddr f_120_2 (by decide) rfl) ?_
        refine wl_val (rn_load1 p_117 rfl hB0 rfl) ?_
        refine wl_val (rn_move (by conv => lhs; whnf)) ?_
        refine wl_val (rn_indexAddr sl_117 rfl rfl (by omega)) ?_
        refine wl_storeE (u := .bool true) (i := i) p_4 rfl rfl rfl rfl hDn (by rw [List.length_map]; omega) ?_; intro w33 hE33 hDn2
        replace hX := hX.mine hE33 (.inl (.inr (.inl rfl)))
        replace hB0 := hB0.ext hE33 (fun e => by omega); replace hB4 := hB4.ext hE33 (fun e => by omega); replace hB9 := hB9.ext hE33 (fun e => by omega); replace hB10 := hB10.ext hE33 (fun e => by omega)
        replace hOm := hOm.ext hE33 (fun j hj e => by have := hom j hj; omega); replace hJ := hst _ _ _ _ hJ hE33 (fun j e hx => by have := hXx j hx; omega); replace hzA := Nat.le_trans hzA hE33.size
        replace hWy := hWy.ext hE33 (fun j hj e => by have := hn4 j hj; omega)
        rw [eBo_set] at hDn2; have hDn := hDn2
        refine wl_nil ?_
        refine W_seq ?_
        refine W_region ?_
        refine wl_val (rn_move (by conv => lhs; whnf)) ?_
        refine wl_val (rn_move (by conv => lhs; whnf)) ?_
        refine wl_val (rn_nilCheck rfl) ?_
        refine wl_val (rn_fieldAddr f_120_3 (by decide) rfl) ?_
        refine wl_val (rn_load1 p_39 rfl hB0 rfl) ?_
        refine wl_val (rn_move (by conv => lhs; whnf)) ?_
        refine wl_lit1 (r := eN i) sl_39 rfl rfl rfl rfl (by decide) ?_; intro v65 w34 b65 hb65 hE34 hO65
        replace hX := hX.tr hE34
        replace hB0 := hB0.ext hE34 id; replace hB4 := hB4.ext hE34 id; replace hB9 := hB9.ext hE34 id; replace hB10 := hB10.ext hE34 id
        replace hDn := hDn.ext hE34 id
        replace hWy := hWy.ext hE34 (fun _ _ h => h)
        replace hOm := hOm.ext hE34 (fun _ _ h => h)
        replace hJ := hst _ _ _ _ hJ hE34 (fun i h _ => h)
        replace hzA := Nat.le_trans hzA hE34.size
        have hv9 := hB9.lt; have hv10 := hB10.lt
        have hXo := hX
        refine wl_app sl_39 rfl rfl rfl hWy (hO65.sl (M := Non) id) (fun r hr => by simp only [List.mem_singleton] at hr; subst hr; exact one1 rfl) (by simp only [List.length_map, List.length_cons, List.length_nil]; omega) (by simp only [List.length_map, List.length_cons, List.length_nil, big]; omega) ?_; intro v66 w35 o66 hE35 hW66 hf66
        obtain ⟨a66, c66, hv66⟩ := id hW66.len; subst hv66
        replace hX := hX.own2 hE35 (fun j hj => by rcases hwc j hj with h | h; exact .inl (.inr (.inr (.inl h))); exact .inr (by omega))
        replace hB0 := hB0.ext hE35 (fun e => by have := hwd _ e; omega); replace hB4 := hB4.ext hE35 (fun e => by have := hwd _ e; omega); replace hB9 := hB9.ext hE35 (fun e => by have := hwd _ e; omega); replace hB10 := hB10.ext hE35 (fun e => by have := hwd _ e; omega)
        replace hDn := hDn.ext hE35 (fun e => by have := hwd _ e; omega); replace hOm := hOm.ext hE35 (fun j hj e => by have := hwm j hj _ e; omega); replace hJ := hst _ _ _ _ hJ hE35 (fun j hj hx => by have := hXx j hx; rcases hwc j hj with h | h; exact this.2.2.2 h; omega); replace hzA := Nat.le_trans hzA hE35.size
        have hw66 : ∀ j, o66 = some j → j ≠ b0 ∧ j ≠ bd ∧ j ≠ bm ∧ j ≠ b4 ∧ j ≠ b9 ∧ j ≠ b10 ∧ (ow = some j ∨ W1 ≤ j) := fun j hj => by
          rcases hf66 j hj with h | h
          · have := hwd j h; have := hwc j h; exact ⟨by omega, by omega, by omega, by omega, by omega, by omega, this⟩
          · exact ⟨by omega, by omega, by omega, by omega, by omega, by omega, .inr (by omega)⟩
        have hwm66 : ∀ j, om = some j → ∀ k, o66 = some k → k ≠ j := fun j hj k hk => by have h66 := (hw66 k hk).2.2.2.2.2.2; have h1 := hom1 j hj; have h2 := hom j hj; rcases h66 with h | h; (have := hwy0 k h; omega); omega
        refine wl_val (rn_nilCheck rfl) ?_
        refine wl_val (rn_fieldAddr f_120_3 (by decide) rfl) ?_
        have hBo := hB0
        refine wl_store1 (b := b0) p_39 rfl (by conv => lhs; whnf) rfl rfl hB0 (Nat.le_of_ble_eq_true rfl) ?_; intro w36 hE36 hB0 hz36
        replace hX := hX.mine hE36 hl0
        replace hB4 := hB4.ext hE36 (fun h => by omega); replace hB9 := hB9.ext hE36 (fun h => by omega); replace hB10 := hB10.ext hE36 (fun h => by omega)
        replace hDn := hDn.ext hE36 (fun e => by omega)
        replace hOm := hOm.ext hE36 (fun j hj e => by have := hom j hj; omega)
        replace hJ := hst _ _ _ _ hJ hE36 (fun i e hx => by have := hXx i hx; omega)
        replace hzA := Nat.le_trans hzA hE36.size
        replace hW66 := hW66.ext hE36 (fun j hj e => by have := hw66 j hj; omega)
        refine wl_nil ?_
        refine W_seq ?_
        refine W_seq ?_
        refine W_region ?_
        refine wl_val (rn_move (by conv => lhs; whnf)) ?_
        refine wl_val (rn_loadB s_27 rfl rfl hB9) ?_
        refine wl_callF (M := Ms b0 bd o66 X) rfl hf rfl (hdo _ i _ _ w36 _ o66 (mini_split hi) hsb hJ hX (fun j hj => by rcases (hw66 j hj).2.2.2.2.2.2 with h | h; exact .inl h; exact .inr (by omega)) ⟨by rw [List.length_set]; exact hB0, by rw [List.length_set]; exact hDn, by rw [List.map_append]; exact hW66, hn1, hn2, hn3, fun j hj => ⟨(hw66 j hj).1, (hw66 j hj).2.1, (hw66 j hj).2.2.1⟩⟩) ?_; rintro v71 w37 hE37 ⟨r, rfl, hrT, hrF⟩
        have hsz71 := hE37.size; have hzB71 := hzA; replace hzA := Nat.le_trans hzA hsz71
        replace hX := hX.own2 hE37 (fun j hj => by rcases hj with h | h | h | h; exact .inl (.inl h); exact .inl (.inr (.inl h)); rcases (hw66 j h).2.2.2.2.2.2 with q | q; exact .inl (.inr (.inr (.inl q))); exact .inr (by omega); exact .inl (.inr (.inr (.inr h))))
        replace hB4 := hB4.ext hE37 (fun h => by rcases h with h | h | h | h; omega; omega; have := hw66 _ h; omega; have := hXx _ h; omega); replace hB9 := hB9.ext hE37 (fun h => by rcases h with h | h | h | h; omega; omega; have := hw66 _ h; omega; have := hXx _ h; omega); replace hB10 := hB10.ext hE37 (fun h => by rcases h with h | h | h | h; omega; omega; have := hw66 _ h; omega; have := hXx _ h; omega)
        replace hOm := hOm.ext hE37 (fun j hj h => by have := hom j hj; rcases h with h | h | h | h; omega; omega; exact hwm66 j hj _ h rfl; have := hXx _ h; omega)
        refine wl_nil ?_
        refine W_cond rfl (fun hc2 => ?_) (fun hc2 => ?_)
        · refine W_seq ?_
          refine W_region ?_
          refine wl_val (rn_assign (by conv => lhs; whnf)) ?_
          refine wl_nil ?_
          refine W_ret ?_
          exact ⟨_, resR1 (res1_tmp rfl), hX, ⟨true, rfl, fun _ => ⟨_, i, _, _, mini_split hi, hsb, hrT hc2⟩, fun h => (by cases h)⟩⟩
        · obtain ⟨hJ, vw2, ow2, hS2, hw2⟩ := hrF hc2
          obtain ⟨hB0, hDn, hWy, _, _, _, hn42⟩ := hS2
          rw [List.length_set] at hB0 hDn
          obtain ⟨a2, c2, hv2⟩ := id hWy.len; subst hv2
          simp only [List.length_map, List.length_append, List.length_cons, List.length_nil] at hB0 hWy
          have hcap2 : way.length + 1 ≤ c2 := by obtain ⟨⟨a3, c3, e1, e2, _⟩, _⟩ := hWy.sl (M := Non) (fun _ _ h => h); simp only [Value.slice.injEq] at e1; simp at e2; omega
          have hwc2 : ∀ j, ow2 = some j → ow = some j ∨ W1 ≤ j := fun j hj => by rcases hw2 j hj with h | h; exact (hw66 j h).2.2.2.2.2.2; exact .inr (by omega)
          refine W_skip ?_
          refine W_seq ?_
          refine W_region ?_
          refine wl_val (rn_move (by conv => lhs; whnf)) ?_
          refine wl_val (rn_nilCheck rfl) ?_
          refine wl_val (rn_fieldAddr f_120_2 (by decide) rfl) ?_
          refine wl_val (rn_load1 p_117 rfl hB0 rfl) ?_
          refine wl_val (rn_move (by conv => lhs; whnf)) ?_
          refine wl_val (rn_indexAddr sl_117 rfl rfl (by omega)) ?_
          refine wl_storeE (u := .bool false) (i := i) p_4 rfl rfl rfl rfl hDn (by rw [List.length_map, List.length_set]; omega) ?_; intro w38 hE38 hDn2
          replace hX := hX.mine hE38 (.inl (.inr (.inl rfl)))
          replace hB0 := hB0.ext hE38 (fun e => by omega); replace hB4 := hB4.ext hE38 (fun e => by omega); replace hB9 := hB9.ext hE38 (fun e => by omega); replace hB10 := hB10.ext hE38 (fun e => by omega)
          replace hOm := hOm.ext hE38 (fun j hj e => by have := hom j hj; omega); replace hJ := hst _ _ _ _ hJ hE38 (fun j e hx => by have := hXx j hx; omega); replace hzA := Nat.le_trans hzA hE38.size
          replace hWy := hWy.ext hE38 (fun j hj e => by have := hn42 j hj; omega)
          rw [eBo_set, set_back (mini_unseen him) (by omega)] at hDn2; have hDn := hDn2
          refine wl_nil ?_
          refine W_drawX (fun j => j == 14) mixed ?_; intro w39 hE39
          replace hX := hX.tr hE39
          replace hB0 := hB0.ext hE39 id; replace hB4 := hB4.ext hE39 id; replace hB9 := hB9.ext hE39 id; replace hB10 := hB10.ext hE39 id
          replace hDn := hDn.ext hE39 id
          replace hOm := hOm.ext hE39 (fun _ _ h => h)
          replace hJ := hst _ _ _ _ hJ hE39 (fun i h _ => h)
          replace hzA := Nat.le_trans hzA hE39.size
          replace hWy := hWy.ext hE39 (fun _ _ h => h)
          have hS := Ext.refl Non w39
          refine wx_take 0 [12, 13, 14] _ _ rfl (by kernel_rfl) hS (yd_do fun A hA => rn_move (by conv => lhs; whnf)) ?_
          refine wx_take 1 [2, 3, 4, 11, 12, 13, 14] _ _ rfl (by kernel_rfl) hS (yd_do fun A hA => rn_move (by conv => lhs; whnf)) ?_
          refine wx_take 2 [3, 4, 11, 12, 13, 14] _ _ rfl (by kernel_rfl) hS (yd_do fun A hA => rn_nilCheck rfl) ?_
          refine wx_take 3 [4, 11, 12, 13, 14] _ _ rfl (by kernel_rfl) hS (yd_do fun A hA => rn_fieldAddr f_120_3 (by decide) rfl) ?_
          refine wx_take 4 [11, 12, 13, 14] _ _ rfl (by kernel_rfl) hS (yd_do fun A hA => rn_load1 p_39 rfl (hB0.ext hA id) rfl) ?_
          refine wx_take 5 [6, 7, 8, 9, 10, 11, 12, 13, 14] _ _ rfl (by kernel_rfl) hS (yd_do fun A hA => rn_move (by conv => lhs; whnf)) ?_
          refine wx_take 6 [7, 8, 9, 10, 11, 12, 13, 14] _ _ rfl (by kernel_rfl) hS (yd_do fun A hA => rn_nilCheck rfl) ?_
          refine wx_take 7 [8, 9, 10, 11, 12, 13, 14] _ _ rfl (by kernel_rfl) hS (yd_do fun A hA => rn_fieldAddr f_120_3 (by decide) rfl) ?_
          refine wx_take 8 [9, 10, 11, 12, 13, 14] _ _ rfl (by kernel_rfl) hS (yd_do fun A hA => rn_load1 p_39 rfl (hB0.ext hA id) rfl) ?_
          refine wx_take 9 [10, 11, 12, 13, 14] _ _ rfl (by kernel_rfl) hS (yd_do fun A hA => rn_len sl_39 rfl) ?_
          refine wx_take 10 [11, 12, 13, 14] _ _ rfl (by kernel_rfl) hS (yd_do fun A hA => Rn.cast (rn_sub rfl rfl (by omega)) (v' := .int .i64 (way.length : Nat)) (congrArg (Value.int .i64) (by omega))) ?_
          refine wx_take 11 [12, 13, 14] _ _ rfl (by kernel_rfl) hS (yd_do fun A hA => rn_slice0 sl_39 (h := way.length) (m := c2) rfl rfl ⟨_, rfl⟩ rfl (by simp) (by omega) (by omega)) ?_
          refine wx_take 12 [13, 14] _ _ rfl (by kernel_rfl) hS (yd_do fun A hA => rn_nilCheck rfl) ?_
          refine wx_take 13 [14] _ _ rfl (by kernel_rfl) hS (yd_do fun A hA => rn_fieldAddr f_120_3 (by decide) rfl) ?_
          replace hX := hX.tr hS
          replace hB0 := hB0.ext hS id; replace hB4 := hB4.ext hS id; replace hB9 := hB9.ext hS id; replace hB10 := hB10.ext hS id
          replace hDn := hDn.ext hS id
          replace hOm := hOm.ext hS (fun _ _ h => h)
          replace hJ := hst _ _ _ _ hJ hS (fun i h _ => h)
          replace hzA := Nat.le_trans hzA hS.size
          replace hWy := hWy.ext hS (fun _ _ h => h)
          refine wx_only 14 _ rfl (by kernel_rfl) ?_
          refine s1_do ?_
          have hBo := hB0
          refine wl_store1 (b := b0) p_39 rfl (by conv => lhs; whnf) rfl rfl hB0 (Nat.le_of_ble_eq_true rfl) ?_; intro w40 hE40 hB0 hz40
          replace hX := hX.mine hE40 hl0
          replace hB4 := hB4.ext hE40 (fun h => by omega); replace hB9 := hB9.ext hE40 (fun h => by omega); replace hB10 := hB10.ext hE40 (fun h => by omega)
          replace hDn := hDn.ext hE40 (fun e => by omega)
          replace hOm := hOm.ext hE40 (fun j hj e => by have := hom j hj; omega)
          replace hJ := hst _ _ _ _ hJ hE40 (fun i e hx => by have := hXx i hx; omega)
          replace hzA := Nat.le_trans hzA hE40.size
          replace hWy := hWy.ext hE40 (fun j hj e => by first | (have := hwy j hj; omega) | (have := hn4 j hj; omega) | (have := hn42 j hj; omega))
          refine wl_nil ⟨fun h => absurd h (by decide), ?_⟩
          refine wx_done (by kernel_rfl) ?_ _
          refine W_region ?_
          refine wl_val (rn_add rfl rfl (by omega)) ?_
          refine wl_val (rn_move (by conv => lhs; whnf)) ?_
          refine wl_nil ?_
          replace hWy := hWy.cut (m := way.length) (by omega); rw [snoc_take] at hWy
          exact ⟨rfl, (k + 1, a2, c2, ow2), ⟨rfl, rfl, rfl, rfl, rfl, rfl, trivial⟩, ⟨hX, hB0, hB4, hl0, hl4, hn0_4, ⟨hlt, hDn, hWy, hwc2, hOm, by rw [mini_take hi]; exact hJ, by omega, hn42⟩⟩, by show (mini l done).length - (k + 1) < (mini l done).length - k; omega⟩
  · have hge := of_decide_eq_false hc0; simp only [Int.ofNat_lt, Nat.not_lt] at hge
    rw [List.take_of_length_le hge] at hJ
    refine W_exit ?_   -- exit 0
    refine W_seq ?_
    refine W_region ?_
    refine wl_val (rn_assign (by conv => lhs; whnf)) ?_
    refine wl_nil ?_
    refine W_ret ?_
    exact ⟨_, resR1 (res1_tmp rfl), hX, ⟨false, rfl, fun h => (by cases h), fun _ => ⟨hJ, _, ow1, ⟨hB0, hDn, hWy, hn1, hn2, hn3, hn4⟩, fun j hj => by rcases hwc j hj with h | h; exact .inl h; exact .inr (by omega)⟩⟩⟩
end Go.Proofs.YthcclgoidchkdaaDoorC
