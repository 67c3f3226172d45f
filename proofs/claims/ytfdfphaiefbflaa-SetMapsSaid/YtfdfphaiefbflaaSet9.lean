/- The document's maps: put, drop, get. -/
import Derived.Test.YtfdfphaiefbflaaSet8
set_option linter.unusedVariables false
set_option linter.unusedSimpArgs false
set_option maxRecDepth 100000
namespace Go.Proofs.YtfdfphaiefbflaaC
open Go.RowKit
theorem dropV_self {κ : Type} [DecidableEq κ] {lt : κ → κ → Bool} (l : List κ) (x : κ) : dropV lt l x l = dropK lt l x := rfl
theorem putW_self {κ : Type} [DecidableEq κ] {lt : κ → κ → Bool} (l : List κ) (x : κ) : putW lt l x l x = putK lt l x := by
  unfold putW putK
  by_cases h : isAt lt l x = true
  · rw [if_pos h, if_pos h]
    have h2 : l[lb lt l x]? = some x := of_decide_eq_true h
    refine List.ext_getElem? fun j => ?_
    rw [List.getElem?_set]
    split
    · rename_i hj; subst hj; rw [h2, if_pos (List.getElem?_eq_some_iff.1 h2).1]
    · rfl
  · rw [if_neg h, if_neg h]
theorem dropAt_len {β : Type} {n : Nat} {a : Bool} {vs : List β} {i : Nat} (h : i ≤ vs.length) : (dropAt n a vs i).length ≤ i := by
  unfold dropAt; split
  · rw [List.length_append, List.length_take, List.length_drop, List.length_take]; omega
  · rw [List.length_take]; omega
theorem putAt_len {β : Type} {n : Nat} {a : Bool} {vs : List β} {r : β} {i : Nat} (h : i ≤ vs.length) : (putAt n a vs r i).length ≤ i + 1 := by
  unfold putAt; split
  · rw [List.length_append, List.length_cons, List.length_take, List.length_drop, List.length_take]; omega
  · rw [List.length_take]; omega
-- (bellman/bellmanref03.Map).Drop
set_option maxHeartbeats 2000000 in
theorem rdrop_ok (w : World) (ks : List Str) (ys : List Int) {v1 v2 : Value} (x : Str) (hk : Sl Non w v1 1 (ks.map eS1)) (hv : Sl Non w v2 1 (ys.map eI1)) (hle : ys.length = ks.length) (hord : Sorted ltS ks) (hn : ks.length ≤ 1000000) : Fn Try.prog 34 #[.agg #[v1, v2], Sv x] w fun u w' => ∃ u1 u2, u = .agg #[u1, u2] ∧ Sl (Old w) w' u1 1 ((dropK ltS ks x).map eS1) ∧ Sl (Old w) w' u2 1 ((dropV ltS ks x ys).map eI1) := by
  obtain ⟨a, c, rfl, _⟩ := hk.len; obtain ⟨a2, c2, rfl, _⟩ := hv.len
  simp only [List.length_map] at hk hv ⊢
  have hX := Ext.refl Non w
  refine fn_of_W (args := [_, _]) Try.func34 rfl (by kernel_rfl) rfl ?_
  refine W_seq ?_
  refine W_region ?_
  refine wl_boxS rfl ?_; intro b2 w1 hb2 hE1 hB2
  have hq2 : w.heap.size ≤ b2 := Nat.le_trans hX.size hb2
  have hl2 : Mine Non w b2 := .inr hq2
  replace hX := hX.tr hE1
  refine wl_alloc z_57 ?_; intro b4 w2 hb4 hE2 hB4
  have hn2_4 : b2 < b4 := Nat.lt_of_lt_of_le hB2.lt hb4
  have hq4 : w.heap.size ≤ b4 := Nat.le_trans hX.size hb4
  have hl4 : Mine Non w b4 := .inr hq4
  replace hX := hX.tr hE2
  replace hB2 := hB2.ext hE2 id
  refine wl_nil ?_
  refine W_seq ?_
  refine W_region ?_
  refine wl_val (rn_build' b_57 rfl rfl (cs := [.slice none 0 0, .slice none 0 0]) rfl) ?_
  refine wl_alloc z_57 ?_; intro b5 w3 hb5 hE3 hB5
  have hn2_5 : b2 < b5 := Nat.lt_of_lt_of_le hB2.lt hb5
  have hn4_5 : b4 < b5 := Nat.lt_of_lt_of_le hB4.lt hb5
  have hq5 : w.heap.size ≤ b5 := Nat.le_trans hX.size hb5
  have hl5 : Mine Non w b5 := .inr hq5
  replace hX := hX.tr hE3
  replace hB2 := hB2.ext hE3 id; replace hB4 := hB4.ext hE3 id
  refine wl_storeB s_57 rfl rfl rfl (by first | exact two1 rfl rfl | rfl) hB5 rfl ?_; intro w4 hE4 hB5 hz4
  replace hX := hX.mine hE4 hl5
  replace hB2 := hB2.ext hE4 (fun h => by omega); replace hB4 := hB4.ext hE4 (fun h => by omega)
  refine wl_nil ?_
  refine W_seq ?_
  refine W_seq ?_
  refine W_region ?_
  obtain ⟨wB, hwB⟩ : ∃ x, x = w4 := ⟨_, rfl⟩; have hBw : w.heap.size ≤ wB.heap.size := by rw [hwB]; exact hX.size
  have hzB : wB.heap.size ≤ w4.heap.size := by rw [hwB]; exact Nat.le_refl _
  have hlB2 : b2 < wB.heap.size := by rw [hwB]; exact hB2.lt
  have hlB4 : b4 < wB.heap.size := by rw [hwB]; exact hB4.lt
  have hlB5 : b5 < wB.heap.size := by rw [hwB]; exact hB5.lt
  refine wl_val (rn_assign (by conv => lhs; whnf)) ?_
  refine wl_nil ?_
  refine W_block ?_   -- block 0
  refine W_loopS (S := Nat × Value × Value × Option Nat × Option Nat) [1, 2, 4, 5, 6] (fun ⟨i, v, u, qq, pp⟩ => [Sv x, .pointer (some ⟨b2, 0, none⟩), .pointer (some ⟨b4, 0, none⟩), .pointer (some ⟨b5, 0, none⟩), .int .i64 (i : Nat)]) (fun ⟨i, v, u, qq, pp⟩ A => (Ext Non w A) ∧ (IsBox A b2 [.slice a ks.length c, .slice a2 ys.length c2]) ∧ (IsBox A b4 [.slice none 0 0, .slice none 0 0]) ∧ (IsBox A b5 [v, u]) ∧ (Mine Non w b2) ∧ (Mine Non w b4) ∧ (Mine Non w b5) ∧ (b2 < b4) ∧ (b2 < b5) ∧ (b4 < b5) ∧ ((wB.heap.size ≤ A.heap.size) ∧ i ≤ ks.length ∧ OwO A v qq 1 ((dropAt (lb ltS ks x) (isAt ltS ks x) ks i).map eS1) ∧ OwO A u pp 1 ((dropAt (lb ltS ks x) (isAt ltS ks x) ys i).map eI1) ∧ (∀ j, qq = some j → wB.heap.size ≤ j) ∧ (∀ j, pp = some j → wB.heap.size ≤ j) ∧ (∀ j, qq = some j → pp ≠ some j))) (fun ⟨i, v, u, qq, pp⟩ => ks.length - i) (0, .slice none 0 0, .slice none 0 0, none, none) ⟨rfl, rfl, rfl, rfl, rfl, trivial⟩ ⟨hX, hB2, hB4, hB5, hl2, hl4, hl5, hn2_4, hn2_5, hn4_5, ⟨hzB, Nat.zero_le _, by simpa [dropAt] using OwO.nil, by simpa [dropAt] using OwO.nil, by simp, by simp, by simp⟩⟩ ?_
  rintro τ0 ⟨i, v, u, qq, pp⟩ A0 ⟨hX, hB2, hB4, hB5, hl2, hl4, hl5, hn2_4, hn2_5, hn4_5, hI0⟩
  obtain ⟨hzB, hik, hO, hU, ho, hp, hdj⟩ := hI0
  obtain ⟨av, cv, hvv⟩ := id hO.len; subst hvv; obtain ⟨au, cu, hvu⟩ := id hU.len; subst hvu
  refine W_seq ?_
  refine W_seq ?_
  refine W_region ?_
  refine wl_val (rn_move (by conv => lhs; whnf)) ?_
  refine wl_val (rn_fieldAddr f_57_0 (by decide) rfl) ?_
  refine wl_val (rn_load1 p_52 rfl hB2 rfl) ?_
  refine wl_val (rn_len sl_52 rfl) ?_
  refine wl_val (rn_lss rfl rfl) ?_
  refine wl_nil ?_
  refine W_cond rfl (fun hc0 => ?_) (fun hc0 => ?_)
  · have hlt := of_decide_eq_true hc0; simp only [Int.ofNat_lt] at hlt
    obtain ⟨y, hi⟩ : ∃ y, (ks)[i]? = some y := ⟨_, List.getElem?_eq_getElem hlt⟩
    obtain ⟨z, hj⟩ : ∃ z, ys[i]? = some z := ⟨_, List.getElem?_eq_getElem (by omega)⟩
    obtain ⟨bb, oo, ea⟩ := hk.base (by intro e; have := congrArg List.length e; simp only [List.length_map, List.length_nil] at this; omega); subst ea
    obtain ⟨bb2, oo2, ea2⟩ := hv.base (by intro e; have := congrArg List.length e; simp only [List.length_map, List.length_nil] at this; omega); subst ea2
    have hka := (key_at lo_str hord hi (x := x)).2
    have hdl1 := dropAt_len (n := lb ltS ks x) (a := (isAt ltS ks x)) (vs := ks) (i := i) (by omega)
    have hdl2 := dropAt_len (n := lb ltS ks x) (a := (isAt ltS ks x)) (vs := ys) (i := i) (by omega)
    refine W_skip ?_
    refine W_seq ?_
    refine W_block ?_   -- block 1
    refine W_seq ?_
    refine W_region ?_
    refine wl_val (rn_fieldAddr f_57_0 (by decide) rfl) ?_
    refine wl_val (rn_load1 p_52 rfl hB2 rfl) ?_
    refine wl_val (rn_move (by conv => lhs; whnf)) ?_
    refine wl_val (rn_indexAddr sl_52 rfl rfl (by omega)) ?_
    refine wl_val (rn_load p_9 rfl ((hk.ext hX (fun _ h => h)).at0 (eS_at hi) rfl)) ?_
    refine wl_val (rn_move (by conv => lhs; whnf)) ?_
    refine wl_val (rn_sneq rfl rfl) ?_
    refine wl_nil ?_
    refine W_cond rfl (fun hc1 => ?_) (fun hc1 => ?_)
    · have hne : ¬ (isAt ltS ks x = true ∧ i = lb ltS ks x) := fun h => (by simpa using of_decide_eq_true hc1 : ¬ y = x) (hka.2 h)
      have e1 := dropAt_ne (n := lb ltS ks x) (a := (isAt ltS ks x)) hne hi
      have e2 := dropAt_ne (n := lb ltS ks x) (a := (isAt ltS ks x)) hne hj
      refine W_seq ?_
      refine W_drawX (fun j => j == 8 || j == 9 || j == 10) mixed ?_; intro w5 hE5
      replace hX := hX.tr hE5
      replace hB2 := hB2.ext hE5 id; replace hB4 := hB4.ext hE5 id; replace hB5 := hB5.ext hE5 id
      replace hO := hO.ext hE5 (fun _ _ h => h)
      replace hU := hU.ext hE5 (fun _ _ h => h)
      replace hzB := Nat.le_trans hzB hE5.size
      have hS := Ext.refl Non w5
      refine wx_take 0 [1, 8, 9, 10] _ _ rfl (by kernel_rfl) hS (yd_do fun A hA => rn_fieldAddr f_57_0 (by decide) rfl) ?_
      refine wx_take 1 [8, 9, 10] _ _ rfl (by kernel_rfl) hS (yd_do fun A hA => rn_load1 p_52 rfl (hB5.ext hA id) rfl) ?_
      refine wx_take 2 [3, 5, 6, 7, 8, 9, 10] _ _ rfl (by kernel_rfl) hS (yd_do fun A hA => rn_fieldAddr f_57_0 (by decide) rfl) ?_
      refine wx_take 3 [5, 6, 7, 8, 9, 10] _ _ rfl (by kernel_rfl) hS (yd_do fun A hA => rn_load1 p_52 rfl (hB2.ext hA id) rfl) ?_
      refine wx_take 4 [5, 6, 7, 8, 9, 10] _ _ rfl (by kernel_rfl) hS (yd_do fun A hA => rn_move (by conv => lhs; whnf)) ?_
      refine wx_take 5 [6, 7, 8, 9, 10] _ _ rfl (by kernel_rfl) hS (yd_do fun A hA => rn_indexAddr sl_52 rfl rfl (by omega)) ?_
      refine wx_take 6 [7, 8, 9, 10] _ _ rfl (by kernel_rfl) hS (yd_do fun A hA => rn_load p_9 rfl (((hk.ext hX (fun _ h => h)).ext hA (fun _ h => h.elim)).at0 (eS_at hi) rfl)) ?_
      refine wx_only 7 _ rfl (by kernel_rfl) ?_
      refine s1_do ?_
      refine wl_lit1 (r := eS1 y) sl_52 rfl rfl rfl rfl (by decide) ?_; intro v29 w6 b29 hb29 hE6 hO29
      replace hS := hS.tr hE6
      refine wl_nil ⟨fun _ => hS, ?_⟩
      replace hX := hX.tr hS
      replace hB2 := hB2.ext hS id; replace hB4 := hB4.ext hS id; replace hB5 := hB5.ext hS id
      replace hO := hO.ext hS (fun _ _ h => h)
      replace hU := hU.ext hS (fun _ _ h => h)
      replace hzB := Nat.le_trans hzB hS.size
      refine wx_only 8 _ rfl (by kernel_rfl) ?_
      refine s1_do ?_
      have hUo := hU
      refine wl_app sl_52 rfl rfl rfl hO (hO29.sl (M := Non) id) (fun r hr => by simp only [List.mem_singleton] at hr; subst hr; exact one1 rfl) (by simp only [List.length_map, List.length_append, List.length_cons, List.length_nil]; omega) (by simp only [List.length_map, List.length_append, List.length_cons, List.length_nil, big]; omega) ?_; intro v30 w7 o30 hE7 hO30 hf30
      obtain ⟨a30, c30, hv30⟩ := id hO30.len; subst hv30
      have ho30 : ∀ i, o30 = some i → wB.heap.size ≤ i := fun j hj => by rcases hf30 j hj with h | h; exact ho j h; omega
      have hdj30 : ∀ j, o30 = some j → pp ≠ some j := fun j hj e => by rcases hf30 j hj with h | h; exact hdj j h e; have := hUo.lt e; omega
      replace hX := hX.mineO hE7 (fun i hi => .inr (Nat.le_trans hBw (ho i hi)))
      replace hzB := Nat.le_trans hzB hE7.size
      replace hU := hU.ext hE7 (fun i hi e => hdj i e hi)
      replace hB2 := hB2.ext hE7 (fun e => by have := ho _ e; omega)
      replace hB4 := hB4.ext hE7 (fun e => by have := ho _ e; omega)
      replace hB5 := hB5.ext hE7 (fun e => by have := ho _ e; omega)
      refine wl_nil ⟨fun h => absurd h (by decide), ?_⟩
      refine wx_only 9 _ rfl (by kernel_rfl) ?_
      refine s1_do ?_
      refine wl_val (rn_fieldAddr f_57_0 (by decide) rfl) ?_
      refine wl_nil ⟨fun h => absurd h (by decide), ?_⟩
      refine wx_only 10 _ rfl (by kernel_rfl) ?_
      refine s1_do ?_
      have hBo := hB5
      refine wl_store1 (b := b5) p_52 rfl (by conv => lhs; whnf) rfl rfl hB5 (Nat.le_of_ble_eq_true rfl) ?_; intro w8 hE8 hB5 hz8
      replace hX := hX.mine hE8 hl5
      replace hB2 := hB2.ext hE8 (fun h => by omega); replace hB4 := hB4.ext hE8 (fun h => by omega)
      replace hU := hU.ext hE8 (fun i hi e => by have := hp _ hi; omega)
      replace hzB := Nat.le_trans hzB hE8.size
      replace hO30 := hO30.ext hE8 (fun i hi e => by have := ho30 _ hi; omega)
      refine wl_nil ⟨fun h => absurd h (by decide), ?_⟩
      refine wx_done (by kernel_rfl) ?_ _
      refine W_drawX (fun j => j == 8 || j == 9 || j == 10) mixed ?_; intro w9 hE9
      replace hX := hX.tr hE9
      replace hB2 := hB2.ext hE9 id; replace hB4 := hB4.ext hE9 id; replace hB5 := hB5.ext hE9 id
      replace hU := hU.ext hE9 (fun _ _ h => h)
      replace hzB := Nat.le_trans hzB hE9.size
      replace hO30 := hO30.ext hE9 (fun _ _ h => h)
      have hS := Ext.refl Non w9
      refine wx_take 0 [1, 8, 9, 10] _ _ rfl (by kernel_rfl) hS (yd_do fun A hA => rn_fieldAddr f_57_1 (by decide) rfl) ?_
      refine wx_take 1 [8, 9, 10] _ _ rfl (by kernel_rfl) hS (yd_do fun A hA => rn_load1 p_36 rfl (hB5.ext hA id) rfl) ?_
      refine wx_take 2 [3, 5, 6, 7, 8, 9, 10] _ _ rfl (by kernel_rfl) hS (yd_do fun A hA => rn_fieldAddr f_57_1 (by decide) rfl) ?_
      refine wx_take 3 [5, 6, 7, 8, 9, 10] _ _ rfl (by kernel_rfl) hS (yd_do fun A hA => rn_load1 p_36 rfl (hB2.ext hA id) rfl) ?_
      refine wx_take 4 [5, 6, 7, 8, 9, 10] _ _ rfl (by kernel_rfl) hS (yd_do fun A hA => rn_move (by conv => lhs; whnf)) ?_
      refine wx_take 5 [6, 7, 8, 9, 10] _ _ rfl (by kernel_rfl) hS (yd_do fun A hA => rn_indexAddr sl_36 rfl rfl (by omega)) ?_
      refine wx_take 6 [7, 8, 9, 10] _ _ rfl (by kernel_rfl) hS (yd_do fun A hA => rn_load p_3 rfl (((hv.ext hX (fun _ h => h)).ext hA (fun _ h => h.elim)).at0 (eI_at hj) rfl)) ?_
      refine wx_only 7 _ rfl (by kernel_rfl) ?_
      refine s1_do ?_
      refine wl_lit1 (r := eI1 z) sl_36 rfl rfl rfl rfl (by decide) ?_; intro v39 w10 b39 hb39 hE10 hO39
      replace hS := hS.tr hE10
      refine wl_nil ⟨fun _ => hS, ?_⟩
      replace hX := hX.tr hS
      replace hB2 := hB2.ext hS id; replace hB4 := hB4.ext hS id; replace hB5 := hB5.ext hS id
      replace hU := hU.ext hS (fun _ _ h => h)
      replace hzB := Nat.le_trans hzB hS.size
      replace hO30 := hO30.ext hS (fun _ _ h => h)
      refine wx_only 8 _ rfl (by kernel_rfl) ?_
      refine s1_do ?_
      have hUo := hO30
      refine wl_app sl_36 rfl rfl rfl hU (hO39.sl (M := Non) id) (fun r hr => by simp only [List.mem_singleton] at hr; subst hr; exact one1 rfl) (by simp only [List.length_map, List.length_append, List.length_cons, List.length_nil]; omega) (by simp only [List.length_map, List.length_append, List.length_cons, List.length_nil, big]; omega) ?_; intro v40 w11 o40 hE11 hO40 hf40
      obtain ⟨a40, c40, hv40⟩ := id hO40.len; subst hv40
      have ho40 : ∀ i, o40 = some i → wB.heap.size ≤ i := fun j hj => by rcases hf40 j hj with h | h; exact hp j h; omega
      have hdj40 : ∀ j, o30 = some j → o40 ≠ some j := fun j hj e => by rcases hf40 j e with h | h; exact hdj30 j hj h; have := hUo.lt hj; omega
      replace hX := hX.mineO hE11 (fun i hi => .inr (Nat.le_trans hBw (hp i hi)))
      replace hzB := Nat.le_trans hzB hE11.size
      replace hO30 := hO30.ext hE11 (fun i hi e => hdj30 i hi e)
      replace hB2 := hB2.ext hE11 (fun e => by have := hp _ e; omega)
      replace hB4 := hB4.ext hE11 (fun e => by have := hp _ e; omega)
      replace hB5 := hB5.ext hE11 (fun e => by have := hp _ e; omega)
      refine wl_nil ⟨fun h => absurd h (by decide), ?_⟩
      refine wx_only 9 _ rfl (by kernel_rfl) ?_
      refine s1_do ?_
      refine wl_val (rn_fieldAddr f_57_1 (by decide) rfl) ?_
      refine wl_nil ⟨fun h => absurd h (by decide), ?_⟩
      refine wx_only 10 _ rfl (by kernel_rfl) ?_
      refine s1_do ?_
      have hBo := hB5
      refine wl_store1 (b := b5) p_36 rfl (by conv => lhs; whnf) rfl rfl hB5 (Nat.le_of_ble_eq_true rfl) ?_; intro w12 hE12 hB5 hz12
      replace hX := hX.mine hE12 hl5
      replace hB2 := hB2.ext hE12 (fun h => by omega); replace hB4 := hB4.ext hE12 (fun h => by omega)
      replace hzB := Nat.le_trans hzB hE12.size
      replace hO30 := hO30.ext hE12 (fun i hi e => by have := ho30 _ hi; omega)
      replace hO40 := hO40.ext hE12 (fun i hi e => by have := ho40 _ hi; omega)
      refine wl_nil ⟨fun h => absurd h (by decide), ?_⟩
      refine wx_done (by kernel_rfl) ?_ _
      refine W_region ?_
      refine wl_val (rn_move (by conv => lhs; whnf)) ?_
      refine wl_val (rn_add rfl rfl (by omega)) ?_
      refine wl_val (rn_assign (by conv => lhs; whnf)) ?_
      refine wl_nil ?_
      exact ⟨rfl, (i + 1, _, _, o30, o40), ⟨rfl, rfl, rfl, rfl, rfl, trivial⟩, ⟨hX, hB2, hB4, hB5, hl2, hl4, hl5, hn2_4, hn2_5, hn4_5, ⟨hzB, hlt, by rw [e1, List.map_append]; exact hO30, by rw [e2, List.map_append]; exact hO40, ho30, ho40, hdj40⟩⟩, by show ks.length - (i + 1) < ks.length - i; omega⟩
    · have hyx : y = x := by simpa using of_decide_eq_false hc1
      obtain ⟨ha, hib⟩ := hka.1 hyx
      have e1 : (dropAt (lb ltS ks x) (isAt ltS ks x) ks (i + 1)) = (dropAt (lb ltS ks x) (isAt ltS ks x) ks i) := by rw [ha]; subst hib; exact dropAt_eq hi
      have e2 : (dropAt (lb ltS ks x) (isAt ltS ks x) ys (i + 1)) = (dropAt (lb ltS ks x) (isAt ltS ks x) ys i) := by rw [ha]; subst hib; exact dropAt_eq hj
      refine W_skip ?_
      refine W_region ?_
      refine wl_val (rn_move (by conv => lhs; whnf)) ?_
      refine wl_val (rn_add rfl rfl (by omega)) ?_
      refine wl_val (rn_assign (by conv => lhs; whnf)) ?_
      refine wl_nil ?_
      exact ⟨rfl, (i + 1, _, _, qq, pp), ⟨rfl, rfl, rfl, rfl, rfl, trivial⟩, ⟨hX, hB2, hB4, hB5, hl2, hl4, hl5, hn2_4, hn2_5, hn4_5, ⟨hzB, hlt, by rw [e1]; exact hO, by rw [e2]; exact hU, ho, hp, hdj⟩⟩, by show ks.length - (i + 1) < ks.length - i; omega⟩
  · have hge := of_decide_eq_false hc0; simp only [Int.ofNat_lt, Nat.not_lt] at hge
    have hie : i = ks.length := by omega
    subst hie
    have eK : (dropAt (lb ltS ks x) (isAt ltS ks x) ks ks.length) = dropK ltS ks x := by rw [dropAt_end rfl, dropV_self]
    have eV : (dropAt (lb ltS ks x) (isAt ltS ks x) ys ks.length) = dropV ltS ks x ys := dropAt_end hle
    refine W_exit ?_   -- exit 0
    refine W_seq ?_
    refine W_region ?_
    refine wl_val (rn_loadB s_57 rfl rfl hB5) ?_
    have hBo := hB4
    refine wl_storeB s_57 rfl rfl rfl (two1 rfl rfl) hB4 rfl ?_; intro w13 hE13 hB4 hz13
    replace hX := hX.mine hE13 hl4
    replace hB2 := hB2.ext hE13 (fun h => by omega); replace hB5 := hB5.ext hE13 (fun h => by omega)
    replace hO := hO.ext hE13 (fun i hi e => by have := ho _ hi; omega)
    replace hU := hU.ext hE13 (fun i hi e => by have := hp _ hi; omega)
    replace hzB := Nat.le_trans hzB hE13.size
    refine wl_nil ?_
    refine W_ret ?_
    exact ⟨_, resR1 (res1_box s_57 rfl hB4 rfl), hX, ⟨_, _, rfl, by rw [← eK]; exact hO.sl (fun i hi h => by have h1 := ho _ hi; have h2 : i < w.heap.size := h; omega), by rw [← eV]; exact hU.sl (fun i hi h => by have h1 := hp _ hi; have h2 : i < w.heap.size := h; omega)⟩⟩
-- (bellman/bellmanref03.Map).Put
set_option maxHeartbeats 4000000 in
theorem rput_ok (w : World) (ks : List Str) (ys : List Int) {v1 v2 : Value} (x : Str) (z : Int) (hk : Sl Non w v1 1 (ks.map eS1)) (hv : Sl Non w v2 1 (ys.map eI1)) (hle : ys.length = ks.length) (hord : Sorted ltS ks) (hn : ks.length ≤ 1000000) (hkl : ∀ y ∈ ks, y.length ≤ 1000000) (hxl : x.length ≤ 1000000) : Fn Try.prog 32 #[.agg #[v1, v2], Sv x, .int .i64 z] w fun u w' => ∃ u1 u2, u = .agg #[u1, u2] ∧ Sl (Old w) w' u1 1 ((putK ltS ks x).map eS1) ∧ Sl (Old w) w' u2 1 ((putW ltS ks x ys z).map eI1) := by
  obtain ⟨a, c, rfl, _⟩ := hk.len; obtain ⟨a2, c2, rfl, _⟩ := hv.len
  simp only [List.length_map] at hk hv ⊢
  have hlb := lb_le (lt := ltS) ks x
  have hX := Ext.refl Non w
  refine fn_of_W (args := [_, _, _]) Try.func32 rfl (by kernel_rfl) rfl ?_
  refine W_seq ?_
  refine W_region ?_
  refine wl_boxS rfl ?_; intro b3 w1 hb3 hE1 hB3
  have hq3 : w.heap.size ≤ b3 := Nat.le_trans hX.size hb3
  have hl3 : Mine Non w b3 := .inr hq3
  replace hX := hX.tr hE1
  refine wl_alloc z_57 ?_; intro b6 w2 hb6 hE2 hB6
  have hn3_6 : b3 < b6 := Nat.lt_of_lt_of_le hB3.lt hb6
  have hq6 : w.heap.size ≤ b6 := Nat.le_trans hX.size hb6
  have hl6 : Mine Non w b6 := .inr hq6
  replace hX := hX.tr hE2
  replace hB3 := hB3.ext hE2 id
  refine wl_nil ?_
  refine W_seq ?_
  refine W_region ?_
  refine wl_val (rn_build' b_57 rfl rfl (cs := [.slice none 0 0, .slice none 0 0]) rfl) ?_
  refine wl_alloc z_57 ?_; intro b7 w3 hb7 hE3 hB7
  have hn3_7 : b3 < b7 := Nat.lt_of_lt_of_le hB3.lt hb7
  have hn6_7 : b6 < b7 := Nat.lt_of_lt_of_le hB6.lt hb7
  have hq7 : w.heap.size ≤ b7 := Nat.le_trans hX.size hb7
  have hl7 : Mine Non w b7 := .inr hq7
  replace hX := hX.tr hE3
  replace hB3 := hB3.ext hE3 id; replace hB6 := hB6.ext hE3 id
  refine wl_storeB s_57 rfl rfl rfl (by first | exact two1 rfl rfl | rfl) hB7 rfl ?_; intro w4 hE4 hB7 hz4
  replace hX := hX.mine hE4 hl7
  replace hB3 := hB3.ext hE4 (fun h => by omega); replace hB6 := hB6.ext hE4 (fun h => by omega)
  refine wl_nil ?_
  refine W_seq ?_
  refine W_region ?_
  refine wl_val (rn_assign (by conv => lhs; whnf)) ?_
  refine wl_nil ?_
  refine W_seq ?_
  refine W_seq ?_
  refine W_region ?_
  obtain ⟨wB, hwB⟩ : ∃ x, x = w4 := ⟨_, rfl⟩; have hBw : w.heap.size ≤ wB.heap.size := by rw [hwB]; exact hX.size
  have hzB : wB.heap.size ≤ w4.heap.size := by rw [hwB]; exact Nat.le_refl _
  have hlB3 : b3 < wB.heap.size := by rw [hwB]; exact hB3.lt
  have hlB6 : b6 < wB.heap.size := by rw [hwB]; exact hB6.lt
  have hlB7 : b7 < wB.heap.size := by rw [hwB]; exact hB7.lt
  refine wl_val (rn_assign (by conv => lhs; whnf)) ?_
  refine wl_nil ?_
  refine W_block ?_   -- block 0
  refine W_loopS (S := Nat × Value × Value × Option Nat × Option Nat) [1, 2, 3, 6, 7, 8, 9] (fun ⟨i, v, u, qq, pp⟩ => [Sv x, .int .i64 z, .pointer (some ⟨b3, 0, none⟩), .pointer (some ⟨b6, 0, none⟩), .pointer (some ⟨b7, 0, none⟩), .bool (decide (lb ltS ks x < i)), .int .i64 (i : Nat)]) (fun ⟨i, v, u, qq, pp⟩ A => (Ext Non w A) ∧ (IsBox A b3 [.slice a ks.length c, .slice a2 ys.length c2]) ∧ (IsBox A b6 [.slice none 0 0, .slice none 0 0]) ∧ (IsBox A b7 [v, u]) ∧ (Mine Non w b3) ∧ (Mine Non w b6) ∧ (Mine Non w b7) ∧ (b3 < b6) ∧ (b3 < b7) ∧ (b6 < b7) ∧ ((wB.heap.size ≤ A.heap.size) ∧ i ≤ ks.length ∧ OwO A v qq 1 ((putAt (lb ltS ks x) (isAt ltS ks x) ks x i).map eS1) ∧ OwO A u pp 1 ((putAt (lb ltS ks x) (isAt ltS ks x) ys z i).map eI1) ∧ (∀ j, qq = some j → wB.heap.size ≤ j) ∧ (∀ j, pp = some j → wB.heap.size ≤ j) ∧ (∀ j, qq = some j → pp ≠ some j))) (fun ⟨i, v, u, qq, pp⟩ => ks.length - i) (0, .slice none 0 0, .slice none 0 0, none, none) ⟨rfl, rfl, rfl, rfl, rfl, (congrArg Value.bool (show false = decide (lb ltS ks x < 0) by simp)), rfl, trivial⟩ ⟨hX, hB3, hB6, hB7, hl3, hl6, hl7, hn3_6, hn3_7, hn6_7, ⟨hzB, Nat.zero_le _, by simpa [putAt] using OwO.nil, by simpa [putAt] using OwO.nil, by simp, by simp, by simp⟩⟩ ?_
  rintro τ0 ⟨i, v, u, qq, pp⟩ A0 ⟨hX, hB3, hB6, hB7, hl3, hl6, hl7, hn3_6, hn3_7, hn6_7, hI0⟩
  obtain ⟨hzB, hik, hO, hU, ho, hp, hdj⟩ := hI0
  obtain ⟨av, cv, hvv⟩ := id hO.len; subst hvv; obtain ⟨au, cu, hvu⟩ := id hU.len; subst hvu
  have hpl1 := putAt_len (n := lb ltS ks x) (a := (isAt ltS ks x)) (vs := ks) (r := x) (i := i) (by omega)
  have hpl2 := putAt_len (n := lb ltS ks x) (a := (isAt ltS ks x)) (vs := ys) (r := z) (i := i) (by omega)
  refine W_seq ?_
  refine W_seq ?_
  refine W_region ?_
  refine wl_val (rn_move (by conv => lhs; whnf)) ?_
  refine wl_val (rn_fieldAddr f_57_0 (by decide) rfl) ?_
  refine wl_val (rn_load1 p_52 rfl hB3 rfl) ?_
  refine wl_val (rn_len sl_52 rfl) ?_
  refine wl_val (rn_lss rfl rfl) ?_
  refine wl_nil ?_
  refine W_cond rfl (fun hc0 => ?_) (fun hc0 => ?_)
  · have hlt := of_decide_eq_true hc0; simp only [Int.ofNat_lt] at hlt
    obtain ⟨y, hi⟩ : ∃ y, (ks)[i]? = some y := ⟨_, List.getElem?_eq_getElem hlt⟩
    obtain ⟨q, hj⟩ : ∃ q, ys[i]? = some q := ⟨_, List.getElem?_eq_getElem (by omega)⟩
    obtain ⟨bb, oo, ea⟩ := hk.base (by intro e; have := congrArg List.length e; simp only [List.length_map, List.length_nil] at this; omega); subst ea
    obtain ⟨bb2, oo2, ea2⟩ := hv.base (by intro e; have := congrArg List.length e; simp only [List.length_map, List.length_nil] at this; omega); subst ea2
    have hka := key_at lo_str hord hi (x := x)
    have hyl : y.length ≤ 1000000 := hkl y (List.mem_of_getElem? hi)
    refine W_skip ?_
    refine W_seq ?_
    refine W_block ?_   -- block 1
    refine W_seq ?_
    refine W_seq ?_
    refine W_region ?_
    refine wl_val (rn_move (by conv => lhs; whnf)) ?_
    refine wl_val (rn_not rfl) ?_
    refine wl_val (rn_move (by conv => lhs; whnf)) ?_
    refine wl_split (d := 20) rfl (fun hg20 => ?_) (fun hg20 => ?_)
    · have hnd : ¬ lb ltS ks x < i := by simpa using hg20
      refine wl_yes rfl (congrArg Value.bool hg20) ?_
      refine wl_val (rn_fieldAddr f_57_0 (by decide) rfl) ?_
      refine wl_yes rfl (congrArg Value.bool hg20) ?_
      refine wl_val (rn_load1 p_52 rfl hB3 rfl) ?_
      refine wl_yes rfl (congrArg Value.bool hg20) ?_
      refine wl_val (rn_move (by conv => lhs; whnf)) ?_
      refine wl_yes rfl (congrArg Value.bool hg20) ?_
      refine wl_val (rn_indexAddr sl_52 rfl rfl (by omega)) ?_
      refine wl_yes rfl (congrArg Value.bool hg20) ?_
      refine wl_val (rn_load p_9 rfl ((hk.ext hX (fun _ h => h)).at0 (eS_at hi) rfl)) ?_
      refine wl_yes rfl (congrArg Value.bool hg20) ?_
      refine wl_val (rn_move (by conv => lhs; whnf)) ?_
      refine wl_yes rfl (congrArg Value.bool hg20) ?_
      refine wl_call e_77 rfl (rless_ok A0 y x hyl hxl) ?_; intro v27 w5 hE5 hR5
      replace hX := hX.tr hE5
      replace hB3 := hB3.ext hE5 id; replace hB6 := hB6.ext hE5 id; replace hB7 := hB7.ext hE5 id
      replace hO := hO.ext hE5 (fun _ _ h => h)
      replace hU := hU.ext hE5 (fun _ _ h => h)
      replace hzB := Nat.le_trans hzB hE5.size
      subst hR5
      refine wl_yes rfl (congrArg Value.bool hg20) ?_
      refine wl_val (rn_not rfl) ?_
      refine wl_val (rn_pickT (congrArg Value.bool hg20) (by conv => lhs; whnf)) ?_
      refine wl_nil ?_
      refine W_cond rfl (fun hc1 => ?_) (fun hc1 => ?_)
      · have hib : i = lb ltS ks x := by have h1 : ltS y x = false := (by simpa using hc1); have h2 : ¬ i < lb ltS ks x := (fun h => by rw [hka.1.2 h] at h1; cases h1); omega
        refine W_seq ?_
        refine W_region ?_
        refine wl_val (rn_fieldAddr f_57_0 (by decide) rfl) ?_
        refine wl_val (rn_load1 p_52 rfl hB7 rfl) ?_
        refine wl_val (rn_move (by conv => lhs; whnf)) ?_
        refine wl_lit1 (r := eS1 x) sl_52 rfl rfl rfl rfl (by decide) ?_; intro v33 w6 b33 hb33 hE6 hO33
        replace hX := hX.tr hE6
        replace hB3 := hB3.ext hE6 id; replace hB6 := hB6.ext hE6 id; replace hB7 := hB7.ext hE6 id
        replace hO := hO.ext hE6 (fun _ _ h => h)
        replace hU := hU.ext hE6 (fun _ _ h => h)
        replace hzB := Nat.le_trans hzB hE6.size
        have hUo := hU
        refine wl_app sl_52 rfl rfl rfl hO (hO33.sl (M := Non) id) (fun r hr => by simp only [List.mem_singleton] at hr; subst hr; exact one1 rfl) (by simp only [List.length_map, List.length_append, List.length_cons, List.length_nil]; omega) (by simp only [List.length_map, List.length_append, List.length_cons, List.length_nil, big]; omega) ?_; intro v34 w7 o34 hE7 hO34 hf34
        obtain ⟨a34, c34, hv34⟩ := id hO34.len; subst hv34
        have ho34 : ∀ i, o34 = some i → wB.heap.size ≤ i := fun j hj => by rcases hf34 j hj with h | h; exact ho j h; omega
        have hdj34 : ∀ j, o34 = some j → pp ≠ some j := fun j hj e => by rcases hf34 j hj with h | h; exact hdj j h e; have := hUo.lt e; omega
        replace hX := hX.mineO hE7 (fun i hi => .inr (Nat.le_trans hBw (ho i hi)))
        replace hzB := Nat.le_trans hzB hE7.size
        replace hU := hU.ext hE7 (fun i hi e => hdj i e hi)
        replace hB3 := hB3.ext hE7 (fun e => by have := ho _ e; omega)
        replace hB6 := hB6.ext hE7 (fun e => by have := ho _ e; omega)
        replace hB7 := hB7.ext hE7 (fun e => by have := ho _ e; omega)
        refine wl_val (rn_fieldAddr f_57_0 (by decide) rfl) ?_
        have hBo := hB7
        refine wl_store1 (b := b7) p_52 rfl (by conv => lhs; whnf) rfl rfl hB7 (Nat.le_of_ble_eq_true rfl) ?_; intro w8 hE8 hB7 hz8
        replace hX := hX.mine hE8 hl7
        replace hB3 := hB3.ext hE8 (fun h => by omega); replace hB6 := hB6.ext hE8 (fun h => by omega)
        replace hU := hU.ext hE8 (fun i hi e => by have := hp _ hi; omega)
        replace hzB := Nat.le_trans hzB hE8.size
        replace hO34 := hO34.ext hE8 (fun i hi e => by have := ho34 _ hi; omega)
        refine wl_nil ?_
        refine W_seq ?_
        refine W_region ?_
        refine wl_val (rn_fieldAddr f_57_1 (by decide) rfl) ?_
        refine wl_val (rn_load1 p_36 rfl hB7 rfl) ?_
        refine wl_val (rn_move (by conv => lhs; whnf)) ?_
        refine wl_lit1 (r := eI1 z) sl_36 rfl rfl rfl rfl (by decide) ?_; intro v39 w9 b39 hb39 hE9 hO39
        replace hX := hX.tr hE9
        replace hB3 := hB3.ext hE9 id; replace hB6 := hB6.ext hE9 id; replace hB7 := hB7.ext hE9 id
        replace hU := hU.ext hE9 (fun _ _ h => h)
        replace hzB := Nat.le_trans hzB hE9.size
        replace hO34 := hO34.ext hE9 (fun _ _ h => h)
        have hUo := hO34
        refine wl_app sl_36 rfl rfl rfl hU (hO39.sl (M := Non) id) (fun r hr => by simp only [List.mem_singleton] at hr; subst hr; exact one1 rfl) (by simp only [List.length_map, List.length_append, List.length_cons, List.length_nil]; omega) (by simp only [List.length_map, List.length_append, List.length_cons, List.length_nil, big]; omega) ?_; intro v40 w10 o40 hE10 hO40 hf40
        obtain ⟨a40, c40, hv40⟩ := id hO40.len; subst hv40
        have ho40 : ∀ i, o40 = some i → wB.heap.size ≤ i := fun j hj => by rcases hf40 j hj with h | h; exact hp j h; omega
        have hdj40 : ∀ j, o34 = some j → o40 ≠ some j := fun j hj e => by rcases hf40 j e with h | h; exact hdj34 j hj h; have := hUo.lt hj; omega
        replace hX := hX.mineO hE10 (fun i hi => .inr (Nat.le_trans hBw (hp i hi)))
        replace hzB := Nat.le_trans hzB hE10.size
        replace hO34 := hO34.ext hE10 (fun i hi e => hdj34 i hi e)
        replace hB3 := hB3.ext hE10 (fun e => by have := hp _ e; omega)
        replace hB6 := hB6.ext hE10 (fun e => by have := hp _ e; omega)
        replace hB7 := hB7.ext hE10 (fun e => by have := hp _ e; omega)
        refine wl_val (rn_fieldAddr f_57_1 (by decide) rfl) ?_
        have hBo := hB7
        refine wl_store1 (b := b7) p_36 rfl (by conv => lhs; whnf) rfl rfl hB7 (Nat.le_of_ble_eq_true rfl) ?_; intro w11 hE11 hB7 hz11
        replace hX := hX.mine hE11 hl7
        replace hB3 := hB3.ext hE11 (fun h => by omega); replace hB6 := hB6.ext hE11 (fun h => by omega)
        replace hzB := Nat.le_trans hzB hE11.size
        replace hO34 := hO34.ext hE11 (fun i hi e => by have := ho34 _ hi; omega)
        replace hO40 := hO40.ext hE11 (fun i hi e => by have := ho40 _ hi; omega)
        refine wl_nil ?_
        refine W_region ?_
        refine wl_val (rn_assign (by conv => lhs; whnf)) ?_
        refine wl_nil ?_
        refine W_seq ?_
        refine W_region ?_
        refine wl_val (rn_fieldAddr f_57_0 (by decide) rfl) ?_
        refine wl_val (rn_load1 p_52 rfl hB3 rfl) ?_
        refine wl_val (rn_move (by conv => lhs; whnf)) ?_
        refine wl_val (rn_indexAddr sl_52 rfl rfl (by omega)) ?_
        refine wl_val (rn_load p_9 rfl ((hk.ext hX (fun _ h => h)).at0 (eS_at hi) rfl)) ?_
        refine wl_val (rn_move (by conv => lhs; whnf)) ?_
        refine wl_val (rn_sneq rfl rfl) ?_
        refine wl_nil ?_
        refine W_cond rfl (fun hc2 => ?_) (fun hc2 => ?_)
        · have hyx : ¬ y = x := by simpa using of_decide_eq_true hc2
          refine W_seq ?_
          refine W_drawX (fun j => j == 8 || j == 9 || j == 10) mixed ?_; intro w12 hE12
          replace hX := hX.tr hE12
          replace hB3 := hB3.ext hE12 id; replace hB6 := hB6.ext hE12 id; replace hB7 := hB7.ext hE12 id
          replace hzB := Nat.le_trans hzB hE12.size
          replace hO34 := hO34.ext hE12 (fun _ _ h => h)
          replace hO40 := hO40.ext hE12 (fun _ _ h => h)
          have hS := Ext.refl Non w12
          refine wx_take 0 [1, 8, 9, 10] _ _ rfl (by kernel_rfl) hS (yd_do fun A hA => rn_fieldAddr f_57_0 (by decide) rfl) ?_
          refine wx_take 1 [8, 9, 10] _ _ rfl (by kernel_rfl) hS (yd_do fun A hA => rn_load1 p_52 rfl (hB7.ext hA id) rfl) ?_
          refine wx_take 2 [3, 5, 6, 7, 8, 9, 10] _ _ rfl (by kernel_rfl) hS (yd_do fun A hA => rn_fieldAddr f_57_0 (by decide) rfl) ?_
          refine wx_take 3 [5, 6, 7, 8, 9, 10] _ _ rfl (by kernel_rfl) hS (yd_do fun A hA => rn_load1 p_52 rfl (hB3.ext hA id) rfl) ?_
          refine wx_take 4 [5, 6, 7, 8, 9, 10] _ _ rfl (by kernel_rfl) hS (yd_do fun A hA => rn_move (by conv => lhs; whnf)) ?_
          refine wx_take 5 [6, 7, 8, 9, 10] _ _ rfl (by kernel_rfl) hS (yd_do fun A hA => rn_indexAddr sl_52 rfl rfl (by omega)) ?_
          refine wx_take 6 [7, 8, 9, 10] _ _ rfl (by kernel_rfl) hS (yd_do fun A hA => rn_load p_9 rfl (((hk.ext hX (fun _ h => h)).ext hA (fun _ h => h.elim)).at0 (eS_at hi) rfl)) ?_
          refine wx_only 7 _ rfl (by kernel_rfl) ?_
          refine s1_do ?_
          refine wl_lit1 (r := eS1 y) sl_52 rfl rfl rfl rfl (by decide) ?_; intro v56 w13 b56 hb56 hE13 hO56
          replace hS := hS.tr hE13
          refine wl_nil ⟨fun _ => hS, ?_⟩
          replace hX := hX.tr hS
          replace hB3 := hB3.ext hS id; replace hB6 := hB6.ext hS id; replace hB7 := hB7.ext hS id
          replace hzB := Nat.le_trans hzB hS.size
          replace hO34 := hO34.ext hS (fun _ _ h => h)
          replace hO40 := hO40.ext hS (fun _ _ h => h)
          refine wx_only 8 _ rfl (by kernel_rfl) ?_
          refine s1_do ?_
          have hUo := hO40
          refine wl_app sl_52 rfl rfl rfl hO34 (hO56.sl (M := Non) id) (fun r hr => by simp only [List.mem_singleton] at hr; subst hr; exact one1 rfl) (by simp only [List.length_map, List.length_append, List.length_cons, List.length_nil]; omega) (by simp only [List.length_map, List.length_append, List.length_cons, List.length_nil, big]; omega) ?_; intro v57 w14 o57 hE14 hO57 hf57
          obtain ⟨a57, c57, hv57⟩ := id hO57.len; subst hv57
          have ho57 : ∀ i, o57 = some i → wB.heap.size ≤ i := fun j hj => by rcases hf57 j hj with h | h; exact ho34 j h; omega
          have hdj57 : ∀ j, o57 = some j → o40 ≠ some j := fun j hj e => by rcases hf57 j hj with h | h; exact hdj40 j h e; have := hUo.lt e; omega
          replace hX := hX.mineO hE14 (fun i hi => .inr (Nat.le_trans hBw (ho34 i hi)))
          replace hzB := Nat.le_trans hzB hE14.size
          replace hO40 := hO40.ext hE14 (fun i hi e => hdj40 i e hi)
          replace hB3 := hB3.ext hE14 (fun e => by have := ho34 _ e; omega)
          replace hB6 := hB6.ext hE14 (fun e => by have := ho34 _ e; omega)
          replace hB7 := hB7.ext hE14 (fun e => by have := ho34 _ e; omega)
          refine wl_nil ⟨fun h => absurd h (by decide), ?_⟩
          refine wx_only 9 _ rfl (by kernel_rfl) ?_
          refine s1_do ?_
          refine wl_val (rn_fieldAddr f_57_0 (by decide) rfl) ?_
          refine wl_nil ⟨fun h => absurd h (by decide), ?_⟩
          refine wx_only 10 _ rfl (by kernel_rfl) ?_
          refine s1_do ?_
          have hBo := hB7
          refine wl_store1 (b := b7) p_52 rfl (by conv => lhs; whnf) rfl rfl hB7 (Nat.le_of_ble_eq_true rfl) ?_; intro w15 hE15 hB7 hz15
          replace hX := hX.mine hE15 hl7
          replace hB3 := hB3.ext hE15 (fun h => by omega); replace hB6 := hB6.ext hE15 (fun h => by omega)
          replace hzB := Nat.le_trans hzB hE15.size
          replace hO40 := hO40.ext hE15 (fun i hi e => by have := ho40 _ hi; omega)
          replace hO57 := hO57.ext hE15 (fun i hi e => by have := ho57 _ hi; omega)
          refine wl_nil ⟨fun h => absurd h (by decide), ?_⟩
          refine wx_done (by kernel_rfl) ?_ _
          refine W_drawX (fun j => j == 8 || j == 9 || j == 10) mixed ?_; intro w16 hE16
          replace hX := hX.tr hE16
          replace hB3 := hB3.ext hE16 id; replace hB6 := hB6.ext hE16 id; replace hB7 := hB7.ext hE16 id
          replace hzB := Nat.le_trans hzB hE16.size
          replace hO40 := hO40.ext hE16 (fun _ _ h => h)
          replace hO57 := hO57.ext hE16 (fun _ _ h => h)
          have hS := Ext.refl Non w16
          refine wx_take 0 [1, 8, 9, 10] _ _ rfl (by kernel_rfl) hS (yd_do fun A hA => rn_fieldAddr f_57_1 (by decide) rfl) ?_
          refine wx_take 1 [8, 9, 10] _ _ rfl (by kernel_rfl) hS (yd_do fun A hA => rn_load1 p_36 rfl (hB7.ext hA id) rfl) ?_
          refine wx_take 2 [3, 5, 6, 7, 8, 9, 10] _ _ rfl (by kernel_rfl) hS (yd_do fun A hA => rn_fieldAddr f_57_1 (by decide) rfl) ?_
          refine wx_take 3 [5, 6, 7, 8, 9, 10] _ _ rfl (by kernel_rfl) hS (yd_do fun A hA => rn_load1 p_36 rfl (hB3.ext hA id) rfl) ?_
          refine wx_take 4 [5, 6, 7, 8, 9, 10] _ _ rfl (by kernel_rfl) hS (yd_do fun A hA => rn_move (by conv => lhs; whnf)) ?_
          refine wx_take 5 [6, 7, 8, 9, 10] _ _ rfl (by kernel_rfl) hS (yd_do fun A hA => rn_indexAddr sl_36 rfl rfl (by omega)) ?_
          refine wx_take 6 [7, 8, 9, 10] _ _ rfl (by kernel_rfl) hS (yd_do fun A hA => rn_load p_3 rfl (((hv.ext hX (fun _ h => h)).ext hA (fun _ h => h.elim)).at0 (eI_at hj) rfl)) ?_
          refine wx_only 7 _ rfl (by kernel_rfl) ?_
          refine s1_do ?_
          refine wl_lit1 (r := eI1 q) sl_36 rfl rfl rfl rfl (by decide) ?_; intro v66 w17 b66 hb66 hE17 hO66
          replace hS := hS.tr hE17
          refine wl_nil ⟨fun _ => hS, ?_⟩
          replace hX := hX.tr hS
          replace hB3 := hB3.ext hS id; replace hB6 := hB6.ext hS id; replace hB7 := hB7.ext hS id
          replace hzB := Nat.le_trans hzB hS.size
          replace hO40 := hO40.ext hS (fun _ _ h => h)
          replace hO57 := hO57.ext hS (fun _ _ h => h)
          refine wx_only 8 _ rfl (by kernel_rfl) ?_
          refine s1_do ?_
          have hUo := hO57
          refine wl_app sl_36 rfl rfl rfl hO40 (hO66.sl (M := Non) id) (fun r hr => by simp only [List.mem_singleton] at hr; subst hr; exact one1 rfl) (by simp only [List.length_map, List.length_append, List.length_cons, List.length_nil]; omega) (by simp only [List.length_map, List.length_append, List.length_cons, List.length_nil, big]; omega) ?_; intro v67 w18 o67 hE18 hO67 hf67
          obtain ⟨a67, c67, hv67⟩ := id hO67.len; subst hv67
          have ho67 : ∀ i, o67 = some i → wB.heap.size ≤ i := fun j hj => by rcases hf67 j hj with h | h; exact ho40 j h; omega
          have hdj67 : ∀ j, o57 = some j → o67 ≠ some j := fun j hj e => by rcases hf67 j e with h | h; exact hdj57 j hj h; have := hUo.lt hj; omega
          replace hX := hX.mineO hE18 (fun i hi => .inr (Nat.le_trans hBw (ho40 i hi)))
          replace hzB := Nat.le_trans hzB hE18.size
          replace hO57 := hO57.ext hE18 (fun i hi e => hdj57 i hi e)
          replace hB3 := hB3.ext hE18 (fun e => by have := ho40 _ e; omega)
          replace hB6 := hB6.ext hE18 (fun e => by have := ho40 _ e; omega)
          replace hB7 := hB7.ext hE18 (fun e => by have := ho40 _ e; omega)
          refine wl_nil ⟨fun h => absurd h (by decide), ?_⟩
          refine wx_only 9 _ rfl (by kernel_rfl) ?_
          refine s1_do ?_
          refine wl_val (rn_fieldAddr f_57_1 (by decide) rfl) ?_
          refine wl_nil ⟨fun h => absurd h (by decide), ?_⟩
          refine wx_only 10 _ rfl (by kernel_rfl) ?_
          refine s1_do ?_
          have hBo := hB7
          refine wl_store1 (b := b7) p_36 rfl (by conv => lhs; whnf) rfl rfl hB7 (Nat.le_of_ble_eq_true rfl) ?_; intro w19 hE19 hB7 hz19
          replace hX := hX.mine hE19 hl7
          replace hB3 := hB3.ext hE19 (fun h => by omega); replace hB6 := hB6.ext hE19 (fun h => by omega)
          replace hzB := Nat.le_trans hzB hE19.size
          replace hO57 := hO57.ext hE19 (fun i hi e => by have := ho57 _ hi; omega)
          replace hO67 := hO67.ext hE19 (fun i hi e => by have := ho67 _ hi; omega)
          refine wl_nil ⟨fun h => absurd h (by decide), ?_⟩
          refine wx_done (by kernel_rfl) ?_ _
          refine W_region ?_
          refine wl_val (rn_move (by conv => lhs; whnf)) ?_
          refine wl_val (rn_add rfl rfl (by omega)) ?_
          refine wl_val (rn_assign (by conv => lhs; whnf)) ?_
          refine wl_nil ?_
          have ha : isAt ltS ks x = false := by cases h : isAt ltS ks x; rfl; exact absurd (hka.2.2 ⟨h, hib⟩) hyx
          have e1 : (putAt (lb ltS ks x) (isAt ltS ks x) ks x (i + 1)) = (putAt (lb ltS ks x) (isAt ltS ks x) ks x i) ++ [x] ++ [y] := by rw [ha]; subst hib; exact putAt_ne hi
          have e2 : (putAt (lb ltS ks x) (isAt ltS ks x) ys z (i + 1)) = (putAt (lb ltS ks x) (isAt ltS ks x) ys z i) ++ [z] ++ [q] := by rw [ha]; subst hib; exact putAt_ne hj
          exact ⟨rfl, (i + 1, _, _, o57, o67), ⟨rfl, rfl, rfl, rfl, rfl, (congrArg Value.bool (show true = decide (lb ltS ks x < i + 1) by rw [decide_eq_true (show  lb ltS ks x < i + 1 by omega)])), rfl, trivial⟩, ⟨hX, hB3, hB6, hB7, hl3, hl6, hl7, hn3_6, hn3_7, hn6_7, ⟨hzB, hlt, by rw [e1, List.map_append, List.map_append]; exact hO57, by rw [e2, List.map_append, List.map_append]; exact hO67, ho57, ho67, hdj67⟩⟩, by show ks.length - (i + 1) < ks.length - i; omega⟩
        · have hyx : y = x := by simpa using of_decide_eq_false hc2
          obtain ⟨ha, hib2⟩ := hka.2.1 hyx
          refine W_skip ?_
          refine W_region ?_
          refine wl_val (rn_move (by conv => lhs; whnf)) ?_
          refine wl_val (rn_add rfl rfl (by omega)) ?_
          refine wl_val (rn_assign (by conv => lhs; whnf)) ?_
          refine wl_nil ?_
          have e1 : (putAt (lb ltS ks x) (isAt ltS ks x) ks x (i + 1)) = (putAt (lb ltS ks x) (isAt ltS ks x) ks x i) ++ [x] := by rw [ha]; subst hib; exact putAt_eq hi
          have e2 : (putAt (lb ltS ks x) (isAt ltS ks x) ys z (i + 1)) = (putAt (lb ltS ks x) (isAt ltS ks x) ys z i) ++ [z] := by rw [ha]; subst hib; exact putAt_eq hj
          exact ⟨rfl, (i + 1, _, _, o34, o40), ⟨rfl, rfl, rfl, rfl, rfl, (congrArg Value.bool (show true = decide (lb ltS ks x < i + 1) by rw [decide_eq_true (show  lb ltS ks x < i + 1 by omega)])), rfl, trivial⟩, ⟨hX, hB3, hB6, hB7, hl3, hl6, hl7, hn3_6, hn3_7, hn6_7, ⟨hzB, hlt, by rw [e1, List.map_append]; exact hO34, by rw [e2, List.map_append]; exact hO40, ho34, ho40, hdj40⟩⟩, by show ks.length - (i + 1) < ks.length - i; omega⟩
      · have hlo : i < lb ltS ks x := by first | exact hka.1.1 (by simpa using hc1) | (exfalso; revert hc1; simp)
        refine W_skip ?_
        refine W_seq ?_
        refine W_region ?_
        refine wl_val (rn_fieldAddr f_57_0 (by decide) rfl) ?_
        refine wl_val (rn_load1 p_52 rfl hB3 rfl) ?_
        refine wl_val (rn_move (by conv => lhs; whnf)) ?_
        refine wl_val (rn_indexAddr sl_52 rfl rfl (by omega)) ?_
        refine wl_val (rn_load p_9 rfl ((hk.ext hX (fun _ h => h)).at0 (eS_at hi) rfl)) ?_
        refine wl_val (rn_move (by conv => lhs; whnf)) ?_
        refine wl_val (rn_sneq rfl rfl) ?_
        refine wl_nil ?_
        refine W_cond rfl (fun hc2 => ?_) (fun hc2 => ?_)
        · have hyx : ¬ y = x := by simpa using of_decide_eq_true hc2
          refine W_seq ?_
          refine W_drawX (fun j => j == 8 || j == 9 || j == 10) mixed ?_; intro w20 hE20
          replace hX := hX.tr hE20
          replace hB3 := hB3.ext hE20 id; replace hB6 := hB6.ext hE20 id; replace hB7 := hB7.ext hE20 id
          replace hO := hO.ext hE20 (fun _ _ h => h)
          replace hU := hU.ext hE20 (fun _ _ h => h)
          replace hzB := Nat.le_trans hzB hE20.size
          have hS := Ext.refl Non w20
          refine wx_take 0 [1, 8, 9, 10] _ _ rfl (by kernel_rfl) hS (yd_do fun A hA => rn_fieldAddr f_57_0 (by decide) rfl) ?_
          refine wx_take 1 [8, 9, 10] _ _ rfl (by kernel_rfl) hS (yd_do fun A hA => rn_load1 p_52 rfl (hB7.ext hA id) rfl) ?_
          refine wx_take 2 [3, 5, 6, 7, 8, 9, 10] _ _ rfl (by kernel_rfl) hS (yd_do fun A hA => rn_fieldAddr f_57_0 (by decide) rfl) ?_
          refine wx_take 3 [5, 6, 7, 8, 9, 10] _ _ rfl (by kernel_rfl) hS (yd_do fun A hA => rn_load1 p_52 rfl (hB3.ext hA id) rfl) ?_
          refine wx_take 4 [5, 6, 7, 8, 9, 10] _ _ rfl (by kernel_rfl) hS (yd_do fun A hA => rn_move (by conv => lhs; whnf)) ?_
          refine wx_take 5 [6, 7, 8, 9, 10] _ _ rfl (by kernel_rfl) hS (yd_do fun A hA => rn_indexAddr sl_52 rfl rfl (by omega)) ?_
          refine wx_take 6 [7, 8, 9, 10] _ _ rfl (by kernel_rfl) hS (yd_do fun A hA => rn_load p_9 rfl (((hk.ext hX (fun _ h => h)).ext hA (fun _ h => h.elim)).at0 (eS_at hi) rfl)) ?_
          refine wx_only 7 _ rfl (by kernel_rfl) ?_
          refine s1_do ?_
          refine wl_lit1 (r := eS1 y) sl_52 rfl rfl rfl rfl (by decide) ?_; intro v56 w21 b56 hb56 hE21 hO56
          replace hS := hS.tr hE21
          refine wl_nil ⟨fun _ => hS, ?_⟩
          replace hX := hX.tr hS
          replace hB3 := hB3.ext hS id; replace hB6 := hB6.ext hS id; replace hB7 := hB7.ext hS id
          replace hO := hO.ext hS (fun _ _ h => h)
          replace hU := hU.ext hS (fun _ _ h => h)
          replace hzB := Nat.le_trans hzB hS.size
          refine wx_only 8 _ rfl (by kernel_rfl) ?_
          refine s1_do ?_
          have hUo := hU
          refine wl_app sl_52 rfl rfl rfl hO (hO56.sl (M := Non) id) (fun r hr => by simp only [List.mem_singleton] at hr; subst hr; exact one1 rfl) (by simp only [List.length_map, List.length_append, List.length_cons, List.length_nil]; omega) (by simp only [List.length_map, List.length_append, List.length_cons, List.length_nil, big]; omega) ?_; intro v57 w22 o57 hE22 hO57 hf57
          obtain ⟨a57, c57, hv57⟩ := id hO57.len; subst hv57
          have ho57 : ∀ i, o57 = some i → wB.heap.size ≤ i := fun j hj => by rcases hf57 j hj with h | h; exact ho j h; omega
          have hdj57 : ∀ j, o57 = some j → pp ≠ some j := fun j hj e => by rcases hf57 j hj with h | h; exact hdj j h e; have := hUo.lt e; omega
          replace hX := hX.mineO hE22 (fun i hi => .inr (Nat.le_trans hBw (ho i hi)))
          replace hzB := Nat.le_trans hzB hE22.size
          replace hU := hU.ext hE22 (fun i hi e => hdj i e hi)
          replace hB3 := hB3.ext hE22 (fun e => by have := ho _ e; omega)
          replace hB6 := hB6.ext hE22 (fun e => by have := ho _ e; omega)
          replace hB7 := hB7.ext hE22 (fun e => by have := ho _ e; omega)
          refine wl_nil ⟨fun h => absurd h (by decide), ?_⟩
          refine wx_only 9 _ rfl (by kernel_rfl) ?_
          refine s1_do ?_
          refine wl_val (rn_fieldAddr f_57_0 (by decide) rfl) ?_
          refine wl_nil ⟨fun h => absurd h (by decide), ?_⟩
          refine wx_only 10 _ rfl (by kernel_rfl) ?_
          refine s1_do ?_
          have hBo := hB7
          refine wl_store1 (b := b7) p_52 rfl (by conv => lhs; whnf) rfl rfl hB7 (Nat.le_of_ble_eq_true rfl) ?_; intro w23 hE23 hB7 hz23
          replace hX := hX.mine hE23 hl7
          replace hB3 := hB3.ext hE23 (fun h => by omega); replace hB6 := hB6.ext hE23 (fun h => by omega)
          replace hU := hU.ext hE23 (fun i hi e => by have := hp _ hi; omega)
          replace hzB := Nat.le_trans hzB hE23.size
          replace hO57 := hO57.ext hE23 (fun i hi e => by have := ho57 _ hi; omega)
          refine wl_nil ⟨fun h => absurd h (by decide), ?_⟩
          refine wx_done (by kernel_rfl) ?_ _
          refine W_drawX (fun j => j == 8 || j == 9 || j == 10) mixed ?_; intro w24 hE24
          replace hX := hX.tr hE24
          replace hB3 := hB3.ext hE24 id; replace hB6 := hB6.ext hE24 id; replace hB7 := hB7.ext hE24 id
          replace hU := hU.ext hE24 (fun _ _ h => h)
          replace hzB := Nat.le_trans hzB hE24.size
          replace hO57 := hO57.ext hE24 (fun _ _ h => h)
          have hS := Ext.refl Non w24
          refine wx_take 0 [1, 8, 9, 10] _ _ rfl (by kernel_rfl) hS (yd_do fun A hA => rn_fieldAddr f_57_1 (by decide) rfl) ?_
          refine wx_take 1 [8, 9, 10] _ _ rfl (by kernel_rfl) hS (yd_do fun A hA => rn_load1 p_36 rfl (hB7.ext hA id) rfl) ?_
          refine wx_take 2 [3, 5, 6, 7, 8, 9, 10] _ _ rfl (by kernel_rfl) hS (yd_do fun A hA => rn_fieldAddr f_57_1 (by decide) rfl) ?_
          refine wx_take 3 [5, 6, 7, 8, 9, 10] _ _ rfl (by kernel_rfl) hS (yd_do fun A hA => rn_load1 p_36 rfl (hB3.ext hA id) rfl) ?_
          refine wx_take 4 [5, 6, 7, 8, 9, 10] _ _ rfl (by kernel_rfl) hS (yd_do fun A hA => rn_move (by conv => lhs; whnf)) ?_
          refine wx_take 5 [6, 7, 8, 9, 10] _ _ rfl (by kernel_rfl) hS (yd_do fun A hA => rn_indexAddr sl_36 rfl rfl (by omega)) ?_
          refine wx_take 6 [7, 8, 9, 10] _ _ rfl (by kernel_rfl) hS (yd_do fun A hA => rn_load p_3 rfl (((hv.ext hX (fun _ h => h)).ext hA (fun _ h => h.elim)).at0 (eI_at hj) rfl)) ?_
          refine wx_only 7 _ rfl (by kernel_rfl) ?_
          refine s1_do ?_
          refine wl_lit1 (r := eI1 q) sl_36 rfl rfl rfl rfl (by decide) ?_; intro v66 w25 b66 hb66 hE25 hO66
          replace hS := hS.tr hE25
          refine wl_nil ⟨fun _ => hS, ?_⟩
          replace hX := hX.tr hS
          replace hB3 := hB3.ext hS id; replace hB6 := hB6.ext hS id; replace hB7 := hB7.ext hS id
          replace hU := hU.ext hS (fun _ _ h => h)
          replace hzB := Nat.le_trans hzB hS.size
          replace hO57 := hO57.ext hS (fun _ _ h => h)
          refine wx_only 8 _ rfl (by kernel_rfl) ?_
          refine s1_do ?_
          have hUo := hO57
          refine wl_app sl_36 rfl rfl rfl hU (hO66.sl (M := Non) id) (fun r hr => by simp only [List.mem_singleton] at hr; subst hr; exact one1 rfl) (by simp only [List.length_map, List.length_append, List.length_cons, List.length_nil]; omega) (by simp only [List.length_map, List.length_append, List.length_cons, List.length_nil, big]; omega) ?_; intro v67 w26 o67 hE26 hO67 hf67
          obtain ⟨a67, c67, hv67⟩ := id hO67.len; subst hv67
          have ho67 : ∀ i, o67 = some i → wB.heap.size ≤ i := fun j hj => by rcases hf67 j hj with h | h; exact hp j h; omega
          have hdj67 : ∀ j, o57 = some j → o67 ≠ some j := fun j hj e => by rcases hf67 j e with h | h; exact hdj57 j hj h; have := hUo.lt hj; omega
          replace hX := hX.mineO hE26 (fun i hi => .inr (Nat.le_trans hBw (hp i hi)))
          replace hzB := Nat.le_trans hzB hE26.size
          replace hO57 := hO57.ext hE26 (fun i hi e => hdj57 i hi e)
          replace hB3 := hB3.ext hE26 (fun e => by have := hp _ e; omega)
          replace hB6 := hB6.ext hE26 (fun e => by have := hp _ e; omega)
          replace hB7 := hB7.ext hE26 (fun e => by have := hp _ e; omega)
          refine wl_nil ⟨fun h => absurd h (by decide), ?_⟩
          refine wx_only 9 _ rfl (by kernel_rfl) ?_
          refine s1_do ?_
          refine wl_val (rn_fieldAddr f_57_1 (by decide) rfl) ?_
          refine wl_nil ⟨fun h => absurd h (by decide), ?_⟩
          refine wx_only 10 _ rfl (by kernel_rfl) ?_
          refine s1_do ?_
          have hBo := hB7
          refine wl_store1 (b := b7) p_36 rfl (by conv => lhs; whnf) rfl rfl hB7 (Nat.le_of_ble_eq_true rfl) ?_; intro w27 hE27 hB7 hz27
          replace hX := hX.mine hE27 hl7
          replace hB3 := hB3.ext hE27 (fun h => by omega); replace hB6 := hB6.ext hE27 (fun h => by omega)
          replace hzB := Nat.le_trans hzB hE27.size
          replace hO57 := hO57.ext hE27 (fun i hi e => by have := ho57 _ hi; omega)
          replace hO67 := hO67.ext hE27 (fun i hi e => by have := ho67 _ hi; omega)
          refine wl_nil ⟨fun h => absurd h (by decide), ?_⟩
          refine wx_done (by kernel_rfl) ?_ _
          refine W_region ?_
          refine wl_val (rn_move (by conv => lhs; whnf)) ?_
          refine wl_val (rn_add rfl rfl (by omega)) ?_
          refine wl_val (rn_assign (by conv => lhs; whnf)) ?_
          refine wl_nil ?_
          have e1 : (putAt (lb ltS ks x) (isAt ltS ks x) ks x (i + 1)) = (putAt (lb ltS ks x) (isAt ltS ks x) ks x i) ++ [y] := putAt_lo hlo hi
          have e2 : (putAt (lb ltS ks x) (isAt ltS ks x) ys z (i + 1)) = (putAt (lb ltS ks x) (isAt ltS ks x) ys z i) ++ [q] := putAt_lo hlo hj
          exact ⟨rfl, (i + 1, _, _, o57, o67), ⟨rfl, rfl, rfl, rfl, rfl, (congrArg Value.bool (show decide (lb ltS ks x < i) = decide (lb ltS ks x < i + 1) by rw [decide_eq_false (show ¬ lb ltS ks x < i by omega), decide_eq_false (show ¬ lb ltS ks x < i + 1 by omega)])), rfl, trivial⟩, ⟨hX, hB3, hB6, hB7, hl3, hl6, hl7, hn3_6, hn3_7, hn6_7, ⟨hzB, hlt, by rw [e1, List.map_append]; exact hO57, by rw [e2, List.map_append]; exact hO67, ho57, ho67, hdj67⟩⟩, by show ks.length - (i + 1) < ks.length - i; omega⟩
        · have hyx : y = x := by simpa using of_decide_eq_false hc2
          obtain ⟨ha, hib2⟩ := hka.2.1 hyx
          refine W_skip ?_
          refine W_region ?_
          refine wl_val (rn_move (by conv => lhs; whnf)) ?_
          refine wl_val (rn_add rfl rfl (by omega)) ?_
          refine wl_val (rn_assign (by conv => lhs; whnf)) ?_
          refine wl_nil ?_
          
          exact ⟨rfl, (i + 1, _, _, qq, pp), ⟨rfl, rfl, rfl, rfl, rfl, (by exfalso; omega), rfl, trivial⟩, ⟨hX, hB3, hB6, hB7, hl3, hl6, hl7, hn3_6, hn3_7, hn6_7, ⟨hzB, hlt, by exfalso; omega, by exfalso; omega, ho, hp, hdj⟩⟩, by show ks.length - (i + 1) < ks.length - i; omega⟩
    · have hhi : lb ltS ks x < i := by simpa using hg20
      refine wl_no rfl (congrArg Value.bool hg20) ?_
      refine wl_no rfl (congrArg Value.bool hg20) ?_
      refine wl_no rfl (congrArg Value.bool hg20) ?_
      refine wl_no rfl (congrArg Value.bool hg20) ?_
      refine wl_no rfl (congrArg Value.bool hg20) ?_
      refine wl_no rfl (congrArg Value.bool hg20) ?_
      refine wl_no rfl (congrArg Value.bool hg20) ?_
      refine wl_no rfl (congrArg Value.bool hg20) ?_
      refine wl_val (rn_pickF (congrArg Value.bool hg20) (by conv => lhs; whnf)) ?_
      refine wl_nil ?_
      refine W_condF rfl ?_
      refine W_skip ?_
      refine W_seq ?_
      refine W_region ?_
      refine wl_val (rn_fieldAddr f_57_0 (by decide) rfl) ?_
      refine wl_val (rn_load1 p_52 rfl hB3 rfl) ?_
      refine wl_val (rn_move (by conv => lhs; whnf)) ?_
      refine wl_val (rn_indexAddr sl_52 rfl rfl (by omega)) ?_
      refine wl_val (rn_load p_9 rfl ((hk.ext hX (fun _ h => h)).at0 (eS_at hi) rfl)) ?_
      refine wl_val (rn_move (by conv => lhs; whnf)) ?_
      refine wl_val (rn_sneq rfl rfl) ?_
      refine wl_nil ?_
      refine W_cond rfl (fun hc2 => ?_) (fun hc2 => ?_)
      · have hyx : ¬ y = x := by simpa using of_decide_eq_true hc2
        refine W_seq ?_
        refine W_drawX (fun j => j == 8 || j == 9 || j == 10) mixed ?_; intro w28 hE28
        replace hX := hX.tr hE28
        replace hB3 := hB3.ext hE28 id; replace hB6 := hB6.ext hE28 id; replace hB7 := hB7.ext hE28 id
        replace hO := hO.ext hE28 (fun _ _ h => h)
        replace hU := hU.ext hE28 (fun _ _ h => h)
        replace hzB := Nat.le_trans hzB hE28.size
        have hS := Ext.refl Non w28
        refine wx_take 0 [1, 8, 9, 10] _ _ rfl (by kernel_rfl) hS (yd_do fun A hA => rn_fieldAddr f_57_0 (by decide) rfl) ?_
        refine wx_take 1 [8, 9, 10] _ _ rfl (by kernel_rfl) hS (yd_do fun A hA => rn_load1 p_52 rfl (hB7.ext hA id) rfl) ?_
        refine wx_take 2 [3, 5, 6, 7, 8, 9, 10] _ _ rfl (by kernel_rfl) hS (yd_do fun A hA => rn_fieldAddr f_57_0 (by decide) rfl) ?_
        refine wx_take 3 [5, 6, 7, 8, 9, 10] _ _ rfl (by kernel_rfl) hS (yd_do fun A hA => rn_load1 p_52 rfl (hB3.ext hA id) rfl) ?_
        refine wx_take 4 [5, 6, 7, 8, 9, 10] _ _ rfl (by kernel_rfl) hS (yd_do fun A hA => rn_move (by conv => lhs; whnf)) ?_
        refine wx_take 5 [6, 7, 8, 9, 10] _ _ rfl (by kernel_rfl) hS (yd_do fun A hA => rn_indexAddr sl_52 rfl rfl (by omega)) ?_
        refine wx_take 6 [7, 8, 9, 10] _ _ rfl (by kernel_rfl) hS (yd_do fun A hA => rn_load p_9 rfl (((hk.ext hX (fun _ h => h)).ext hA (fun _ h => h.elim)).at0 (eS_at hi) rfl)) ?_
        refine wx_only 7 _ rfl (by kernel_rfl) ?_
        refine s1_do ?_
        refine wl_lit1 (r := eS1 y) sl_52 rfl rfl rfl rfl (by decide) ?_; intro v56 w29 b56 hb56 hE29 hO56
        replace hS := hS.tr hE29
        refine wl_nil ⟨fun _ => hS, ?_⟩
        replace hX := hX.tr hS
        replace hB3 := hB3.ext hS id; replace hB6 := hB6.ext hS id; replace hB7 := hB7.ext hS id
        replace hO := hO.ext hS (fun _ _ h => h)
        replace hU := hU.ext hS (fun _ _ h => h)
        replace hzB := Nat.le_trans hzB hS.size
        refine wx_only 8 _ rfl (by kernel_rfl) ?_
        refine s1_do ?_
        have hUo := hU
        refine wl_app sl_52 rfl rfl rfl hO (hO56.sl (M := Non) id) (fun r hr => by simp only [List.mem_singleton] at hr; subst hr; exact one1 rfl) (by simp only [List.length_map, List.length_append, List.length_cons, List.length_nil]; omega) (by simp only [List.length_map, List.length_append, List.length_cons, List.length_nil, big]; omega) ?_; intro v57 w30 o57 hE30 hO57 hf57
        obtain ⟨a57, c57, hv57⟩ := id hO57.len; subst hv57
        have ho57 : ∀ i, o57 = some i → wB.heap.size ≤ i := fun j hj => by rcases hf57 j hj with h | h; exact ho j h; omega
        have hdj57 : ∀ j, o57 = some j → pp ≠ some j := fun j hj e => by rcases hf57 j hj with h | h; exact hdj j h e; have := hUo.lt e; omega
        replace hX := hX.mineO hE30 (fun i hi => .inr (Nat.le_trans hBw (ho i hi)))
        replace hzB := Nat.le_trans hzB hE30.size
        replace hU := hU.ext hE30 (fun i hi e => hdj i e hi)
        replace hB3 := hB3.ext hE30 (fun e => by have := ho _ e; omega)
        replace hB6 := hB6.ext hE30 (fun e => by have := ho _ e; omega)
        replace hB7 := hB7.ext hE30 (fun e => by have := ho _ e; omega)
        refine wl_nil ⟨fun h => absurd h (by decide), ?_⟩
        refine wx_only 9 _ rfl (by kernel_rfl) ?_
        refine s1_do ?_
        refine wl_val (rn_fieldAddr f_57_0 (by decide) rfl) ?_
        refine wl_nil ⟨fun h => absurd h (by decide), ?_⟩
        refine wx_only 10 _ rfl (by kernel_rfl) ?_
        refine s1_do ?_
        have hBo := hB7
        refine wl_store1 (b := b7) p_52 rfl (by conv => lhs; whnf) rfl rfl hB7 (Nat.le_of_ble_eq_true rfl) ?_; intro w31 hE31 hB7 hz31
        replace hX := hX.mine hE31 hl7
        replace hB3 := hB3.ext hE31 (fun h => by omega); replace hB6 := hB6.ext hE31 (fun h => by omega)
        replace hU := hU.ext hE31 (fun i hi e => by have := hp _ hi; omega)
        replace hzB := Nat.le_trans hzB hE31.size
        replace hO57 := hO57.ext hE31 (fun i hi e => by have := ho57 _ hi; omega)
        refine wl_nil ⟨fun h => absurd h (by decide), ?_⟩
        refine wx_done (by kernel_rfl) ?_ _
        refine W_drawX (fun j => j == 8 || j == 9 || j == 10) mixed ?_; intro w32 hE32
        replace hX := hX.tr hE32
        replace hB3 := hB3.ext hE32 id; replace hB6 := hB6.ext hE32 id; replace hB7 := hB7.ext hE32 id
        replace hU := hU.ext hE32 (fun _ _ h => h)
        replace hzB := Nat.le_trans hzB hE32.size
        replace hO57 := hO57.ext hE32 (fun _ _ h => h)
        have hS := Ext.refl Non w32
        refine wx_take 0 [1, 8, 9, 10] _ _ rfl (by kernel_rfl) hS (yd_do fun A hA => rn_fieldAddr f_57_1 (by decide) rfl) ?_
        refine wx_take 1 [8, 9, 10] _ _ rfl (by kernel_rfl) hS (yd_do fun A hA => rn_load1 p_36 rfl (hB7.ext hA id) rfl) ?_
        refine wx_take 2 [3, 5, 6, 7, 8, 9, 10] _ _ rfl (by kernel_rfl) hS (yd_do fun A hA => rn_fieldAddr f_57_1 (by decide) rfl) ?_
        refine wx_take 3 [5, 6, 7, 8, 9, 10] _ _ rfl (by kernel_rfl) hS (yd_do fun A hA => rn_load1 p_36 rfl (hB3.ext hA id) rfl) ?_
        refine wx_take 4 [5, 6, 7, 8, 9, 10] _ _ rfl (by kernel_rfl) hS (yd_do fun A hA => rn_move (by conv => lhs; whnf)) ?_
        refine wx_take 5 [6, 7, 8, 9, 10] _ _ rfl (by kernel_rfl) hS (yd_do fun A hA => rn_indexAddr sl_36 rfl rfl (by omega)) ?_
        refine wx_take 6 [7, 8, 9, 10] _ _ rfl (by kernel_rfl) hS (yd_do fun A hA => rn_load p_3 rfl (((hv.ext hX (fun _ h => h)).ext hA (fun _ h => h.elim)).at0 (eI_at hj) rfl)) ?_
        refine wx_only 7 _ rfl (by kernel_rfl) ?_
        refine s1_do ?_
        refine wl_lit1 (r := eI1 q) sl_36 rfl rfl rfl rfl (by decide) ?_; intro v66 w33 b66 hb66 hE33 hO66
        replace hS := hS.tr hE33
        refine wl_nil ⟨fun _ => hS, ?_⟩
        replace hX := hX.tr hS
        replace hB3 := hB3.ext hS id; replace hB6 := hB6.ext hS id; replace hB7 := hB7.ext hS id
        replace hU := hU.ext hS (fun _ _ h => h)
        replace hzB := Nat.le_trans hzB hS.size
        replace hO57 := hO57.ext hS (fun _ _ h => h)
        refine wx_only 8 _ rfl (by kernel_rfl) ?_
        refine s1_do ?_
        have hUo := hO57
        refine wl_app sl_36 rfl rfl rfl hU (hO66.sl (M := Non) id) (fun r hr => by simp only [List.mem_singleton] at hr; subst hr; exact one1 rfl) (by simp only [List.length_map, List.length_append, List.length_cons, List.length_nil]; omega) (by simp only [List.length_map, List.length_append, List.length_cons, List.length_nil, big]; omega) ?_; intro v67 w34 o67 hE34 hO67 hf67
        obtain ⟨a67, c67, hv67⟩ := id hO67.len; subst hv67
        have ho67 : ∀ i, o67 = some i → wB.heap.size ≤ i := fun j hj => by rcases hf67 j hj with h | h; exact hp j h; omega
        have hdj67 : ∀ j, o57 = some j → o67 ≠ some j := fun j hj e => by rcases hf67 j e with h | h; exact hdj57 j hj h; have := hUo.lt hj; omega
        replace hX := hX.mineO hE34 (fun i hi => .inr (Nat.le_trans hBw (hp i hi)))
        replace hzB := Nat.le_trans hzB hE34.size
        replace hO57 := hO57.ext hE34 (fun i hi e => hdj57 i hi e)
        replace hB3 := hB3.ext hE34 (fun e => by have := hp _ e; omega)
        replace hB6 := hB6.ext hE34 (fun e => by have := hp _ e; omega)
        replace hB7 := hB7.ext hE34 (fun e => by have := hp _ e; omega)
        refine wl_nil ⟨fun h => absurd h (by decide), ?_⟩
        refine wx_only 9 _ rfl (by kernel_rfl) ?_
        refine s1_do ?_
        refine wl_val (rn_fieldAddr f_57_1 (by decide) rfl) ?_
        refine wl_nil ⟨fun h => absurd h (by decide), ?_⟩
        refine wx_only 10 _ rfl (by kernel_rfl) ?_
        refine s1_do ?_
        have hBo := hB7
        refine wl_store1 (b := b7) p_36 rfl (by conv => lhs; whnf) rfl rfl hB7 (Nat.le_of_ble_eq_true rfl) ?_; intro w35 hE35 hB7 hz35
        replace hX := hX.mine hE35 hl7
        replace hB3 := hB3.ext hE35 (fun h => by omega); replace hB6 := hB6.ext hE35 (fun h => by omega)
        replace hzB := Nat.le_trans hzB hE35.size
        replace hO57 := hO57.ext hE35 (fun i hi e => by have := ho57 _ hi; omega)
        replace hO67 := hO67.ext hE35 (fun i hi e => by have := ho67 _ hi; omega)
        refine wl_nil ⟨fun h => absurd h (by decide), ?_⟩
        refine wx_done (by kernel_rfl) ?_ _
        refine W_region ?_
        refine wl_val (rn_move (by conv => lhs; whnf)) ?_
        refine wl_val (rn_add rfl rfl (by omega)) ?_
        refine wl_val (rn_assign (by conv => lhs; whnf)) ?_
        refine wl_nil ?_
        have e1 : (putAt (lb ltS ks x) (isAt ltS ks x) ks x (i + 1)) = (putAt (lb ltS ks x) (isAt ltS ks x) ks x i) ++ [y] := putAt_hi hhi hi
        have e2 : (putAt (lb ltS ks x) (isAt ltS ks x) ys z (i + 1)) = (putAt (lb ltS ks x) (isAt ltS ks x) ys z i) ++ [q] := putAt_hi hhi hj
        exact ⟨rfl, (i + 1, _, _, o57, o67), ⟨rfl, rfl, rfl, rfl, rfl, (congrArg Value.bool (show decide (lb ltS ks x < i) = decide (lb ltS ks x < i + 1) by rw [decide_eq_true (show  lb ltS ks x < i by omega), decide_eq_true (show  lb ltS ks x < i + 1 by omega)])), rfl, trivial⟩, ⟨hX, hB3, hB6, hB7, hl3, hl6, hl7, hn3_6, hn3_7, hn6_7, ⟨hzB, hlt, by rw [e1, List.map_append]; exact hO57, by rw [e2, List.map_append]; exact hO67, ho57, ho67, hdj67⟩⟩, by show ks.length - (i + 1) < ks.length - i; omega⟩
      · have hyx : y = x := by simpa using of_decide_eq_false hc2
        obtain ⟨ha, hib2⟩ := hka.2.1 hyx
        refine W_skip ?_
        refine W_region ?_
        refine wl_val (rn_move (by conv => lhs; whnf)) ?_
        refine wl_val (rn_add rfl rfl (by omega)) ?_
        refine wl_val (rn_assign (by conv => lhs; whnf)) ?_
        refine wl_nil ?_
        
        exact ⟨rfl, (i + 1, _, _, qq, pp), ⟨rfl, rfl, rfl, rfl, rfl, (by exfalso; omega), rfl, trivial⟩, ⟨hX, hB3, hB6, hB7, hl3, hl6, hl7, hn3_6, hn3_7, hn6_7, ⟨hzB, hlt, by exfalso; omega, by exfalso; omega, ho, hp, hdj⟩⟩, by show ks.length - (i + 1) < ks.length - i; omega⟩
  · have hge := of_decide_eq_false hc0; simp only [Int.ofNat_lt, Nat.not_lt] at hge
    have hie : i = ks.length := by omega
    subst hie
    have eK := putAt_end (lt := ltS) (l := ks) (x := x) (vs := ks) (r := x) rfl
    have eV := putAt_end (lt := ltS) (l := ks) (x := x) (vs := ys) (r := z) hle
    rw [putW_self] at eK
    refine W_exit ?_   -- exit 0
    refine W_seq ?_
    refine W_seq ?_
    refine W_region ?_
    refine wl_val (rn_move (by conv => lhs; whnf)) ?_
    refine wl_val (rn_not rfl) ?_
    refine wl_nil ?_
    refine W_cond rfl (fun hc3 => ?_) (fun hc3 => ?_)
    · have hend : ¬ lb ltS ks x < ks.length := by simpa using hc3
      rw [if_neg hend] at eK eV
      refine W_seq ?_
      refine W_region ?_
      refine wl_val (rn_fieldAddr f_57_0 (by decide) rfl) ?_
      refine wl_val (rn_load1 p_52 rfl hB7 rfl) ?_
      refine wl_val (rn_move (by conv => lhs; whnf)) ?_
      refine wl_lit1 (r := eS1 x) sl_52 rfl rfl rfl rfl (by decide) ?_; intro v74 w36 b74 hb74 hE36 hO74
      replace hX := hX.tr hE36
      replace hB3 := hB3.ext hE36 id; replace hB6 := hB6.ext hE36 id; replace hB7 := hB7.ext hE36 id
      replace hO := hO.ext hE36 (fun _ _ h => h)
      replace hU := hU.ext hE36 (fun _ _ h => h)
      replace hzB := Nat.le_trans hzB hE36.size
      have hUo := hU
      refine wl_app sl_52 rfl rfl rfl hO (hO74.sl (M := Non) id) (fun r hr => by simp only [List.mem_singleton] at hr; subst hr; exact one1 rfl) (by simp only [List.length_map, List.length_append, List.length_cons, List.length_nil]; omega) (by simp only [List.length_map, List.length_append, List.length_cons, List.length_nil, big]; omega) ?_; intro v75 w37 o75 hE37 hO75 hf75
      obtain ⟨a75, c75, hv75⟩ := id hO75.len; subst hv75
      have ho75 : ∀ i, o75 = some i → wB.heap.size ≤ i := fun j hj => by rcases hf75 j hj with h | h; exact ho j h; omega
      have hdj75 : ∀ j, o75 = some j → pp ≠ some j := fun j hj e => by rcases hf75 j hj with h | h; exact hdj j h e; have := hUo.lt e; omega
      replace hX := hX.mineO hE37 (fun i hi => .inr (Nat.le_trans hBw (ho i hi)))
      replace hzB := Nat.le_trans hzB hE37.size
      replace hU := hU.ext hE37 (fun i hi e => hdj i e hi)
      replace hB3 := hB3.ext hE37 (fun e => by have := ho _ e; omega)
      replace hB6 := hB6.ext hE37 (fun e => by have := ho _ e; omega)
      replace hB7 := hB7.ext hE37 (fun e => by have := ho _ e; omega)
      refine wl_val (rn_fieldAddr f_57_0 (by decide) rfl) ?_
      have hBo := hB7
      refine wl_store1 (b := b7) p_52 rfl (by conv => lhs; whnf) rfl rfl hB7 (Nat.le_of_ble_eq_true rfl) ?_; intro w38 hE38 hB7 hz38
      replace hX := hX.mine hE38 hl7
      replace hB3 := hB3.ext hE38 (fun h => by omega); replace hB6 := hB6.ext hE38 (fun h => by omega)
      replace hU := hU.ext hE38 (fun i hi e => by have := hp _ hi; omega)
      replace hzB := Nat.le_trans hzB hE38.size
      replace hO75 := hO75.ext hE38 (fun i hi e => by have := ho75 _ hi; omega)
      refine wl_nil ?_
      refine W_region ?_
      refine wl_val (rn_fieldAddr f_57_1 (by decide) rfl) ?_
      refine wl_val (rn_load1 p_36 rfl hB7 rfl) ?_
      refine wl_val (rn_move (by conv => lhs; whnf)) ?_
      refine wl_lit1 (r := eI1 z) sl_36 rfl rfl rfl rfl (by decide) ?_; intro v80 w39 b80 hb80 hE39 hO80
      replace hX := hX.tr hE39
      replace hB3 := hB3.ext hE39 id; replace hB6 := hB6.ext hE39 id; replace hB7 := hB7.ext hE39 id
      replace hU := hU.ext hE39 (fun _ _ h => h)
      replace hzB := Nat.le_trans hzB hE39.size
      replace hO75 := hO75.ext hE39 (fun _ _ h => h)
      have hUo := hO75
      refine wl_app sl_36 rfl rfl rfl hU (hO80.sl (M := Non) id) (fun r hr => by simp only [List.mem_singleton] at hr; subst hr; exact one1 rfl) (by simp only [List.length_map, List.length_append, List.length_cons, List.length_nil]; omega) (by simp only [List.length_map, List.length_append, List.length_cons, List.length_nil, big]; omega) ?_; intro v81 w40 o81 hE40 hO81 hf81
      obtain ⟨a81, c81, hv81⟩ := id hO81.len; subst hv81
      have ho81 : ∀ i, o81 = some i → wB.heap.size ≤ i := fun j hj => by rcases hf81 j hj with h | h; exact hp j h; omega
      have hdj81 : ∀ j, o75 = some j → o81 ≠ some j := fun j hj e => by rcases hf81 j e with h | h; exact hdj75 j hj h; have := hUo.lt hj; omega
      replace hX := hX.mineO hE40 (fun i hi => .inr (Nat.le_trans hBw (hp i hi)))
      replace hzB := Nat.le_trans hzB hE40.size
      replace hO75 := hO75.ext hE40 (fun i hi e => hdj75 i hi e)
      replace hB3 := hB3.ext hE40 (fun e => by have := hp _ e; omega)
      replace hB6 := hB6.ext hE40 (fun e => by have := hp _ e; omega)
      replace hB7 := hB7.ext hE40 (fun e => by have := hp _ e; omega)
      refine wl_val (rn_fieldAddr f_57_1 (by decide) rfl) ?_
      have hBo := hB7
      refine wl_store1 (b := b7) p_36 rfl (by conv => lhs; whnf) rfl rfl hB7 (Nat.le_of_ble_eq_true rfl) ?_; intro w41 hE41 hB7 hz41
      replace hX := hX.mine hE41 hl7
      replace hB3 := hB3.ext hE41 (fun h => by omega); replace hB6 := hB6.ext hE41 (fun h => by omega)
      replace hzB := Nat.le_trans hzB hE41.size
      replace hO75 := hO75.ext hE41 (fun i hi e => by have := ho75 _ hi; omega)
      replace hO81 := hO81.ext hE41 (fun i hi e => by have := ho81 _ hi; omega)
      refine wl_nil ?_
      refine W_seq ?_
      refine W_region ?_
      refine wl_val (rn_loadB s_57 rfl rfl hB7) ?_
      have hBo := hB6
      refine wl_storeB s_57 rfl rfl rfl (two1 rfl rfl) hB6 rfl ?_; intro w42 hE42 hB6 hz42
      replace hX := hX.mine hE42 hl6
      replace hB3 := hB3.ext hE42 (fun h => by omega); replace hB7 := hB7.ext hE42 (fun h => by omega)
      replace hzB := Nat.le_trans hzB hE42.size
      replace hO75 := hO75.ext hE42 (fun i hi e => by have := ho75 _ hi; omega)
      replace hO81 := hO81.ext hE42 (fun i hi e => by have := ho81 _ hi; omega)
      refine wl_nil ?_
      refine W_ret ?_
      exact ⟨_, resR1 (res1_box s_57 rfl hB6 rfl), hX, ⟨_, _, rfl, by rw [← eK, List.map_append]; exact hO75.sl (fun i hi h => by have h1 := ho75 _ hi; have h2 : i < w.heap.size := h; omega), by rw [← eV, List.map_append]; exact hO81.sl (fun i hi h => by have h1 := ho81 _ hi; have h2 : i < w.heap.size := h; omega)⟩⟩
    · have hend : lb ltS ks x < ks.length := by simpa using hc3
      rw [if_pos hend] at eK eV
      refine W_skip ?_
      refine W_seq ?_
      refine W_region ?_
      refine wl_val (rn_loadB s_57 rfl rfl hB7) ?_
      have hBo := hB6
      refine wl_storeB s_57 rfl rfl rfl (two1 rfl rfl) hB6 rfl ?_; intro w43 hE43 hB6 hz43
      replace hX := hX.mine hE43 hl6
      replace hB3 := hB3.ext hE43 (fun h => by omega); replace hB7 := hB7.ext hE43 (fun h => by omega)
      replace hO := hO.ext hE43 (fun i hi e => by have := ho _ hi; omega)
      replace hU := hU.ext hE43 (fun i hi e => by have := hp _ hi; omega)
      replace hzB := Nat.le_trans hzB hE43.size
      refine wl_nil ?_
      refine W_ret ?_
      exact ⟨_, resR1 (res1_box s_57 rfl hB6 rfl), hX, ⟨_, _, rfl, by rw [← eK]; exact hO.sl (fun i hi h => by have h1 := ho _ hi; have h2 : i < w.heap.size := h; omega), by rw [← eV]; exact hU.sl (fun i hi h => by have h1 := hp _ hi; have h2 : i < w.heap.size := h; omega)⟩⟩
-- (bellman/bellmanref03.Map).Get
set_option maxHeartbeats 800000 in
theorem rget_ok (w : World) (ks : List Str) (ys : List Int) {v1 v2 : Value} (x : Str) (hk : Sl Non w v1 1 (ks.map eS1)) (hv : Sl Non w v2 1 (ys.map eI1)) (hle : ys.length = ks.length) (hord : Sorted ltS ks) (hn : ks.length ≤ 1000000) : Fn Try.prog 36 #[.agg #[v1, v2], Sv x] w fun u w' => ∃ z : Int, u = .tuple #[.int .i64 z, .bool (isAt ltS ks x)] ∧ (isAt ltS ks x = true → ys[lb ltS ks x]? = some z) ∧ (isAt ltS ks x = false → z = 0) := by
  obtain ⟨a, c, rfl, _⟩ := hk.len; obtain ⟨a2, c2, rfl, _⟩ := hv.len
  simp only [List.length_map] at hk hv ⊢
  have hX := Ext.refl Non w
  refine fn_of_W (args := [_, _]) Try.func36 rfl (by kernel_rfl) rfl ?_
  refine W_seq ?_
  refine W_region ?_
  refine wl_boxS rfl ?_; intro b2 w1 hb2 hE1 hB2
  have hq2 : w.heap.size ≤ b2 := Nat.le_trans hX.size hb2
  have hl2 : Mine Non w b2 := .inr hq2
  replace hX := hX.tr hE1
  refine wl_val (rn_assign (by conv => lhs; whnf)) ?_
  refine wl_val (rn_assign (by conv => lhs; whnf)) ?_
  refine wl_nil ?_
  refine W_seq ?_
  refine W_seq ?_
  refine W_region ?_
  refine wl_val (rn_assign (by conv => lhs; whnf)) ?_
  refine wl_nil ?_
  refine W_block ?_   -- block 0
  refine W_loopS (S := Nat) [1, 2, 6] (fun i => [Sv x, .pointer (some ⟨b2, 0, none⟩), .int .i64 (i : Nat)]) (fun i A => (Ext Non w A) ∧ (IsBox A b2 [.slice a ks.length c, .slice a2 ys.length c2]) ∧ (Mine Non w b2) ∧ (i ≤ ks.length ∧ ¬ x ∈ ks.take i)) (fun i => ks.length - i) 0 ⟨rfl, rfl, rfl, trivial⟩ ⟨hX, hB2, hl2, ⟨Nat.zero_le _, by simp⟩⟩ ?_
  rintro τ0 i A0 ⟨hX, hB2, hl2, hI0⟩
  obtain ⟨hik, hno⟩ := hI0
  refine W_seq ?_
  refine W_seq ?_
  refine W_region ?_
  refine wl_val (rn_move (by conv => lhs; whnf)) ?_
  refine wl_val (rn_fieldAddr f_57_0 (by decide) rfl) ?_
  refine wl_val (rn_load1 p_52 rfl hB2 rfl) ?_
  refine wl_val (rn_len sl_52 rfl) ?_
  refine wl_val (rn_lss rfl rfl) ?_
  refine wl_nil ?_
  refine W_cond rfl (fun hc0 => ?_) (fun hc0 => ?_)
  · have hlt := of_decide_eq_true hc0; simp only [Int.ofNat_lt] at hlt
    obtain ⟨y, hi⟩ : ∃ y, (ks)[i]? = some y := ⟨_, List.getElem?_eq_getElem hlt⟩
    obtain ⟨q, hj⟩ : ∃ q, ys[i]? = some q := ⟨_, List.getElem?_eq_getElem (by omega)⟩
    obtain ⟨bb, oo, ea⟩ := hk.base (by intro e; have := congrArg List.length e; simp only [List.length_map, List.length_nil] at this; omega); subst ea
    obtain ⟨bb2, oo2, ea2⟩ := hv.base (by intro e; have := congrArg List.length e; simp only [List.length_map, List.length_nil] at this; omega); subst ea2
    have hka := (key_at lo_str hord hi (x := x)).2
    refine W_skip ?_
    refine W_seq ?_
    refine W_block ?_   -- block 1
    refine W_seq ?_
    refine W_region ?_
    refine wl_val (rn_fieldAddr f_57_0 (by decide) rfl) ?_
    refine wl_val (rn_load1 p_52 rfl hB2 rfl) ?_
    refine wl_val (rn_move (by conv => lhs; whnf)) ?_
    refine wl_val (rn_indexAddr sl_52 rfl rfl (by omega)) ?_
    refine wl_val (rn_load p_9 rfl ((hk.ext hX (fun _ h => h)).at0 (eS_at hi) rfl)) ?_
    refine wl_val (rn_move (by conv => lhs; whnf)) ?_
    refine wl_val (rn_seql rfl rfl) ?_
    refine wl_nil ?_
    refine W_cond rfl (fun hc1 => ?_) (fun hc1 => ?_)
    · have hyx : y = x := of_decide_eq_true hc1
      obtain ⟨ha, hib⟩ := hka.1 hyx
      refine W_seq ?_
      refine W_region ?_
      refine wl_val (rn_fieldAddr f_57_1 (by decide) rfl) ?_
      refine wl_val (rn_load1 p_36 rfl hB2 rfl) ?_
      refine wl_val (rn_move (by conv => lhs; whnf)) ?_
      refine wl_val (rn_indexAddr sl_36 rfl rfl (by omega)) ?_
      refine wl_val (rn_load p_3 rfl ((hv.ext hX (fun _ h => h)).at0 (eI_at hj) rfl)) ?_
      refine wl_val (rn_assign (by conv => lhs; whnf)) ?_
      refine wl_val (rn_assign (by conv => lhs; whnf)) ?_
      refine wl_nil ?_
      refine W_ret ?_
      exact ⟨_, resR2 (res1_tmp rfl) (res1_tmp rfl), hX, ⟨q, by rw [ha]; rfl, (fun _ => by rw [← hib]; exact hj), (fun h => by rw [ha] at h; cases h)⟩⟩
    · have hyx : ¬ y = x := of_decide_eq_false hc1
      refine W_skip ?_
      refine W_region ?_
      refine wl_val (rn_move (by conv => lhs; whnf)) ?_
      refine wl_val (rn_add rfl rfl (by omega)) ?_
      refine wl_val (rn_assign (by conv => lhs; whnf)) ?_
      refine wl_nil ?_
      exact ⟨rfl, i + 1, ⟨rfl, rfl, rfl, trivial⟩, ⟨hX, hB2, hl2, ⟨hlt, by rw [List.take_add_one, hi]; simp only [Option.toList_some, List.mem_append, List.mem_singleton, not_or]; exact ⟨hno, fun e => hyx e.symm⟩⟩⟩, by omega⟩
  · have hge := of_decide_eq_false hc0; simp only [Int.ofNat_lt, Nat.not_lt] at hge
    rw [List.take_of_length_le hge] at hno
    have ha : isAt ltS ks x = false := by cases h : isAt ltS ks x; rfl; exact absurd ((isAt_iff lo_str hord x).1 h) hno
    refine W_exit ?_   -- exit 0
    refine W_seq ?_
    refine W_region ?_
    refine wl_val (rn_assign (by conv => lhs; whnf)) ?_
    refine wl_val (rn_assign (by conv => lhs; whnf)) ?_
    refine wl_nil ?_
    refine W_ret ?_
    exact ⟨_, resR2 (res1_tmp rfl) (res1_tmp rfl), hX, ⟨0, by rw [ha]; rfl, (fun h => by rw [ha] at h; cases h), fun _ => rfl⟩⟩
end Go.Proofs.YtfdfphaiefbflaaC
