/- The law KeepLast. -/
import Derived.Test.YtfdfphaiefbflaaDoorKeep3
import Derived.Test.YtfdfphaiefbflaaDoorKp
set_option linter.unusedVariables false
set_option linter.unusedSimpArgs false
set_option maxRecDepth 100000
namespace Go.Proofs.YtfdfphaiefbflaaDoorC
open Go.RowKit
theorem kK_sorted {ks : List Str} (h : Sorted ltS ks) (t p : Str) : Sorted ltS (kK ks t p) := by unfold kK; split; exact dropK_sorted h t; exact putK_sorted lo_str h t
theorem kK_len (ks : List Str) (t p : Str) : (kK ks t p).length ≤ ks.length + 1 := by
  unfold kK; split
  · have := dropK_len (lt := ltS) ks t; omega
  · have := putK_len (lt := ltS) ks t; omega
theorem kK_mem {ks : List Str} (h : Sorted ltS ks) (t p : Str) {y : Str} (hy : y ∈ kK ks t p) : y = t ∨ y ∈ ks := by
  unfold kK at hy; split at hy
  · exact .inr ((dropK_sub ks t).subset hy)
  · exact (putK_mem lo_str h t y).1 hy
theorem kY_len {ks : List Str} {ys : List (Str × Int)} (h : ys.length = ks.length) (ver : Int) (t p : Str) : (kY ks ys ver t p).length = (kK ks t p).length := by unfold kY kK; split; exact dropV_len h; exact putW_len h
theorem kK_at {ks : List Str} (h : Sorted ltS ks) (t p : Str) : isAt ltS (kK ks t p) t = decide (p ≠ []) := by
  unfold kK; split
  · rename_i hp; rw [drop_not lo_str h t, hp]; simp
  · rename_i hp; rw [(put_at lo_str h t).1]; simp [hp]
theorem kGet_k {ks : List Str} {ys : List (Str × Int)} (h : Sorted ltS ks) (hle : ys.length = ks.length) (ver : Int) (t p : Str) : (kGet (kK ks t p) (kY ks ys ver t p) t).1 = p ∧ (p ≠ [] → (kGet (kK ks t p) (kY ks ys ver t p) t).2 = ver + 1) := by
  by_cases hp : p = []
  · rw [kGet_no (by rw [kK_at h]; simp [hp])]; exact ⟨hp.symm, fun h => absurd hp h⟩
  · have h1 : isAt ltS (kK ks t p) t = true := by rw [kK_at h]; simp [hp]
    have h2 : (kY ks ys ver t p)[lb ltS (kK ks t p) t]? = some (p, ver + 1) := by
      unfold kK kY; rw [if_neg hp, if_neg hp, (put_at lo_str h t).2]; exact putW_get hle
    rw [kGet_yes h1 h2]; exact ⟨rfl, fun _ => rfl⟩
theorem kGet_at {ks : List Str} {ys : List (Str × Int)} (h : Sorted ltS ks) (hle : ys.length = ks.length) {i : Nat} {k : Str} {y : Str × Int} (hk : ks[i]? = some k) (hy : ys[i]? = some y) : isAt ltS ks k = true ∧ kGet ks ys k = y := by
  have h1 := (key_at lo_str h (x := k) hk).2.1 rfl
  exact ⟨h1.1, kGet_yes h1.1 (by rw [← h1.2]; exact hy)⟩
theorem filter_tt {α : Type} (l : List α) : (l.filter fun _ => true) = l := List.filter_eq_self.2 (by simp)
theorem zip_get {α β : Type} {l : List α} {m : List β} {i : Nat} {x : α × β} (h : (l.zip m)[i]? = some x) : l[i]? = some x.1 ∧ m[i]? = some x.2 := by simpa [List.getElem?_zip_eq_some] using h
theorem eM_at {l : List (Str × (Str × Int))} {i : Nat} {x : Str × (Str × Int)} (h : l[i]? = some x) : (l.map eM1)[i]? = some [Sv x.1, Sv x.2.1, .bool true] := by simp [h, eM1]
-- bellman/bellmanlaw15.KeepLast
set_option maxHeartbeats 8000000 in
theorem keepLast_ok (w : World) (topics payloads : List Str) {v0 v1 : Value} (h0 : Sl Non w v0 1 (topics.map eS1)) (h1 : Sl Non w v1 1 (payloads.map eS1)) : Fn Tryd.prog 13 #[v0, v1] w fun u w' => u = .bool true := by
  obtain ⟨a0, c0, rfl, hb0⟩ := h0.len; obtain ⟨a1, c1, rfl, hb1⟩ := h1.len
  simp only [List.length_map] at h0 h1 hb0 hb1 ⊢
  have hbig2 : big = 9223372036854775807 := rfl
  have hX := Ext.refl Non w
  refine fn_of_W (args := [_, _]) Tryd.func13 rfl (by kernel_rfl) rfl ?_
  refine W_seq ?_
  refine W_region ?_
  refine wl_alloc z_4 ?_; intro b4 w1 hb4 hE1 hB4
  have hq4 : w.heap.size ≤ b4 := Nat.le_trans hX.size hb4
  have hl4 : Mine Non w b4 := .inr hq4
  replace hX := hX.tr hE1
  refine wl_nil ?_
  refine W_seq ?_
  refine W_seq ?_
  refine W_region ?_
  refine wl_call e_47 rfl (awake15_ok w1) ?_; intro v20 w2 hE2 hR2
  replace hX := hX.tr hE2
  replace hB4 := hB4.ext hE2 id
  subst hR2
  refine wl_val (rn_not rfl) ?_
  refine wl_nil ?_
  refine W_cond rfl (fun hc0 => ?_) (fun hc0 => ?_)
  · exact absurd hc0 (by decide)
  · refine W_skip ?_
    refine W_seq ?_
    refine W_seq ?_
    refine W_region ?_
    refine wl_val (rn_move (by conv => lhs; whnf)) ?_
    refine wl_val (rn_len sl_24 rfl) ?_
    refine wl_val (rn_gtr rfl rfl) ?_
    refine wl_val (rn_move (by conv => lhs; whnf)) ?_
    refine wl_split (d := 25) rfl (fun hg25 => ?_) (fun hg25 => ?_)
    · refine wl_no rfl (congrArg Value.bool hg25) ?_
      refine wl_no rfl (congrArg Value.bool hg25) ?_
      refine wl_no rfl (congrArg Value.bool hg25) ?_
      refine wl_no rfl (congrArg Value.bool hg25) ?_
      refine wl_no rfl (congrArg Value.bool hg25) ?_
      refine wl_val (rn_pickT (congrArg Value.bool hg25) (by conv => lhs; whnf)) ?_
      refine wl_nil ?_
      refine W_condT rfl ?_
      refine W_seq ?_
      refine W_region ?_
      refine wl_store1 (b := b4) p_4 rfl (by conv => lhs; whnf) rfl rfl hB4 (Nat.le_of_ble_eq_true rfl) ?_; intro w3 hE3 hB4 hz3
      replace hX := hX.mine hE3 hl4
      refine wl_nil ?_
      refine W_ret ?_
      exact ⟨_, resR1 (res1_cell p_4 rfl hB4), hX, rfl⟩
    · have htn : topics.length ≤ 100 := by have := of_decide_eq_false hg25; omega
      refine wl_yes rfl (congrArg Value.bool hg25) ?_
      refine wl_val (rn_move (by conv => lhs; whnf)) ?_
      refine wl_yes rfl (congrArg Value.bool hg25) ?_
      refine wl_val (rn_len sl_24 rfl) ?_
      refine wl_yes rfl (congrArg Value.bool hg25) ?_
      refine wl_val (rn_move (by conv => lhs; whnf)) ?_
      refine wl_yes rfl (congrArg Value.bool hg25) ?_
      refine wl_val (rn_len sl_24 rfl) ?_
      refine wl_yes rfl (congrArg Value.bool hg25) ?_
      refine wl_val (rn_lss rfl rfl) ?_
      refine wl_val (rn_pickF (congrArg Value.bool hg25) (by conv => lhs; whnf)) ?_
      refine wl_nil ?_
      refine W_cond rfl (fun hc1 => ?_) (fun hc1 => ?_)
      · refine W_seq ?_
        refine W_region ?_
        refine wl_store1 (b := b4) p_4 rfl (by conv => lhs; whnf) rfl rfl hB4 (Nat.le_of_ble_eq_true rfl) ?_; intro w4 hE4 hB4 hz4
        replace hX := hX.mine hE4 hl4
        refine wl_nil ?_
        refine W_ret ?_
        exact ⟨_, resR1 (res1_cell p_4 rfl hB4), hX, rfl⟩
      · have hvl : topics.length ≤ payloads.length := by have := of_decide_eq_false hc1; omega
        refine W_skip ?_
        refine W_seq ?_
        refine W_region ?_
        refine wl_alloc z_79 ?_; intro b5 w5 hb5 hE5 hB5
        have hn4_5 : b4 < b5 := Nat.lt_of_lt_of_le hB4.lt hb5
        have hq5 : w.heap.size ≤ b5 := Nat.le_trans hX.size hb5
        have hl5 : Mine Non w b5 := .inr hq5
        replace hX := hX.tr hE5
        replace hB4 := hB4.ext hE5 id
        refine wl_nil ?_
        refine W_seq ?_
        refine W_seq ?_
        refine W_region ?_
        refine wl_val (rn_assign (by conv => lhs; whnf)) ?_
        refine wl_nil ?_
        refine W_block ?_   -- block 0
        refine W_loopS (S := Nat × List Str × List (Str × Int) × Int × Value × Value) [0, 1, 4, 5, 6] (fun ⟨i, ks, ys, ver, u1, u2⟩ => [.slice a0 topics.length c0, .slice a1 payloads.length c1, .pointer (some ⟨b4, 0, none⟩), .pointer (some ⟨b5, 0, none⟩), .int .i64 (i : Nat)]) (fun ⟨i, ks, ys, ver, u1, u2⟩ A => (Ext Non w A) ∧ (IsBox A b4 [.bool false]) ∧ (IsBox A b5 [u1, u2, .int .i64 ver]) ∧ (Mine Non w b4) ∧ (Mine Non w b5) ∧ (b4 < b5) ∧ (i ≤ topics.length ∧ MapR (fun j => j = b4 ∨ j = b5) A eS1 2 u1 u2 ks (ys.map eE1) ∧ Sorted ltS ks ∧ ks.length ≤ i ∧ (∀ y ∈ ks, y.length ≤ 100) ∧ 0 ≤ ver ∧ ver ≤ i)) (fun ⟨i, ks, ys, ver, u1, u2⟩ => topics.length - i) (0, [], [], 0, .slice none 0 0, .slice none 0 0) ⟨rfl, rfl, rfl, rfl, rfl, trivial⟩ ⟨hX, hB4, hB5, hl4, hl5, hn4_5, ⟨Nat.zero_le _, MapR.nil _ _ _ _, List.Pairwise.nil, Nat.le_refl _, by simp, by decide, by decide⟩⟩ ?_
        rintro τ0 ⟨i, ks, ys, ver, u1, u2⟩ A0 ⟨hX, hB4, hB5, hl4, hl5, hn4_5, hI0⟩
        obtain ⟨hik, hp, hord, hnk, hkl, hv1, hv2⟩ := hI0
        obtain ⟨q1, n1, g1, rfl⟩ := id hp.keys.shape; obtain ⟨q2, n2, g2, rfl⟩ := id hp.vals.shape
        have hle : ys.length = ks.length := by have := hp.len; simpa using this
        have hz5 := hB5.lt; have hz4 := hB4.lt
        have hp0 := hp.sub (M' := fun j => j = b4 ∨ j = b5 ∨ A0.heap.size ≤ j) (fun j h hlt => by rcases h with h | h | h; exact .inl h; exact .inr h; omega)
        have hver : 0 ≤ ver ∧ ver ≤ 1000000 := ⟨hv1, by omega⟩
        have hzA : A0.heap.size ≤ A0.heap.size := Nat.le_refl _
        refine W_seq ?_
        refine W_seq ?_
        refine W_region ?_
        refine wl_val (rn_move (by conv => lhs; whnf)) ?_
        refine wl_val (rn_move (by conv => lhs; whnf)) ?_
        refine wl_val (rn_len sl_24 rfl) ?_
        refine wl_val (rn_lss rfl rfl) ?_
        refine wl_nil ?_
        refine W_cond rfl (fun hc2 => ?_) (fun hc2 => ?_)
        · have hlt := of_decide_eq_true hc2; simp only [Int.ofNat_lt] at hlt
          obtain ⟨t, hi⟩ : ∃ t, (topics)[i]? = some t := ⟨_, List.getElem?_eq_getElem hlt⟩
          obtain ⟨p, hj⟩ : ∃ p, payloads[i]? = some p := ⟨_, List.getElem?_eq_getElem (by omega)⟩
          obtain ⟨bb0, oo0, ea0⟩ := h0.base (by intro e; have := congrArg List.length e; simp only [List.length_map, List.length_nil] at this; omega); subst ea0
          obtain ⟨bb1, oo1, ea1⟩ := h1.base (by intro e; have := congrArg List.length e; simp only [List.length_map, List.length_nil] at this; omega); subst ea1
          refine W_skip ?_
          refine W_seq ?_
          refine W_block ?_   -- block 1
          refine W_seq ?_
          refine W_seq ?_
          refine W_region ?_
          refine wl_val (rn_move (by conv => lhs; whnf)) ?_
          refine wl_val (rn_move (by conv => lhs; whnf)) ?_
          refine wl_val (rn_indexAddr sl_24 rfl rfl (by omega)) ?_
          refine wl_val (rn_load p_9 rfl ((h0.ext hX (fun _ h => h)).at0 (eS_at hi) rfl)) ?_
          refine wl_val (rn_slen us_9 rfl) ?_
          refine wl_val (rn_gtr rfl rfl) ?_
          refine wl_val (rn_move (by conv => lhs; whnf)) ?_
          refine wl_split (d := 44) rfl (fun hg44 => ?_) (fun hg44 => ?_)
          · refine wl_no rfl (congrArg Value.bool hg44) ?_
            refine wl_no rfl (congrArg Value.bool hg44) ?_
            refine wl_no rfl (congrArg Value.bool hg44) ?_
            refine wl_no rfl (congrArg Value.bool hg44) ?_
            refine wl_no rfl (congrArg Value.bool hg44) ?_
            refine wl_no rfl (congrArg Value.bool hg44) ?_
            refine wl_val (rn_pickT (congrArg Value.bool hg44) (by conv => lhs; whnf)) ?_
            refine wl_nil ?_
            refine W_condT rfl ?_
            refine W_seq ?_
            refine W_region ?_
            have hBo := hB4
            refine wl_store1 (b := b4) p_4 rfl (by conv => lhs; whnf) rfl rfl hB4 (Nat.le_of_ble_eq_true rfl) ?_; intro w6 hE6 hB4 hz6
            replace hX := hX.mine hE6 hl4
            replace hB5 := hB5.ext hE6 (fun h => by omega)
            replace hp0 := hp0.ext hE6 (fun i e => by first | exact .inl e | exact .inr (.inl e) | exact .inr (.inr (by omega)))
            replace hzA := Nat.le_trans hzA hE6.size
            refine wl_nil ?_
            refine W_ret ?_
            exact ⟨_, resR1 (res1_cell p_4 rfl hB4), hX, rfl⟩
          · have htl : t.length ≤ 100 := by have := of_decide_eq_false hg44; omega
            refine wl_yes rfl (congrArg Value.bool hg44) ?_
            refine wl_val (rn_move (by conv => lhs; whnf)) ?_
            refine wl_yes rfl (congrArg Value.bool hg44) ?_
            refine wl_val (rn_move (by conv => lhs; whnf)) ?_
            refine wl_yes rfl (congrArg Value.bool hg44) ?_
            refine wl_val (rn_indexAddr sl_24 rfl rfl (by omega)) ?_
            refine wl_yes rfl (congrArg Value.bool hg44) ?_
            refine wl_val (rn_load p_9 rfl ((h1.ext hX (fun _ h => h)).at0 (eS_at hj) rfl)) ?_
            refine wl_yes rfl (congrArg Value.bool hg44) ?_
            refine wl_val (rn_slen us_9 rfl) ?_
            refine wl_yes rfl (congrArg Value.bool hg44) ?_
            refine wl_val (rn_gtr rfl rfl) ?_
            refine wl_val (rn_pickF (congrArg Value.bool hg44) (by conv => lhs; whnf)) ?_
            refine wl_nil ?_
            refine W_cond rfl (fun hc3 => ?_) (fun hc3 => ?_)
            · refine W_seq ?_
              refine W_region ?_
              have hBo := hB4
              refine wl_store1 (b := b4) p_4 rfl (by conv => lhs; whnf) rfl rfl hB4 (Nat.le_of_ble_eq_true rfl) ?_; intro w7 hE7 hB4 hz7
              replace hX := hX.mine hE7 hl4
              replace hB5 := hB5.ext hE7 (fun h => by omega)
              replace hp0 := hp0.ext hE7 (fun i e => by first | exact .inl e | exact .inr (.inl e) | exact .inr (.inr (by omega)))
              replace hzA := Nat.le_trans hzA hE7.size
              refine wl_nil ?_
              refine W_ret ?_
              exact ⟨_, resR1 (res1_cell p_4 rfl hB4), hX, rfl⟩
            · have hpl : p.length ≤ 100 := by have := of_decide_eq_false hc3; omega
              refine W_skip ?_
              refine W_seq ?_
              refine W_drawX (fun j => false) mixed ?_; intro w8 hE8
              replace hX := hX.tr hE8
              replace hB4 := hB4.ext hE8 id; replace hB5 := hB5.ext hE8 id
              replace hp0 := hp0.ext hE8 (fun _ h => h.elim)
              replace hzA := Nat.le_trans hzA hE8.size
              have hS := Ext.refl Non w8
              refine wx_take 0 [9, 10, 11, 12, 14, 15] _ _ rfl (by kernel_rfl) hS (yd_do fun A hA => rn_loadB s_79 rfl rfl (hB5.ext hA id)) ?_
              refine wx_take 1 [3, 4, 9, 10, 11, 12, 14, 15] _ _ rfl (by kernel_rfl) hS (yd_do fun A hA => rn_move (by conv => lhs; whnf)) ?_
              refine wx_take 2 [3, 4, 9, 10, 11, 12, 14, 15] _ _ rfl (by kernel_rfl) hS (yd_do fun A hA => rn_move (by conv => lhs; whnf)) ?_
              refine wx_take 3 [4, 9, 10, 11, 12, 14, 15] _ _ rfl (by kernel_rfl) hS (yd_do fun A hA => rn_indexAddr sl_24 rfl rfl (by omega)) ?_
              refine wx_take 4 [9, 10, 11, 12, 14, 15] _ _ rfl (by kernel_rfl) hS (yd_do fun A hA => rn_load p_9 rfl (((h0.ext hX (fun _ h => h)).ext hA (fun _ h => h.elim)).at0 (eS_at hi) rfl)) ?_
              refine wx_take 5 [7, 8, 9, 10, 11, 12, 14, 15] _ _ rfl (by kernel_rfl) hS (yd_do fun A hA => rn_move (by conv => lhs; whnf)) ?_
              refine wx_take 6 [7, 8, 9, 10, 11, 12, 14, 15] _ _ rfl (by kernel_rfl) hS (yd_do fun A hA => rn_move (by conv => lhs; whnf)) ?_
              refine wx_take 7 [8, 9, 10, 11, 12, 14, 15] _ _ rfl (by kernel_rfl) hS (yd_do fun A hA => rn_indexAddr sl_24 rfl rfl (by omega)) ?_
              refine wx_take 8 [9, 10, 11, 12, 14, 15] _ _ rfl (by kernel_rfl) hS (yd_do fun A hA => rn_load p_9 rfl (((h1.ext hX (fun _ h => h)).ext hA (fun _ h => h.elim)).at0 (eS_at hj) rfl)) ?_
              obtain ⟨nc, hnc⟩ : ∃ n, n = w8.heap.size := ⟨_, rfl⟩
              try have hz7 := hB7.lt
              refine wx_two 9 13 _ _ rfl rfl (by kernel_rfl) ?_ ?_
              · refine s1_do ?_
                refine wl_call e_48 rfl (kput_ok w8 ks ys ver (fun j => j = b4 ∨ j = b5 ∨ (A0.heap.size ≤ j ∧ j < nc)) (fun j h => by have := hB5.lt; have := hB4.lt; have := hS.size; rcases h with h | h | h <;> omega) ((hp0.ext hS (fun _ h => h.elim)).sub (fun j h _ => by rcases h with h | h | h; exact .inl h; exact .inr (.inl h); exact .inr (.inr h.1))) hord (by omega) t p (by omega) (by omega) hver) ?_; intro v62 w9 hE9 hR9
                replace hS := hS.tr hE9
                obtain ⟨x1, x2, hu62, hm62⟩ := hR9
                replace hm62 := hm62.sub (M' := fun j => j = b4 ∨ j = b5 ∨ (A0.heap.size ≤ j ∧ j < nc) ∨ w9.heap.size ≤ j) (fun j h hlt => by rcases h with h | h | h | h; exact .inl h; exact .inr (.inl h); exact .inr (.inr h); omega)
                obtain ⟨e1, l1, g1, hx1⟩ := id hm62.keys.shape; obtain ⟨e2, l2, g2, hx2⟩ := id hm62.vals.shape; subst hx1; subst hx2; subst hu62
                refine wl_nil ⟨fun _ => hS, ?_⟩
                refine wx_take 10 [11, 12, 14, 15] _ _ rfl (by kernel_rfl) hS (yd_do fun A hA => rn_move (by conv => lhs; whnf)) ?_
                refine wx_take 11 [14, 15] _ _ rfl (by kernel_rfl) hS (yd_do fun A hA => rn_extract rfl rfl) ?_
                refine wx_take 12 [15] _ _ rfl (by kernel_rfl) hS (yd_do fun A hA => rn_extract rfl rfl) ?_
                refine wx_only 13 _ rfl (by kernel_rfl) ?_
                refine s1_do ?_
                refine wl_alloc z_79 ?_; intro b7 w10 hb7 hE10 hB7
                have hn4_7 : b4 < b7 := Nat.lt_of_lt_of_le (Nat.lt_of_lt_of_le hB4.lt hS.size) hb7
                have hn5_7 : b5 < b7 := Nat.lt_of_lt_of_le (Nat.lt_of_lt_of_le hB5.lt hS.size) hb7
                have hq7 : w.heap.size ≤ b7 := Nat.le_trans (hX.tr hS).size hb7
                have hl7 : Mine Non w b7 := .inr hq7
                have hm7 : w8.heap.size ≤ b7 := Nat.le_trans hS.size hb7
                replace hS := hS.tr hE10
                replace hm62 := hm62.ext hE10 (fun _ h => h.elim)
                refine wl_nil ⟨fun _ => hS, ?_⟩
                refine wx_only 14 _ rfl (by kernel_rfl) ?_
                refine s1_do ?_
                refine wl_storeB s_79 rfl rfl rfl (three1 rfl rfl rfl) hB7 rfl ?_; intro w11 hE11 hB7 hz11
                replace hS := hS.mine hE11 (.inr (by omega))
                replace hm62 := hm62.ext hE11 (fun i e => by first | exact .inl e | exact .inr (.inl e) | exact .inr (.inr (.inl ⟨by omega, by omega⟩)) | exact .inr (.inr (.inr (by omega))))
                refine wl_nil ⟨fun _ => hS, ?_⟩
                refine wx_take 15 [] _ _ rfl (by kernel_rfl) hS (yd_do fun A hA => rn_assign (by conv => lhs; whnf)) ?_
                refine wx_done (by kernel_rfl) ?_ _
                replace hX := hX.tr hS
                replace hB4 := hB4.ext hS id; replace hB5 := hB5.ext hS id
                replace hp0 := hp0.ext hS (fun _ h => h.elim)
                replace hzA := Nat.le_trans hzA hS.size
                refine W_seq ?_
                refine W_seq ?_
                refine W_region ?_
                refine wl_val (rn_move (by conv => lhs; whnf)) ?_
                refine wl_val (rn_neq rfl rfl) ?_
                refine wl_nil ?_
                refine W_cond rfl (fun hc4 => ?_) (fun hc4 => ?_)
                · refine W_exit ?_   -- exit 1
                  refine W_region ?_
                  refine wl_val (rn_move (by conv => lhs; whnf)) ?_
                  refine wl_val (rn_add rfl rfl (by omega)) ?_
                  refine wl_val (rn_assign (by conv => lhs; whnf)) ?_
                  refine wl_nil ?_
                  exact ⟨rfl, (i + 1, ks, ys, ver, _, _), ⟨rfl, rfl, rfl, rfl, rfl, trivial⟩, ⟨hX, hB4, hB5, hl4, hl5, hn4_5, ⟨hlt, hp0.sub (fun j h _ => h.elim .inl (fun e => .inr (.inl e))), hord, by omega, hkl, hv1, by omega⟩⟩, by show topics.length - (i + 1) < topics.length - i; omega⟩
                · have he0 : kErr t p = 0 := by have := of_decide_eq_false hc4; simpa using this
                  rw [if_pos he0, if_pos he0] at hm62; rw [if_pos he0] at hB7
                  refine W_skip ?_
                  refine W_seq ?_
                  refine W_region ?_
                  refine wl_val (rn_loadB s_79 rfl rfl hB7) ?_
                  have hBo := hB5
                  refine wl_storeB s_79 rfl rfl rfl (three1 rfl rfl rfl) hB5 rfl ?_; intro w12 hE12 hB5 hz12
                  replace hX := hX.mine hE12 hl5
                  replace hB4 := hB4.ext hE12 (fun h => by omega); replace hB7 := hB7.ext hE12 (fun h => by omega)
                  replace hp0 := hp0.ext hE12 (fun i e => by first | exact .inl e | exact .inr (.inl e) | exact .inr (.inr (by omega)))
                  replace hzA := Nat.le_trans hzA hE12.size
                  replace hm62 := hm62.ext hE12 (fun i e => by first | exact .inl e | exact .inr (.inl e) | exact .inr (.inr (.inl ⟨by omega, by omega⟩)) | exact .inr (.inr (.inr (by omega))))
                  refine wl_nil ?_
                  refine W_seq ?_
                  refine W_drawE mixed ?_; intro w13 hE13
                  replace hX := hX.tr hE13
                  replace hB4 := hB4.ext hE13 id; replace hB5 := hB5.ext hE13 id; replace hB7 := hB7.ext hE13 id
                  replace hp0 := hp0.ext hE13 (fun _ h => h.elim)
                  replace hzA := Nat.le_trans hzA hE13.size
                  replace hm62 := hm62.ext hE13 (fun _ h => h.elim)
                  have hS := Ext.refl Non w13
                  refine wd_take 0 _ _ rfl (by kernel_rfl) hS (yd_do fun A hA => rn_loadB s_79 rfl rfl (hB5.ext hA id)) ?_
                  refine wd_take 1 _ _ rfl (by kernel_rfl) hS (yd_do fun A hA => rn_move (by conv => lhs; whnf)) ?_
                  refine wd_take 2 _ _ rfl (by kernel_rfl) hS (yd_do fun A hA => rn_move (by conv => lhs; whnf)) ?_
                  refine wd_take 3 _ _ rfl (by kernel_rfl) hS (yd_do fun A hA => rn_indexAddr sl_24 rfl rfl (by omega)) ?_
                  refine wd_take 4 _ _ rfl (by kernel_rfl) hS (yd_do fun A hA => rn_load p_9 rfl (((h0.ext hX (fun _ h => h)).ext hA (fun _ h => h.elim)).at0 (eS_at hi) rfl)) ?_
                  refine wd_only 5 _ rfl (by kernel_rfl) ?_
                  refine s1_do ?_
                  refine wl_call e_51 rfl (kget_ok w13 (kK ks t p) (kY ks ys ver t p) (ver + 1) ((hm62.ext hS (fun _ h => h.elim)).sub (fun _ h _ => h.elim)) (kK_sorted hord t p) (by have := kK_len ks t p; omega) t) ?_; intro v74 w14 hE14 hR14
                  replace hS := hS.tr hE14
                  subst hR14
                  refine wl_nil ⟨hS, ?_⟩
                  refine wd_take 6 _ _ rfl (by kernel_rfl) hS (yd_do fun A hA => rn_move (by conv => lhs; whnf)) ?_
                  refine wd_take 7 _ _ rfl (by kernel_rfl) hS (yd_do fun A hA => rn_extract rfl rfl) ?_
                  refine wd_take 8 _ _ rfl (by kernel_rfl) hS (yd_do fun A hA => rn_extract rfl rfl) ?_
                  refine wd_take 9 _ _ rfl (by kernel_rfl) hS (yd_do fun A hA => rn_extract rfl rfl) ?_
                  refine wd_take 10 _ _ rfl (by kernel_rfl) hS (yd_do fun A hA => rn_assign (by conv => lhs; whnf)) ?_
                  refine wd_take 11 _ _ rfl (by kernel_rfl) hS (yd_do fun A hA => rn_assign (by conv => lhs; whnf)) ?_
                  refine wd_take 12 _ _ rfl (by kernel_rfl) hS (yd_do fun A hA => rn_assign (by conv => lhs; whnf)) ?_
                  refine wd_done (by kernel_rfl) ?_ _
                  replace hX := hX.tr hS
                  replace hB4 := hB4.ext hS id; replace hB5 := hB5.ext hS id; replace hB7 := hB7.ext hS id
                  replace hp0 := hp0.ext hS (fun _ h => h.elim)
                  replace hzA := Nat.le_trans hzA hS.size
                  replace hm62 := hm62.ext hS (fun _ h => h.elim)
                  refine W_seq ?_
                  refine W_region ?_
                  refine wl_val (rn_move (by conv => lhs; whnf)) ?_
                  refine wl_val (rn_move (by conv => lhs; whnf)) ?_
                  refine wl_val (rn_move (by conv => lhs; whnf)) ?_
                  refine wl_val (rn_indexAddr sl_24 rfl rfl (by omega)) ?_
                  refine wl_val (rn_load p_9 rfl ((h1.ext hX (fun _ h => h)).at0 (eS_at hj) rfl)) ?_
                  refine wl_val (rn_sneq rfl rfl) ?_
                  refine wl_val (rn_bneq ub_4 rfl rfl) ?_
                  refine wl_val (rn_move (by conv => lhs; whnf)) ?_
                  refine wl_split (d := 85) rfl (fun hg85 => ?_) (fun hg85 => ?_)
                  · exact absurd (of_decide_eq_true hg85) (by rw [kK_at hord]; simp)
                  · refine wl_yes rfl (congrArg Value.bool hg85) ?_
                    refine wl_val (rn_move (by conv => lhs; whnf)) ?_
                    refine wl_yes rfl (congrArg Value.bool hg85) ?_
                    refine wl_val (rn_move (by conv => lhs; whnf)) ?_
                    refine wl_yes rfl (congrArg Value.bool hg85) ?_
                    refine wl_val (rn_move (by conv => lhs; whnf)) ?_
                    refine wl_yes rfl (congrArg Value.bool hg85) ?_
                    refine wl_val (rn_indexAddr sl_24 rfl rfl (by omega)) ?_
                    refine wl_yes rfl (congrArg Value.bool hg85) ?_
                    refine wl_val (rn_load p_9 rfl ((h1.ext hX (fun _ h => h)).at0 (eS_at hj) rfl)) ?_
                    refine wl_yes rfl (congrArg Value.bool hg85) ?_
                    refine wl_val (rn_sneq rfl rfl) ?_
                    refine wl_val (rn_pickF (congrArg Value.bool hg85) (by conv => lhs; whnf)) ?_
                    refine wl_val (rn_move (by conv => lhs; whnf)) ?_
                    refine wl_split (d := 93) rfl (fun hg93 => ?_) (fun hg93 => ?_)
                    · exact absurd (of_decide_eq_true hg93) (by rw [(kGet_k hord hle ver t p).1]; simp)
                    · refine wl_yes rfl (congrArg Value.bool hg93) ?_
                      refine wl_val (rn_move (by conv => lhs; whnf)) ?_
                      refine wl_yes rfl (congrArg Value.bool hg93) ?_
                      refine wl_val (rn_move (by conv => lhs; whnf)) ?_
                      refine wl_split (d := 95) rfl (fun hg95 => ?_) (fun hg95 => ?_)
                      · refine wl_yes rfl (congrArg Value.bool hg95) ?_
                        refine wl_val (rn_move (by conv => lhs; whnf)) ?_
                        refine wl_yes rfl (congrArg Value.bool hg95) ?_
                        refine wl_val (rn_loadB s_79 rfl rfl hB5) ?_
                        refine wl_yes rfl (congrArg Value.bool hg95) ?_
                        refine wl_call e_54 rfl (kver_ok w14 (.slice e1 l1 g1) (.slice e2 l2 g2) (ver + 1)) ?_; intro v98 w15 hE15 hR15
                        replace hX := hX.tr hE15
                        replace hB4 := hB4.ext hE15 id; replace hB5 := hB5.ext hE15 id; replace hB7 := hB7.ext hE15 id
                        replace hp0 := hp0.ext hE15 (fun _ h => h.elim)
                        replace hzA := Nat.le_trans hzA hE15.size
                        replace hm62 := hm62.ext hE15 (fun _ h => h.elim)
                        subst hR15
                        refine wl_yes rfl (congrArg Value.bool hg95) ?_
                        refine wl_val (rn_neq rfl rfl) ?_
                        refine wl_yes rfl (congrArg Value.bool hg93) ?_
                        refine wl_val (rn_pickT (congrArg Value.bool hg95) (by conv => lhs; whnf)) ?_
                        refine wl_val (rn_pickF (congrArg Value.bool hg93) (by conv => lhs; whnf)) ?_
                        refine wl_nil ?_
                        refine W_cond rfl (fun hc5 => ?_) (fun hc5 => ?_)
                        · exact absurd (of_decide_eq_true hc5) (by rw [(kGet_k hord hle ver t p).2 (by have := hg95; rw [kK_at hord] at this; simpa using this)]; simp)
                        · refine W_skip ?_
                          refine W_region ?_
                          refine wl_val (rn_move (by conv => lhs; whnf)) ?_
                          refine wl_val (rn_add rfl rfl (by omega)) ?_
                          refine wl_val (rn_assign (by conv => lhs; whnf)) ?_
                          refine wl_nil ?_
                          exact ⟨rfl, (i + 1, kK ks t p, kY ks ys ver t p, ver + 1, _, _), ⟨rfl, rfl, rfl, rfl, rfl, trivial⟩, ⟨hX, hB4, hB5, hl4, hl5, hn4_5, ⟨hlt, hm62.sub (fun j h _ => h.elim .inl (fun e => .inr (.inl e))), kK_sorted hord t p, by have := kK_len ks t p; omega, fun y hy => by rcases kK_mem hord t p hy with h | h; rw [h]; exact htl; exact hkl y h, by omega, by omega⟩⟩, by show topics.length - (i + 1) < topics.length - i; omega⟩
                      · refine wl_no rfl (congrArg Value.bool hg95) ?_
                        refine wl_no rfl (congrArg Value.bool hg95) ?_
                        refine wl_no rfl (congrArg Value.bool hg95) ?_
                        refine wl_no rfl (congrArg Value.bool hg95) ?_
                        refine wl_yes rfl (congrArg Value.bool hg93) ?_
                        refine wl_val (rn_pickF (congrArg Value.bool hg95) (by conv => lhs; whnf)) ?_
                        refine wl_val (rn_pickF (congrArg Value.bool hg93) (by conv => lhs; whnf)) ?_
                        refine wl_nil ?_
                        refine W_condF rfl ?_
                        refine W_skip ?_
                        refine W_region ?_
                        refine wl_val (rn_move (by conv => lhs; whnf)) ?_
                        refine wl_val (rn_add rfl rfl (by omega)) ?_
                        refine wl_val (rn_assign (by conv => lhs; whnf)) ?_
                        refine wl_nil ?_
                        exact ⟨rfl, (i + 1, kK ks t p, kY ks ys ver t p, ver + 1, _, _), ⟨rfl, rfl, rfl, rfl, rfl, trivial⟩, ⟨hX, hB4, hB5, hl4, hl5, hn4_5, ⟨hlt, hm62.sub (fun j h _ => h.elim .inl (fun e => .inr (.inl e))), kK_sorted hord t p, by have := kK_len ks t p; omega, fun y hy => by rcases kK_mem hord t p hy with h | h; rw [h]; exact htl; exact hkl y h, by omega, by omega⟩⟩, by show topics.length - (i + 1) < topics.length - i; omega⟩
              · refine s1_do ?_
                refine wl_alloc z_79 ?_; intro b7 w16 hb7 hE16 hB7
                have hn4_7 : b4 < b7 := Nat.lt_of_lt_of_le (Nat.lt_of_lt_of_le hB4.lt hS.size) hb7
                have hn5_7 : b5 < b7 := Nat.lt_of_lt_of_le (Nat.lt_of_lt_of_le hB5.lt hS.size) hb7
                have hq7 : w.heap.size ≤ b7 := Nat.le_trans (hX.tr hS).size hb7
                have hl7 : Mine Non w b7 := .inr hq7
                have hm7 : w8.heap.size ≤ b7 := Nat.le_trans hS.size hb7
                replace hS := hS.tr hE16
                refine wl_nil ⟨fun _ => hS, ?_⟩
                obtain ⟨nc, hnc⟩ : ∃ n, n = w16.heap.size := ⟨_, rfl⟩
                try have hz7 := hB7.lt
                refine wx_only 9 _ rfl (by kernel_rfl) ?_
                refine s1_do ?_
                refine wl_call e_48 rfl (kput_ok w16 ks ys ver (fun j => j = b4 ∨ j = b5 ∨ (A0.heap.size ≤ j ∧ j < nc)) (fun j h => by have := hB5.lt; have := hB4.lt; have := hS.size; rcases h with h | h | h <;> omega) ((hp0.ext hS (fun _ h => h.elim)).sub (fun j h _ => by rcases h with h | h | h; exact .inl h; exact .inr (.inl h); exact .inr (.inr h.1))) hord (by omega) t p (by omega) (by omega) hver) ?_; intro v62 w17 hE17 hR17
                replace hB7 := hB7.ext hE17 id
                replace hS := hS.tr hE17
                obtain ⟨x1, x2, hu62, hm62⟩ := hR17
                replace hm62 := hm62.sub (M' := fun j => j = b4 ∨ j = b5 ∨ (A0.heap.size ≤ j ∧ j < nc) ∨ w17.heap.size ≤ j) (fun j h hlt => by rcases h with h | h | h | h; exact .inl h; exact .inr (.inl h); exact .inr (.inr h); omega)
                obtain ⟨e1, l1, g1, hx1⟩ := id hm62.keys.shape; obtain ⟨e2, l2, g2, hx2⟩ := id hm62.vals.shape; subst hx1; subst hx2; subst hu62
                refine wl_nil ⟨fun _ => hS, ?_⟩
                refine wx_take 10 [11, 12, 14, 15] _ _ rfl (by kernel_rfl) hS (yd_do fun A hA => rn_move (by conv => lhs; whnf)) ?_
                refine wx_take 11 [14, 15] _ _ rfl (by kernel_rfl) hS (yd_do fun A hA => rn_extract rfl rfl) ?_
                refine wx_take 12 [15] _ _ rfl (by kernel_rfl) hS (yd_do fun A hA => rn_extract rfl rfl) ?_
                refine wx_only 14 _ rfl (by kernel_rfl) ?_
                refine s1_do ?_
                refine wl_storeB s_79 rfl rfl rfl (three1 rfl rfl rfl) hB7 rfl ?_; intro w18 hE18 hB7 hz18
                replace hS := hS.mine hE18 (.inr (by omega))
                replace hm62 := hm62.ext hE18 (fun i e => by first | exact .inl e | exact .inr (.inl e) | exact .inr (.inr (.inl ⟨by omega, by omega⟩)) | exact .inr (.inr (.inr (by omega))))
                refine wl_nil ⟨fun _ => hS, ?_⟩
                refine wx_take 15 [] _ _ rfl (by kernel_rfl) hS (yd_do fun A hA => rn_assign (by conv => lhs; whnf)) ?_
                refine wx_done (by kernel_rfl) ?_ _
                replace hX := hX.tr hS
                replace hB4 := hB4.ext hS id; replace hB5 := hB5.ext hS id
                replace hp0 := hp0.ext hS (fun _ h => h.elim)
                replace hzA := Nat.le_trans hzA hS.size
                refine W_seq ?_
                refine W_seq ?_
                refine W_region ?_
                refine wl_val (rn_move (by conv => lhs; whnf)) ?_
                refine wl_val (rn_neq rfl rfl) ?_
                refine wl_nil ?_
                refine W_cond rfl (fun hc4 => ?_) (fun hc4 => ?_)
                · refine W_exit ?_   -- exit 1
                  refine W_region ?_
                  refine wl_val (rn_move (by conv => lhs; whnf)) ?_
                  refine wl_val (rn_add rfl rfl (by omega)) ?_
                  refine wl_val (rn_assign (by conv => lhs; whnf)) ?_
                  refine wl_nil ?_
                  exact ⟨rfl, (i + 1, ks, ys, ver, _, _), ⟨rfl, rfl, rfl, rfl, rfl, trivial⟩, ⟨hX, hB4, hB5, hl4, hl5, hn4_5, ⟨hlt, hp0.sub (fun j h _ => h.elim .inl (fun e => .inr (.inl e))), hord, by omega, hkl, hv1, by omega⟩⟩, by show topics.length - (i + 1) < topics.length - i; omega⟩
                · have he0 : kErr t p = 0 := by have := of_decide_eq_false hc4; simpa using this
                  rw [if_pos he0, if_pos he0] at hm62; rw [if_pos he0] at hB7
                  refine W_skip ?_
                  refine W_seq ?_
                  refine W_region ?_
                  refine wl_val (rn_loadB s_79 rfl rfl hB7) ?_
                  have hBo := hB5
                  refine wl_storeB s_79 rfl rfl rfl (three1 rfl rfl rfl) hB5 rfl ?_; intro w19 hE19 hB5 hz19
                  replace hX := hX.mine hE19 hl5
                  replace hB4 := hB4.ext hE19 (fun h => by omega); replace hB7 := hB7.ext hE19 (fun h => by omega)
                  replace hp0 := hp0.ext hE19 (fun i e => by first | exact .inl e | exact .inr (.inl e) | exact .inr (.inr (by omega)))
                  replace hzA := Nat.le_trans hzA hE19.size
                  replace hm62 := hm62.ext hE19 (fun i e => by first | exact .inl e | exact .inr (.inl e) | exact .inr (.inr (.inl ⟨by omega, by omega⟩)) | exact .inr (.inr (.inr (by omega))))
                  refine wl_nil ?_
                  refine W_seq ?_
                  refine W_drawE mixed ?_; intro w20 hE20
                  replace hX := hX.tr hE20
                  replace hB4 := hB4.ext hE20 id; replace hB5 := hB5.ext hE20 id; replace hB7 := hB7.ext hE20 id
                  replace hp0 := hp0.ext hE20 (fun _ h => h.elim)
                  replace hzA := Nat.le_trans hzA hE20.size
                  replace hm62 := hm62.ext hE20 (fun _ h => h.elim)
                  have hS := Ext.refl Non w20
                  refine wd_take 0 _ _ rfl (by kernel_rfl) hS (yd_do fun A hA => rn_loadB s_79 rfl rfl (hB5.ext hA id)) ?_
                  refine wd_take 1 _ _ rfl (by kernel_rfl) hS (yd_do fun A hA => rn_move (by conv => lhs; whnf)) ?_
                  refine wd_take 2 _ _ rfl (by kernel_rfl) hS (yd_do fun A hA => rn_move (by conv => lhs; whnf)) ?_
                  refine wd_take 3 _ _ rfl (by kernel_rfl) hS (yd_do fun A hA => rn_indexAddr sl_24 rfl rfl (by omega)) ?_
                  refine wd_take 4 _ _ rfl (by kernel_rfl) hS (yd_do fun A hA => rn_load p_9 rfl (((h0.ext hX (fun _ h => h)).ext hA (fun _ h => h.elim)).at0 (eS_at hi) rfl)) ?_
                  refine wd_only 5 _ rfl (by kernel_rfl) ?_
                  refine s1_do ?_
                  refine wl_call e_51 rfl (kget_ok w20 (kK ks t p) (kY ks ys ver t p) (ver + 1) ((hm62.ext hS (fun _ h => h.elim)).sub (fun _ h _ => h.elim)) (kK_sorted hord t p) (by have := kK_len ks t p; omega) t) ?_; intro v74 w21 hE21 hR21
                  replace hS := hS.tr hE21
                  subst hR21
                  refine wl_nil ⟨hS, ?_⟩
                  refine wd_take 6 _ _ rfl (by kernel_rfl) hS (yd_do fun A hA => rn_move (by conv => lhs; whnf)) ?_
                  refine wd_take 7 _ _ rfl (by kernel_rfl) hS (yd_do fun A hA => rn_extract rfl rfl) ?_
                  refine wd_take 8 _ _ rfl (by kernel_rfl) hS (yd_do fun A hA => rn_extract rfl rfl) ?_
                  refine wd_take 9 _ _ rfl (by kernel_rfl) hS (yd_do fun A hA => rn_extract rfl rfl) ?_
                  refine wd_take 10 _ _ rfl (by kernel_rfl) hS (yd_do fun A hA => rn_assign (by conv => lhs; whnf)) ?_
                  refine wd_take 11 _ _ rfl (by kernel_rfl) hS (yd_do fun A hA => rn_assign (by conv => lhs; whnf)) ?_
                  refine wd_take 12 _ _ rfl (by kernel_rfl) hS (yd_do fun A hA => rn_assign (by conv => lhs; whnf)) ?_
                  refine wd_done (by kernel_rfl) ?_ _
                  replace hX := hX.tr hS
                  replace hB4 := hB4.ext hS id; replace hB5 := hB5.ext hS id; replace hB7 := hB7.ext hS id
                  replace hp0 := hp0.ext hS (fun _ h => h.elim)
                  replace hzA := Nat.le_trans hzA hS.size
                  replace hm62 := hm62.ext hS (fun _ h => h.elim)
                  refine W_seq ?_
                  refine W_region ?_
                  refine wl_val (rn_move (by conv => lhs; whnf)) ?_
                  refine wl_val (rn_move (by conv => lhs; whnf)) ?_
                  refine wl_val (rn_move (by conv => lhs; whnf)) ?_
                  refine wl_val (rn_indexAddr sl_24 rfl rfl (by omega)) ?_
                  refine wl_val (rn_load p_9 rfl ((h1.ext hX (fun _ h => h)).at0 (eS_at hj) rfl)) ?_
                  refine wl_val (rn_sneq rfl rfl) ?_
                  refine wl_val (rn_bneq ub_4 rfl rfl) ?_
                  refine wl_val (rn_move (by conv => lhs; whnf)) ?_
                  refine wl_split (d := 85) rfl (fun hg85 => ?_) (fun hg85 => ?_)
                  · exact absurd (of_decide_eq_true hg85) (by rw [kK_at hord]; simp)
                  · refine wl_yes rfl (congrArg Value.bool hg85) ?_
                    refine wl_val (rn_move (by conv => lhs; whnf)) ?_
                    refine wl_yes rfl (congrArg Value.bool hg85) ?_
                    refine wl_val (rn_move (by conv => lhs; whnf)) ?_
                    refine wl_yes rfl (congrArg Value.bool hg85) ?_
                    refine wl_val (rn_move (by conv => lhs; whnf)) ?_
                    refine wl_yes rfl (congrArg Value.bool hg85) ?_
                    refine wl_val (rn_indexAddr sl_24 rfl rfl (by omega)) ?_
                    refine wl_yes rfl (congrArg Value.bool hg85) ?_
                    refine wl_val (rn_load p_9 rfl ((h1.ext hX (fun _ h => h)).at0 (eS_at hj) rfl)) ?_
                    refine wl_yes rfl (congrArg Value.bool hg85) ?_
                    refine wl_val (rn_sneq rfl rfl) ?_
                    refine wl_val (rn_pickF (congrArg Value.bool hg85) (by conv => lhs; whnf)) ?_
                    refine wl_val (rn_move (by conv => lhs; whnf)) ?_
                    refine wl_split (d := 93) rfl (fun hg93 => ?_) (fun hg93 => ?_)
                    · exact absurd (of_decide_eq_true hg93) (by rw [(kGet_k hord hle ver t p).1]; simp)
                    · refine wl_yes rfl (congrArg Value.bool hg93) ?_
                      refine wl_val (rn_move (by conv => lhs; whnf)) ?_
                      refine wl_yes rfl (congrArg Value.bool hg93) ?_
                      refine wl_val (rn_move (by conv => lhs; whnf)) ?_
                      refine wl_split (d := 95) rfl (fun hg95 => ?_) (fun hg95 => ?_)
                      · refine wl_yes rfl (congrArg Value.bool hg95) ?_
                        refine wl_val (rn_move (by conv => lhs; whnf)) ?_
                        refine wl_yes rfl (congrArg Value.bool hg95) ?_
                        refine wl_val (rn_loadB s_79 rfl rfl hB5) ?_
                        refine wl_yes rfl (congrArg Value.bool hg95) ?_
                        refine wl_call e_54 rfl (kver_ok w21 (.slice e1 l1 g1) (.slice e2 l2 g2) (ver + 1)) ?_; intro v98 w22 hE22 hR22
                        replace hX := hX.tr hE22
                        replace hB4 := hB4.ext hE22 id; replace hB5 := hB5.ext hE22 id; replace hB7 := hB7.ext hE22 id
                        replace hp0 := hp0.ext hE22 (fun _ h => h.elim)
                        replace hzA := Nat.le_trans hzA hE22.size
                        replace hm62 := hm62.ext hE22 (fun _ h => h.elim)
                        subst hR22
                        refine wl_yes rfl (congrArg Value.bool hg95) ?_
                        refine wl_val (rn_neq rfl rfl) ?_
                        refine wl_yes rfl (congrArg Value.bool hg93) ?_
                        refine wl_val (rn_pickT (congrArg Value.bool hg95) (by conv => lhs; whnf)) ?_
                        refine wl_val (rn_pickF (congrArg Value.bool hg93) (by conv => lhs; whnf)) ?_
                        refine wl_nil ?_
                        refine W_cond rfl (fun hc5 => ?_) (fun hc5 => ?_)
                        · exact absurd (of_decide_eq_true hc5) (by rw [(kGet_k hord hle ver t p).2 (by have := hg95; rw [kK_at hord] at this; simpa using this)]; simp)
                        · refine W_skip ?_
                          refine W_region ?_
                          refine wl_val (rn_move (by conv => lhs; whnf)) ?_
                          refine wl_val (rn_add rfl rfl (by omega)) ?_
                          refine wl_val (rn_assign (by conv => lhs; whnf)) ?_
                          refine wl_nil ?_
                          exact ⟨rfl, (i + 1, kK ks t p, kY ks ys ver t p, ver + 1, _, _), ⟨rfl, rfl, rfl, rfl, rfl, trivial⟩, ⟨hX, hB4, hB5, hl4, hl5, hn4_5, ⟨hlt, hm62.sub (fun j h _ => h.elim .inl (fun e => .inr (.inl e))), kK_sorted hord t p, by have := kK_len ks t p; omega, fun y hy => by rcases kK_mem hord t p hy with h | h; rw [h]; exact htl; exact hkl y h, by omega, by omega⟩⟩, by show topics.length - (i + 1) < topics.length - i; omega⟩
                      · refine wl_no rfl (congrArg Value.bool hg95) ?_
                        refine wl_no rfl (congrArg Value.bool hg95) ?_
                        refine wl_no rfl (congrArg Value.bool hg95) ?_
                        refine wl_no rfl (congrArg Value.bool hg95) ?_
                        refine wl_yes rfl (congrArg Value.bool hg93) ?_
                        refine wl_val (rn_pickF (congrArg Value.bool hg95) (by conv => lhs; whnf)) ?_
                        refine wl_val (rn_pickF (congrArg Value.bool hg93) (by conv => lhs; whnf)) ?_
                        refine wl_nil ?_
                        refine W_condF rfl ?_
                        refine W_skip ?_
                        refine W_region ?_
                        refine wl_val (rn_move (by conv => lhs; whnf)) ?_
                        refine wl_val (rn_add rfl rfl (by omega)) ?_
                        refine wl_val (rn_assign (by conv => lhs; whnf)) ?_
                        refine wl_nil ?_
                        exact ⟨rfl, (i + 1, kK ks t p, kY ks ys ver t p, ver + 1, _, _), ⟨rfl, rfl, rfl, rfl, rfl, trivial⟩, ⟨hX, hB4, hB5, hl4, hl5, hn4_5, ⟨hlt, hm62.sub (fun j h _ => h.elim .inl (fun e => .inr (.inl e))), kK_sorted hord t p, by have := kK_len ks t p; omega, fun y hy => by rcases kK_mem hord t p hy with h | h; rw [h]; exact htl; exact hkl y h, by omega, by omega⟩⟩, by show topics.length - (i + 1) < topics.length - i; omega⟩
        · refine W_exit ?_   -- exit 0
          refine W_seq ?_
          refine W_region ?_
          refine wl_alloc z_86 ?_; intro b12 w23 hb12 hE23 hB12
          have hn4_12 : b4 < b12 := Nat.lt_of_lt_of_le hB4.lt hb12
          have hn5_12 : b5 < b12 := Nat.lt_of_lt_of_le hB5.lt hb12
          have hq12 : w.heap.size ≤ b12 := Nat.le_trans hX.size hb12
          have hl12 : Mine Non w b12 := .inr hq12
          replace hX := hX.tr hE23
          replace hB4 := hB4.ext hE23 id; replace hB5 := hB5.ext hE23 id
          replace hp0 := hp0.ext hE23 (fun _ h => h.elim)
          replace hzA := Nat.le_trans hzA hE23.size
          refine wl_nil ?_
          refine W_seq ?_
          refine W_region ?_
          have hz12a := hb12
          refine wl_val (rn_loadB s_79 rfl rfl hB5) ?_
          refine wl_call e_57 rfl (kall_ok w23 ks ys ver (fun i => i = b12) (fun i e => by rw [e]; exact hB12.lt) (hp0.sub (fun j e _ => .inr (.inr (by omega)))) (by omega) (fun z hz => by have := hkl z hz; omega)) ?_; intro v103 w24 hE24 hR24
          replace hX := hX.tr hE24
          replace hB4 := hB4.ext hE24 id; replace hB5 := hB5.ext hE24 id; replace hB12 := hB12.ext hE24 id
          replace hp0 := hp0.ext hE24 (fun _ h => h.elim)
          replace hzA := Nat.le_trans hzA hE24.size
          have hIt := hR24; obtain ⟨Z, hZ⟩ : ∃ Z, Z = ks.zip ys := ⟨_, rfl⟩
          rw [filter_tt, ← hZ] at hIt
          obtain ⟨fk, ck, hfk, _⟩ := id hIt; subst hfk
          have hZl : Z.length = ks.length := by rw [hZ, List.length_zip]; omega
          have hZa : ∀ (i : Nat) x, Z[i]? = some x → ks[i]? = some x.1 ∧ ys[i]? = some x.2 := fun i x h => zip_get (by rw [← hZ]; exact h)
          obtain ⟨wz, hwz⟩ : ∃ x, x = w24 := ⟨_, rfl⟩
          have hpz : MapR (fun j => j = b12 ∨ j = b4) wz eS1 2 (.slice q1 n1 g1) (.slice q2 n2 g2) ks (ys.map eE1) := by rw [hwz]; exact hp0.sub (fun j e _ => e.elim (fun h => .inr (.inr (by omega))) .inl)
          have hW : Ext (fun i => i = b12) wz w24 := by rw [hwz]; exact Ext.refl _ _
          rw [← hwz] at hIt
          have hz12 : b12 < wz.heap.size := by rw [hwz]; exact hB12.lt
          have hz4z : b4 < wz.heap.size := by rw [hwz]; exact hB4.lt
          have hz5z : b5 < wz.heap.size := by rw [hwz]; exact hB5.lt
          refine wl_val (rn_assign (by conv => lhs; whnf)) ?_
          refine wl_nil ?_
          refine W_seq ?_
          refine W_seq ?_
          refine W_region ?_
          refine wl_val (rn_move (by conv => lhs; whnf)) ?_
          refine wl_val (rn_func_eql uf_96 rfl rfl) ?_
          refine wl_nil ?_
          refine W_cond rfl (fun hc6 => ?_) (fun hc6 => ?_)
          · exact absurd hc6 (by decide)
          · refine W_skip ?_
            refine W_seq ?_
            refine W_seq ?_
            refine W_region ?_
            refine wl_val (rn_move (by conv => lhs; whnf)) ?_
            refine wl_nil ?_
            refine W_block ?_   -- block 2
            have hszr := hX.size
            have hsz_hW := hW.size
            have ho4 : w.heap.size ≤ b4 := by rcases hl4 with h | h; exact h.elim; exact h
            have ho5 : w.heap.size ≤ b5 := by rcases hl5 with h | h; exact h.elim; exact h
            have ho12 : w.heap.size ≤ b12 := by rcases hl12 with h | h; exact h.elim; exact h
            refine W_rangeFunc (M := fun i => i = b12) (w0 := wz) (I := fun pre N A => ∃ v12 : Value, ∃ oo : Option Nat, Box N A b4 [.bool false] ∧ Box N A b5 [.slice q1 n1 g1, .slice q2 n2 g2, .int .i64 ver] ∧ Box N A b12 [v12] ∧ Ext Non w A ∧ Ext (fun i => i = b12) wz A ∧ MkN w [] N A ∧ (OwX wz.heap.size N A v12 oo 3 (pre.map eM1)) ∧ (True)) (X := fun c N A => False) (encs := fun p : Str × (Str × Int) => [.agg (eM1 p).toArray]) (xs := Z) rfl (hIt) (hW) (fun _ => rfl) (fun pre => Stab.ex fun v12 => Stab.ex fun oo => (Stab.box _ _).and ((Stab.box _ _).and ((Stab.box _ _).and ((Stab.old hX.size).and ((Stab.oldM hW.size).and ((Stab.mk _ _).and ((Stab.owx _ _ _ _ _).and ((Stab.pure _))))))))) (fun c => Stab.false) ⟨.slice none 0 0, none, ⟨hB4, id⟩, ⟨hB5, id⟩, ⟨hB12, id⟩, hX, hW, (Mk.nil : Mk w [] _).toN, ⟨OwO.nil, by simp⟩, trivial⟩ ?_ ?_ ?_
            · rintro l N pre x A hl hN hA hst ⟨v12, oo, hK4, hK5, hK12, hXo, hW, hDk, hO, hIr⟩ ⟨post, hpre⟩
              have hB4 := hK4.1
              have hB5 := hK5.1
              have hB12 := hK12.1; have hl12 : Mine (Yc (fun i => i = b12) wz N) A b12 := .inl ⟨hK12.2, .inl rfl⟩
              have hX := Ext.refl (Yc (fun i => i = b12) wz N) A
              have hWA := hW.size
              have hoA : ∀ i, oo = some i → i < A.heap.size := fun i hi => hO.1.lt hi
              refine W_region ?_
              refine wl_alloc z_39 ?_; intro b14 w25 hb14 hE25 hB14
              have hn4_14 : b4 < b14 := Nat.lt_of_lt_of_le hB4.lt hb14
              have hn5_14 : b5 < b14 := Nat.lt_of_lt_of_le hB5.lt hb14
              have hn12_14 : b12 < b14 := Nat.lt_of_lt_of_le hB12.lt hb14
              have hq14 : A.heap.size ≤ b14 := Nat.le_trans hX.size hb14
              have hl14 : Mine (Yc (fun i => i = b12) wz N) A b14 := .inr hq14
              have ho14 : w.heap.size ≤ b14 := Nat.le_trans hXo.size hb14
              replace hX := hX.tr hE25
              replace hB4 := hB4.ext hE25 id; replace hB5 := hB5.ext hE25 id; replace hB12 := hB12.ext hE25 id
              replace hXo := hXo.tr hE25
              replace hDk := hDk.non hE25
              replace hW := hW.tr hE25
              replace hO := hO.ext hE25 (fun _ _ h => h)
              have hBo := hB14
              refine wl_storeB s_39 rfl rfl rfl (three1 rfl rfl rfl) hB14 rfl ?_; intro w26 hE26 hB14 hz26
              replace hX := hX.mine hE26 hl14
              replace hB4 := hB4.ext hE26 (fun h => by omega); replace hB5 := hB5.ext hE26 (fun h => by omega); replace hB12 := hB12.ext hE26 (fun h => by omega)
              replace hXo := hXo.mine hE26 (.inr ho14)
              replace hDk := hDk.box hE26 hBo
              replace hW := hW.mine hE26 (by first | exact .inl rfl | exact .inr (Nat.le_trans hWA hq14))
              replace hO := hO.ext hE26 (fun i hi e => by have := (hO.2 i hi).2; have := hoA i hi; omega)
              refine wl_nil ?_
              refine ⟨rfl, hX, fun A2 hE2r hz2r hst2 => ?_⟩
              have hNl := (hN l hl).2
              replace hB4 := hB4.ext hE2r (fun e => hK4.2 (by rw [e]; exact hl))
              replace hB5 := hB5.ext hE2r (fun e => hK5.2 (by rw [e]; exact hl))
              replace hB12 := hB12.ext hE2r (fun e => hK12.2 (by rw [e]; exact hl))
              replace hB14 := hB14.ext hE2r (fun e => by omega)
              replace hXo := hXo.mine hE2r (.inr (Nat.le_trans hszr (hN l hl).1)); replace hDk := hDk.lp hE2r hl
              replace hW := hW.mine hE2r (.inr (Nat.le_trans hsz_hW (hN l hl).1))
              replace hO := hO.ext hE2r (fun i hi e => (hO.2 i hi).1 (by rw [e]; exact hl))
              have hl14 : Mine (Yc (fun i => i = b12) wz N) A2 b14 := .inl ⟨fun h => by have := (hN _ h).2; omega, .inr (by omega)⟩
              have hl12 : Mine (Yc (fun i => i = b12) wz N) A2 b12 := .inl ⟨hK12.2, .inl rfl⟩
              have hX := Ext.refl (Yc (fun i => i = b12) wz N) A2
              have hAA : A.heap.size ≤ A2.heap.size := Nat.le_trans hE25.size (Nat.le_trans hE26.size hE2r.size)
              refine W_block ?_   -- block 3
              refine W_seq ?_
              refine W_region ?_
              have hpl : pre.length + 1 ≤ 100 := by have := congrArg List.length hpre; simp only [List.length_append, List.length_cons] at this; omega
              refine wl_val (rn_load1 p_86 rfl hB12 rfl) ?_
              refine wl_val (rn_loadB s_39 rfl rfl hB14) ?_
              refine wl_lit1 (r := eM1 x) sl_86 rfl rfl rfl rfl (by decide) ?_; intro v110 w27 b110 hb110 hE27 hO110
              replace hX := hX.tr hE27
              replace hB4 := hB4.ext hE27 id; replace hB5 := hB5.ext hE27 id; replace hB12 := hB12.ext hE27 id; replace hB14 := hB14.ext hE27 id
              replace hXo := hXo.tr hE27
              replace hDk := hDk.non hE27
              replace hW := hW.tr hE27
              replace hO := hO.ext hE27 (fun _ _ h => h)
              have hsx := hX.size; have hsw := hW.size
              refine wl_app sl_86 rfl rfl rfl hO.1 (hO110.sl (M := Non) id) (fun r hr => by simp only [List.mem_singleton] at hr; subst hr; exact three1 rfl rfl rfl) (by simp only [List.length_map, List.length_cons, List.length_nil]; omega) (by simp only [List.length_map, List.length_cons, List.length_nil, big]; omega) ?_; intro v111 w28 o111 hE28 hO111 hf111
              obtain ⟨a111, c111, hv111⟩ := id hO111.len; subst hv111
              replace hX := hX.mineO hE28 (fun i hi => .inl ⟨(hO.2 i hi).1, .inr (hO.2 i hi).2⟩); replace hXo := hXo.mineO hE28 (fun i hi => .inr (Nat.le_trans (by rw [hwz]; exact hszr) (hO.2 i hi).2)); replace hW := hW.mineO hE28 (fun i hi => .inr (hO.2 i hi).2); replace hDk : MkN w [] N w28 := ⟨Mk.nil, fun r h => by cases h⟩
              replace hB4 := hB4.ext hE28 (fun e => by have := (hO.2 _ e).2; omega); replace hB5 := hB5.ext hE28 (fun e => by have := (hO.2 _ e).2; omega); replace hB12 := hB12.ext hE28 (fun e => by have := (hO.2 _ e).2; omega); replace hB14 := hB14.ext hE28 (fun e => by have := hoA _ e; omega)
              have hOn : OwX wz.heap.size N w28 _ o111 3 ((pre ++ [x]).map eM1) := ⟨by rw [List.map_append]; exact hO111, fun i hi => by rcases hf111 i hi with h | h; exact hO.2 i h; exact ⟨fun hNi => by have := (hN i hNi).2; omega, by omega⟩⟩
              have hBo := hB12
              refine wl_store1 (b := b12) p_86 rfl (by conv => lhs; whnf) rfl rfl hB12 (Nat.le_of_ble_eq_true rfl) ?_; intro w29 hE29 hB12 hz29
              replace hX := hX.mine hE29 hl12
              replace hB4 := hB4.ext hE29 (fun h => by omega); replace hB5 := hB5.ext hE29 (fun h => by omega); replace hB14 := hB14.ext hE29 (fun h => by omega)
              replace hXo := hXo.mine hE29 (.inr ho12)
              replace hDk := hDk.box hE29 hBo
              replace hW := hW.mine hE29 (by first | exact .inl rfl | exact .inr (Nat.le_trans hWA hq12))
              replace hOn := hOn.ext hE29 (fun i hi e => by have := (hOn.2 i hi).2; omega)
              refine wl_nil ?_
              refine W_seq ?_
              refine W_region ?_
              refine wl_val (rn_load1 p_86 rfl hB12 rfl) ?_
              refine wl_val (rn_len sl_86 rfl) ?_
              refine wl_val (rn_gtr rfl rfl) ?_
              refine wl_nil ?_
              refine W_cond rfl (fun hc7 => ?_) (fun hc7 => ?_)
              · exact absurd (of_decide_eq_true hc7) (by simp only [List.length_map, List.length_append, List.length_cons, List.length_nil]; omega)
              · refine W_skip ?_
                exact ⟨hX, .slice a111 _ c111, o111, ⟨hB4, hK4.2⟩, ⟨hB5, hK5.2⟩, ⟨hB12, hK12.2⟩, hXo, hW, hDk, hOn, trivial⟩
            · rintro N rk w' ⟨v12, oo, hK4, hK5, hK12, hXo, hW, hDk, hO, hIr⟩ hN hA hr hrd
              have hB4 := hK4.1
              have hB5 := hK5.1
              have hB12 := hK12.1
              have hX := hXo; have hD := hDk.add hrd (Nat.le_trans hszr (hN rk hr).1) hr
              obtain ⟨a12, c12, hv12⟩ := id hO.1.len; rw [List.length_map] at hv12; subst hv12
              have hLs : Sl (fun j => j = b4) w' _ 3 (Z.map eM1) := hO.1.sl (fun i hi e => by have := (hO.2 i hi).2; omega)
              have hMp : MapR (fun j => j = b4) w' eS1 2 (.slice q1 n1 g1) (.slice q2 n2 g2) ks (ys.map eE1) := (hpz.ext hW (fun _ h => .inl h)).sub (fun _ h _ => .inr h)
              refine W_seq ?_
              refine W_seq ?_
              refine W_region ?_
              refine wl_val (rn_assign (by conv => lhs; whnf)) ?_
              refine wl_nil ?_
              refine W_block ?_   -- block 4
              refine W_loopD (S := Nat) [4, 5, 12, 15] (fun i => [.pointer (some ⟨b4, 0, none⟩), .pointer (some ⟨b5, 0, none⟩), .pointer (some ⟨b12, 0, none⟩), .int .i64 (i : Nat)]) (fun i D A => (Ext Non w A) ∧ (Mk w D A) ∧ (IsBox A b4 [.bool false]) ∧ (IsBox A b5 [.slice q1 n1 g1, .slice q2 n2 g2, .int .i64 ver]) ∧ (IsBox A b12 [.slice a12 Z.length c12]) ∧ (Mine Non w b4) ∧ (Mine Non w b5) ∧ (Mine Non w b12) ∧ (b4 < b5) ∧ (b4 < b12) ∧ (b5 < b12) ∧ (1 ≤ i ∧ Sl (fun j => j = b4) A (.slice a12 Z.length c12) 3 (Z.map eM1) ∧ MapR (fun j => j = b4) A eS1 2 (.slice q1 n1 g1) (.slice q2 n2 g2) ks (ys.map eE1))) (fun i => Z.length - i) 1 ⟨rfl, rfl, rfl, rfl, trivial⟩ ⟨hX, hD, hB4, hB5, hB12, hl4, hl5, hl12, hn4_5, hn4_12, hn5_12, ⟨Nat.le_refl _, hLs, hMp⟩⟩ ?_
              rintro τ1 i D A1 ⟨hX, hD, hB4, hB5, hB12, hl4, hl5, hl12, hn4_5, hn4_12, hn5_12, hI1⟩
              obtain ⟨h1i, hLs, hMp⟩ := hI1
              refine W_seq ?_
              refine W_seq ?_
              refine W_region ?_
              refine wl_val (rn_move (by conv => lhs; whnf)) ?_
              refine wl_val (rn_load1 p_86 rfl hB12 rfl) ?_
              refine wl_val (rn_len sl_86 rfl) ?_
              refine wl_val (rn_lss rfl rfl) ?_
              refine wl_nil ?_
              refine W_cond rfl (fun hc8 => ?_) (fun hc8 => ?_)
              · have hlt := of_decide_eq_true hc8; simp only [Int.ofNat_lt] at hlt
                obtain ⟨x2, hi2⟩ : ∃ x2, (Z)[i]? = some x2 := ⟨_, List.getElem?_eq_getElem hlt⟩
                have he1 : ((i : Int) - 1).toNat = i - 1 := by omega
                obtain ⟨x1, hi1⟩ : ∃ x, Z[i - 1]? = some x := ⟨_, List.getElem?_eq_getElem (by omega)⟩
                obtain ⟨bbL, ooL, eaL⟩ := hLs.base (by intro e; have := congrArg List.length e; simp only [List.length_map, List.length_nil] at this; omega); subst eaL
                refine W_skip ?_
                refine W_seq ?_
                refine W_block ?_   -- block 5
                refine W_seq ?_
                refine W_drawE mixed ?_; intro w30 hE30
                replace hX := hX.tr hE30
                replace hB4 := hB4.ext hE30 id; replace hB5 := hB5.ext hE30 id; replace hB12 := hB12.ext hE30 id
                replace hLs := hLs.ext hE30 (fun _ h => h.elim)
                replace hMp := hMp.ext hE30 (fun _ h => h.elim)
                replace hD := hD.non hE30
                have hS := Ext.refl Non w30
                refine wd_take 0 _ _ rfl (by kernel_rfl) hS (yd_do fun A hA => rn_load1 p_86 rfl (hB12.ext hA id) rfl) ?_
                refine wd_take 1 _ _ rfl (by kernel_rfl) hS (yd_do fun A hA => rn_move (by conv => lhs; whnf)) ?_
                refine wd_take 2 _ _ rfl (by kernel_rfl) hS (yd_do fun A hA => rn_sub rfl rfl (by omega)) ?_
                refine wd_take 3 _ _ rfl (by kernel_rfl) hS (yd_do fun A hA => rn_indexAddr sl_86 rfl rfl (by omega)) ?_
                refine wd_take 4 _ _ rfl (by kernel_rfl) hS (yd_do fun A hA => rn_fieldAddr f_39_0 (by decide) rfl) ?_
                refine wd_take 5 _ _ rfl (by kernel_rfl) hS (yd_do fun A hA => rn_load p_9 rfl ((hLs.ext hA (fun _ h => h.elim)).at1 (eM_at (i := ((i : Int) - 1).toNat) (by rw [he1]; exact hi1)) rfl)) ?_
                refine wd_take 6 _ _ rfl (by kernel_rfl) hS (yd_do fun A hA => rn_load1 p_86 rfl (hB12.ext hA id) rfl) ?_
                refine wd_take 7 _ _ rfl (by kernel_rfl) hS (yd_do fun A hA => rn_move (by conv => lhs; whnf)) ?_
                refine wd_take 8 _ _ rfl (by kernel_rfl) hS (yd_do fun A hA => rn_indexAddr sl_86 rfl rfl (by omega)) ?_
                refine wd_take 9 _ _ rfl (by kernel_rfl) hS (yd_do fun A hA => rn_fieldAddr f_39_0 (by decide) rfl) ?_
                refine wd_take 10 _ _ rfl (by kernel_rfl) hS (yd_do fun A hA => rn_load p_9 rfl ((hLs.ext hA (fun _ h => h.elim)).at1 (eM_at hi2) rfl)) ?_
                refine wd_take 11 _ _ rfl (by kernel_rfl) hS (yd_do fun A hA => rn_sgeq rfl rfl) ?_
                refine wd_done (by kernel_rfl) ?_ _
                replace hX := hX.tr hS
                replace hB4 := hB4.ext hS id; replace hB5 := hB5.ext hS id; replace hB12 := hB12.ext hS id
                replace hLs := hLs.ext hS (fun _ h => h.elim)
                replace hMp := hMp.ext hS (fun _ h => h.elim)
                replace hD := hD.non hS
                refine W_cond rfl (fun hc9 => ?_) (fun hc9 => ?_)
                · have hlt2 := hord.get (hZa _ _ hi1).1 (hZa _ _ hi2).1 (by omega)
                  exact absurd hc9 (by have h9 : Op.bytesLess x1.1 x2.1 = true := hlt2; rw [h9]; simp)
                · refine W_skip ?_
                  refine W_region ?_
                  refine wl_val (rn_move (by conv => lhs; whnf)) ?_
                  refine wl_val (rn_add rfl rfl (by omega)) ?_
                  refine wl_val (rn_assign (by conv => lhs; whnf)) ?_
                  refine wl_nil ?_
                  exact ⟨i + 1, ⟨rfl, rfl, rfl, rfl, trivial⟩, ⟨hX, hD, hB4, hB5, hB12, hl4, hl5, hl12, hn4_5, hn4_12, hn5_12, ⟨by omega, hLs, hMp⟩⟩, by omega⟩
              · refine W_exit ?_   -- exit 4
                refine W_seq ?_
                refine W_seq ?_
                refine W_region ?_
                refine wl_val (rn_assign (by conv => lhs; whnf)) ?_
                refine wl_nil ?_
                refine W_block ?_   -- block 6
                refine W_loopD (S := Nat) [4, 5, 12, 16] (fun i => [.pointer (some ⟨b4, 0, none⟩), .pointer (some ⟨b5, 0, none⟩), .pointer (some ⟨b12, 0, none⟩), .int .i64 (i : Nat)]) (fun i D A => (Ext Non w A) ∧ (Mk w D A) ∧ (IsBox A b4 [.bool false]) ∧ (IsBox A b5 [.slice q1 n1 g1, .slice q2 n2 g2, .int .i64 ver]) ∧ (IsBox A b12 [.slice a12 Z.length c12]) ∧ (Mine Non w b4) ∧ (Mine Non w b5) ∧ (Mine Non w b12) ∧ (b4 < b5) ∧ (b4 < b12) ∧ (b5 < b12) ∧ (Sl (fun j => j = b4) A (.slice a12 Z.length c12) 3 (Z.map eM1) ∧ MapR (fun j => j = b4) A eS1 2 (.slice q1 n1 g1) (.slice q2 n2 g2) ks (ys.map eE1))) (fun i => Z.length - i) 0 ⟨rfl, rfl, rfl, rfl, trivial⟩ ⟨hX, hD, hB4, hB5, hB12, hl4, hl5, hl12, hn4_5, hn4_12, hn5_12, ⟨hLs, hMp⟩⟩ ?_
                rintro τ2 i D A2 ⟨hX, hD, hB4, hB5, hB12, hl4, hl5, hl12, hn4_5, hn4_12, hn5_12, hI2⟩
                obtain ⟨hLs, hMp⟩ := hI2
                refine W_seq ?_
                refine W_seq ?_
                refine W_region ?_
                refine wl_val (rn_move (by conv => lhs; whnf)) ?_
                refine wl_val (rn_load1 p_86 rfl hB12 rfl) ?_
                refine wl_val (rn_len sl_86 rfl) ?_
                refine wl_val (rn_lss rfl rfl) ?_
                refine wl_nil ?_
                refine W_cond rfl (fun hc10 => ?_) (fun hc10 => ?_)
                · have hlt := of_decide_eq_true hc10; simp only [Int.ofNat_lt] at hlt
                  obtain ⟨x, hi2⟩ : ∃ x, (Z)[i]? = some x := ⟨_, List.getElem?_eq_getElem hlt⟩
                  obtain ⟨hka, hya⟩ := hZa i x hi2
                  obtain ⟨hat, hgt⟩ := kGet_at hord hle hka hya
                  obtain ⟨bbL, ooL, eaL⟩ := hLs.base (by intro e; have := congrArg List.length e; simp only [List.length_map, List.length_nil] at this; omega); subst eaL
                  refine W_skip ?_
                  refine W_seq ?_
                  refine W_block ?_   -- block 7
                  refine W_seq ?_
                  refine W_drawE mixed ?_; intro w31 hE31
                  replace hX := hX.tr hE31
                  replace hB4 := hB4.ext hE31 id; replace hB5 := hB5.ext hE31 id; replace hB12 := hB12.ext hE31 id
                  replace hLs := hLs.ext hE31 (fun _ h => h.elim)
                  replace hMp := hMp.ext hE31 (fun _ h => h.elim)
                  replace hD := hD.non hE31
                  have hS := Ext.refl Non w31
                  refine wd_take 0 _ _ rfl (by kernel_rfl) hS (yd_do fun A hA => rn_loadB s_79 rfl rfl (hB5.ext hA id)) ?_
                  refine wd_take 1 _ _ rfl (by kernel_rfl) hS (yd_do fun A hA => rn_load1 p_86 rfl (hB12.ext hA id) rfl) ?_
                  refine wd_take 2 _ _ rfl (by kernel_rfl) hS (yd_do fun A hA => rn_move (by conv => lhs; whnf)) ?_
                  refine wd_take 3 _ _ rfl (by kernel_rfl) hS (yd_do fun A hA => rn_indexAddr sl_86 rfl rfl (by omega)) ?_
                  refine wd_take 4 _ _ rfl (by kernel_rfl) hS (yd_do fun A hA => rn_fieldAddr f_39_0 (by decide) rfl) ?_
                  refine wd_take 5 _ _ rfl (by kernel_rfl) hS (yd_do fun A hA => rn_load p_9 rfl ((hLs.ext hA (fun _ h => h.elim)).at1 (eM_at hi2) rfl)) ?_
                  refine wd_only 6 _ rfl (by kernel_rfl) ?_
                  refine s1_do ?_
                  refine wl_call e_51 rfl (kget_ok w31 ks ys ver ((hMp.ext hS (fun _ h => h.elim)).sub (fun _ h _ => h.elim)) hord (by omega) x.1) ?_; intro v146 w32 hE32 hR32
                  replace hS := hS.tr hE32
                  subst hR32
                  refine wl_nil ⟨hS, ?_⟩
                  refine wd_take 7 _ _ rfl (by kernel_rfl) hS (yd_do fun A hA => rn_move (by conv => lhs; whnf)) ?_
                  refine wd_take 8 _ _ rfl (by kernel_rfl) hS (yd_do fun A hA => rn_extract rfl rfl) ?_
                  refine wd_take 9 _ _ rfl (by kernel_rfl) hS (yd_do fun A hA => rn_extract rfl rfl) ?_
                  refine wd_take 10 _ _ rfl (by kernel_rfl) hS (yd_do fun A hA => rn_extract rfl rfl) ?_
                  refine wd_take 11 _ _ rfl (by kernel_rfl) hS (yd_do fun A hA => rn_assign (by conv => lhs; whnf)) ?_
                  refine wd_take 12 _ _ rfl (by kernel_rfl) hS (yd_do fun A hA => rn_assign (by conv => lhs; whnf)) ?_
                  refine wd_take 13 _ _ rfl (by kernel_rfl) hS (yd_do fun A hA => rn_assign (by conv => lhs; whnf)) ?_
                  refine wd_done (by kernel_rfl) ?_ _
                  replace hX := hX.tr hS
                  replace hB4 := hB4.ext hS id; replace hB5 := hB5.ext hS id; replace hB12 := hB12.ext hS id
                  replace hLs := hLs.ext hS (fun _ h => h.elim)
                  replace hMp := hMp.ext hS (fun _ h => h.elim)
                  replace hD := hD.non hS
                  refine W_seq ?_
                  refine W_region ?_
                  refine wl_val (rn_move (by conv => lhs; whnf)) ?_
                  refine wl_val (rn_not rfl) ?_
                  refine wl_val (rn_move (by conv => lhs; whnf)) ?_
                  refine wl_split (d := 152) rfl (fun hg152 => ?_) (fun hg152 => ?_)
                  · exact absurd hg152 (by rw [hat]; simp)
                  · refine wl_yes rfl (congrArg Value.bool hg152) ?_
                    refine wl_val (rn_move (by conv => lhs; whnf)) ?_
                    refine wl_yes rfl (congrArg Value.bool hg152) ?_
                    refine wl_val (rn_load1 p_86 rfl hB12 rfl) ?_
                    refine wl_yes rfl (congrArg Value.bool hg152) ?_
                    refine wl_val (rn_move (by conv => lhs; whnf)) ?_
                    refine wl_yes rfl (congrArg Value.bool hg152) ?_
                    refine wl_val (rn_indexAddr sl_86 rfl rfl (by omega)) ?_
                    refine wl_yes rfl (congrArg Value.bool hg152) ?_
                    refine wl_val (rn_fieldAddr f_39_1 (by decide) rfl) ?_
                    refine wl_yes rfl (congrArg Value.bool hg152) ?_
                    refine wl_val (rn_load p_9 rfl (hLs.at1 (eM_at hi2) rfl)) ?_
                    refine wl_yes rfl (congrArg Value.bool hg152) ?_
                    refine wl_val (rn_sneq rfl rfl) ?_
                    refine wl_val (rn_pickF (congrArg Value.bool hg152) (by conv => lhs; whnf)) ?_
                    refine wl_val (rn_move (by conv => lhs; whnf)) ?_
                    refine wl_split (d := 161) rfl (fun hg161 => ?_) (fun hg161 => ?_)
                    · exact absurd (of_decide_eq_true hg161) (by rw [hgt]; simp)
                    · refine wl_yes rfl (congrArg Value.bool hg161) ?_
                      refine wl_val (rn_load1 p_86 rfl hB12 rfl) ?_
                      refine wl_yes rfl (congrArg Value.bool hg161) ?_
                      refine wl_val (rn_move (by conv => lhs; whnf)) ?_
                      refine wl_yes rfl (congrArg Value.bool hg161) ?_
                      refine wl_val (rn_indexAddr sl_86 rfl rfl (by omega)) ?_
                      refine wl_yes rfl (congrArg Value.bool hg161) ?_
                      refine wl_val (rn_fieldAddr f_39_2 (by decide) rfl) ?_
                      refine wl_yes rfl (congrArg Value.bool hg161) ?_
                      refine wl_val (rn_load p_4 rfl (hLs.at1 (eM_at hi2) rfl)) ?_
                      refine wl_yes rfl (congrArg Value.bool hg161) ?_
                      refine wl_val (rn_not rfl) ?_
                      refine wl_val (rn_pickF (congrArg Value.bool hg161) (by conv => lhs; whnf)) ?_
                      refine wl_nil ?_
                      refine W_cond rfl (fun hc11 => ?_) (fun hc11 => ?_)
                      · exact absurd hc11 (by decide)
                      · refine W_skip ?_
                        refine W_region ?_
                        refine wl_val (rn_move (by conv => lhs; whnf)) ?_
                        refine wl_val (rn_add rfl rfl (by omega)) ?_
                        refine wl_val (rn_assign (by conv => lhs; whnf)) ?_
                        refine wl_nil ?_
                        exact ⟨i + 1, ⟨rfl, rfl, rfl, rfl, trivial⟩, ⟨hX, hD, hB4, hB5, hB12, hl4, hl5, hl12, hn4_5, hn4_12, hn5_12, ⟨hLs, hMp⟩⟩, by omega⟩
                · refine W_exit ?_   -- exit 6
                  refine W_seq ?_
                  refine W_drawX (fun j => j == 5) mixed ?_; intro w33 hE33
                  replace hX := hX.tr hE33
                  replace hB4 := hB4.ext hE33 id; replace hB5 := hB5.ext hE33 id; replace hB12 := hB12.ext hE33 id
                  replace hLs := hLs.ext hE33 (fun _ h => h.elim)
                  replace hMp := hMp.ext hE33 (fun _ h => h.elim)
                  replace hD := hD.non hE33
                  have hS := Ext.refl Non w33
                  refine wx_take 0 [1, 4, 5] _ _ rfl (by kernel_rfl) hS (yd_do fun A hA => rn_load1 p_86 rfl (hB12.ext hA id) rfl) ?_
                  refine wx_take 1 [4, 5] _ _ rfl (by kernel_rfl) hS (yd_do fun A hA => rn_len sl_86 rfl) ?_
                  refine wx_take 2 [3, 4, 5] _ _ rfl (by kernel_rfl) hS (yd_do fun A hA => rn_loadB s_79 rfl rfl (hB5.ext hA id)) ?_
                  refine wx_only 3 _ rfl (by kernel_rfl) ?_
                  refine s1_do ?_
                  refine wl_call e_53 rfl (klen_ok w33 ks ys ver ((hMp.ext hS (fun _ h => h.elim)).sub (fun _ h _ => h.elim)) (by omega)) ?_; intro v172 w34 hE34 hR34
                  replace hS := hS.tr hE34
                  subst hR34
                  refine wl_nil ⟨fun _ => hS, ?_⟩
                  refine wx_take 4 [5] _ _ rfl (by kernel_rfl) hS (yd_do fun A hA => rn_eql rfl rfl) ?_
                  replace hX := hX.tr hS
                  replace hB4 := hB4.ext hS id; replace hB5 := hB5.ext hS id; replace hB12 := hB12.ext hS id
                  replace hLs := hLs.ext hS (fun _ h => h.elim)
                  replace hMp := hMp.ext hS (fun _ h => h.elim)
                  replace hD := hD.non hS
                  refine wx_only 5 _ rfl (by kernel_rfl) ?_
                  refine s1_do ?_
                  have hBo := hB4
                  refine wl_store1 (b := b4) p_4 rfl (by conv => lhs; whnf) rfl rfl hB4 (Nat.le_of_ble_eq_true rfl) ?_; intro w35 hE35 hB4 hz35
                  replace hX := hX.mine hE35 hl4
                  replace hB5 := hB5.ext hE35 (fun h => by omega); replace hB12 := hB12.ext hE35 (fun h => by omega)
                  replace hLs := hLs.ext hE35 (fun i e => e)
                  replace hMp := hMp.ext hE35 (fun i e => e)
                  replace hD := hD.box hE35 hBo
                  refine wl_nil ⟨fun h => absurd h (by decide), ?_⟩
                  refine wx_done (by kernel_rfl) ?_ _
                  refine W_ret ?_
                  refine hD.leave fun B hB => ?_
                  have hB4 := hB4.ext hB (hD.ne hB4)
                  have hB5 := hB5.ext hB (hD.ne hB5)
                  have hB12 := hB12.ext hB (hD.ne hB12)
                  have hX := hD.out hX hB
                  exact ⟨_, resR1 (res1_cell p_4 rfl hB4), hX, congrArg Value.bool (decide_eq_true (by rw [hZl]))⟩
            · intro c N rk w' h; exact h.elim
end Go.Proofs.YtfdfphaiefbflaaDoorC
