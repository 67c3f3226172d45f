/- The law KeepPlays. -/
import Derived.Test.YthcclgoidchkdaaDoorKeep4
import Derived.Test.YthcclgoidchkdaaDoorKeep5
set_option linter.unusedVariables false
set_option linter.unusedSimpArgs false
set_option maxRecDepth 100000
namespace Go.Proofs.YthcclgoidchkdaaDoorC
open Go.RowKit
theorem sK_sorted {ks : List Str} (h : Sorted ltS ks) (t p : Str) : Sorted ltS (if kErr t p = 0 then kK ks t p else ks) := by split; exact kK_sorted h t p; exact h
theorem sK_len (ks : List Str) (t p : Str) : (if kErr t p = 0 then kK ks t p else ks).length ≤ ks.length + 1 := by split; exact kK_len ks t p; omega
theorem sK_mem {ks : List Str} (h : Sorted ltS ks) (t p : Str) {y : Str} (hy : y ∈ (if kErr t p = 0 then kK ks t p else ks)) : y = t ∨ y ∈ ks := by split at hy; exact kK_mem h t p hy; exact .inr hy
theorem sY_len {ks : List Str} {ys : List (Str × Int)} (h : ys.length = ks.length) (ver : Int) (t p : Str) : (if kErr t p = 0 then kY ks ys ver t p else ys).length = (if kErr t p = 0 then kK ks t p else ks).length := by split; exact kY_len h ver t p; exact h
-- bellman/bellmanlaw15.KeepPlays
set_option maxHeartbeats 16000000 in
theorem keepPlays_ok (w : World) (topics payloads : List Str) (f q : Str) {v0 v1 : Value} (h0 : Sl Non w v0 1 (topics.map eS1)) (h1 : Sl Non w v1 1 (payloads.map eS1)) : Fn Tryd.prog 7 #[v0, v1, Sv f, Sv q] w fun u w' => u = .bool true := by
  obtain ⟨a0, c0, rfl, hb0⟩ := h0.len; obtain ⟨a1, c1, rfl, hb1⟩ := h1.len
  simp only [List.length_map] at h0 h1 hb0 hb1 ⊢
  have hbig2 : big = 9223372036854775807 := rfl
  have hX := Ext.refl Non w
  refine fn_of_W (args := [_, _, _, _]) Tryd.func7 rfl (by kernel_rfl) rfl ?_
  refine W_seq ?_
  refine W_region ?_
  refine wl_val (rn_assign (by conv => lhs; whnf)) ?_
  refine wl_nil ?_
  refine W_seq ?_
  refine W_seq ?_
  refine W_region ?_
  refine wl_call e_31 rfl (awake15_ok w) ?_; intro v26 w1 hE1 hR1
  replace hX := hX.tr hE1
  subst hR1
  refine wl_val (rn_not rfl) ?_
  refine wl_nil ?_
  refine W_cond rfl (fun hc0 => ?_) (fun hc0 => ?_)
  · exact absurd hc0 (by decide)
  · refine W_skip ?_
    refine W_seq ?_
    refine W_seq ?_
    refine W_region ?_
    refine wl_val (rn_move (by conv => lhs; whnf)) ?_
    refine wl_val (rn_len sl_68 rfl) ?_
    refine wl_val (rn_gtr rfl rfl) ?_
    refine wl_val (rn_move (by conv => lhs; whnf)) ?_
    refine wl_split (d := 31) rfl (fun hg31 => ?_) (fun hg31 => ?_)
    · refine wl_no rfl (congrArg Value.bool hg31) ?_
      refine wl_no rfl (congrArg Value.bool hg31) ?_
      refine wl_no rfl (congrArg Value.bool hg31) ?_
      refine wl_no rfl (congrArg Value.bool hg31) ?_
      refine wl_no rfl (congrArg Value.bool hg31) ?_
      refine wl_val (rn_pickT (congrArg Value.bool hg31) (by conv => lhs; whnf)) ?_
      refine wl_val (rn_move (by conv => lhs; whnf)) ?_
      refine wl_no rfl rfl ?_
      refine wl_no rfl rfl ?_
      refine wl_val (rn_pickT rfl (by conv => lhs; whnf)) ?_
      refine wl_val (rn_move (by conv => lhs; whnf)) ?_
      refine wl_no rfl rfl ?_
      refine wl_no rfl rfl ?_
      refine wl_val (rn_pickT rfl (by conv => lhs; whnf)) ?_
      refine wl_nil ?_
      refine W_condT rfl ?_
      refine W_seq ?_
      refine W_region ?_
      refine wl_val (rn_assign (by conv => lhs; whnf)) ?_
      refine wl_nil ?_
      refine W_ret ?_
      exact ⟨_, resR1 (res1_tmp rfl), hX, rfl⟩
    · have htn : topics.length ≤ 100 := by have := of_decide_eq_false hg31; omega
      refine wl_yes rfl (congrArg Value.bool hg31) ?_
      refine wl_val (rn_move (by conv => lhs; whnf)) ?_
      refine wl_yes rfl (congrArg Value.bool hg31) ?_
      refine wl_val (rn_len sl_68 rfl) ?_
      refine wl_yes rfl (congrArg Value.bool hg31) ?_
      refine wl_val (rn_move (by conv => lhs; whnf)) ?_
      refine wl_yes rfl (congrArg Value.bool hg31) ?_
      refine wl_val (rn_len sl_68 rfl) ?_
      refine wl_yes rfl (congrArg Value.bool hg31) ?_
      refine wl_val (rn_lss rfl rfl) ?_
      refine wl_val (rn_pickF (congrArg Value.bool hg31) (by conv => lhs; whnf)) ?_
      refine wl_val (rn_move (by conv => lhs; whnf)) ?_
      refine wl_split (d := 38) rfl (fun hg38 => ?_) (fun hg38 => ?_)
      · refine wl_no rfl (congrArg Value.bool hg38) ?_
        refine wl_no rfl (congrArg Value.bool hg38) ?_
        refine wl_val (rn_pickT (congrArg Value.bool hg38) (by conv => lhs; whnf)) ?_
        refine wl_val (rn_move (by conv => lhs; whnf)) ?_
        refine wl_no rfl rfl ?_
        refine wl_no rfl rfl ?_
        refine wl_val (rn_pickT rfl (by conv => lhs; whnf)) ?_
        refine wl_nil ?_
        refine W_condT rfl ?_
        refine W_seq ?_
        refine W_region ?_
        refine wl_val (rn_assign (by conv => lhs; whnf)) ?_
        refine wl_nil ?_
        refine W_ret ?_
        exact ⟨_, resR1 (res1_tmp rfl), hX, rfl⟩
      · have hvl : topics.length ≤ payloads.length := by have := of_decide_eq_false hg38; omega
        refine wl_yes rfl (congrArg Value.bool hg38) ?_
        refine wl_val (rn_move (by conv => lhs; whnf)) ?_
        refine wl_yes rfl (congrArg Value.bool hg38) ?_
        refine wl_call e_32 rfl (long2_ok w1 f) ?_; intro v40 w2 hE2 hR2
        replace hX := hX.tr hE2
        subst hR2
        refine wl_val (rn_pickF (congrArg Value.bool hg38) (by conv => lhs; whnf)) ?_
        refine wl_val (rn_move (by conv => lhs; whnf)) ?_
        refine wl_split (d := 42) rfl (fun hg42 => ?_) (fun hg42 => ?_)
        · refine wl_no rfl (congrArg Value.bool hg42) ?_
          refine wl_no rfl (congrArg Value.bool hg42) ?_
          refine wl_val (rn_pickT (congrArg Value.bool hg42) (by conv => lhs; whnf)) ?_
          refine wl_nil ?_
          refine W_condT rfl ?_
          refine W_seq ?_
          refine W_region ?_
          refine wl_val (rn_assign (by conv => lhs; whnf)) ?_
          refine wl_nil ?_
          refine W_ret ?_
          exact ⟨_, resR1 (res1_tmp rfl), hX, rfl⟩
        · have hnf : f.length ≤ 1000000 := by have := of_decide_eq_false hg42; omega
          refine wl_yes rfl (congrArg Value.bool hg42) ?_
          refine wl_val (rn_move (by conv => lhs; whnf)) ?_
          refine wl_yes rfl (congrArg Value.bool hg42) ?_
          refine wl_call e_32 rfl (long2_ok w2 q) ?_; intro v44 w3 hE3 hR3
          replace hX := hX.tr hE3
          subst hR3
          refine wl_val (rn_pickF (congrArg Value.bool hg42) (by conv => lhs; whnf)) ?_
          refine wl_nil ?_
          refine W_cond rfl (fun hc1 => ?_) (fun hc1 => ?_)
          · refine W_seq ?_
            refine W_region ?_
            refine wl_val (rn_assign (by conv => lhs; whnf)) ?_
            refine wl_nil ?_
            refine W_ret ?_
            exact ⟨_, resR1 (res1_tmp rfl), hX, rfl⟩
          · have hnq : q.length ≤ 1000000 := by have := of_decide_eq_false hc1; omega
            refine W_skip ?_
            refine W_seq ?_
            refine W_region ?_
            refine wl_alloc z_74 ?_; intro b9 w4 hb9 hE4 hB9
            have hq9 : w.heap.size ≤ b9 := Nat.le_trans hX.size hb9
            have hl9 : Mine Non w b9 := .inr hq9
            replace hX := hX.tr hE4
            refine wl_nil ?_
            refine W_seq ?_
            refine W_region ?_
            refine wl_val (rn_build' b_76 rfl rfl (cs := [.slice none 0 0, .slice none 0 0, .slice none 0 0, .int .i64 0]) rfl) ?_
            refine wl_alloc z_76 ?_; intro b10 w5 hb10 hE5 hB10
            have hn9_10 : b9 < b10 := Nat.lt_of_lt_of_le hB9.lt hb10
            have hq10 : w.heap.size ≤ b10 := Nat.le_trans hX.size hb10
            have hl10 : Mine Non w b10 := .inr hq10
            replace hX := hX.tr hE5
            replace hB9 := hB9.ext hE5 id
            refine wl_storeB s_76 rfl rfl rfl (by intro x hx; simp only [List.mem_cons, List.not_mem_nil, or_false] at hx; rcases hx with rfl | rfl | rfl | rfl <;> rfl) hB10 rfl ?_; intro w6 hE6 hB10 hz6
            replace hX := hX.mine hE6 hl10
            replace hB9 := hB9.ext hE6 (fun h => by omega)
            refine wl_nil ?_
            refine W_seq ?_
            refine W_seq ?_
            refine W_region ?_
            refine wl_val (rn_assign (by conv => lhs; whnf)) ?_
            refine wl_nil ?_
            refine W_block ?_   -- block 0
            refine W_loopS (S := Nat × List Str × List (Str × Int) × Int × Value × Value × Value × Value × Value) [0, 1, 2, 3, 9, 10, 11] (fun ⟨i, ks, ys, ver, u1, u2, x1, x2, x3⟩ => [.slice a0 topics.length c0, .slice a1 payloads.length c1, Sv f, Sv q, .pointer (some ⟨b9, 0, none⟩), .pointer (some ⟨b10, 0, none⟩), .int .i64 (i : Nat)]) (fun ⟨i, ks, ys, ver, u1, u2, x1, x2, x3⟩ A => (Ext Non w A) ∧ (IsBox A b9 [u1, u2, .int .i64 ver]) ∧ (IsBox A b10 [x1, x2, x3, .int .i64 ver]) ∧ (Mine Non w b9) ∧ (Mine Non w b10) ∧ (b9 < b10) ∧ (i ≤ topics.length ∧ MapR (fun j => j = b9 ∨ j = b10) A eS1 2 u1 u2 ks (ys.map eE1) ∧ Sl (fun j => j = b9 ∨ j = b10) A x1 1 (ks.map eS1) ∧ Sl (fun j => j = b9 ∨ j = b10) A x2 1 ((ys.map Prod.fst).map eS1) ∧ Sl (fun j => j = b9 ∨ j = b10) A x3 1 ((ys.map Prod.snd).map eI1) ∧ Sorted ltS ks ∧ ks.length ≤ i ∧ (∀ y ∈ ks, y.length ≤ 100) ∧ 0 ≤ ver ∧ ver ≤ i)) (fun ⟨i, ks, ys, ver, u1, u2, x1, x2, x3⟩ => topics.length - i) (0, [], [], 0, .slice none 0 0, .slice none 0 0, .slice none 0 0, .slice none 0 0, .slice none 0 0) ⟨rfl, rfl, rfl, rfl, rfl, rfl, rfl, trivial⟩ ⟨hX, hB9, hB10, hl9, hl10, hn9_10, ⟨Nat.zero_le _, MapR.nil _ _ _ _, Sl.nil _ _ _, Sl.nil _ _ _, Sl.nil _ _ _, List.Pairwise.nil, Nat.le_refl _, by simp, by decide, by decide⟩⟩ ?_
            rintro τ0 ⟨i, ks, ys, ver, u1, u2, x1, x2, x3⟩ A0 ⟨hX, hB9, hB10, hl9, hl10, hn9_10, hI0⟩
            obtain ⟨hik, hp, hy1, hy2, hy3, hord, hnk, hkl, hv1, hv2⟩ := hI0
            obtain ⟨q1, n1, g1, rfl⟩ := id hp.keys.shape; obtain ⟨q2, n2, g2, rfl⟩ := id hp.vals.shape; obtain ⟨i1, j1, hz1, _⟩ := id hy1.len; obtain ⟨i2, j2, hz2, _⟩ := id hy2.len; obtain ⟨i3, j3, hz3, _⟩ := id hy3.len; subst hz1; subst hz2; subst hz3
            have hle : ys.length = ks.length := by have := hp.len; simpa using this
            have hz9 := hB9.lt; have hz10 := hB10.lt
            have hp0 := hp.sub (M' := fun j => j = b9 ∨ j = b10 ∨ A0.heap.size ≤ j) (fun j h hlt => by rcases h with h | h | h; exact .inl h; exact .inr h; omega)
            have hx1 := hy1.sub (M' := fun j => j = b9 ∨ j = b10 ∨ A0.heap.size ≤ j) (fun j h hlt => by rcases h with h | h | h; exact .inl h; exact .inr h; omega)
            have hx2 := hy2.sub (M' := fun j => j = b9 ∨ j = b10 ∨ A0.heap.size ≤ j) (fun j h hlt => by rcases h with h | h | h; exact .inl h; exact .inr h; omega)
            have hx3 := hy3.sub (M' := fun j => j = b9 ∨ j = b10 ∨ A0.heap.size ≤ j) (fun j h hlt => by rcases h with h | h | h; exact .inl h; exact .inr h; omega)
            have hver : 0 ≤ ver ∧ ver ≤ 1000000 := ⟨hv1, by omega⟩
            have hzA : A0.heap.size ≤ A0.heap.size := Nat.le_refl _
            refine W_seq ?_
            refine W_seq ?_
            refine W_region ?_
            refine wl_val (rn_move (by conv => lhs; whnf)) ?_
            refine wl_val (rn_move (by conv => lhs; whnf)) ?_
            refine wl_val (rn_len sl_68 rfl) ?_
            refine wl_val (rn_lss rfl rfl) ?_
            refine wl_nil ?_
            refine W_cond rfl (fun hc2 => ?_) (fun hc2 => ?_)
            · have hlt := of_decide_eq_true hc2; simp only [Int.ofNat_lt] at hlt
              obtain ⟨t, hi⟩ : ∃ t, (topics)[i]? = some t := ⟨_, List.getElem?_eq_getElem hlt⟩
              obtain ⟨p, hj⟩ : ∃ p, payloads[i]? = some p := ⟨_, List.getElem?_eq_getElem (by omega)⟩
              obtain ⟨bb0, oo0, ea0⟩ := h0.base (by intro e; have := congrArg List.length e; simp only [List.length_map, List.length_nil] at this; omega); subst ea0
              obtain ⟨bb1, oo1, ea1⟩ := h1.base (by intro e; have := congrArg List.length e; simp only [List.length_map, List.length_nil] at this; omega); subst ea1
              refine W_skip ?_
              refine W_seq ?_
              refine W_block ?_   -- block 1
              refine W_seq ?_
              refine W_seq ?_
              refine W_region ?_
              refine wl_val (rn_move (by conv => lhs; whnf)) ?_
              refine wl_val (rn_move (by conv => lhs; whnf)) ?_
              refine wl_val (rn_indexAddr sl_68 rfl rfl (by omega)) ?_
              refine wl_val (rn_load p_9 rfl ((h0.ext hX (fun _ h => h)).at0 (eS_at hi) rfl)) ?_
              refine wl_val (rn_slen us_9 rfl) ?_
              refine wl_val (rn_gtr rfl rfl) ?_
              refine wl_val (rn_move (by conv => lhs; whnf)) ?_
              refine wl_split (d := 59) rfl (fun hg59 => ?_) (fun hg59 => ?_)
              · refine wl_no rfl (congrArg Value.bool hg59) ?_
                refine wl_no rfl (congrArg Value.bool hg59) ?_
                refine wl_no rfl (congrArg Value.bool hg59) ?_
                refine wl_no rfl (congrArg Value.bool hg59) ?_
                refine wl_no rfl (congrArg Value.bool hg59) ?_
                refine wl_no rfl (congrArg Value.bool hg59) ?_
                refine wl_val (rn_pickT (congrArg Value.bool hg59) (by conv => lhs; whnf)) ?_
                refine wl_nil ?_
                refine W_condT rfl ?_
                refine W_seq ?_
                refine W_region ?_
                refine wl_val (rn_assign (by conv => lhs; whnf)) ?_
                refine wl_nil ?_
                refine W_ret ?_
                exact ⟨_, resR1 (res1_tmp rfl), hX, rfl⟩
              · have htl : t.length ≤ 100 := by have := of_decide_eq_false hg59; omega
                refine wl_yes rfl (congrArg Value.bool hg59) ?_
                refine wl_val (rn_move (by conv => lhs; whnf)) ?_
                refine wl_yes rfl (congrArg Value.bool hg59) ?_
                refine wl_val (rn_move (by conv => lhs; whnf)) ?_
                refine wl_yes rfl (congrArg Value.bool hg59) ?_
                refine wl_val (rn_indexAddr sl_68 rfl rfl (by omega)) ?_
                refine wl_yes rfl (congrArg Value.bool hg59) ?_
                refine wl_val (rn_load p_9 rfl ((h1.ext hX (fun _ h => h)).at0 (eS_at hj) rfl)) ?_
                refine wl_yes rfl (congrArg Value.bool hg59) ?_
                refine wl_val (rn_slen us_9 rfl) ?_
                refine wl_yes rfl (congrArg Value.bool hg59) ?_
                refine wl_val (rn_gtr rfl rfl) ?_
                refine wl_val (rn_pickF (congrArg Value.bool hg59) (by conv => lhs; whnf)) ?_
                refine wl_nil ?_
                refine W_cond rfl (fun hc3 => ?_) (fun hc3 => ?_)
                · refine W_seq ?_
                  refine W_region ?_
                  refine wl_val (rn_assign (by conv => lhs; whnf)) ?_
                  refine wl_nil ?_
                  refine W_ret ?_
                  exact ⟨_, resR1 (res1_tmp rfl), hX, rfl⟩
                · have hpl : p.length ≤ 100 := by have := of_decide_eq_false hc3; omega
                  obtain ⟨K, hK⟩ : ∃ x, x = (if kErr t p = 0 then kK ks t p else ks) := ⟨_, rfl⟩; obtain ⟨Y, hY⟩ : ∃ x, x = (if kErr t p = 0 then kY ks ys ver t p else ys) := ⟨_, rfl⟩; obtain ⟨V, hV⟩ : ∃ x, x = (if kErr t p = 0 then ver + 1 else ver) := ⟨_, rfl⟩
                  have hKs : Sorted ltS K := by rw [hK]; exact sK_sorted hord t p
                  have hKn : K.length ≤ ks.length + 1 := by rw [hK]; exact sK_len ks t p
                  have hKm : ∀ y ∈ K, y.length ≤ 100 := fun y hy => by rw [hK] at hy; rcases sK_mem hord t p hy with h | h; rw [h]; exact htl; exact hkl y h
                  have hKl : ∀ y ∈ K, y.length ≤ 1000000 := fun y hy => by have := hKm y hy; omega
                  have hYl : Y.length = K.length := by rw [hY, hK]; exact sY_len hle ver t p
                  have hV2 : 0 ≤ V ∧ V ≤ ver + 1 := by rw [hV]; split <;> omega
                  have hL1 : (((K.zip Y).filter fun q => matchB f q.1)).length ≤ 1000000 := Nat.le_trans (List.length_filter_le _ _) (by rw [List.length_zip]; omega)
                  have hL0 : (((ks.zip ys).filter fun q => matchB f q.1)).length ≤ 1000000 := Nat.le_trans (List.length_filter_le _ _) (by rw [List.length_zip]; omega)
                  refine W_skip ?_
                  refine W_seq ?_
                  refine W_drawX (fun j => false) mixed ?_; intro w7 hE7
                  replace hX := hX.tr hE7
                  replace hB9 := hB9.ext hE7 id; replace hB10 := hB10.ext hE7 id
                  replace hp0 := hp0.ext hE7 (fun _ h => h.elim)
                  replace hx1 := hx1.ext hE7 (fun _ h => h.elim)
                  replace hx2 := hx2.ext hE7 (fun _ h => h.elim)
                  replace hx3 := hx3.ext hE7 (fun _ h => h.elim)
                  replace hzA := Nat.le_trans hzA hE7.size
                  have hS := Ext.refl Non w7
                  refine wx_take 0 [4, 5] _ _ rfl (by kernel_rfl) hS (yd_do fun A hA => rn_loadB s_74 rfl rfl (hB9.ext hA id)) ?_
                  refine wx_take 1 [5] _ _ rfl (by kernel_rfl) hS (yd_do fun A hA => rn_loadB s_76 rfl rfl (hB10.ext hA id)) ?_
                  refine wx_two 2 3 _ _ rfl rfl (by kernel_rfl) ?_ ?_
                  · refine s1_do ?_
                    refine wl_alloc z_74 ?_; intro b12 w8 hb12 hE8 hB12
                    have hn9_12 : b9 < b12 := Nat.lt_of_lt_of_le (Nat.lt_of_lt_of_le hB9.lt hS.size) hb12
                    have hn10_12 : b10 < b12 := Nat.lt_of_lt_of_le (Nat.lt_of_lt_of_le hB10.lt hS.size) hb12
                    have hq12 : w.heap.size ≤ b12 := Nat.le_trans (hX.tr hS).size hb12
                    have hl12 : Mine Non w b12 := .inr hq12
                    have hm12 : w7.heap.size ≤ b12 := Nat.le_trans hS.size hb12
                    replace hS := hS.tr hE8
                    refine wl_nil ⟨fun _ => hS, ?_⟩
                    refine wx_only 3 _ rfl (by kernel_rfl) ?_
                    refine s1_do ?_
                    refine wl_alloc z_76 ?_; intro b13 w9 hb13 hE9 hB13
                    have hn9_13 : b9 < b13 := Nat.lt_of_lt_of_le (Nat.lt_of_lt_of_le hB9.lt hS.size) hb13
                    have hn10_13 : b10 < b13 := Nat.lt_of_lt_of_le (Nat.lt_of_lt_of_le hB10.lt hS.size) hb13
                    have hn12_13 : b12 < b13 := Nat.lt_of_lt_of_le hB12.lt hb13
                    have hq13 : w.heap.size ≤ b13 := Nat.le_trans (hX.tr hS).size hb13
                    have hl13 : Mine Non w b13 := .inr hq13
                    have hm13 : w7.heap.size ≤ b13 := Nat.le_trans hS.size hb13
                    replace hB12 := hB12.ext hE9 id
                    replace hS := hS.tr hE9
                    refine wl_nil ⟨fun _ => hS, ?_⟩
                    refine wx_only 4 _ rfl (by kernel_rfl) ?_
                    refine s1_do ?_
                    refine wl_storeB s_74 rfl rfl rfl (three1 rfl rfl rfl) hB12 rfl ?_; intro w10 hE10 hB12 hz10
                    replace hB13 := hB13.ext hE10 (fun h => by omega)
                    replace hS := hS.mine hE10 (.inr (by omega))
                    refine wl_nil ⟨fun _ => hS, ?_⟩
                    refine wx_only 5 _ rfl (by kernel_rfl) ?_
                    refine s1_do ?_
                    refine wl_storeB s_76 rfl rfl rfl (by intro x hx; simp only [List.mem_cons, List.not_mem_nil, or_false] at hx; rcases hx with rfl | rfl | rfl | rfl <;> rfl) hB13 rfl ?_; intro w11 hE11 hB13 hz11
                    replace hB12 := hB12.ext hE11 (fun h => by omega)
                    replace hS := hS.mine hE11 (.inr (by omega))
                    refine wl_nil ⟨fun _ => hS, ?_⟩
                    refine wx_done (by kernel_rfl) ?_ _
                    replace hX := hX.tr hS
                    replace hB9 := hB9.ext hS id; replace hB10 := hB10.ext hS id
                    replace hp0 := hp0.ext hS (fun _ h => h.elim)
                    replace hx1 := hx1.ext hS (fun _ h => h.elim)
                    replace hx2 := hx2.ext hS (fun _ h => h.elim)
                    replace hx3 := hx3.ext hS (fun _ h => h.elim)
                    replace hzA := Nat.le_trans hzA hS.size
                    refine W_seq ?_
                    refine W_region ?_
                    refine wl_val (rn_assign (by conv => lhs; whnf)) ?_
                    refine wl_nil ?_
                    refine W_seq ?_
                    refine W_region ?_
                    refine wl_val (rn_assign (by conv => lhs; whnf)) ?_
                    refine wl_nil ?_
                    refine W_seq ?_
                    refine W_drawX (fun j => j == 11 || j == 12 || j == 13 || j == 14) mixed ?_; intro w12 hE12
                    replace hX := hX.tr hE12
                    replace hB9 := hB9.ext hE12 id; replace hB10 := hB10.ext hE12 id; replace hB12 := hB12.ext hE12 id; replace hB13 := hB13.ext hE12 id
                    replace hp0 := hp0.ext hE12 (fun _ h => h.elim)
                    replace hx1 := hx1.ext hE12 (fun _ h => h.elim)
                    replace hx2 := hx2.ext hE12 (fun _ h => h.elim)
                    replace hx3 := hx3.ext hE12 (fun _ h => h.elim)
                    replace hzA := Nat.le_trans hzA hE12.size
                    have hS := Ext.refl Non w12
                    refine wx_take 0 [9, 10, 11, 12, 13, 14] _ _ rfl (by kernel_rfl) hS (yd_do fun A hA => rn_loadB s_74 rfl rfl (hB9.ext hA id)) ?_
                    refine wx_take 1 [3, 4, 9, 10, 11, 12, 13, 14] _ _ rfl (by kernel_rfl) hS (yd_do fun A hA => rn_move (by conv => lhs; whnf)) ?_
                    refine wx_take 2 [3, 4, 9, 10, 11, 12, 13, 14] _ _ rfl (by kernel_rfl) hS (yd_do fun A hA => rn_move (by conv => lhs; whnf)) ?_
                    refine wx_take 3 [4, 9, 10, 11, 12, 13, 14] _ _ rfl (by kernel_rfl) hS (yd_do fun A hA => rn_indexAddr sl_68 rfl rfl (by omega)) ?_
                    refine wx_take 4 [9, 10, 11, 12, 13, 14] _ _ rfl (by kernel_rfl) hS (yd_do fun A hA => rn_load p_9 rfl (((h0.ext hX (fun _ h => h)).ext hA (fun _ h => h.elim)).at0 (eS_at hi) rfl)) ?_
                    refine wx_take 5 [7, 8, 9, 10, 11, 12, 13, 14] _ _ rfl (by kernel_rfl) hS (yd_do fun A hA => rn_move (by conv => lhs; whnf)) ?_
                    refine wx_take 6 [7, 8, 9, 10, 11, 12, 13, 14] _ _ rfl (by kernel_rfl) hS (yd_do fun A hA => rn_move (by conv => lhs; whnf)) ?_
                    refine wx_take 7 [8, 9, 10, 11, 12, 13, 14] _ _ rfl (by kernel_rfl) hS (yd_do fun A hA => rn_indexAddr sl_68 rfl rfl (by omega)) ?_
                    refine wx_take 8 [9, 10, 11, 12, 13, 14] _ _ rfl (by kernel_rfl) hS (yd_do fun A hA => rn_load p_9 rfl (((h1.ext hX (fun _ h => h)).ext hA (fun _ h => h.elim)).at0 (eS_at hj) rfl)) ?_
                    refine wx_only 9 _ rfl (by kernel_rfl) ?_
                    refine s1_do ?_
                    refine wl_call e_33 rfl (kput_ok w12 ks ys ver (fun j => j = b9 ∨ j = b10) (fun j h => by have := hB9.lt; have := hB10.lt; have := hS.size; rcases h with h | h <;> omega) ((hp0.ext hS (fun _ h => h.elim)).sub (fun j h _ => h.elim .inl (fun e => .inr (.inl e)))) hord (by omega) t p (by omega) (by omega) hver) ?_; intro v79 w13 hE13 hR13
                    replace hS := hS.tr hE13
                    obtain ⟨y1, y2, hu79, hm79⟩ := hR13
                    rw [← hK, ← hY] at hm79; rw [← hV] at hu79; subst hu79
                    obtain ⟨e1, l1, g1, hy1⟩ := id hm79.keys.shape; obtain ⟨e2, l2, g2, hy2⟩ := id hm79.vals.shape; subst hy1; subst hy2
                    refine wl_nil ⟨fun _ => hS, ?_⟩
                    refine wx_take 10 [11, 12, 13, 14] _ _ rfl (by kernel_rfl) hS (yd_do fun A hA => rn_move (by conv => lhs; whnf)) ?_
                    refine wx_takeP 11 _ _ rfl rfl (by kernel_rfl) (yd_do fun A _ => rn_extract rfl rfl) ?_
                    refine wx_takeP 12 _ _ rfl rfl (by kernel_rfl) (yd_do fun A _ => rn_extract rfl rfl) ?_
                    replace hX := hX.tr hS
                    replace hB9 := hB9.ext hS id; replace hB10 := hB10.ext hS id; replace hB12 := hB12.ext hS id; replace hB13 := hB13.ext hS id
                    replace hp0 := hp0.ext hS (fun _ h => h.elim)
                    replace hx1 := hx1.ext hS (fun _ h => h.elim)
                    replace hx2 := hx2.ext hS (fun _ h => h.elim)
                    replace hx3 := hx3.ext hS (fun _ h => h.elim)
                    replace hzA := Nat.le_trans hzA hS.size
                    refine wx_only 13 _ rfl (by kernel_rfl) ?_
                    refine s1_do ?_
                    have hBo := hB9
                    refine wl_storeB s_74 rfl rfl rfl (three1 rfl rfl rfl) hB9 rfl ?_; intro w14 hE14 hB9 hz14
                    replace hX := hX.mine hE14 hl9
                    replace hB10 := hB10.ext hE14 (fun h => by omega); replace hB12 := hB12.ext hE14 (fun h => by omega); replace hB13 := hB13.ext hE14 (fun h => by omega)
                    replace hp0 := hp0.ext hE14 (fun i e => by first | exact .inl e | exact .inr (.inl e) | exact .inr (.inr (by omega)))
                    replace hx1 := hx1.ext hE14 (fun i e => by first | exact .inl e | exact .inr (.inl e) | exact .inr (.inr (by omega)))
                    replace hx2 := hx2.ext hE14 (fun i e => by first | exact .inl e | exact .inr (.inl e) | exact .inr (.inr (by omega)))
                    replace hx3 := hx3.ext hE14 (fun i e => by first | exact .inl e | exact .inr (.inl e) | exact .inr (.inr (by omega)))
                    replace hzA := Nat.le_trans hzA hE14.size
                    replace hm79 := hm79.ext hE14 (fun i e => by first | exact .inl e | exact .inr e)
                    refine wl_nil ⟨fun h => absurd h (by decide), ?_⟩
                    refine wx_only 14 _ rfl (by kernel_rfl) ?_
                    refine s1_do ?_
                    refine wl_val (rn_assign (by conv => lhs; whnf)) ?_
                    refine wl_nil ⟨fun h => absurd h (by decide), ?_⟩
                    refine wx_done (by kernel_rfl) ?_ _
                    refine W_seq ?_
                    refine W_drawX (fun j => j == 11 || j == 12 || j == 13 || j == 14) mixed ?_; intro w15 hE15
                    replace hX := hX.tr hE15
                    replace hB9 := hB9.ext hE15 id; replace hB10 := hB10.ext hE15 id; replace hB12 := hB12.ext hE15 id; replace hB13 := hB13.ext hE15 id
                    replace hp0 := hp0.ext hE15 (fun _ h => h.elim)
                    replace hx1 := hx1.ext hE15 (fun _ h => h.elim)
                    replace hx2 := hx2.ext hE15 (fun _ h => h.elim)
                    replace hx3 := hx3.ext hE15 (fun _ h => h.elim)
                    replace hzA := Nat.le_trans hzA hE15.size
                    replace hm79 := hm79.ext hE15 (fun _ h => h.elim)
                    have hS := Ext.refl Non w15
                    refine wx_take 0 [9, 10, 11, 12, 13, 14] _ _ rfl (by kernel_rfl) hS (yd_do fun A hA => rn_loadB s_76 rfl rfl (hB10.ext hA id)) ?_
                    refine wx_take 1 [3, 4, 9, 10, 11, 12, 13, 14] _ _ rfl (by kernel_rfl) hS (yd_do fun A hA => rn_move (by conv => lhs; whnf)) ?_
                    refine wx_take 2 [3, 4, 9, 10, 11, 12, 13, 14] _ _ rfl (by kernel_rfl) hS (yd_do fun A hA => rn_move (by conv => lhs; whnf)) ?_
                    refine wx_take 3 [4, 9, 10, 11, 12, 13, 14] _ _ rfl (by kernel_rfl) hS (yd_do fun A hA => rn_indexAddr sl_68 rfl rfl (by omega)) ?_
                    refine wx_take 4 [9, 10, 11, 12, 13, 14] _ _ rfl (by kernel_rfl) hS (yd_do fun A hA => rn_load p_9 rfl (((h0.ext hX (fun _ h => h)).ext hA (fun _ h => h.elim)).at0 (eS_at hi) rfl)) ?_
                    refine wx_take 5 [7, 8, 9, 10, 11, 12, 13, 14] _ _ rfl (by kernel_rfl) hS (yd_do fun A hA => rn_move (by conv => lhs; whnf)) ?_
                    refine wx_take 6 [7, 8, 9, 10, 11, 12, 13, 14] _ _ rfl (by kernel_rfl) hS (yd_do fun A hA => rn_move (by conv => lhs; whnf)) ?_
                    refine wx_take 7 [8, 9, 10, 11, 12, 13, 14] _ _ rfl (by kernel_rfl) hS (yd_do fun A hA => rn_indexAddr sl_68 rfl rfl (by omega)) ?_
                    refine wx_take 8 [9, 10, 11, 12, 13, 14] _ _ rfl (by kernel_rfl) hS (yd_do fun A hA => rn_load p_9 rfl (((h1.ext hX (fun _ h => h)).ext hA (fun _ h => h.elim)).at0 (eS_at hj) rfl)) ?_
                    refine wx_only 9 _ rfl (by kernel_rfl) ?_
                    refine s1_do ?_
                    refine wl_call e_34 rfl (rput15_ok w15 ks ys ver (fun j => j = b9 ∨ j = b10) (fun j h => by have := hB9.lt; have := hB10.lt; have := hS.size; rcases h with h | h <;> omega) ((hx1.ext hS (fun _ h => h.elim)).sub (fun j h _ => h.elim .inl (fun e => .inr (.inl e)))) ((hx2.ext hS (fun _ h => h.elim)).sub (fun j h _ => h.elim .inl (fun e => .inr (.inl e)))) ((hx3.ext hS (fun _ h => h.elim)).sub (fun j h _ => h.elim .inl (fun e => .inr (.inl e)))) hle hord (by omega) t p (by omega) (fun z hz => by have := hkl z hz; omega) hver) ?_; intro v92 w16 hE16 hR16
                    replace hS := hS.tr hE16
                    obtain ⟨z1, z2, z3, hu92, hr1, hr2, hr3⟩ := hR16
                    rw [← hK] at hr1; rw [← hY] at hr2 hr3; rw [← hV] at hu92; subst hu92
                    obtain ⟨i1, j1, hz1, _⟩ := id hr1.len; obtain ⟨i2, j2, hz2, _⟩ := id hr2.len; obtain ⟨i3, j3, hz3, _⟩ := id hr3.len; subst hz1; subst hz2; subst hz3; simp only [List.length_map] at hr1 hr2 hr3 ⊢
                    refine wl_nil ⟨fun _ => hS, ?_⟩
                    refine wx_take 10 [11, 12, 13, 14] _ _ rfl (by kernel_rfl) hS (yd_do fun A hA => rn_move (by conv => lhs; whnf)) ?_
                    refine wx_takeP 11 _ _ rfl rfl (by kernel_rfl) (yd_do fun A _ => rn_extract rfl rfl) ?_
                    refine wx_takeP 12 _ _ rfl rfl (by kernel_rfl) (yd_do fun A _ => rn_extract rfl rfl) ?_
                    replace hX := hX.tr hS
                    replace hB9 := hB9.ext hS id; replace hB10 := hB10.ext hS id; replace hB12 := hB12.ext hS id; replace hB13 := hB13.ext hS id
                    replace hp0 := hp0.ext hS (fun _ h => h.elim)
                    replace hx1 := hx1.ext hS (fun _ h => h.elim)
                    replace hx2 := hx2.ext hS (fun _ h => h.elim)
                    replace hx3 := hx3.ext hS (fun _ h => h.elim)
                    replace hzA := Nat.le_trans hzA hS.size
                    replace hm79 := hm79.ext hS (fun _ h => h.elim)
                    refine wx_only 13 _ rfl (by kernel_rfl) ?_
                    refine s1_do ?_
                    have hBo := hB10
                    refine wl_storeB s_76 rfl rfl rfl (by intro x hx; simp only [List.mem_cons, List.not_mem_nil, or_false] at hx; rcases hx with rfl | rfl | rfl | rfl <;> rfl) hB10 rfl ?_; intro w17 hE17 hB10 hz17
                    replace hX := hX.mine hE17 hl10
                    replace hB9 := hB9.ext hE17 (fun h => by omega); replace hB12 := hB12.ext hE17 (fun h => by omega); replace hB13 := hB13.ext hE17 (fun h => by omega)
                    replace hp0 := hp0.ext hE17 (fun i e => by first | exact .inl e | exact .inr (.inl e) | exact .inr (.inr (by omega)))
                    replace hx1 := hx1.ext hE17 (fun i e => by first | exact .inl e | exact .inr (.inl e) | exact .inr (.inr (by omega)))
                    replace hx2 := hx2.ext hE17 (fun i e => by first | exact .inl e | exact .inr (.inl e) | exact .inr (.inr (by omega)))
                    replace hx3 := hx3.ext hE17 (fun i e => by first | exact .inl e | exact .inr (.inl e) | exact .inr (.inr (by omega)))
                    replace hzA := Nat.le_trans hzA hE17.size
                    replace hm79 := hm79.ext hE17 (fun i e => by first | exact .inl e | exact .inr e)
                    replace hr1 := hr1.ext hE17 (fun i e => by first | exact .inl e | exact .inr e)
                    replace hr2 := hr2.ext hE17 (fun i e => by first | exact .inl e | exact .inr e)
                    replace hr3 := hr3.ext hE17 (fun i e => by first | exact .inl e | exact .inr e)
                    refine wl_nil ⟨fun h => absurd h (by decide), ?_⟩
                    refine wx_only 14 _ rfl (by kernel_rfl) ?_
                    refine s1_do ?_
                    refine wl_val (rn_assign (by conv => lhs; whnf)) ?_
                    refine wl_nil ⟨fun h => absurd h (by decide), ?_⟩
                    refine wx_done (by kernel_rfl) ?_ _
                    refine W_seq ?_
                    refine W_region ?_
                    refine wl_val (rn_loadB s_74 rfl rfl hB9) ?_
                    refine wl_val (rn_move (by conv => lhs; whnf)) ?_
                    refine wl_call e_35 rfl (scan_ok w17 K Y V (hm79.sub (M' := Non) (fun _ h _ => h.elim)) (by omega) hKl f hnf) ?_; intro v98 w18 hE18 hR18
                    replace hX := hX.tr hE18
                    replace hB9 := hB9.ext hE18 id; replace hB10 := hB10.ext hE18 id; replace hB12 := hB12.ext hE18 id; replace hB13 := hB13.ext hE18 id
                    replace hp0 := hp0.ext hE18 (fun _ h => h.elim)
                    replace hx1 := hx1.ext hE18 (fun _ h => h.elim)
                    replace hx2 := hx2.ext hE18 (fun _ h => h.elim)
                    replace hx3 := hx3.ext hE18 (fun _ h => h.elim)
                    replace hzA := Nat.le_trans hzA hE18.size
                    replace hm79 := hm79.ext hE18 (fun _ h => h.elim)
                    replace hr1 := hr1.ext hE18 (fun _ h => h.elim)
                    replace hr2 := hr2.ext hE18 (fun _ h => h.elim)
                    replace hr3 := hr3.ext hE18 (fun _ h => h.elim)
                    obtain ⟨v98, rfl, hS98⟩ := hR18
                    obtain ⟨a98, c98, rfl, _⟩ := id hS98.len
                    refine wl_val (rn_move (by conv => lhs; whnf)) ?_
                    refine wl_val (rn_extract rfl rfl) ?_
                    refine wl_val (rn_extract rfl rfl) ?_
                    refine wl_val (rn_assign (by conv => lhs; whnf)) ?_
                    refine wl_val (rn_assign (by conv => lhs; whnf)) ?_
                    refine wl_nil ?_
                    refine W_seq ?_
                    refine W_region ?_
                    refine wl_val (rn_loadB s_74 rfl rfl hB12) ?_
                    refine wl_val (rn_move (by conv => lhs; whnf)) ?_
                    refine wl_call e_35 rfl (scan_ok w18 ks ys ver (hp0.sub (M' := Non) (fun _ h _ => h.elim)) (by omega) (fun z hz => by have := hkl z hz; omega) f hnf) ?_; intro v104 w19 hE19 hR19
                    replace hX := hX.tr hE19
                    replace hB9 := hB9.ext hE19 id; replace hB10 := hB10.ext hE19 id; replace hB12 := hB12.ext hE19 id; replace hB13 := hB13.ext hE19 id
                    replace hp0 := hp0.ext hE19 (fun _ h => h.elim)
                    replace hx1 := hx1.ext hE19 (fun _ h => h.elim)
                    replace hx2 := hx2.ext hE19 (fun _ h => h.elim)
                    replace hx3 := hx3.ext hE19 (fun _ h => h.elim)
                    replace hzA := Nat.le_trans hzA hE19.size
                    replace hm79 := hm79.ext hE19 (fun _ h => h.elim)
                    replace hr1 := hr1.ext hE19 (fun _ h => h.elim)
                    replace hr2 := hr2.ext hE19 (fun _ h => h.elim)
                    replace hr3 := hr3.ext hE19 (fun _ h => h.elim)
                    replace hS98 := hS98.ext hE19 (fun _ h => h)
                    obtain ⟨v104, rfl, hS104⟩ := hR19
                    obtain ⟨a104, c104, rfl, _⟩ := id hS104.len
                    refine wl_val (rn_move (by conv => lhs; whnf)) ?_
                    refine wl_val (rn_extract rfl rfl) ?_
                    refine wl_val (rn_extract rfl rfl) ?_
                    refine wl_val (rn_assign (by conv => lhs; whnf)) ?_
                    refine wl_val (rn_assign (by conv => lhs; whnf)) ?_
                    refine wl_nil ?_
                    refine W_seq ?_
                    refine W_region ?_
                    refine wl_val (rn_loadB s_74 rfl rfl hB9) ?_
                    refine wl_val (rn_move (by conv => lhs; whnf)) ?_
                    refine wl_call e_36 rfl (kget_ok w19 K Y V (hm79.sub (M' := Non) (fun _ h _ => h.elim)) hKs (by omega) q) ?_; intro v110 w20 hE20 hR20
                    replace hX := hX.tr hE20
                    replace hB9 := hB9.ext hE20 id; replace hB10 := hB10.ext hE20 id; replace hB12 := hB12.ext hE20 id; replace hB13 := hB13.ext hE20 id
                    replace hp0 := hp0.ext hE20 (fun _ h => h.elim)
                    replace hx1 := hx1.ext hE20 (fun _ h => h.elim)
                    replace hx2 := hx2.ext hE20 (fun _ h => h.elim)
                    replace hx3 := hx3.ext hE20 (fun _ h => h.elim)
                    replace hzA := Nat.le_trans hzA hE20.size
                    replace hm79 := hm79.ext hE20 (fun _ h => h.elim)
                    replace hr1 := hr1.ext hE20 (fun _ h => h.elim)
                    replace hr2 := hr2.ext hE20 (fun _ h => h.elim)
                    replace hr3 := hr3.ext hE20 (fun _ h => h.elim)
                    replace hS98 := hS98.ext hE20 (fun _ h => h)
                    replace hS104 := hS104.ext hE20 (fun _ h => h)
                    subst hR20
                    refine wl_val (rn_move (by conv => lhs; whnf)) ?_
                    refine wl_val (rn_extract rfl rfl) ?_
                    refine wl_val (rn_extract rfl rfl) ?_
                    refine wl_val (rn_extract rfl rfl) ?_
                    refine wl_val (rn_assign (by conv => lhs; whnf)) ?_
                    refine wl_val (rn_assign (by conv => lhs; whnf)) ?_
                    refine wl_val (rn_assign (by conv => lhs; whnf)) ?_
                    refine wl_nil ?_
                    refine W_seq ?_
                    refine W_region ?_
                    refine wl_val (rn_loadB s_76 rfl rfl hB10) ?_
                    refine wl_val (rn_move (by conv => lhs; whnf)) ?_
                    refine wl_call e_37 rfl (rget15_ok w20 K Y V (hr1.sub (M' := Non) (fun _ h _ => h.elim)) (hr2.sub (M' := Non) (fun _ h _ => h.elim)) (hr3.sub (M' := Non) (fun _ h _ => h.elim)) hYl hKs (by omega) q) ?_; intro v117 w21 hE21 hR21
                    replace hX := hX.tr hE21
                    replace hB9 := hB9.ext hE21 id; replace hB10 := hB10.ext hE21 id; replace hB12 := hB12.ext hE21 id; replace hB13 := hB13.ext hE21 id
                    replace hp0 := hp0.ext hE21 (fun _ h => h.elim)
                    replace hx1 := hx1.ext hE21 (fun _ h => h.elim)
                    replace hx2 := hx2.ext hE21 (fun _ h => h.elim)
                    replace hx3 := hx3.ext hE21 (fun _ h => h.elim)
                    replace hzA := Nat.le_trans hzA hE21.size
                    replace hm79 := hm79.ext hE21 (fun _ h => h.elim)
                    replace hr1 := hr1.ext hE21 (fun _ h => h.elim)
                    replace hr2 := hr2.ext hE21 (fun _ h => h.elim)
                    replace hr3 := hr3.ext hE21 (fun _ h => h.elim)
                    replace hS98 := hS98.ext hE21 (fun _ h => h)
                    replace hS104 := hS104.ext hE21 (fun _ h => h)
                    subst hR21
                    refine wl_val (rn_move (by conv => lhs; whnf)) ?_
                    refine wl_val (rn_extract rfl rfl) ?_
                    refine wl_val (rn_extract rfl rfl) ?_
                    refine wl_val (rn_extract rfl rfl) ?_
                    refine wl_val (rn_assign (by conv => lhs; whnf)) ?_
                    refine wl_val (rn_assign (by conv => lhs; whnf)) ?_
                    refine wl_val (rn_assign (by conv => lhs; whnf)) ?_
                    refine wl_nil ?_
                    refine W_seq ?_
                    refine W_drawE mixed ?_; intro w22 hE22
                    replace hX := hX.tr hE22
                    replace hB9 := hB9.ext hE22 id; replace hB10 := hB10.ext hE22 id; replace hB12 := hB12.ext hE22 id; replace hB13 := hB13.ext hE22 id
                    replace hp0 := hp0.ext hE22 (fun _ h => h.elim)
                    replace hx1 := hx1.ext hE22 (fun _ h => h.elim)
                    replace hx2 := hx2.ext hE22 (fun _ h => h.elim)
                    replace hx3 := hx3.ext hE22 (fun _ h => h.elim)
                    replace hzA := Nat.le_trans hzA hE22.size
                    replace hm79 := hm79.ext hE22 (fun _ h => h.elim)
                    replace hr1 := hr1.ext hE22 (fun _ h => h.elim)
                    replace hr2 := hr2.ext hE22 (fun _ h => h.elim)
                    replace hr3 := hr3.ext hE22 (fun _ h => h.elim)
                    replace hS98 := hS98.ext hE22 (fun _ h => h)
                    replace hS104 := hS104.ext hE22 (fun _ h => h)
                    have hS := Ext.refl Non w22
                    refine wd_take 0 _ _ rfl (by kernel_rfl) hS (yd_do fun A hA => rn_move (by conv => lhs; whnf)) ?_
                    refine wd_take 1 _ _ rfl (by kernel_rfl) hS (yd_do fun A hA => rn_move (by conv => lhs; whnf)) ?_
                    refine wd_take 2 _ _ rfl (by kernel_rfl) hS (yd_do fun A hA => rn_neq rfl rfl) ?_
                    refine wd_take 3 _ _ rfl (by kernel_rfl) hS (yd_do fun A hA => rn_move (by conv => lhs; whnf)) ?_
                    refine wd_split (d := 124) rfl (fun hg124 => ?_) (fun hg124 => ?_)
                    · exact absurd (of_decide_eq_true hg124) (by simp)
                    · refine wd_take 4 _ _ rfl (by kernel_rfl) hS (yd_yes rfl (congrArg Value.bool hg124) fun A hA => rn_loadB s_74 rfl rfl (hB9.ext hA id)) ?_
                      refine wd_take 6 _ _ rfl (by kernel_rfl) hS (yd_yes rfl (congrArg Value.bool hg124) fun A hA => rn_fieldAddr f_76_0 (by decide) rfl) ?_
                      refine wd_take 7 _ _ rfl (by kernel_rfl) hS (yd_yes rfl (congrArg Value.bool hg124) fun A hA => rn_load1 p_68 rfl (hB10.ext hA id) rfl) ?_
                      refine wd_take 8 _ _ rfl (by kernel_rfl) hS (yd_yes rfl (congrArg Value.bool hg124) fun A hA => rn_len sl_68 rfl) ?_
                      refine wd_only 5 _ rfl (by kernel_rfl) ?_
                      refine s1_yes rfl (congrArg Value.bool hg124) ?_
                      refine wl_call e_38 rfl (klen_ok w22 K Y V ((hm79.ext hS (fun _ h => h.elim)).sub (M' := Non) (fun _ h _ => h.elim)) (by omega)) ?_; intro v126 w23 hE23 hR23
                      replace hS := hS.tr hE23
                      subst hR23
                      refine wl_nil ⟨hS, ?_⟩
                      refine wd_take 9 _ _ rfl (by kernel_rfl) hS (yd_yes rfl (congrArg Value.bool hg124) fun A hA => rn_neq rfl rfl) ?_
                      refine wd_take 10 _ _ rfl (by kernel_rfl) hS (yd_do fun A hA => rn_pickF (congrArg Value.bool hg124) (by conv => lhs; whnf)) ?_
                      refine wd_take 11 _ _ rfl (by kernel_rfl) hS (yd_do fun A hA => rn_move (by conv => lhs; whnf)) ?_
                      refine wd_split (d := 132) rfl (fun hg132 => ?_) (fun hg132 => ?_)
                      · exact absurd (of_decide_eq_true hg132) (by simp)
                      · refine wd_take 12 _ _ rfl (by kernel_rfl) hS (yd_yes rfl (congrArg Value.bool hg132) fun A hA => rn_loadB s_74 rfl rfl (hB9.ext hA id)) ?_
                        refine wd_take 14 _ _ rfl (by kernel_rfl) hS (yd_yes rfl (congrArg Value.bool hg132) fun A hA => rn_fieldAddr f_76_3 (by decide) rfl) ?_
                        refine wd_take 15 _ _ rfl (by kernel_rfl) hS (yd_yes rfl (congrArg Value.bool hg132) fun A hA => rn_load1 p_3 rfl (hB10.ext hA id) rfl) ?_
                        refine wd_only 13 _ rfl (by kernel_rfl) ?_
                        refine s1_yes rfl (congrArg Value.bool hg132) ?_
                        refine wl_call e_39 rfl (kver_ok w23 _ _ V) ?_; intro v134 w24 hE24 hR24
                        replace hS := hS.tr hE24
                        subst hR24
                        refine wl_nil ⟨hS, ?_⟩
                        refine wd_take 16 _ _ rfl (by kernel_rfl) hS (yd_yes rfl (congrArg Value.bool hg132) fun A hA => rn_neq rfl rfl) ?_
                        refine wd_take 17 _ _ rfl (by kernel_rfl) hS (yd_do fun A hA => rn_pickF (congrArg Value.bool hg132) (by conv => lhs; whnf)) ?_
                        refine wd_take 18 _ _ rfl (by kernel_rfl) hS (yd_do fun A hA => rn_move (by conv => lhs; whnf)) ?_
                        refine wd_split (d := 139) rfl (fun hg139 => ?_) (fun hg139 => ?_)
                        · exact absurd (of_decide_eq_true hg139) (by simp)
                        · refine wd_take 19 _ _ rfl (by kernel_rfl) hS (yd_yes rfl (congrArg Value.bool hg139) fun A hA => rn_move (by conv => lhs; whnf)) ?_
                          refine wd_take 20 _ _ rfl (by kernel_rfl) hS (yd_yes rfl (congrArg Value.bool hg139) fun A hA => rn_not rfl) ?_
                          refine wd_take 21 _ _ rfl (by kernel_rfl) hS (yd_do fun A hA => rn_pickF (congrArg Value.bool hg139) (by conv => lhs; whnf)) ?_
                          refine wd_take 22 _ _ rfl (by kernel_rfl) hS (yd_do fun A hA => rn_move (by conv => lhs; whnf)) ?_
                          refine wd_split (d := 143) rfl (fun hg143 => ?_) (fun hg143 => ?_)
                          · exact absurd hg143 (by simp)
                          · refine wd_take 23 _ _ rfl (by kernel_rfl) hS (yd_yes rfl (congrArg Value.bool hg143) fun A hA => rn_move (by conv => lhs; whnf)) ?_
                            refine wd_take 24 _ _ rfl (by kernel_rfl) hS (yd_yes rfl (congrArg Value.bool hg143) fun A hA => rn_not rfl) ?_
                            refine wd_take 25 _ _ rfl (by kernel_rfl) hS (yd_do fun A hA => rn_pickF (congrArg Value.bool hg143) (by conv => lhs; whnf)) ?_
                            refine wd_take 26 _ _ rfl (by kernel_rfl) hS (yd_do fun A hA => rn_move (by conv => lhs; whnf)) ?_
                            refine wd_split (d := 147) rfl (fun hg147 => ?_) (fun hg147 => ?_)
                            · exact absurd hg147 (by simp)
                            · refine wd_take 27 _ _ rfl (by kernel_rfl) hS (yd_yes rfl (congrArg Value.bool hg147) fun A hA => rn_move (by conv => lhs; whnf)) ?_
                              refine wd_take 28 _ _ rfl (by kernel_rfl) hS (yd_yes rfl (congrArg Value.bool hg147) fun A hA => rn_loadB s_76 rfl rfl (hB10.ext hA id)) ?_
                              refine wd_take 29 _ _ rfl (by kernel_rfl) hS (yd_yes rfl (congrArg Value.bool hg147) fun A hA => rn_move (by conv => lhs; whnf)) ?_
                              refine wd_only 30 _ rfl (by kernel_rfl) ?_
                              refine s1_yes rfl (congrArg Value.bool hg147) ?_
                              refine wl_call e_41 rfl (rscan15_ok w24 K Y V ((hr1.ext hS (fun _ h => h.elim)).sub (M' := Non) (fun _ h _ => h.elim)) ((hr2.ext hS (fun _ h => h.elim)).sub (M' := Non) (fun _ h _ => h.elim)) ((hr3.ext hS (fun _ h => h.elim)).sub (M' := Non) (fun _ h _ => h.elim)) hYl hKs (by omega) f hnf hKl) ?_; intro v151 w25 hE25 hR25
                              replace hS := hS.tr hE25
                              have hS151 := hR25
                              obtain ⟨a151, c151, hv151, _⟩ := id hS151.len; subst hv151
                              refine wl_nil ⟨hS, ?_⟩
                              refine wd_only 31 _ rfl (by kernel_rfl) ?_
                              refine s1_yes rfl (congrArg Value.bool hg147) ?_
                              refine wl_call e_40 rfl (rmsgs_ok w25 (((K.zip Y).filter fun q => matchB f q.1).map toMsg) (((K.zip Y).filter fun q => matchB f q.1).map toMsg) (by rw [← toMsg_map]; exact hS98.ext hS (fun _ h => h)) (by rw [← toMsg_map]; exact hS151) (by rw [List.length_map]; omega)) ?_; intro v152 w26 hE26 hR26
                              replace hS := hS.tr hE26
                              replace hS151 := hS151.ext hE26 (fun _ h => h)
                              subst hR26
                              refine wl_nil ⟨hS, ?_⟩
                              refine wd_take 32 _ _ rfl (by kernel_rfl) hS (yd_yes rfl (congrArg Value.bool hg147) fun A hA => rn_not rfl) ?_
                              refine wd_take 33 _ _ rfl (by kernel_rfl) hS (yd_do fun A hA => rn_pickF (congrArg Value.bool hg147) (by conv => lhs; whnf)) ?_
                              refine wd_take 34 _ _ rfl (by kernel_rfl) hS (yd_do fun A hA => rn_move (by conv => lhs; whnf)) ?_
                              refine wd_split (d := 155) rfl (fun hg155 => ?_) (fun hg155 => ?_)
                              · exact absurd hg155 (by simp)
                              · refine wd_take 35 _ _ rfl (by kernel_rfl) hS (yd_yes rfl (congrArg Value.bool hg155) fun A hA => rn_move (by conv => lhs; whnf)) ?_
                                refine wd_take 36 _ _ rfl (by kernel_rfl) hS (yd_yes rfl (congrArg Value.bool hg155) fun A hA => rn_loadB s_76 rfl rfl (hB13.ext hA id)) ?_
                                refine wd_take 37 _ _ rfl (by kernel_rfl) hS (yd_yes rfl (congrArg Value.bool hg155) fun A hA => rn_move (by conv => lhs; whnf)) ?_
                                refine wd_only 38 _ rfl (by kernel_rfl) ?_
                                refine s1_yes rfl (congrArg Value.bool hg155) ?_
                                refine wl_call e_41 rfl (rscan15_ok w26 ks ys ver ((hx1.ext hS (fun _ h => h.elim)).sub (M' := Non) (fun _ h _ => h.elim)) ((hx2.ext hS (fun _ h => h.elim)).sub (M' := Non) (fun _ h _ => h.elim)) ((hx3.ext hS (fun _ h => h.elim)).sub (M' := Non) (fun _ h _ => h.elim)) hle hord (by omega) f hnf (fun z hz => by have := hkl z hz; omega)) ?_; intro v159 w27 hE27 hR27
                                replace hS := hS.tr hE27
                                replace hS151 := hS151.ext hE27 (fun _ h => h)
                                have hS159 := hR27
                                obtain ⟨a159, c159, hv159, _⟩ := id hS159.len; subst hv159
                                refine wl_nil ⟨hS, ?_⟩
                                refine wd_only 39 _ rfl (by kernel_rfl) ?_
                                refine s1_yes rfl (congrArg Value.bool hg155) ?_
                                refine wl_call e_40 rfl (rmsgs_ok w27 (((ks.zip ys).filter fun q => matchB f q.1).map toMsg) (((ks.zip ys).filter fun q => matchB f q.1).map toMsg) (by rw [← toMsg_map]; exact hS104.ext hS (fun _ h => h)) (by rw [← toMsg_map]; exact hS159) (by rw [List.length_map]; omega)) ?_; intro v160 w28 hE28 hR28
                                replace hS := hS.tr hE28
                                replace hS151 := hS151.ext hE28 (fun _ h => h)
                                replace hS159 := hS159.ext hE28 (fun _ h => h)
                                subst hR28
                                refine wl_nil ⟨hS, ?_⟩
                                refine wd_take 40 _ _ rfl (by kernel_rfl) hS (yd_yes rfl (congrArg Value.bool hg155) fun A hA => rn_not rfl) ?_
                                refine wd_take 41 _ _ rfl (by kernel_rfl) hS (yd_do fun A hA => rn_pickF (congrArg Value.bool hg155) (by conv => lhs; whnf)) ?_
                                refine wd_take 42 _ _ rfl (by kernel_rfl) hS (yd_do fun A hA => rn_move (by conv => lhs; whnf)) ?_
                                refine wd_split (d := 163) rfl (fun hg163 => ?_) (fun hg163 => ?_)
                                · exact absurd hg163 (by simp)
                                · refine wd_take 43 _ _ rfl (by kernel_rfl) hS (yd_yes rfl (congrArg Value.bool hg163) fun A hA => rn_loadB s_74 rfl rfl (hB12.ext hA id)) ?_
                                  refine wd_take 45 _ _ rfl (by kernel_rfl) hS (yd_yes rfl (congrArg Value.bool hg163) fun A hA => rn_fieldAddr f_76_3 (by decide) rfl) ?_
                                  refine wd_take 46 _ _ rfl (by kernel_rfl) hS (yd_yes rfl (congrArg Value.bool hg163) fun A hA => rn_load1 p_3 rfl (hB13.ext hA id) rfl) ?_
                                  refine wd_only 44 _ rfl (by kernel_rfl) ?_
                                  refine s1_yes rfl (congrArg Value.bool hg163) ?_
                                  refine wl_call e_39 rfl (kver_ok w28 _ _ ver) ?_; intro v165 w29 hE29 hR29
                                  replace hS := hS.tr hE29
                                  replace hS151 := hS151.ext hE29 (fun _ h => h)
                                  replace hS159 := hS159.ext hE29 (fun _ h => h)
                                  subst hR29
                                  refine wl_nil ⟨hS, ?_⟩
                                  refine wd_take 47 _ _ rfl (by kernel_rfl) hS (yd_yes rfl (congrArg Value.bool hg163) fun A hA => rn_neq rfl rfl) ?_
                                  refine wd_take 48 _ _ rfl (by kernel_rfl) hS (yd_do fun A hA => rn_pickF (congrArg Value.bool hg163) (by conv => lhs; whnf)) ?_
                                  refine wd_take 49 _ _ rfl (by kernel_rfl) hS (yd_do fun A hA => rn_move (by conv => lhs; whnf)) ?_
                                  refine wd_split (d := 170) rfl (fun hg170 => ?_) (fun hg170 => ?_)
                                  · exact absurd (of_decide_eq_true hg170) (by simp)
                                  · refine wd_take 50 _ _ rfl (by kernel_rfl) hS (yd_yes rfl (congrArg Value.bool hg170) fun A hA => rn_move (by conv => lhs; whnf)) ?_
                                    refine wd_take 51 _ _ rfl (by kernel_rfl) hS (yd_yes rfl (congrArg Value.bool hg170) fun A hA => rn_move (by conv => lhs; whnf)) ?_
                                    refine wd_take 52 _ _ rfl (by kernel_rfl) hS (yd_yes rfl (congrArg Value.bool hg170) fun A hA => rn_sneq rfl rfl) ?_
                                    refine wd_take 53 _ _ rfl (by kernel_rfl) hS (yd_do fun A hA => rn_pickF (congrArg Value.bool hg170) (by conv => lhs; whnf)) ?_
                                    refine wd_take 54 _ _ rfl (by kernel_rfl) hS (yd_do fun A hA => rn_move (by conv => lhs; whnf)) ?_
                                    refine wd_split (d := 175) rfl (fun hg175 => ?_) (fun hg175 => ?_)
                                    · exact absurd (of_decide_eq_true hg175) (by simp)
                                    · refine wd_take 55 _ _ rfl (by kernel_rfl) hS (yd_yes rfl (congrArg Value.bool hg175) fun A hA => rn_move (by conv => lhs; whnf)) ?_
                                      refine wd_take 56 _ _ rfl (by kernel_rfl) hS (yd_yes rfl (congrArg Value.bool hg175) fun A hA => rn_move (by conv => lhs; whnf)) ?_
                                      refine wd_take 57 _ _ rfl (by kernel_rfl) hS (yd_yes rfl (congrArg Value.bool hg175) fun A hA => rn_neq rfl rfl) ?_
                                      refine wd_take 58 _ _ rfl (by kernel_rfl) hS (yd_do fun A hA => rn_pickF (congrArg Value.bool hg175) (by conv => lhs; whnf)) ?_
                                      refine wd_take 59 _ _ rfl (by kernel_rfl) hS (yd_do fun A hA => rn_move (by conv => lhs; whnf)) ?_
                                      refine wd_split (d := 180) rfl (fun hg180 => ?_) (fun hg180 => ?_)
                                      · exact absurd (of_decide_eq_true hg180) (by simp)
                                      · refine wd_take 60 _ _ rfl (by kernel_rfl) hS (yd_yes rfl (congrArg Value.bool hg180) fun A hA => rn_move (by conv => lhs; whnf)) ?_
                                        refine wd_take 61 _ _ rfl (by kernel_rfl) hS (yd_yes rfl (congrArg Value.bool hg180) fun A hA => rn_move (by conv => lhs; whnf)) ?_
                                        refine wd_take 62 _ _ rfl (by kernel_rfl) hS (yd_yes rfl (congrArg Value.bool hg180) fun A hA => rn_bneq ub_4 rfl rfl) ?_
                                        refine wd_take 63 _ _ rfl (by kernel_rfl) hS (yd_do fun A hA => rn_pickF (congrArg Value.bool hg180) (by conv => lhs; whnf)) ?_
                                        refine wd_done (by kernel_rfl) ?_ _
                                        replace hX := hX.tr hS
                                        replace hB9 := hB9.ext hS id; replace hB10 := hB10.ext hS id; replace hB12 := hB12.ext hS id; replace hB13 := hB13.ext hS id
                                        replace hp0 := hp0.ext hS (fun _ h => h.elim)
                                        replace hx1 := hx1.ext hS (fun _ h => h.elim)
                                        replace hx2 := hx2.ext hS (fun _ h => h.elim)
                                        replace hx3 := hx3.ext hS (fun _ h => h.elim)
                                        replace hzA := Nat.le_trans hzA hS.size
                                        replace hm79 := hm79.ext hS (fun _ h => h.elim)
                                        replace hr1 := hr1.ext hS (fun _ h => h.elim)
                                        replace hr2 := hr2.ext hS (fun _ h => h.elim)
                                        replace hr3 := hr3.ext hS (fun _ h => h.elim)
                                        replace hS98 := hS98.ext hS (fun _ h => h)
                                        replace hS104 := hS104.ext hS (fun _ h => h)
                                        refine W_cond rfl (fun hc4 => ?_) (fun hc4 => ?_)
                                        · exact absurd (of_decide_eq_true hc4) (by simp)
                                        · refine W_skip ?_
                                          refine W_region ?_
                                          refine wl_val (rn_move (by conv => lhs; whnf)) ?_
                                          refine wl_val (rn_add rfl rfl (by omega)) ?_
                                          refine wl_val (rn_assign (by conv => lhs; whnf)) ?_
                                          refine wl_nil ?_
                                          exact ⟨rfl, (i + 1, K, Y, V, _, _, _, _, _), ⟨rfl, rfl, rfl, rfl, rfl, rfl, rfl, trivial⟩, ⟨hX, hB9, hB10, hl9, hl10, hn9_10, ⟨hlt, hm79, hr1, hr2, hr3, hKs, by show K.length ≤ i + 1; omega, hKm, by show 0 ≤ V; omega, by show V ≤ ((i + 1 : Nat) : Int); omega⟩⟩, by show topics.length - (i + 1) < topics.length - i; omega⟩
                  · refine s1_do ?_
                    refine wl_alloc z_76 ?_; intro b13 w30 hb13 hE30 hB13
                    have hn9_13 : b9 < b13 := Nat.lt_of_lt_of_le (Nat.lt_of_lt_of_le hB9.lt hS.size) hb13
                    have hn10_13 : b10 < b13 := Nat.lt_of_lt_of_le (Nat.lt_of_lt_of_le hB10.lt hS.size) hb13
                    have hq13 : w.heap.size ≤ b13 := Nat.le_trans (hX.tr hS).size hb13
                    have hl13 : Mine Non w b13 := .inr hq13
                    have hm13 : w7.heap.size ≤ b13 := Nat.le_trans hS.size hb13
                    replace hS := hS.tr hE30
                    refine wl_nil ⟨fun _ => hS, ?_⟩
                    refine wx_only 2 _ rfl (by kernel_rfl) ?_
                    refine s1_do ?_
                    refine wl_alloc z_74 ?_; intro b12 w31 hb12 hE31 hB12
                    have hn9_12 : b9 < b12 := Nat.lt_of_lt_of_le (Nat.lt_of_lt_of_le hB9.lt hS.size) hb12
                    have hn10_12 : b10 < b12 := Nat.lt_of_lt_of_le (Nat.lt_of_lt_of_le hB10.lt hS.size) hb12
                    have hn13_12 : b13 < b12 := Nat.lt_of_lt_of_le hB13.lt hb12
                    have hq12 : w.heap.size ≤ b12 := Nat.le_trans (hX.tr hS).size hb12
                    have hl12 : Mine Non w b12 := .inr hq12
                    have hm12 : w7.heap.size ≤ b12 := Nat.le_trans hS.size hb12
                    replace hB13 := hB13.ext hE31 id
                    replace hS := hS.tr hE31
                    refine wl_nil ⟨fun _ => hS, ?_⟩
                    refine wx_only 4 _ rfl (by kernel_rfl) ?_
                    refine s1_do ?_
                    refine wl_storeB s_74 rfl rfl rfl (three1 rfl rfl rfl) hB12 rfl ?_; intro w32 hE32 hB12 hz32
                    replace hB13 := hB13.ext hE32 (fun h => by omega)
                    replace hS := hS.mine hE32 (.inr (by omega))
                    refine wl_nil ⟨fun _ => hS, ?_⟩
                    refine wx_only 5 _ rfl (by kernel_rfl) ?_
                    refine s1_do ?_
                    refine wl_storeB s_76 rfl rfl rfl (by intro x hx; simp only [List.mem_cons, List.not_mem_nil, or_false] at hx; rcases hx with rfl | rfl | rfl | rfl <;> rfl) hB13 rfl ?_; intro w33 hE33 hB13 hz33
                    replace hB12 := hB12.ext hE33 (fun h => by omega)
                    replace hS := hS.mine hE33 (.inr (by omega))
                    refine wl_nil ⟨fun _ => hS, ?_⟩
                    refine wx_done (by kernel_rfl) ?_ _
                    replace hX := hX.tr hS
                    replace hB9 := hB9.ext hS id; replace hB10 := hB10.ext hS id
                    replace hp0 := hp0.ext hS (fun _ h => h.elim)
                    replace hx1 := hx1.ext hS (fun _ h => h.elim)
                    replace hx2 := hx2.ext hS (fun _ h => h.elim)
                    replace hx3 := hx3.ext hS (fun _ h => h.elim)
                    replace hzA := Nat.le_trans hzA hS.size
                    refine W_seq ?_
                    refine W_region ?_
                    refine wl_val (rn_assign (by conv => lhs; whnf)) ?_
                    refine wl_nil ?_
                    refine W_seq ?_
                    refine W_region ?_
                    refine wl_val (rn_assign (by conv => lhs; whnf)) ?_
                    refine wl_nil ?_
                    refine W_seq ?_
                    refine W_drawX (fun j => j == 11 || j == 12 || j == 13 || j == 14) mixed ?_; intro w34 hE34
                    replace hX := hX.tr hE34
                    replace hB9 := hB9.ext hE34 id; replace hB10 := hB10.ext hE34 id; replace hB13 := hB13.ext hE34 id; replace hB12 := hB12.ext hE34 id
                    replace hp0 := hp0.ext hE34 (fun _ h => h.elim)
                    replace hx1 := hx1.ext hE34 (fun _ h => h.elim)
                    replace hx2 := hx2.ext hE34 (fun _ h => h.elim)
                    replace hx3 := hx3.ext hE34 (fun _ h => h.elim)
                    replace hzA := Nat.le_trans hzA hE34.size
                    have hS := Ext.refl Non w34
                    refine wx_take 0 [9, 10, 11, 12, 13, 14] _ _ rfl (by kernel_rfl) hS (yd_do fun A hA => rn_loadB s_74 rfl rfl (hB9.ext hA id)) ?_
                    refine wx_take 1 [3, 4, 9, 10, 11, 12, 13, 14] _ _ rfl (by kernel_rfl) hS (yd_do fun A hA => rn_move (by conv => lhs; whnf)) ?_
                    refine wx_take 2 [3, 4, 9, 10, 11, 12, 13, 14] _ _ rfl (by kernel_rfl) hS (yd_do fun A hA => rn_move (by conv => lhs; whnf)) ?_
                    refine wx_take 3 [4, 9, 10, 11, 12, 13, 14] _ _ rfl (by kernel_rfl) hS (yd_do fun A hA => rn_indexAddr sl_68 rfl rfl (by omega)) ?_
                    refine wx_take 4 [9, 10, 11, 12, 13, 14] _ _ rfl (by kernel_rfl) hS (yd_do fun A hA => rn_load p_9 rfl (((h0.ext hX (fun _ h => h)).ext hA (fun _ h => h.elim)).at0 (eS_at hi) rfl)) ?_
                    refine wx_take 5 [7, 8, 9, 10, 11, 12, 13, 14] _ _ rfl (by kernel_rfl) hS (yd_do fun A hA => rn_move (by conv => lhs; whnf)) ?_
                    refine wx_take 6 [7, 8, 9, 10, 11, 12, 13, 14] _ _ rfl (by kernel_rfl) hS (yd_do fun A hA => rn_move (by conv => lhs; whnf)) ?_
                    refine wx_take 7 [8, 9, 10, 11, 12, 13, 14] _ _ rfl (by kernel_rfl) hS (yd_do fun A hA => rn_indexAddr sl_68 rfl rfl (by omega)) ?_
                    refine wx_take 8 [9, 10, 11, 12, 13, 14] _ _ rfl (by kernel_rfl) hS (yd_do fun A hA => rn_load p_9 rfl (((h1.ext hX (fun _ h => h)).ext hA (fun _ h => h.elim)).at0 (eS_at hj) rfl)) ?_
                    refine wx_only 9 _ rfl (by kernel_rfl) ?_
                    refine s1_do ?_
                    refine wl_call e_33 rfl (kput_ok w34 ks ys ver (fun j => j = b9 ∨ j = b10) (fun j h => by have := hB9.lt; have := hB10.lt; have := hS.size; rcases h with h | h <;> omega) ((hp0.ext hS (fun _ h => h.elim)).sub (fun j h _ => h.elim .inl (fun e => .inr (.inl e)))) hord (by omega) t p (by omega) (by omega) hver) ?_; intro v79 w35 hE35 hR35
                    replace hS := hS.tr hE35
                    obtain ⟨y1, y2, hu79, hm79⟩ := hR35
                    rw [← hK, ← hY] at hm79; rw [← hV] at hu79; subst hu79
                    obtain ⟨e1, l1, g1, hy1⟩ := id hm79.keys.shape; obtain ⟨e2, l2, g2, hy2⟩ := id hm79.vals.shape; subst hy1; subst hy2
                    refine wl_nil ⟨fun _ => hS, ?_⟩
                    refine wx_take 10 [11, 12, 13, 14] _ _ rfl (by kernel_rfl) hS (yd_do fun A hA => rn_move (by conv => lhs; whnf)) ?_
                    refine wx_takeP 11 _ _ rfl rfl (by kernel_rfl) (yd_do fun A _ => rn_extract rfl rfl) ?_
                    refine wx_takeP 12 _ _ rfl rfl (by kernel_rfl) (yd_do fun A _ => rn_extract rfl rfl) ?_
                    replace hX := hX.tr hS
                    replace hB9 := hB9.ext hS id; replace hB10 := hB10.ext hS id; replace hB13 := hB13.ext hS id; replace hB12 := hB12.ext hS id
                    replace hp0 := hp0.ext hS (fun _ h => h.elim)
                    replace hx1 := hx1.ext hS (fun _ h => h.elim)
                    replace hx2 := hx2.ext hS (fun _ h => h.elim)
                    replace hx3 := hx3.ext hS (fun _ h => h.elim)
                    replace hzA := Nat.le_trans hzA hS.size
                    refine wx_only 13 _ rfl (by kernel_rfl) ?_
                    refine s1_do ?_
                    have hBo := hB9
                    refine wl_storeB s_74 rfl rfl rfl (three1 rfl rfl rfl) hB9 rfl ?_; intro w36 hE36 hB9 hz36
                    replace hX := hX.mine hE36 hl9
                    replace hB10 := hB10.ext hE36 (fun h => by omega); replace hB13 := hB13.ext hE36 (fun h => by omega); replace hB12 := hB12.ext hE36 (fun h => by omega)
                    replace hp0 := hp0.ext hE36 (fun i e => by first | exact .inl e | exact .inr (.inl e) | exact .inr (.inr (by omega)))
                    replace hx1 := hx1.ext hE36 (fun i e => by first | exact .inl e | exact .inr (.inl e) | exact .inr (.inr (by omega)))
                    replace hx2 := hx2.ext hE36 (fun i e => by first | exact .inl e | exact .inr (.inl e) | exact .inr (.inr (by omega)))
                    replace hx3 := hx3.ext hE36 (fun i e => by first | exact .inl e | exact .inr (.inl e) | exact .inr (.inr (by omega)))
                    replace hzA := Nat.le_trans hzA hE36.size
                    replace hm79 := hm79.ext hE36 (fun i e => by first | exact .inl e | exact .inr e)
                    refine wl_nil ⟨fun h => absurd h (by decide), ?_⟩
                    refine wx_only 14 _ rfl (by kernel_rfl) ?_
                    refine s1_do ?_
                    refine wl_val (rn_assign (by conv => lhs; whnf)) ?_
                    refine wl_nil ⟨fun h => absurd h (by decide), ?_⟩
                    refine wx_done (by kernel_rfl) ?_ _
                    refine W_seq ?_
                    refine W_drawX (fun j => j == 11 || j == 12 || j == 13 || j == 14) mixed ?_; intro w37 hE37
                    replace hX := hX.tr hE37
                    replace hB9 := hB9.ext hE37 id; replace hB10 := hB10.ext hE37 id; replace hB13 := hB13.ext hE37 id; replace hB12 := hB12.ext hE37 id
                    replace hp0 := hp0.ext hE37 (fun _ h => h.elim)
                    replace hx1 := hx1.ext hE37 (fun _ h => h.elim)
                    replace hx2 := hx2.ext hE37 (fun _ h => h.elim)
                    replace hx3 := hx3.ext hE37 (fun _ h => h.elim)
                    replace hzA := Nat.le_trans hzA hE37.size
                    replace hm79 := hm79.ext hE37 (fun _ h => h.elim)
                    have hS := Ext.refl Non w37
                    refine wx_take 0 [9, 10, 11, 12, 13, 14] _ _ rfl (by kernel_rfl) hS (yd_do fun A hA => rn_loadB s_76 rfl rfl (hB10.ext hA id)) ?_
                    refine wx_take 1 [3, 4, 9, 10, 11, 12, 13, 14] _ _ rfl (by kernel_rfl) hS (yd_do fun A hA => rn_move (by conv => lhs; whnf)) ?_
                    refine wx_take 2 [3, 4, 9, 10, 11, 12, 13, 14] _ _ rfl (by kernel_rfl) hS (yd_do fun A hA => rn_move (by conv => lhs; whnf)) ?_
                    refine wx_take 3 [4, 9, 10, 11, 12, 13, 14] _ _ rfl (by kernel_rfl) hS (yd_do fun A hA => rn_indexAddr sl_68 rfl rfl (by omega)) ?_
                    refine wx_take 4 [9, 10, 11, 12, 13, 14] _ _ rfl (by kernel_rfl) hS (yd_do fun A hA => rn_load p_9 rfl (((h0.ext hX (fun _ h => h)).ext hA (fun _ h => h.elim)).at0 (eS_at hi) rfl)) ?_
                    refine wx_take 5 [7, 8, 9, 10, 11, 12, 13, 14] _ _ rfl (by kernel_rfl) hS (yd_do fun A hA => rn_move (by conv => lhs; whnf)) ?_
                    refine wx_take 6 [7, 8, 9, 10, 11, 12, 13, 14] _ _ rfl (by kernel_rfl) hS (yd_do fun A hA => rn_move (by conv => lhs; whnf)) ?_
                    refine wx_take 7 [8, 9, 10, 11, 12, 13, 14] _ _ rfl (by kernel_rfl) hS (yd_do fun A hA => rn_indexAddr sl_68 rfl rfl (by omega)) ?_
                    refine wx_take 8 [9, 10, 11, 12, 13, 14] _ _ rfl (by kernel_rfl) hS (yd_do fun A hA => rn_load p_9 rfl (((h1.ext hX (fun _ h => h)).ext hA (fun _ h => h.elim)).at0 (eS_at hj) rfl)) ?_
                    refine wx_only 9 _ rfl (by kernel_rfl) ?_
                    refine s1_do ?_
                    refine wl_call e_34 rfl (rput15_ok w37 ks ys ver (fun j => j = b9 ∨ j = b10) (fun j h => by have := hB9.lt; have := hB10.lt; have := hS.size; rcases h with h | h <;> omega) ((hx1.ext hS (fun _ h => h.elim)).sub (fun j h _ => h.elim .inl (fun e => .inr (.inl e)))) ((hx2.ext hS (fun _ h => h.elim)).sub (fun j h _ => h.elim .inl (fun e => .inr (.inl e)))) ((hx3.ext hS (fun _ h => h.elim)).sub (fun j h _ => h.elim .inl (fun e => .inr (.inl e)))) hle hord (by omega) t p (by omega) (fun z hz => by have := hkl z hz; omega) hver) ?_; intro v92 w38 hE38 hR38
                    replace hS := hS.tr hE38
                    obtain ⟨z1, z2, z3, hu92, hr1, hr2, hr3⟩ := hR38
                    rw [← hK] at hr1; rw [← hY] at hr2 hr3; rw [← hV] at hu92; subst hu92
                    obtain ⟨i1, j1, hz1, _⟩ := id hr1.len; obtain ⟨i2, j2, hz2, _⟩ := id hr2.len; obtain ⟨i3, j3, hz3, _⟩ := id hr3.len; subst hz1; subst hz2; subst hz3; simp only [List.length_map] at hr1 hr2 hr3 ⊢
                    refine wl_nil ⟨fun _ => hS, ?_⟩
                    refine wx_take 10 [11, 12, 13, 14] _ _ rfl (by kernel_rfl) hS (yd_do fun A hA => rn_move (by conv => lhs; whnf)) ?_
                    refine wx_takeP 11 _ _ rfl rfl (by kernel_rfl) (yd_do fun A _ => rn_extract rfl rfl) ?_
                    refine wx_takeP 12 _ _ rfl rfl (by kernel_rfl) (yd_do fun A _ => rn_extract rfl rfl) ?_
                    replace hX := hX.tr hS
                    replace hB9 := hB9.ext hS id; replace hB10 := hB10.ext hS id; replace hB13 := hB13.ext hS id; replace hB12 := hB12.ext hS id
                    replace hp0 := hp0.ext hS (fun _ h => h.elim)
                    replace hx1 := hx1.ext hS (fun _ h => h.elim)
                    replace hx2 := hx2.ext hS (fun _ h => h.elim)
                    replace hx3 := hx3.ext hS (fun _ h => h.elim)
                    replace hzA := Nat.le_trans hzA hS.size
                    replace hm79 := hm79.ext hS (fun _ h => h.elim)
                    refine wx_only 13 _ rfl (by kernel_rfl) ?_
                    refine s1_do ?_
                    have hBo := hB10
                    refine wl_storeB s_76 rfl rfl rfl (by intro x hx; simp only [List.mem_cons, List.not_mem_nil, or_false] at hx; rcases hx with rfl | rfl | rfl | rfl <;> rfl) hB10 rfl ?_; intro w39 hE39 hB10 hz39
                    replace hX := hX.mine hE39 hl10
                    replace hB9 := hB9.ext hE39 (fun h => by omega); replace hB13 := hB13.ext hE39 (fun h => by omega); replace hB12 := hB12.ext hE39 (fun h => by omega)
                    replace hp0 := hp0.ext hE39 (fun i e => by first | exact .inl e | exact .inr (.inl e) | exact .inr (.inr (by omega)))
                    replace hx1 := hx1.ext hE39 (fun i e => by first | exact .inl e | exact .inr (.inl e) | exact .inr (.inr (by omega)))
                    replace hx2 := hx2.ext hE39 (fun i e => by first | exact .inl e | exact .inr (.inl e) | exact .inr (.inr (by omega)))
                    replace hx3 := hx3.ext hE39 (fun i e => by first | exact .inl e | exact .inr (.inl e) | exact .inr (.inr (by omega)))
                    replace hzA := Nat.le_trans hzA hE39.size
                    replace hm79 := hm79.ext hE39 (fun i e => by first | exact .inl e | exact .inr e)
                    replace hr1 := hr1.ext hE39 (fun i e => by first | exact .inl e | exact .inr e)
                    replace hr2 := hr2.ext hE39 (fun i e => by first | exact .inl e | exact .inr e)
                    replace hr3 := hr3.ext hE39 (fun i e => by first | exact .inl e | exact .inr e)
                    refine wl_nil ⟨fun h => absurd h (by decide), ?_⟩
                    refine wx_only 14 _ rfl (by kernel_rfl) ?_
                    refine s1_do ?_
                    refine wl_val (rn_assign (by conv => lhs; whnf)) ?_
                    refine wl_nil ⟨fun h => absurd h (by decide), ?_⟩
                    refine wx_done (by kernel_rfl) ?_ _
                    refine W_seq ?_
                    refine W_region ?_
                    refine wl_val (rn_loadB s_74 rfl rfl hB9) ?_
                    refine wl_val (rn_move (by conv => lhs; whnf)) ?_
                    refine wl_call e_35 rfl (scan_ok w39 K Y V (hm79.sub (M' := Non) (fun _ h _ => h.elim)) (by omega) hKl f hnf) ?_; intro v98 w40 hE40 hR40
                    replace hX := hX.tr hE40
                    replace hB9 := hB9.ext hE40 id; replace hB10 := hB10.ext hE40 id; replace hB13 := hB13.ext hE40 id; replace hB12 := hB12.ext hE40 id
                    replace hp0 := hp0.ext hE40 (fun _ h => h.elim)
                    replace hx1 := hx1.ext hE40 (fun _ h => h.elim)
                    replace hx2 := hx2.ext hE40 (fun _ h => h.elim)
                    replace hx3 := hx3.ext hE40 (fun _ h => h.elim)
                    replace hzA := Nat.le_trans hzA hE40.size
                    replace hm79 := hm79.ext hE40 (fun _ h => h.elim)
                    replace hr1 := hr1.ext hE40 (fun _ h => h.elim)
                    replace hr2 := hr2.ext hE40 (fun _ h => h.elim)
                    replace hr3 := hr3.ext hE40 (fun _ h => h.elim)
                    obtain ⟨v98, rfl, hS98⟩ := hR40
                    obtain ⟨a98, c98, rfl, _⟩ := id hS98.len
                    refine wl_val (rn_move (by conv => lhs; whnf)) ?_
                    refine wl_val (rn_extract rfl rfl) ?_
                    refine wl_val (rn_extract rfl rfl) ?_
                    refine wl_val (rn_assign (by conv => lhs; whnf)) ?_
                    refine wl_val (rn_assign (by conv => lhs; whnf)) ?_
                    refine wl_nil ?_
                    refine W_seq ?_
                    refine W_region ?_
                    refine wl_val (rn_loadB s_74 rfl rfl hB12) ?_
                    refine wl_val (rn_move (by conv => lhs; whnf)) ?_
                    refine wl_call e_35 rfl (scan_ok w40 ks ys ver (hp0.sub (M' := Non) (fun _ h _ => h.elim)) (by omega) (fun z hz => by have := hkl z hz; omega) f hnf) ?_; intro v104 w41 hE41 hR41
                    replace hX := hX.tr hE41
                    replace hB9 := hB9.ext hE41 id; replace hB10 := hB10.ext hE41 id; replace hB13 := hB13.ext hE41 id; replace hB12 := hB12.ext hE41 id
                    replace hp0 := hp0.ext hE41 (fun _ h => h.elim)
                    replace hx1 := hx1.ext hE41 (fun _ h => h.elim)
                    replace hx2 := hx2.ext hE41 (fun _ h => h.elim)
                    replace hx3 := hx3.ext hE41 (fun _ h => h.elim)
                    replace hzA := Nat.le_trans hzA hE41.size
                    replace hm79 := hm79.ext hE41 (fun _ h => h.elim)
                    replace hr1 := hr1.ext hE41 (fun _ h => h.elim)
                    replace hr2 := hr2.ext hE41 (fun _ h => h.elim)
                    replace hr3 := hr3.ext hE41 (fun _ h => h.elim)
                    replace hS98 := hS98.ext hE41 (fun _ h => h)
                    obtain ⟨v104, rfl, hS104⟩ := hR41
                    obtain ⟨a104, c104, rfl, _⟩ := id hS104.len
                    refine wl_val (rn_move (by conv => lhs; whnf)) ?_
                    refine wl_val (rn_extract rfl rfl) ?_
                    refine wl_val (rn_extract rfl rfl) ?_
                    refine wl_val (rn_assign (by conv => lhs; whnf)) ?_
                    refine wl_val (rn_assign (by conv => lhs; whnf)) ?_
                    refine wl_nil ?_
                    refine W_seq ?_
                    refine W_region ?_
                    refine wl_val (rn_loadB s_74 rfl rfl hB9) ?_
                    refine wl_val (rn_move (by conv => lhs; whnf)) ?_
                    refine wl_call e_36 rfl (kget_ok w41 K Y V (hm79.sub (M' := Non) (fun _ h _ => h.elim)) hKs (by omega) q) ?_; intro v110 w42 hE42 hR42
                    replace hX := hX.tr hE42
                    replace hB9 := hB9.ext hE42 id; replace hB10 := hB10.ext hE42 id; replace hB13 := hB13.ext hE42 id; replace hB12 := hB12.ext hE42 id
                    replace hp0 := hp0.ext hE42 (fun _ h => h.elim)
                    replace hx1 := hx1.ext hE42 (fun _ h => h.elim)
                    replace hx2 := hx2.ext hE42 (fun _ h => h.elim)
                    replace hx3 := hx3.ext hE42 (fun _ h => h.elim)
                    replace hzA := Nat.le_trans hzA hE42.size
                    replace hm79 := hm79.ext hE42 (fun _ h => h.elim)
                    replace hr1 := hr1.ext hE42 (fun _ h => h.elim)
                    replace hr2 := hr2.ext hE42 (fun _ h => h.elim)
                    replace hr3 := hr3.ext hE42 (fun _ h => h.elim)
                    replace hS98 := hS98.ext hE42 (fun _ h => h)
                    replace hS104 := hS104.ext hE42 (fun _ h => h)
                    subst hR42
                    refine wl_val (rn_move (by conv => lhs; whnf)) ?_
                    refine wl_val (rn_extract rfl rfl) ?_
                    refine wl_val (rn_extract rfl rfl) ?_
                    refine wl_val (rn_extract rfl rfl) ?_
                    refine wl_val (rn_assign (by conv => lhs; whnf)) ?_
                    refine wl_val (rn_assign (by conv => lhs; whnf)) ?_
                    refine wl_val (rn_assign (by conv => lhs; whnf)) ?_
                    refine wl_nil ?_
                    refine W_seq ?_
                    refine W_region ?_
                    refine wl_val (rn_loadB s_76 rfl rfl hB10) ?_
                    refine wl_val (rn_move (by conv => lhs; whnf)) ?_
                    refine wl_call e_37 rfl (rget15_ok w42 K Y V (hr1.sub (M' := Non) (fun _ h _ => h.elim)) (hr2.sub (M' := Non) (fun _ h _ => h.elim)) (hr3.sub (M' := Non) (fun _ h _ => h.elim)) hYl hKs (by omega) q) ?_; intro v117 w43 hE43 hR43
                    replace hX := hX.tr hE43
                    replace hB9 := hB9.ext hE43 id; replace hB10 := hB10.ext hE43 id; replace hB13 := hB13.ext hE43 id; replace hB12 := hB12.ext hE43 id
                    replace hp0 := hp0.ext hE43 (fun _ h => h.elim)
                    replace hx1 := hx1.ext hE43 (fun _ h => h.elim)
                    replace hx2 := hx2.ext hE43 (fun _ h => h.elim)
                    replace hx3 := hx3.ext hE43 (fun _ h => h.elim)
                    replace hzA := Nat.le_trans hzA hE43.size
                    replace hm79 := hm79.ext hE43 (fun _ h => h.elim)
                    replace hr1 := hr1.ext hE43 (fun _ h => h.elim)
                    replace hr2 := hr2.ext hE43 (fun _ h => h.elim)
                    replace hr3 := hr3.ext hE43 (fun _ h => h.elim)
                    replace hS98 := hS98.ext hE43 (fun _ h => h)
                    replace hS104 := hS104.ext hE43 (fun _ h => h)
                    subst hR43
                    refine wl_val (rn_move (by conv => lhs; whnf)) ?_
                    refine wl_val (rn_extract rfl rfl) ?_
                    refine wl_val (rn_extract rfl rfl) ?_
                    refine wl_val (rn_extract rfl rfl) ?_
                    refine wl_val (rn_assign (by conv => lhs; whnf)) ?_
                    refine wl_val (rn_assign (by conv => lhs; whnf)) ?_
                    refine wl_val (rn_assign (by conv => lhs; whnf)) ?_
                    refine wl_nil ?_
                    refine W_seq ?_
                    refine W_drawE mixed ?_; intro w44 hE44
                    replace hX := hX.tr hE44
                    replace hB9 := hB9.ext hE44 id; replace hB10 := hB10.ext hE44 id; replace hB13 := hB13.ext hE44 id; replace hB12 := hB12.ext hE44 id
                    replace hp0 := hp0.ext hE44 (fun _ h => h.elim)
                    replace hx1 := hx1.ext hE44 (fun _ h => h.elim)
                    replace hx2 := hx2.ext hE44 (fun _ h => h.elim)
                    replace hx3 := hx3.ext hE44 (fun _ h => h.elim)
                    replace hzA := Nat.le_trans hzA hE44.size
                    replace hm79 := hm79.ext hE44 (fun _ h => h.elim)
                    replace hr1 := hr1.ext hE44 (fun _ h => h.elim)
                    replace hr2 := hr2.ext hE44 (fun _ h => h.elim)
                    replace hr3 := hr3.ext hE44 (fun _ h => h.elim)
                    replace hS98 := hS98.ext hE44 (fun _ h => h)
                    replace hS104 := hS104.ext hE44 (fun _ h => h)
                    have hS := Ext.refl Non w44
                    refine wd_take 0 _ _ rfl (by kernel_rfl) hS (yd_do fun A hA => rn_move (by conv => lhs; whnf)) ?_
                    refine wd_take 1 _ _ rfl (by kernel_rfl) hS (yd_do fun A hA => rn_move (by conv => lhs; whnf)) ?_
                    refine wd_take 2 _ _ rfl (by kernel_rfl) hS (yd_do fun A hA => rn_neq rfl rfl) ?_
                    refine wd_take 3 _ _ rfl (by kernel_rfl) hS (yd_do fun A hA => rn_move (by conv => lhs; whnf)) ?_
                    refine wd_split (d := 124) rfl (fun hg124 => ?_) (fun hg124 => ?_)
                    · exact absurd (of_decide_eq_true hg124) (by simp)
                    · refine wd_take 4 _ _ rfl (by kernel_rfl) hS (yd_yes rfl (congrArg Value.bool hg124) fun A hA => rn_loadB s_74 rfl rfl (hB9.ext hA id)) ?_
                      refine wd_take 6 _ _ rfl (by kernel_rfl) hS (yd_yes rfl (congrArg Value.bool hg124) fun A hA => rn_fieldAddr f_76_0 (by decide) rfl) ?_
                      refine wd_take 7 _ _ rfl (by kernel_rfl) hS (yd_yes rfl (congrArg Value.bool hg124) fun A hA => rn_load1 p_68 rfl (hB10.ext hA id) rfl) ?_
                      refine wd_take 8 _ _ rfl (by kernel_rfl) hS (yd_yes rfl (congrArg Value.bool hg124) fun A hA => rn_len sl_68 rfl) ?_
                      refine wd_only 5 _ rfl (by kernel_rfl) ?_
                      refine s1_yes rfl (congrArg Value.bool hg124) ?_
                      refine wl_call e_38 rfl (klen_ok w44 K Y V ((hm79.ext hS (fun _ h => h.elim)).sub (M' := Non) (fun _ h _ => h.elim)) (by omega)) ?_; intro v126 w45 hE45 hR45
                      replace hS := hS.tr hE45
                      subst hR45
                      refine wl_nil ⟨hS, ?_⟩
                      refine wd_take 9 _ _ rfl (by kernel_rfl) hS (yd_yes rfl (congrArg Value.bool hg124) fun A hA => rn_neq rfl rfl) ?_
                      refine wd_take 10 _ _ rfl (by kernel_rfl) hS (yd_do fun A hA => rn_pickF (congrArg Value.bool hg124) (by conv => lhs; whnf)) ?_
                      refine wd_take 11 _ _ rfl (by kernel_rfl) hS (yd_do fun A hA => rn_move (by conv => lhs; whnf)) ?_
                      refine wd_split (d := 132) rfl (fun hg132 => ?_) (fun hg132 => ?_)
                      · exact absurd (of_decide_eq_true hg132) (by simp)
                      · refine wd_take 12 _ _ rfl (by kernel_rfl) hS (yd_yes rfl (congrArg Value.bool hg132) fun A hA => rn_loadB s_74 rfl rfl (hB9.ext hA id)) ?_
                        refine wd_take 14 _ _ rfl (by kernel_rfl) hS (yd_yes rfl (congrArg Value.bool hg132) fun A hA => rn_fieldAddr f_76_3 (by decide) rfl) ?_
                        refine wd_take 15 _ _ rfl (by kernel_rfl) hS (yd_yes rfl (congrArg Value.bool hg132) fun A hA => rn_load1 p_3 rfl (hB10.ext hA id) rfl) ?_
                        refine wd_only 13 _ rfl (by kernel_rfl) ?_
                        refine s1_yes rfl (congrArg Value.bool hg132) ?_
                        refine wl_call e_39 rfl (kver_ok w45 _ _ V) ?_; intro v134 w46 hE46 hR46
                        replace hS := hS.tr hE46
                        subst hR46
                        refine wl_nil ⟨hS, ?_⟩
                        refine wd_take 16 _ _ rfl (by kernel_rfl) hS (yd_yes rfl (congrArg Value.bool hg132) fun A hA => rn_neq rfl rfl) ?_
                        refine wd_take 17 _ _ rfl (by kernel_rfl) hS (yd_do fun A hA => rn_pickF (congrArg Value.bool hg132) (by conv => lhs; whnf)) ?_
                        refine wd_take 18 _ _ rfl (by kernel_rfl) hS (yd_do fun A hA => rn_move (by conv => lhs; whnf)) ?_
                        refine wd_split (d := 139) rfl (fun hg139 => ?_) (fun hg139 => ?_)
                        · exact absurd (of_decide_eq_true hg139) (by simp)
                        · refine wd_take 19 _ _ rfl (by kernel_rfl) hS (yd_yes rfl (congrArg Value.bool hg139) fun A hA => rn_move (by conv => lhs; whnf)) ?_
                          refine wd_take 20 _ _ rfl (by kernel_rfl) hS (yd_yes rfl (congrArg Value.bool hg139) fun A hA => rn_not rfl) ?_
                          refine wd_take 21 _ _ rfl (by kernel_rfl) hS (yd_do fun A hA => rn_pickF (congrArg Value.bool hg139) (by conv => lhs; whnf)) ?_
                          refine wd_take 22 _ _ rfl (by kernel_rfl) hS (yd_do fun A hA => rn_move (by conv => lhs; whnf)) ?_
                          refine wd_split (d := 143) rfl (fun hg143 => ?_) (fun hg143 => ?_)
                          · exact absurd hg143 (by simp)
                          · refine wd_take 23 _ _ rfl (by kernel_rfl) hS (yd_yes rfl (congrArg Value.bool hg143) fun A hA => rn_move (by conv => lhs; whnf)) ?_
                            refine wd_take 24 _ _ rfl (by kernel_rfl) hS (yd_yes rfl (congrArg Value.bool hg143) fun A hA => rn_not rfl) ?_
                            refine wd_take 25 _ _ rfl (by kernel_rfl) hS (yd_do fun A hA => rn_pickF (congrArg Value.bool hg143) (by conv => lhs; whnf)) ?_
                            refine wd_take 26 _ _ rfl (by kernel_rfl) hS (yd_do fun A hA => rn_move (by conv => lhs; whnf)) ?_
                            refine wd_split (d := 147) rfl (fun hg147 => ?_) (fun hg147 => ?_)
                            · exact absurd hg147 (by simp)
                            · refine wd_take 27 _ _ rfl (by kernel_rfl) hS (yd_yes rfl (congrArg Value.bool hg147) fun A hA => rn_move (by conv => lhs; whnf)) ?_
                              refine wd_take 28 _ _ rfl (by kernel_rfl) hS (yd_yes rfl (congrArg Value.bool hg147) fun A hA => rn_loadB s_76 rfl rfl (hB10.ext hA id)) ?_
                              refine wd_take 29 _ _ rfl (by kernel_rfl) hS (yd_yes rfl (congrArg Value.bool hg147) fun A hA => rn_move (by conv => lhs; whnf)) ?_
                              refine wd_only 30 _ rfl (by kernel_rfl) ?_
                              refine s1_yes rfl (congrArg Value.bool hg147) ?_
                              refine wl_call e_41 rfl (rscan15_ok w46 K Y V ((hr1.ext hS (fun _ h => h.elim)).sub (M' := Non) (fun _ h _ => h.elim)) ((hr2.ext hS (fun _ h => h.elim)).sub (M' := Non) (fun _ h _ => h.elim)) ((hr3.ext hS (fun _ h => h.elim)).sub (M' := Non) (fun _ h _ => h.elim)) hYl hKs (by omega) f hnf hKl) ?_; intro v151 w47 hE47 hR47
                              replace hS := hS.tr hE47
                              have hS151 := hR47
                              obtain ⟨a151, c151, hv151, _⟩ := id hS151.len; subst hv151
                              refine wl_nil ⟨hS, ?_⟩
                              refine wd_only 31 _ rfl (by kernel_rfl) ?_
                              refine s1_yes rfl (congrArg Value.bool hg147) ?_
                              refine wl_call e_40 rfl (rmsgs_ok w47 (((K.zip Y).filter fun q => matchB f q.1).map toMsg) (((K.zip Y).filter fun q => matchB f q.1).map toMsg) (by rw [← toMsg_map]; exact hS98.ext hS (fun _ h => h)) (by rw [← toMsg_map]; exact hS151) (by rw [List.length_map]; omega)) ?_; intro v152 w48 hE48 hR48
                              replace hS := hS.tr hE48
                              replace hS151 := hS151.ext hE48 (fun _ h => h)
                              subst hR48
                              refine wl_nil ⟨hS, ?_⟩
                              refine wd_take 32 _ _ rfl (by kernel_rfl) hS (yd_yes rfl (congrArg Value.bool hg147) fun A hA => rn_not rfl) ?_
                              refine wd_take 33 _ _ rfl (by kernel_rfl) hS (yd_do fun A hA => rn_pickF (congrArg Value.bool hg147) (by conv => lhs; whnf)) ?_
                              refine wd_take 34 _ _ rfl (by kernel_rfl) hS (yd_do fun A hA => rn_move (by conv => lhs; whnf)) ?_
                              refine wd_split (d := 155) rfl (fun hg155 => ?_) (fun hg155 => ?_)
                              · exact absurd hg155 (by simp)
                              · refine wd_take 35 _ _ rfl (by kernel_rfl) hS (yd_yes rfl (congrArg Value.bool hg155) fun A hA => rn_move (by conv => lhs; whnf)) ?_
                                refine wd_take 36 _ _ rfl (by kernel_rfl) hS (yd_yes rfl (congrArg Value.bool hg155) fun A hA => rn_loadB s_76 rfl rfl (hB13.ext hA id)) ?_
                                refine wd_take 37 _ _ rfl (by kernel_rfl) hS (yd_yes rfl (congrArg Value.bool hg155) fun A hA => rn_move (by conv => lhs; whnf)) ?_
                                refine wd_only 38 _ rfl (by kernel_rfl) ?_
                                refine s1_yes rfl (congrArg Value.bool hg155) ?_
                                refine wl_call e_41 rfl (rscan15_ok w48 ks ys ver ((hx1.ext hS (fun _ h => h.elim)).sub (M' := Non) (fun _ h _ => h.elim)) ((hx2.ext hS (fun _ h => h.elim)).sub (M' := Non) (fun _ h _ => h.elim)) ((hx3.ext hS (fun _ h => h.elim)).sub (M' := Non) (fun _ h _ => h.elim)) hle hord (by omega) f hnf (fun z hz => by have := hkl z hz; omega)) ?_; intro v159 w49 hE49 hR49
                                replace hS := hS.tr hE49
                                replace hS151 := hS151.ext hE49 (fun _ h => h)
                                have hS159 := hR49
                                obtain ⟨a159, c159, hv159, _⟩ := id hS159.len; subst hv159
                                refine wl_nil ⟨hS, ?_⟩
                                refine wd_only 39 _ rfl (by kernel_rfl) ?_
                                refine s1_yes rfl (congrArg Value.bool hg155) ?_
                                refine wl_call e_40 rfl (rmsgs_ok w49 (((ks.zip ys).filter fun q => matchB f q.1).map toMsg) (((ks.zip ys).filter fun q => matchB f q.1).map toMsg) (by rw [← toMsg_map]; exact hS104.ext hS (fun _ h => h)) (by rw [← toMsg_map]; exact hS159) (by rw [List.length_map]; omega)) ?_; intro v160 w50 hE50 hR50
                                replace hS := hS.tr hE50
                                replace hS151 := hS151.ext hE50 (fun _ h => h)
                                replace hS159 := hS159.ext hE50 (fun _ h => h)
                                subst hR50
                                refine wl_nil ⟨hS, ?_⟩
                                refine wd_take 40 _ _ rfl (by kernel_rfl) hS (yd_yes rfl (congrArg Value.bool hg155) fun A hA => rn_not rfl) ?_
                                refine wd_take 41 _ _ rfl (by kernel_rfl) hS (yd_do fun A hA => rn_pickF (congrArg Value.bool hg155) (by conv => lhs; whnf)) ?_
                                refine wd_take 42 _ _ rfl (by kernel_rfl) hS (yd_do fun A hA => rn_move (by conv => lhs; whnf)) ?_
                                refine wd_split (d := 163) rfl (fun hg163 => ?_) (fun hg163 => ?_)
                                · exact absurd hg163 (by simp)
                                · refine wd_take 43 _ _ rfl (by kernel_rfl) hS (yd_yes rfl (congrArg Value.bool hg163) fun A hA => rn_loadB s_74 rfl rfl (hB12.ext hA id)) ?_
                                  refine wd_take 45 _ _ rfl (by kernel_rfl) hS (yd_yes rfl (congrArg Value.bool hg163) fun A hA => rn_fieldAddr f_76_3 (by decide) rfl) ?_
                                  refine wd_take 46 _ _ rfl (by kernel_rfl) hS (yd_yes rfl (congrArg Value.bool hg163) fun A hA => rn_load1 p_3 rfl (hB13.ext hA id) rfl) ?_
                                  refine wd_only 44 _ rfl (by kernel_rfl) ?_
                                  refine s1_yes rfl (congrArg Value.bool hg163) ?_
                                  refine wl_call e_39 rfl (kver_ok w50 _ _ ver) ?_; intro v165 w51 hE51 hR51
                                  replace hS := hS.tr hE51
                                  replace hS151 := hS151.ext hE51 (fun _ h => h)
                                  replace hS159 := hS159.ext hE51 (fun _ h => h)
                                  subst hR51
                                  refine wl_nil ⟨hS, ?_⟩
                                  refine wd_take 47 _ _ rfl (by kernel_rfl) hS (yd_yes rfl (congrArg Value.bool hg163) fun A hA => rn_neq rfl rfl) ?_
                                  refine wd_take 48 _ _ rfl (by kernel_rfl) hS (yd_do fun A hA => rn_pickF (congrArg Value.bool hg163) (by conv => lhs; whnf)) ?_
                                  refine wd_take 49 _ _ rfl (by kernel_rfl) hS (yd_do fun A hA => rn_move (by conv => lhs; whnf)) ?_
                                  refine wd_split (d := 170) rfl (fun hg170 => ?_) (fun hg170 => ?_)
                                  · exact absurd (of_decide_eq_true hg170) (by simp)
                                  · refine wd_take 50 _ _ rfl (by kernel_rfl) hS (yd_yes rfl (congrArg Value.bool hg170) fun A hA => rn_move (by conv => lhs; whnf)) ?_
                                    refine wd_take 51 _ _ rfl (by kernel_rfl) hS (yd_yes rfl (congrArg Value.bool hg170) fun A hA => rn_move (by conv => lhs; whnf)) ?_
                                    refine wd_take 52 _ _ rfl (by kernel_rfl) hS (yd_yes rfl (congrArg Value.bool hg170) fun A hA => rn_sneq rfl rfl) ?_
                                    refine wd_take 53 _ _ rfl (by kernel_rfl) hS (yd_do fun A hA => rn_pickF (congrArg Value.bool hg170) (by conv => lhs; whnf)) ?_
                                    refine wd_take 54 _ _ rfl (by kernel_rfl) hS (yd_do fun A hA => rn_move (by conv => lhs; whnf)) ?_
                                    refine wd_split (d := 175) rfl (fun hg175 => ?_) (fun hg175 => ?_)
                                    · exact absurd (of_decide_eq_true hg175) (by simp)
                                    · refine wd_take 55 _ _ rfl (by kernel_rfl) hS (yd_yes rfl (congrArg Value.bool hg175) fun A hA => rn_move (by conv => lhs; whnf)) ?_
                                      refine wd_take 56 _ _ rfl (by kernel_rfl) hS (yd_yes rfl (congrArg Value.bool hg175) fun A hA => rn_move (by conv => lhs; whnf)) ?_
                                      refine wd_take 57 _ _ rfl (by kernel_rfl) hS (yd_yes rfl (congrArg Value.bool hg175) fun A hA => rn_neq rfl rfl) ?_
                                      refine wd_take 58 _ _ rfl (by kernel_rfl) hS (yd_do fun A hA => rn_pickF (congrArg Value.bool hg175) (by conv => lhs; whnf)) ?_
                                      refine wd_take 59 _ _ rfl (by kernel_rfl) hS (yd_do fun A hA => rn_move (by conv => lhs; whnf)) ?_
                                      refine wd_split (d := 180) rfl (fun hg180 => ?_) (fun hg180 => ?_)
                                      · exact absurd (of_decide_eq_true hg180) (by simp)
                                      · refine wd_take 60 _ _ rfl (by kernel_rfl) hS (yd_yes rfl (congrArg Value.bool hg180) fun A hA => rn_move (by conv => lhs; whnf)) ?_
                                        refine wd_take 61 _ _ rfl (by kernel_rfl) hS (yd_yes rfl (congrArg Value.bool hg180) fun A hA => rn_move (by conv => lhs; whnf)) ?_
                                        refine wd_take 62 _ _ rfl (by kernel_rfl) hS (yd_yes rfl (congrArg Value.bool hg180) fun A hA => rn_bneq ub_4 rfl rfl) ?_
                                        refine wd_take 63 _ _ rfl (by kernel_rfl) hS (yd_do fun A hA => rn_pickF (congrArg Value.bool hg180) (by conv => lhs; whnf)) ?_
                                        refine wd_done (by kernel_rfl) ?_ _
                                        replace hX := hX.tr hS
                                        replace hB9 := hB9.ext hS id; replace hB10 := hB10.ext hS id; replace hB13 := hB13.ext hS id; replace hB12 := hB12.ext hS id
                                        replace hp0 := hp0.ext hS (fun _ h => h.elim)
                                        replace hx1 := hx1.ext hS (fun _ h => h.elim)
                                        replace hx2 := hx2.ext hS (fun _ h => h.elim)
                                        replace hx3 := hx3.ext hS (fun _ h => h.elim)
                                        replace hzA := Nat.le_trans hzA hS.size
                                        replace hm79 := hm79.ext hS (fun _ h => h.elim)
                                        replace hr1 := hr1.ext hS (fun _ h => h.elim)
                                        replace hr2 := hr2.ext hS (fun _ h => h.elim)
                                        replace hr3 := hr3.ext hS (fun _ h => h.elim)
                                        replace hS98 := hS98.ext hS (fun _ h => h)
                                        replace hS104 := hS104.ext hS (fun _ h => h)
                                        refine W_cond rfl (fun hc4 => ?_) (fun hc4 => ?_)
                                        · exact absurd (of_decide_eq_true hc4) (by simp)
                                        · refine W_skip ?_
                                          refine W_region ?_
                                          refine wl_val (rn_move (by conv => lhs; whnf)) ?_
                                          refine wl_val (rn_add rfl rfl (by omega)) ?_
                                          refine wl_val (rn_assign (by conv => lhs; whnf)) ?_
                                          refine wl_nil ?_
                                          exact ⟨rfl, (i + 1, K, Y, V, _, _, _, _, _), ⟨rfl, rfl, rfl, rfl, rfl, rfl, rfl, trivial⟩, ⟨hX, hB9, hB10, hl9, hl10, hn9_10, ⟨hlt, hm79, hr1, hr2, hr3, hKs, by show K.length ≤ i + 1; omega, hKm, by show 0 ≤ V; omega, by show V ≤ ((i + 1 : Nat) : Int); omega⟩⟩, by show topics.length - (i + 1) < topics.length - i; omega⟩
            · refine W_exit ?_   -- exit 0
              refine W_seq ?_
              refine W_region ?_
              refine wl_val (rn_assign (by conv => lhs; whnf)) ?_
              refine wl_nil ?_
              refine W_ret ?_
              exact ⟨_, resR1 (res1_tmp rfl), hX, rfl⟩
end Go.Proofs.YthcclgoidchkdaaDoorC
