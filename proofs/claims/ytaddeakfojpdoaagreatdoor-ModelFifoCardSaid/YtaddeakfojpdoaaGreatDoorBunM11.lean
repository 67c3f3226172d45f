/- Tries: who is matched. -/
import Derived.Test.YtaddeakfojpdoaaGreatDoorBunM10
set_option linter.unusedVariables false
set_option linter.unusedSimpArgs false
set_option maxRecDepth 100000
namespace Go.Proofs.YtaddeakfojpdoaaGreatDoorC
open Go.RowKit
/-- Whom levels reach from a node on, put into a list. -/
def mt (apart : Bool) : List Str → Bool → Tr → List Int → List Int
  | [], first, t, out => t.subs.foldl (putK ltI) (if (!first || !apart) = true then (t.kid [35]).subs.foldl (putK ltI) out else out)
  | l :: ls, first, t, out => if (!first || !apart) = true then mt apart ls false (t.kid [43]) (mt apart ls false (t.kid l) (if (!first || !apart) = true then (t.kid [35]).subs.foldl (putK ltI) out else out)) else mt apart ls false (t.kid l) (if (!first || !apart) = true then (t.kid [35]).subs.foldl (putK ltI) out else out)
theorem bare_kid (l : Str) : Tr.bare.kid l = .bare := by unfold Tr.kid; rw [if_neg]; simp [Tr.keys, isAt]
theorem mt_bare (apart : Bool) : ∀ (ls : List Str) (first : Bool) (out : List Int), mt apart ls first .bare out = out
  | [], first, out => by unfold mt; rw [bare_kid]; simp [Tr.subs]
  | l :: ls, first, out => by
    unfold mt; rw [bare_kid, bare_kid, bare_kid]
    simp only [mt_bare apart ls, Tr.subs, List.foldl_nil, ite_self]
/-- All subscribers of a tree are in a list. -/
def Tr.In (U : List Int) (t : Tr) : Prop := ∀ p s, t.At p s → s ∈ U
theorem Tr.In.kid {U : List Int} {t : Tr} {n m : Nat} (h : t.In U) (hok : t.Ok n m) (l : Str) : (t.kid l).In U := fun q s hq => by
  rcases (kid_at hok l q s).1 hq with ⟨i, v, h1, h2, h3⟩ | ⟨_, h1⟩
  · exact h (l :: q) s ⟨i, v, h1, h2, h3⟩
  · exact absurd h1 (bare_at _ _)
theorem Tr.In.subs {U : List Int} {t : Tr} (h : t.In U) : ∀ s ∈ t.subs, s ∈ U := fun s hs => h [] s hs
theorem fold_in {U out l : List Int} (ho : Sorted ltI out) (h1 : ∀ s ∈ out, s ∈ U) (h2 : ∀ s ∈ l, s ∈ U) : Sorted ltI (l.foldl (putK ltI) out) ∧ ∀ s ∈ l.foldl (putK ltI) out, s ∈ U :=
  ⟨foldK_sorted l out ho, fun s hs => by rcases (foldK_mem l out ho s).1 hs with h | h; exact h1 s h; exact h2 s h⟩
theorem mt_in {U : List Int} (apart : Bool) : ∀ (ls : List Str) (first : Bool) {n m : Nat} (t : Tr) (out : List Int), t.Ok n m → t.In U → Sorted ltI out → (∀ s ∈ out, s ∈ U) → Sorted ltI (mt apart ls first t out) ∧ ∀ s ∈ mt apart ls first t out, s ∈ U := by
  have o1 : ∀ (first : Bool) {n m : Nat} (t : Tr) (out : List Int), t.Ok n m → t.In U → Sorted ltI out → (∀ s ∈ out, s ∈ U) → Sorted ltI (if (!first || !apart) = true then (t.kid [35]).subs.foldl (putK ltI) out else out) ∧ ∀ s ∈ (if (!first || !apart) = true then (t.kid [35]).subs.foldl (putK ltI) out else out), s ∈ U := by
    intro first n m t out hok hin ho hu
    split
    · exact fold_in ho hu (hin.kid hok _).subs
    · exact ⟨ho, hu⟩
  intro ls
  induction ls with
  | nil =>
    intro first n m t out hok hin ho hu
    unfold mt
    have h := o1 first t out hok hin ho hu
    exact fold_in h.1 h.2 hin.subs
  | cons l ls ih =>
    intro first n m t out hok hin ho hu
    unfold mt
    have h := o1 first t out hok hin ho hu
    have h2 := ih false (t.kid l) _ (hok.kid l) (hin.kid hok l) h.1 h.2
    split
    · rename_i hw; rw [if_pos hw] at h2; exact ih false (t.kid [43]) _ (hok.kid _) (hin.kid hok _) h2.1 h2.2
    · rename_i hw; rw [if_neg hw] at h2; exact h2
theorem in_len {U l : List Int} (h : Sorted ltI l) (hu : ∀ s ∈ l, s ∈ U) : l.length ≤ U.length := len_sub l U (sorted_nodup h) hu
-- (bellman/trie.Trie).Match$1
set_option maxHeartbeats 3200000 in
theorem mwalk_nil (w : World) (t : Tr) (first apart : Bool) (out U : List Int) (b3 b4 b5 : Nat) (M : Nat → Prop) (h34 : b3 ≠ b4) (h54 : b5 ≠ b4) {n m : Nat} {v vl x1 x2 : Value} (hn : n ≤ 1000) (hU : U.length ≤ 1000) (hMw : ∀ i, M i → i < w.heap.size) (hC3 : IsBox w b3 [.bool apart]) (hC5 : IsBox w b5 [.func (.func 135) #[] #[.pointer (some ⟨b3, 0, none⟩), .pointer (some ⟨b4, 0, none⟩), .pointer (some ⟨b5, 0, none⟩)]]) (hB4 : IsBox w b4 [x1, x2]) (hO : SetR (fun i => i = b4 ∨ i = b3 ∨ i = b5 ∨ M i) w (.agg #[x1, x2]) out) (hso : Sorted ltI out) (huo : ∀ s ∈ out, s ∈ U) (ht : TrM (fun i => i = b4 ∨ i = b3 ∨ i = b5 ∨ M i) w t v) (hok : t.Ok n m) (hin : t.In U) (hl : Sl (fun i => i = b4 ∨ i = b3 ∨ i = b5 ∨ M i) w vl 1 []) : FnM Tryz.prog (fun i => i = b4) 135 #[v, vl, .bool first, .pointer (some ⟨b3, 0, none⟩), .pointer (some ⟨b4, 0, none⟩), .pointer (some ⟨b5, 0, none⟩)] w fun u w' => ∃ z1 z2, IsBox w' b4 [z1, z2] ∧ SetR (fun i => i = b4 ∨ i = b3 ∨ i = b5 ∨ M i) w' (.agg #[z1, z2]) (mt apart [] first t out) := by
  obtain ⟨a, c, rfl, _⟩ := hl.len
  simp only [List.length_nil] at hl ⊢
  obtain ⟨pa, rfl⟩ := ht.ptr
  have hFw : ∀ i, (fun i => i = b4 ∨ i = b3 ∨ i = b5 ∨ M i) i → i < w.heap.size := fun i h => by rcases h with h | h | h | h; rw [h]; exact hB4.lt; rw [h]; exact hC3.lt; rw [h]; exact hC5.lt; exact hMw i h
  have hl4 : Mine (fun i => i = b4) w b4 := .inl rfl
  have hX := Ext.refl (fun i => i = b4) w
  refine fnM_of_W (args := [_, _, _, _, _, _]) Tryz.func135 rfl (by kernel_rfl) rfl ?_
  refine W_seq ?_
  refine W_seq ?_
  refine W_region ?_
  refine wl_val (rn_move (by conv => lhs; whnf)) ?_
  refine wl_val (rn_ptr_eql up_node rfl rfl) ?_
  refine wl_nil ?_
  refine W_cond rfl (fun hc0 => ?_) (fun hc0 => ?_)
  · have hte : pa = none := by simpa using hc0
    subst hte
    have hbe : t = .bare := by cases ht; rfl
    subst hbe
    refine W_ret ?_
    exact ⟨_, rfl, hX, ⟨_, _, hB4, by rw [mt_bare]; exact hO⟩⟩
  · refine W_skip ?_
    refine W_seq ?_
    refine W_region ?_
    refine wl_val (rn_move (by conv => lhs; whnf)) ?_
    refine wl_val (rn_not rfl) ?_
    refine wl_val (rn_move (by conv => lhs; whnf)) ?_
    refine wl_split (d := 14) rfl (fun hg14 => ?_) (fun hg14 => ?_)
    · have hwl : (!first || !apart) = true := by rw [hg14]; rfl
      refine wl_no rfl (congrArg Value.bool hg14) ?_
      refine wl_no rfl (congrArg Value.bool hg14) ?_
      refine wl_val (rn_pickT (congrArg Value.bool hg14) (by conv => lhs; whnf)) ?_
      refine wl_val (rn_assign (by conv => lhs; whnf)) ?_
      refine wl_nil ?_
      refine W_cut (T := List Int × Value × Value) [0, 1, 4, 5, 9] (fun ⟨out1, y1, y2⟩ => [.pointer pa, .slice a 0 c, .pointer (some ⟨b4, 0, none⟩), .pointer (some ⟨b5, 0, none⟩), .bool (!first || !apart)]) (fun ⟨out1, y1, y2⟩ A => (Ext (fun i => i = b4) w A) ∧ (IsBox A b4 [y1, y2]) ∧ (Mine (fun i => i = b4) w b4) ∧ (out1 = (if (!first || !apart) = true then (t.kid [35]).subs.foldl (putK ltI) out else out) ∧ SetR (fun i => i = b4 ∨ i = b3 ∨ i = b5 ∨ M i) A (.agg #[y1, y2]) out1)) ?_ ?_
      · refine W_seq ?_
        refine W_region ?_
        refine wl_val (rn_move (by conv => lhs; whnf)) ?_
        refine wl_nil ?_
        refine W_condT rfl ?_
        refine W_drawX (fun j => j == 5) mixed ?_; intro w1 hE1
        replace hX := hX.tr hE1
        replace hB4 := hB4.ext hE1 id
        replace hO := hO.ext hE1 (fun _ h => h.elim)
        have hS := Ext.refl Non w1
        refine wx_take 0 [4, 5] _ _ rfl (by kernel_rfl) hS (yd_do fun A hA => rn_loadB s_98 rfl rfl (hB4.ext hA id)) ?_
        refine wx_take 1 [2, 3, 4, 5] _ _ rfl (by kernel_rfl) hS (yd_do fun A hA => rn_move (by conv => lhs; whnf)) ?_
        refine wx_only 2 _ rfl (by kernel_rfl) ?_
        refine s1_do ?_
        refine wl_call e_46 rfl (nkid_ok w1 t (fun i => i = b4 ∨ i = b3 ∨ i = b5 ∨ M i) (fun i h => Nat.lt_of_lt_of_le (hFw i h) (Nat.le_trans hX.size hS.size)) (ht.ext (hX.tr hS) (fun i e => .inl e)) hok (by omega) [35]) ?_; intro v21 w2 hE2 hR2
        replace hS := hS.tr hE2
        have hK21 := hR2
        refine wl_nil ⟨fun _ => hS, ?_⟩
        refine wx_only 3 _ rfl (by kernel_rfl) ?_
        refine s1_do ?_
        refine wl_call e_42 rfl (nsubs_ok w2 _ (fun i => i = b4 ∨ i = b3 ∨ i = b5 ∨ M i) hK21) ?_; intro v22 w3 hE3 hR3
        replace hS := hS.tr hE3
        replace hK21 := hK21.ext hE3 (fun _ h => h.elim)
        have hS22 := hR3
        refine wl_nil ⟨fun _ => hS, ?_⟩
        refine wx_only 4 _ rfl (by kernel_rfl) ?_
        refine s1_do ?_
        refine wl_call e_136 rfl (joinM_ok w3 out _ (fun i => i = b4 ∨ i = b3 ∨ i = b5 ∨ M i) (fun i h => Nat.lt_of_lt_of_le (hFw i h) (Nat.le_trans hX.size hS.size)) (hO.ext hS (fun _ h => h.elim)) (hS22.sub (fun _ h _ => h.elim)) hso (by have := in_len hso huo; omega) (by have := (hok.kid [35]).sl; omega)) ?_; intro v23 w4 hE4 hR4
        replace hS := hS.tr hE4
        replace hS22 := hS22.ext hE4 (fun _ h => h.elim)
        obtain ⟨y1, y2, usy, rfl, hMy⟩ := hR4
        obtain ⟨qy1, ny1, cy1, rfl⟩ := id hMy.keys.shape; obtain ⟨qy2, ny2, cy2, rfl⟩ := id hMy.vals.shape
        have hN23 : SetR (fun i => i = b4 ∨ i = b3 ∨ i = b5 ∨ M i) w4 (.agg #[.slice qy1 ny1 cy1, .slice qy2 ny2 cy2]) _ := ⟨_, _, usy, rfl, hMy⟩
        refine wl_nil ⟨fun _ => hS, ?_⟩
        replace hX := hX.tr hS
        replace hB4 := hB4.ext hS id
        refine wx_only 5 _ rfl (by kernel_rfl) ?_
        refine s1_do ?_
        have hBo := hB4
        refine wl_storeB s_98 rfl rfl rfl (two1 rfl rfl) hB4 rfl ?_; intro w5 hE5 hB4 hz5
        replace hX := hX.mine hE5 hl4
        replace hN23 := hN23.ext hE5 (fun i e => .inl e)
        refine wl_nil ⟨fun h => absurd h (by decide), ?_⟩
        refine wx_done (by kernel_rfl) ?_ _
        exact ⟨rfl, (_, _, _), ⟨rfl, rfl, rfl, rfl, (congrArg Value.bool hwl.symm), trivial⟩, ⟨hX, hB4, hl4, ⟨rfl, (by rw [if_pos hwl]; exact hN23)⟩⟩⟩
      · rintro τ1018 ⟨out1, y1, y2⟩ C118 ⟨hX, hB4, hl4, hI⟩
        obtain ⟨heo, hO1⟩ := hI
        obtain ⟨hs1, hu1⟩ : Sorted ltI out1 ∧ ∀ s ∈ out1, s ∈ U := by by_cases hw : (!first || !apart) = true; (rw [heo, if_pos hw]; exact fold_in hso huo (hin.kid hok _).subs); (rw [heo, if_neg hw]; exact ⟨hso, huo⟩)
        obtain ⟨_, _, uso, eo, hMo⟩ := id hO1; cases eo
        obtain ⟨qo1, no1, co1, rfl⟩ := id hMo.keys.shape; obtain ⟨qo2, no2, co2, rfl⟩ := id hMo.vals.shape
        refine W_seq ?_
        refine W_seq ?_
        refine W_region ?_
        refine wl_val (rn_move (by conv => lhs; whnf)) ?_
        refine wl_val (rn_len sl_22 rfl) ?_
        refine wl_val (rn_eql rfl rfl) ?_
        refine wl_nil ?_
        refine W_cond rfl (fun hc2 => ?_) (fun hc2 => ?_)
        · refine W_seq ?_
          refine W_drawX (fun j => j == 4) mixed ?_; intro w6 hE6
          replace hX := hX.tr hE6
          replace hB4 := hB4.ext hE6 id
          replace hO1 := hO1.ext hE6 (fun _ h => h.elim)
          have hS := Ext.refl Non w6
          refine wx_take 0 [3, 4] _ _ rfl (by kernel_rfl) hS (yd_do fun A hA => rn_loadB s_98 rfl rfl (hB4.ext hA id)) ?_
          refine wx_take 1 [2, 3, 4] _ _ rfl (by kernel_rfl) hS (yd_do fun A hA => rn_move (by conv => lhs; whnf)) ?_
          refine wx_only 2 _ rfl (by kernel_rfl) ?_
          refine s1_do ?_
          refine wl_call e_42 rfl (nsubs_ok w6 t (fun i => i = b4 ∨ i = b3 ∨ i = b5 ∨ M i) (ht.ext (hX.tr hS) (fun i e => .inl e))) ?_; intro v29 w7 hE7 hR7
          replace hS := hS.tr hE7
          have hS29 := hR7
          refine wl_nil ⟨fun _ => hS, ?_⟩
          refine wx_only 3 _ rfl (by kernel_rfl) ?_
          refine s1_do ?_
          refine wl_call e_136 rfl (joinM_ok w7 out1 _ (fun i => i = b4 ∨ i = b3 ∨ i = b5 ∨ M i) (fun i h => Nat.lt_of_lt_of_le (hFw i h) (Nat.le_trans hX.size hS.size)) (hO1.ext hS (fun _ h => h.elim)) (hS29.sub (fun _ h _ => h.elim)) hs1 (by have := in_len hs1 hu1; omega) (by have := hok.sl; omega)) ?_; intro v30 w8 hE8 hR8
          replace hS := hS.tr hE8
          replace hS29 := hS29.ext hE8 (fun _ h => h.elim)
          obtain ⟨z1, z2, usz, rfl, hMz⟩ := hR8
          obtain ⟨qz1, nz1, cz1, rfl⟩ := id hMz.keys.shape; obtain ⟨qz2, nz2, cz2, rfl⟩ := id hMz.vals.shape
          have hN30 : SetR (fun i => i = b4 ∨ i = b3 ∨ i = b5 ∨ M i) w8 (.agg #[.slice qz1 nz1 cz1, .slice qz2 nz2 cz2]) _ := ⟨_, _, usz, rfl, hMz⟩
          refine wl_nil ⟨fun _ => hS, ?_⟩
          replace hX := hX.tr hS
          replace hB4 := hB4.ext hS id
          refine wx_only 4 _ rfl (by kernel_rfl) ?_
          refine s1_do ?_
          have hBo := hB4
          refine wl_storeB s_98 rfl rfl rfl (two1 rfl rfl) hB4 rfl ?_; intro w9 hE9 hB4 hz9
          replace hX := hX.mine hE9 hl4
          replace hN30 := hN30.ext hE9 (fun i e => .inl e)
          refine wl_nil ⟨fun h => absurd h (by decide), ?_⟩
          refine wx_done (by kernel_rfl) ?_ _
          refine W_ret ?_
          exact ⟨_, rfl, hX, ⟨_, _, hB4, by unfold mt; rw [← heo]; exact hN30⟩⟩
        · exact absurd (of_decide_eq_false hc2) (by simp)
    · refine wl_yes rfl (congrArg Value.bool hg14) ?_
      refine wl_val (rn_load1 p_4 rfl (hC3.ext hX (fun e => h34 e)) rfl) ?_
      refine wl_yes rfl (congrArg Value.bool hg14) ?_
      refine wl_val (rn_not rfl) ?_
      refine wl_val (rn_pickF (congrArg Value.bool hg14) (by conv => lhs; whnf)) ?_
      refine wl_val (rn_assign (by conv => lhs; whnf)) ?_
      refine wl_nil ?_
      refine W_cut (T := List Int × Value × Value) [0, 1, 4, 5, 9] (fun ⟨out1, y1, y2⟩ => [.pointer pa, .slice a 0 c, .pointer (some ⟨b4, 0, none⟩), .pointer (some ⟨b5, 0, none⟩), .bool (!first || !apart)]) (fun ⟨out1, y1, y2⟩ A => (Ext (fun i => i = b4) w A) ∧ (IsBox A b4 [y1, y2]) ∧ (Mine (fun i => i = b4) w b4) ∧ (out1 = (if (!first || !apart) = true then (t.kid [35]).subs.foldl (putK ltI) out else out) ∧ SetR (fun i => i = b4 ∨ i = b3 ∨ i = b5 ∨ M i) A (.agg #[y1, y2]) out1)) ?_ ?_
      · refine W_seq ?_
        refine W_region ?_
        refine wl_val (rn_move (by conv => lhs; whnf)) ?_
        refine wl_nil ?_
        refine W_cond rfl (fun hc1 => ?_) (fun hc1 => ?_)
        · have hwl : (!first || !apart) = true := by rw [hg14, hc1]; rfl
          refine W_drawX (fun j => j == 5) mixed ?_; intro w10 hE10
          replace hX := hX.tr hE10
          replace hB4 := hB4.ext hE10 id
          replace hO := hO.ext hE10 (fun _ h => h.elim)
          have hS := Ext.refl Non w10
          refine wx_take 0 [4, 5] _ _ rfl (by kernel_rfl) hS (yd_do fun A hA => rn_loadB s_98 rfl rfl (hB4.ext hA id)) ?_
          refine wx_take 1 [2, 3, 4, 5] _ _ rfl (by kernel_rfl) hS (yd_do fun A hA => rn_move (by conv => lhs; whnf)) ?_
          refine wx_only 2 _ rfl (by kernel_rfl) ?_
          refine s1_do ?_
          refine wl_call e_46 rfl (nkid_ok w10 t (fun i => i = b4 ∨ i = b3 ∨ i = b5 ∨ M i) (fun i h => Nat.lt_of_lt_of_le (hFw i h) (Nat.le_trans hX.size hS.size)) (ht.ext (hX.tr hS) (fun i e => .inl e)) hok (by omega) [35]) ?_; intro v21 w11 hE11 hR11
          replace hS := hS.tr hE11
          have hK21 := hR11
          refine wl_nil ⟨fun _ => hS, ?_⟩
          refine wx_only 3 _ rfl (by kernel_rfl) ?_
          refine s1_do ?_
          refine wl_call e_42 rfl (nsubs_ok w11 _ (fun i => i = b4 ∨ i = b3 ∨ i = b5 ∨ M i) hK21) ?_; intro v22 w12 hE12 hR12
          replace hS := hS.tr hE12
          replace hK21 := hK21.ext hE12 (fun _ h => h.elim)
          have hS22 := hR12
          refine wl_nil ⟨fun _ => hS, ?_⟩
          refine wx_only 4 _ rfl (by kernel_rfl) ?_
          refine s1_do ?_
          refine wl_call e_136 rfl (joinM_ok w12 out _ (fun i => i = b4 ∨ i = b3 ∨ i = b5 ∨ M i) (fun i h => Nat.lt_of_lt_of_le (hFw i h) (Nat.le_trans hX.size hS.size)) (hO.ext hS (fun _ h => h.elim)) (hS22.sub (fun _ h _ => h.elim)) hso (by have := in_len hso huo; omega) (by have := (hok.kid [35]).sl; omega)) ?_; intro v23 w13 hE13 hR13
          replace hS := hS.tr hE13
          replace hS22 := hS22.ext hE13 (fun _ h => h.elim)
          obtain ⟨y1, y2, usy, rfl, hMy⟩ := hR13
          obtain ⟨qy1, ny1, cy1, rfl⟩ := id hMy.keys.shape; obtain ⟨qy2, ny2, cy2, rfl⟩ := id hMy.vals.shape
          have hN23 : SetR (fun i => i = b4 ∨ i = b3 ∨ i = b5 ∨ M i) w13 (.agg #[.slice qy1 ny1 cy1, .slice qy2 ny2 cy2]) _ := ⟨_, _, usy, rfl, hMy⟩
          refine wl_nil ⟨fun _ => hS, ?_⟩
          replace hX := hX.tr hS
          replace hB4 := hB4.ext hS id
          refine wx_only 5 _ rfl (by kernel_rfl) ?_
          refine s1_do ?_
          have hBo := hB4
          refine wl_storeB s_98 rfl rfl rfl (two1 rfl rfl) hB4 rfl ?_; intro w14 hE14 hB4 hz14
          replace hX := hX.mine hE14 hl4
          replace hN23 := hN23.ext hE14 (fun i e => .inl e)
          refine wl_nil ⟨fun h => absurd h (by decide), ?_⟩
          refine wx_done (by kernel_rfl) ?_ _
          exact ⟨rfl, (_, _, _), ⟨rfl, rfl, rfl, rfl, (congrArg Value.bool (hc1.trans hwl.symm)), trivial⟩, ⟨hX, hB4, hl4, ⟨rfl, (by rw [if_pos hwl]; exact hN23)⟩⟩⟩
        · have hwl : (!first || !apart) = false := by rw [hg14, hc1]; rfl
          refine W_skip ?_
          exact ⟨rfl, (_, _, _), ⟨rfl, rfl, rfl, rfl, (congrArg Value.bool (hc1.trans hwl.symm)), trivial⟩, ⟨hX, hB4, hl4, ⟨rfl, (by rw [if_neg (by rw [hwl]; simp)]; exact hO)⟩⟩⟩
      · rintro τ1018 ⟨out1, y1, y2⟩ C118 ⟨hX, hB4, hl4, hI⟩
        obtain ⟨heo, hO1⟩ := hI
        obtain ⟨hs1, hu1⟩ : Sorted ltI out1 ∧ ∀ s ∈ out1, s ∈ U := by by_cases hw : (!first || !apart) = true; (rw [heo, if_pos hw]; exact fold_in hso huo (hin.kid hok _).subs); (rw [heo, if_neg hw]; exact ⟨hso, huo⟩)
        obtain ⟨_, _, uso, eo, hMo⟩ := id hO1; cases eo
        obtain ⟨qo1, no1, co1, rfl⟩ := id hMo.keys.shape; obtain ⟨qo2, no2, co2, rfl⟩ := id hMo.vals.shape
        refine W_seq ?_
        refine W_seq ?_
        refine W_region ?_
        refine wl_val (rn_move (by conv => lhs; whnf)) ?_
        refine wl_val (rn_len sl_22 rfl) ?_
        refine wl_val (rn_eql rfl rfl) ?_
        refine wl_nil ?_
        refine W_cond rfl (fun hc2 => ?_) (fun hc2 => ?_)
        · refine W_seq ?_
          refine W_drawX (fun j => j == 4) mixed ?_; intro w15 hE15
          replace hX := hX.tr hE15
          replace hB4 := hB4.ext hE15 id
          replace hO1 := hO1.ext hE15 (fun _ h => h.elim)
          have hS := Ext.refl Non w15
          refine wx_take 0 [3, 4] _ _ rfl (by kernel_rfl) hS (yd_do fun A hA => rn_loadB s_98 rfl rfl (hB4.ext hA id)) ?_
          refine wx_take 1 [2, 3, 4] _ _ rfl (by kernel_rfl) hS (yd_do fun A hA => rn_move (by conv => lhs; whnf)) ?_
          refine wx_only 2 _ rfl (by kernel_rfl) ?_
          refine s1_do ?_
          refine wl_call e_42 rfl (nsubs_ok w15 t (fun i => i = b4 ∨ i = b3 ∨ i = b5 ∨ M i) (ht.ext (hX.tr hS) (fun i e => .inl e))) ?_; intro v29 w16 hE16 hR16
          replace hS := hS.tr hE16
          have hS29 := hR16
          refine wl_nil ⟨fun _ => hS, ?_⟩
          refine wx_only 3 _ rfl (by kernel_rfl) ?_
          refine s1_do ?_
          refine wl_call e_136 rfl (joinM_ok w16 out1 _ (fun i => i = b4 ∨ i = b3 ∨ i = b5 ∨ M i) (fun i h => Nat.lt_of_lt_of_le (hFw i h) (Nat.le_trans hX.size hS.size)) (hO1.ext hS (fun _ h => h.elim)) (hS29.sub (fun _ h _ => h.elim)) hs1 (by have := in_len hs1 hu1; omega) (by have := hok.sl; omega)) ?_; intro v30 w17 hE17 hR17
          replace hS := hS.tr hE17
          replace hS29 := hS29.ext hE17 (fun _ h => h.elim)
          obtain ⟨z1, z2, usz, rfl, hMz⟩ := hR17
          obtain ⟨qz1, nz1, cz1, rfl⟩ := id hMz.keys.shape; obtain ⟨qz2, nz2, cz2, rfl⟩ := id hMz.vals.shape
          have hN30 : SetR (fun i => i = b4 ∨ i = b3 ∨ i = b5 ∨ M i) w17 (.agg #[.slice qz1 nz1 cz1, .slice qz2 nz2 cz2]) _ := ⟨_, _, usz, rfl, hMz⟩
          refine wl_nil ⟨fun _ => hS, ?_⟩
          replace hX := hX.tr hS
          replace hB4 := hB4.ext hS id
          refine wx_only 4 _ rfl (by kernel_rfl) ?_
          refine s1_do ?_
          have hBo := hB4
          refine wl_storeB s_98 rfl rfl rfl (two1 rfl rfl) hB4 rfl ?_; intro w18 hE18 hB4 hz18
          replace hX := hX.mine hE18 hl4
          replace hN30 := hN30.ext hE18 (fun i e => .inl e)
          refine wl_nil ⟨fun h => absurd h (by decide), ?_⟩
          refine wx_done (by kernel_rfl) ?_ _
          refine W_ret ?_
          exact ⟨_, rfl, hX, ⟨_, _, hB4, by unfold mt; rw [← heo]; exact hN30⟩⟩
        · exact absurd (of_decide_eq_false hc2) (by simp)
-- (bellman/trie.Trie).Match$1
set_option maxHeartbeats 3200000 in
theorem mwalk_cons (w : World) (t : Tr) (first apart : Bool) (out U : List Int) (b3 b4 b5 : Nat) (M : Nat → Prop) (h34 : b3 ≠ b4) (h54 : b5 ≠ b4) {n m : Nat} {v vl x1 x2 : Value} (hn : n ≤ 1000) (hU : U.length ≤ 1000) (hMw : ∀ i, M i → i < w.heap.size) (hC3 : IsBox w b3 [.bool apart]) (hC5 : IsBox w b5 [.func (.func 135) #[] #[.pointer (some ⟨b3, 0, none⟩), .pointer (some ⟨b4, 0, none⟩), .pointer (some ⟨b5, 0, none⟩)]]) (hB4 : IsBox w b4 [x1, x2]) (hO : SetR (fun i => i = b4 ∨ i = b3 ∨ i = b5 ∨ M i) w (.agg #[x1, x2]) out) (hso : Sorted ltI out) (huo : ∀ s ∈ out, s ∈ U) (ht : TrM (fun i => i = b4 ∨ i = b3 ∨ i = b5 ∨ M i) w t v) (hok : t.Ok n m) (hin : t.In U) (l : Str) (ls : List Str) (hl : Sl (fun i => i = b4 ∨ i = b3 ∨ i = b5 ∨ M i) w vl 1 ((l :: ls).map eS1)) (ih : ∀ (w : World) (t : Tr) (out : List Int) {m : Nat} {v vl x1 x2 : Value} (hMw : ∀ i, M i → i < w.heap.size) (hC3 : IsBox w b3 [.bool apart]) (hC5 : IsBox w b5 [.func (.func 135) #[] #[.pointer (some ⟨b3, 0, none⟩), .pointer (some ⟨b4, 0, none⟩), .pointer (some ⟨b5, 0, none⟩)]]) (hB4 : IsBox w b4 [x1, x2]) (hO : SetR (fun i => i = b4 ∨ i = b3 ∨ i = b5 ∨ M i) w (.agg #[x1, x2]) out) (hso : Sorted ltI out) (huo : ∀ s ∈ out, s ∈ U) (ht : TrM (fun i => i = b4 ∨ i = b3 ∨ i = b5 ∨ M i) w t v) (hok : t.Ok n m) (hin : t.In U) (hl : Sl (fun i => i = b4 ∨ i = b3 ∨ i = b5 ∨ M i) w vl 1 (ls.map eS1)), FnM Tryz.prog (fun i => i = b4) 135 #[v, vl, .bool false, .pointer (some ⟨b3, 0, none⟩), .pointer (some ⟨b4, 0, none⟩), .pointer (some ⟨b5, 0, none⟩)] w fun u w' => ∃ z1 z2, IsBox w' b4 [z1, z2] ∧ SetR (fun i => i = b4 ∨ i = b3 ∨ i = b5 ∨ M i) w' (.agg #[z1, z2]) (mt apart ls false t out)) : FnM Tryz.prog (fun i => i = b4) 135 #[v, vl, .bool first, .pointer (some ⟨b3, 0, none⟩), .pointer (some ⟨b4, 0, none⟩), .pointer (some ⟨b5, 0, none⟩)] w fun u w' => ∃ z1 z2, IsBox w' b4 [z1, z2] ∧ SetR (fun i => i = b4 ∨ i = b3 ∨ i = b5 ∨ M i) w' (.agg #[z1, z2]) (mt apart (l :: ls) first t out) := by
  obtain ⟨⟨a, c, rfl, hc1_, hc2_, hc3_⟩, _⟩ := id hl
  simp only [List.length_map, List.length_cons] at hl hc1_ ⊢
  obtain ⟨bb, o, ea⟩ := hl.base (by simp); subst ea
  have htl : Sl (fun i => i = b4 ∨ i = b3 ∨ i = b5 ∨ M i) w (.slice (if c = 1 then some ⟨bb, o, none⟩ else (some (⟨bb, o, none⟩ : Addr)).map (·.add (1 * 1))) (ls.length + 1 - 1) (c - 1)) 1 (ls.map eS1) := by
    have := hl.cut (l := 1) (h := ls.length + 1) (m := c) (by omega) (by omega) (by omega) (by omega)
    have e : (((l :: ls).map eS1).drop 1).take (ls.length + 1 - 1) = ls.map eS1 := by simp [List.take_of_length_le]
    rw [e] at this; exact this
  obtain ⟨pa, rfl⟩ := ht.ptr
  have hFw : ∀ i, (fun i => i = b4 ∨ i = b3 ∨ i = b5 ∨ M i) i → i < w.heap.size := fun i h => by rcases h with h | h | h | h; rw [h]; exact hB4.lt; rw [h]; exact hC3.lt; rw [h]; exact hC5.lt; exact hMw i h
  have hl4 : Mine (fun i => i = b4) w b4 := .inl rfl
  have hX := Ext.refl (fun i => i = b4) w
  refine fnM_of_W (args := [_, _, _, _, _, _]) Tryz.func135 rfl (by kernel_rfl) rfl ?_
  refine W_seq ?_
  refine W_seq ?_
  refine W_region ?_
  refine wl_val (rn_move (by conv => lhs; whnf)) ?_
  refine wl_val (rn_ptr_eql up_node rfl rfl) ?_
  refine wl_nil ?_
  refine W_cond rfl (fun hc0 => ?_) (fun hc0 => ?_)
  · have hte : pa = none := by simpa using hc0
    subst hte
    have hbe : t = .bare := by cases ht; rfl
    subst hbe
    refine W_ret ?_
    exact ⟨_, rfl, hX, ⟨_, _, hB4, by rw [mt_bare]; exact hO⟩⟩
  · refine W_skip ?_
    refine W_seq ?_
    refine W_region ?_
    refine wl_val (rn_move (by conv => lhs; whnf)) ?_
    refine wl_val (rn_not rfl) ?_
    refine wl_val (rn_move (by conv => lhs; whnf)) ?_
    refine wl_split (d := 14) rfl (fun hg14 => ?_) (fun hg14 => ?_)
    · have hwl : (!first || !apart) = true := by rw [hg14]; rfl
      refine wl_no rfl (congrArg Value.bool hg14) ?_
      refine wl_no rfl (congrArg Value.bool hg14) ?_
      refine wl_val (rn_pickT (congrArg Value.bool hg14) (by conv => lhs; whnf)) ?_
      refine wl_val (rn_assign (by conv => lhs; whnf)) ?_
      refine wl_nil ?_
      refine W_cut (T := List Int × Value × Value) [0, 1, 4, 5, 9] (fun ⟨out1, y1, y2⟩ => [.pointer pa, .slice (some ⟨bb, o, none⟩) (ls.length + 1) c, .pointer (some ⟨b4, 0, none⟩), .pointer (some ⟨b5, 0, none⟩), .bool (!first || !apart)]) (fun ⟨out1, y1, y2⟩ A => (Ext (fun i => i = b4) w A) ∧ (IsBox A b4 [y1, y2]) ∧ (Mine (fun i => i = b4) w b4) ∧ (out1 = (if (!first || !apart) = true then (t.kid [35]).subs.foldl (putK ltI) out else out) ∧ SetR (fun i => i = b4 ∨ i = b3 ∨ i = b5 ∨ M i) A (.agg #[y1, y2]) out1)) ?_ ?_
      · refine W_seq ?_
        refine W_region ?_
        refine wl_val (rn_move (by conv => lhs; whnf)) ?_
        refine wl_nil ?_
        refine W_condT rfl ?_
        refine W_drawX (fun j => j == 5) mixed ?_; intro w1 hE1
        replace hX := hX.tr hE1
        replace hB4 := hB4.ext hE1 id
        replace hO := hO.ext hE1 (fun _ h => h.elim)
        have hS := Ext.refl Non w1
        refine wx_take 0 [4, 5] _ _ rfl (by kernel_rfl) hS (yd_do fun A hA => rn_loadB s_98 rfl rfl (hB4.ext hA id)) ?_
        refine wx_take 1 [2, 3, 4, 5] _ _ rfl (by kernel_rfl) hS (yd_do fun A hA => rn_move (by conv => lhs; whnf)) ?_
        refine wx_only 2 _ rfl (by kernel_rfl) ?_
        refine s1_do ?_
        refine wl_call e_46 rfl (nkid_ok w1 t (fun i => i = b4 ∨ i = b3 ∨ i = b5 ∨ M i) (fun i h => Nat.lt_of_lt_of_le (hFw i h) (Nat.le_trans hX.size hS.size)) (ht.ext (hX.tr hS) (fun i e => .inl e)) hok (by omega) [35]) ?_; intro v21 w2 hE2 hR2
        replace hS := hS.tr hE2
        have hK21 := hR2
        refine wl_nil ⟨fun _ => hS, ?_⟩
        refine wx_only 3 _ rfl (by kernel_rfl) ?_
        refine s1_do ?_
        refine wl_call e_42 rfl (nsubs_ok w2 _ (fun i => i = b4 ∨ i = b3 ∨ i = b5 ∨ M i) hK21) ?_; intro v22 w3 hE3 hR3
        replace hS := hS.tr hE3
        replace hK21 := hK21.ext hE3 (fun _ h => h.elim)
        have hS22 := hR3
        refine wl_nil ⟨fun _ => hS, ?_⟩
        refine wx_only 4 _ rfl (by kernel_rfl) ?_
        refine s1_do ?_
        refine wl_call e_136 rfl (joinM_ok w3 out _ (fun i => i = b4 ∨ i = b3 ∨ i = b5 ∨ M i) (fun i h => Nat.lt_of_lt_of_le (hFw i h) (Nat.le_trans hX.size hS.size)) (hO.ext hS (fun _ h => h.elim)) (hS22.sub (fun _ h _ => h.elim)) hso (by have := in_len hso huo; omega) (by have := (hok.kid [35]).sl; omega)) ?_; intro v23 w4 hE4 hR4
        replace hS := hS.tr hE4
        replace hS22 := hS22.ext hE4 (fun _ h => h.elim)
        obtain ⟨y1, y2, usy, rfl, hMy⟩ := hR4
        obtain ⟨qy1, ny1, cy1, rfl⟩ := id hMy.keys.shape; obtain ⟨qy2, ny2, cy2, rfl⟩ := id hMy.vals.shape
        have hN23 : SetR (fun i => i = b4 ∨ i = b3 ∨ i = b5 ∨ M i) w4 (.agg #[.slice qy1 ny1 cy1, .slice qy2 ny2 cy2]) _ := ⟨_, _, usy, rfl, hMy⟩
        refine wl_nil ⟨fun _ => hS, ?_⟩
        replace hX := hX.tr hS
        replace hB4 := hB4.ext hS id
        refine wx_only 5 _ rfl (by kernel_rfl) ?_
        refine s1_do ?_
        have hBo := hB4
        refine wl_storeB s_98 rfl rfl rfl (two1 rfl rfl) hB4 rfl ?_; intro w5 hE5 hB4 hz5
        replace hX := hX.mine hE5 hl4
        replace hN23 := hN23.ext hE5 (fun i e => .inl e)
        refine wl_nil ⟨fun h => absurd h (by decide), ?_⟩
        refine wx_done (by kernel_rfl) ?_ _
        exact ⟨rfl, (_, _, _), ⟨rfl, rfl, rfl, rfl, (congrArg Value.bool hwl.symm), trivial⟩, ⟨hX, hB4, hl4, ⟨rfl, (by rw [if_pos hwl]; exact hN23)⟩⟩⟩
      · rintro τ1018 ⟨out1, y1, y2⟩ C118 ⟨hX, hB4, hl4, hI⟩
        obtain ⟨heo, hO1⟩ := hI
        obtain ⟨hs1, hu1⟩ : Sorted ltI out1 ∧ ∀ s ∈ out1, s ∈ U := by by_cases hw : (!first || !apart) = true; (rw [heo, if_pos hw]; exact fold_in hso huo (hin.kid hok _).subs); (rw [heo, if_neg hw]; exact ⟨hso, huo⟩)
        obtain ⟨_, _, uso, eo, hMo⟩ := id hO1; cases eo
        obtain ⟨qo1, no1, co1, rfl⟩ := id hMo.keys.shape; obtain ⟨qo2, no2, co2, rfl⟩ := id hMo.vals.shape
        refine W_seq ?_
        refine W_seq ?_
        refine W_region ?_
        refine wl_val (rn_move (by conv => lhs; whnf)) ?_
        refine wl_val (rn_len sl_22 rfl) ?_
        refine wl_val (rn_eql rfl rfl) ?_
        refine wl_nil ?_
        refine W_cond rfl (fun hc2 => ?_) (fun hc2 => ?_)
        · exact absurd (of_decide_eq_true hc2) (by omega)
        · refine W_skip ?_
          refine W_seq ?_
          refine W_drawX (fun j => j == 8) mixed ?_; intro w6 hE6
          replace hX := hX.tr hE6
          replace hB4 := hB4.ext hE6 id
          replace hO1 := hO1.ext hE6 (fun _ h => h.elim)
          have hS := Ext.refl Non w6
          refine wx_take 0 [8] _ _ rfl (by kernel_rfl) hS (yd_do fun A hA => rn_load1 p_193 rfl ((hC5.ext hX (fun e => h54 e)).ext hA id) rfl) ?_
          refine wx_take 1 [5, 8] _ _ rfl (by kernel_rfl) hS (yd_do fun A hA => rn_move (by conv => lhs; whnf)) ?_
          refine wx_take 2 [3, 4, 5, 8] _ _ rfl (by kernel_rfl) hS (yd_do fun A hA => rn_move (by conv => lhs; whnf)) ?_
          refine wx_take 3 [4, 5, 8] _ _ rfl (by kernel_rfl) hS (yd_do fun A hA => rn_indexAddr sl_22 rfl rfl (by omega)) ?_
          refine wx_take 4 [5, 8] _ _ rfl (by kernel_rfl) hS (yd_do fun A hA => rn_load p_9 rfl (((hl.ext hX (fun i e => .inl e)).ext hA (fun _ h => h.elim)).at0 (eS_at (i := 0) (x := l) rfl) rfl)) ?_
          refine wx_take 6 [7, 8] _ _ rfl (by kernel_rfl) hS (yd_do fun A hA => rn_move (by conv => lhs; whnf)) ?_
          refine wx_take 7 [8] _ _ rfl (by kernel_rfl) hS (yd_do fun A hA => rn_slice sl_22 (l := 1) (h := (ls.length + 1)) (m := c) rfl ⟨_, rfl⟩ rfl rfl (by simp) (by omega) (by omega) (by omega)) ?_
          refine wx_only 5 _ rfl (by kernel_rfl) ?_
          refine s1_do ?_
          refine wl_call e_46 rfl (nkid_ok w6 t (fun i => i = b4 ∨ i = b3 ∨ i = b5 ∨ M i) (fun i h => Nat.lt_of_lt_of_le (hFw i h) (Nat.le_trans hX.size hS.size)) (ht.ext (hX.tr hS) (fun i e => .inl e)) hok (by omega) l) ?_; intro v36 w7 hE7 hR7
          replace hS := hS.tr hE7
          have hK36 := hR7
          refine wl_nil ⟨fun _ => hS, ?_⟩
          replace hX := hX.tr hS
          replace hB4 := hB4.ext hS id
          replace hO1 := hO1.ext hS (fun _ h => h.elim)
          refine wx_only 8 _ rfl (by kernel_rfl) ?_
          refine s1_do ?_
          refine wl_callv (args := [v36, .slice (if c = 1 then some ⟨bb, o, none⟩ else (some (⟨bb, o, none⟩ : Addr)).map (·.add (1 * 1))) (ls.length + 1 - 1) (c - 1), .bool false]) (cap := #[.pointer (some ⟨b3, 0, none⟩), .pointer (some ⟨b4, 0, none⟩), .pointer (some ⟨b5, 0, none⟩)]) rfl e_135 rfl (ih w7 (t.kid l) _ (fun i h => Nat.lt_of_lt_of_le (hMw i h) hX.size) (hC3.ext hX (fun e => h34 e)) (hC5.ext hX (fun e => h54 e)) hB4 hO1 hs1 hu1 hK36 (hok.kid _) (hin.kid hok _) (htl.ext hX (fun i e => .inl e))) ?_; rintro _ w8 ⟨v39, rfl, hE8, hR8⟩; refine ⟨_, rfl, ?_⟩
          obtain ⟨z1_39, z2_39, hB4, hO39⟩ := hR8
          obtain ⟨_, _, us39, eo39, hMo39⟩ := id hO39; cases eo39
          obtain ⟨qa39, na39, ca39, rfl⟩ := id hMo39.keys.shape; obtain ⟨qb39, nb39, cb39, rfl⟩ := id hMo39.vals.shape
          replace hX := hX.trans hE8
          refine wl_nil ⟨fun h => absurd h (by decide), ?_⟩
          refine wx_done (by kernel_rfl) ?_ _
          refine W_seq ?_
          refine W_region ?_
          refine wl_val (rn_move (by conv => lhs; whnf)) ?_
          refine wl_nil ?_
          refine W_cond rfl (fun hc3 => ?_) (fun hc3 => ?_)
          · have hm39 := mt_in apart ls false (t.kid l) out1 (hok.kid l) (hin.kid hok l) hs1 hu1
            refine W_drawX (fun j => j == 5) mixed ?_; intro w9 hE9
            replace hX := hX.tr hE9
            replace hB4 := hB4.ext hE9 id
            replace hO39 := hO39.ext hE9 (fun _ h => h.elim)
            have hS := Ext.refl Non w9
            refine wx_take 0 [5] _ _ rfl (by kernel_rfl) hS (yd_do fun A hA => rn_load1 p_193 rfl ((hC5.ext hX (fun e => h54 e)).ext hA id) rfl) ?_
            refine wx_take 1 [2, 5] _ _ rfl (by kernel_rfl) hS (yd_do fun A hA => rn_move (by conv => lhs; whnf)) ?_
            refine wx_take 3 [4, 5] _ _ rfl (by kernel_rfl) hS (yd_do fun A hA => rn_move (by conv => lhs; whnf)) ?_
            refine wx_take 4 [5] _ _ rfl (by kernel_rfl) hS (yd_do fun A hA => rn_slice sl_22 (l := 1) (h := (ls.length + 1)) (m := c) rfl ⟨_, rfl⟩ rfl rfl (by simp) (by omega) (by omega) (by omega)) ?_
            refine wx_only 2 _ rfl (by kernel_rfl) ?_
            refine s1_do ?_
            refine wl_call e_46 rfl (nkid_ok w9 t (fun i => i = b4 ∨ i = b3 ∨ i = b5 ∨ M i) (fun i h => Nat.lt_of_lt_of_le (hFw i h) (Nat.le_trans hX.size hS.size)) (ht.ext (hX.tr hS) (fun i e => .inl e)) hok (by omega) [43]) ?_; intro v43 w10 hE10 hR10
            replace hS := hS.tr hE10
            have hK43 := hR10
            refine wl_nil ⟨fun _ => hS, ?_⟩
            replace hX := hX.tr hS
            replace hB4 := hB4.ext hS id
            replace hO39 := hO39.ext hS (fun _ h => h.elim)
            refine wx_only 5 _ rfl (by kernel_rfl) ?_
            refine s1_do ?_
            refine wl_callv (args := [v43, .slice (if c = 1 then some ⟨bb, o, none⟩ else (some (⟨bb, o, none⟩ : Addr)).map (·.add (1 * 1))) (ls.length + 1 - 1) (c - 1), .bool false]) (cap := #[.pointer (some ⟨b3, 0, none⟩), .pointer (some ⟨b4, 0, none⟩), .pointer (some ⟨b5, 0, none⟩)]) rfl e_135 rfl (ih w10 (t.kid [43]) _ (fun i h => Nat.lt_of_lt_of_le (hMw i h) hX.size) (hC3.ext hX (fun e => h34 e)) (hC5.ext hX (fun e => h54 e)) hB4 hO39 hm39.1 hm39.2 hK43 (hok.kid _) (hin.kid hok _) (htl.ext hX (fun i e => .inl e))) ?_; rintro _ w11 ⟨v46, rfl, hE11, hR11⟩; refine ⟨_, rfl, ?_⟩
            obtain ⟨z1_46, z2_46, hB4, hO46⟩ := hR11
            obtain ⟨_, _, us46, eo46, hMo46⟩ := id hO46; cases eo46
            obtain ⟨qa46, na46, ca46, rfl⟩ := id hMo46.keys.shape; obtain ⟨qb46, nb46, cb46, rfl⟩ := id hMo46.vals.shape
            replace hX := hX.trans hE11
            refine wl_nil ⟨fun h => absurd h (by decide), ?_⟩
            refine wx_done (by kernel_rfl) ?_ _
            exact ⟨_, rfl, hX, ⟨_, _, hB4, by unfold mt; rw [← heo, if_pos hc3]; exact hO46⟩⟩
          · refine W_skip ?_
            exact ⟨_, rfl, hX, ⟨_, _, hB4, by unfold mt; rw [← heo, if_neg (by rw [hc3]; simp)]; exact hO39⟩⟩
    · refine wl_yes rfl (congrArg Value.bool hg14) ?_
      refine wl_val (rn_load1 p_4 rfl (hC3.ext hX (fun e => h34 e)) rfl) ?_
      refine wl_yes rfl (congrArg Value.bool hg14) ?_
      refine wl_val (rn_not rfl) ?_
      refine wl_val (rn_pickF (congrArg Value.bool hg14) (by conv => lhs; whnf)) ?_
      refine wl_val (rn_assign (by conv => lhs; whnf)) ?_
      refine wl_nil ?_
      refine W_cut (T := List Int × Value × Value) [0, 1, 4, 5, 9] (fun ⟨out1, y1, y2⟩ => [.pointer pa, .slice (some ⟨bb, o, none⟩) (ls.length + 1) c, .pointer (some ⟨b4, 0, none⟩), .pointer (some ⟨b5, 0, none⟩), .bool (!first || !apart)]) (fun ⟨out1, y1, y2⟩ A => (Ext (fun i => i = b4) w A) ∧ (IsBox A b4 [y1, y2]) ∧ (Mine (fun i => i = b4) w b4) ∧ (out1 = (if (!first || !apart) = true then (t.kid [35]).subs.foldl (putK ltI) out else out) ∧ SetR (fun i => i = b4 ∨ i = b3 ∨ i = b5 ∨ M i) A (.agg #[y1, y2]) out1)) ?_ ?_
      · refine W_seq ?_
        refine W_region ?_
        refine wl_val (rn_move (by conv => lhs; whnf)) ?_
        refine wl_nil ?_
        refine W_cond rfl (fun hc1 => ?_) (fun hc1 => ?_)
        · have hwl : (!first || !apart) = true := by rw [hg14, hc1]; rfl
          refine W_drawX (fun j => j == 5) mixed ?_; intro w12 hE12
          replace hX := hX.tr hE12
          replace hB4 := hB4.ext hE12 id
          replace hO := hO.ext hE12 (fun _ h => h.elim)
          have hS := Ext.refl Non w12
          refine wx_take 0 [4, 5] _ _ rfl (by kernel_rfl) hS (yd_do fun A hA => rn_loadB s_98 rfl rfl (hB4.ext hA id)) ?_
          refine wx_take 1 [2, 3, 4, 5] _ _ rfl (by kernel_rfl) hS (yd_do fun A hA => rn_move (by conv => lhs; whnf)) ?_
          refine wx_only 2 _ rfl (by kernel_rfl) ?_
          refine s1_do ?_
          refine wl_call e_46 rfl (nkid_ok w12 t (fun i => i = b4 ∨ i = b3 ∨ i = b5 ∨ M i) (fun i h => Nat.lt_of_lt_of_le (hFw i h) (Nat.le_trans hX.size hS.size)) (ht.ext (hX.tr hS) (fun i e => .inl e)) hok (by omega) [35]) ?_; intro v21 w13 hE13 hR13
          replace hS := hS.tr hE13
          have hK21 := hR13
          refine wl_nil ⟨fun _ => hS, ?_⟩
          refine wx_only 3 _ rfl (by kernel_rfl) ?_
          refine s1_do ?_
          refine wl_call e_42 rfl (nsubs_ok w13 _ (fun i => i = b4 ∨ i = b3 ∨ i = b5 ∨ M i) hK21) ?_; intro v22 w14 hE14 hR14
          replace hS := hS.tr hE14
          replace hK21 := hK21.ext hE14 (fun _ h => h.elim)
          have hS22 := hR14
          refine wl_nil ⟨fun _ => hS, ?_⟩
          refine wx_only 4 _ rfl (by kernel_rfl) ?_
          refine s1_do ?_
          refine wl_call e_136 rfl (joinM_ok w14 out _ (fun i => i = b4 ∨ i = b3 ∨ i = b5 ∨ M i) (fun i h => Nat.lt_of_lt_of_le (hFw i h) (Nat.le_trans hX.size hS.size)) (hO.ext hS (fun _ h => h.elim)) (hS22.sub (fun _ h _ => h.elim)) hso (by have := in_len hso huo; omega) (by have := (hok.kid [35]).sl; omega)) ?_; intro v23 w15 hE15 hR15
          replace hS := hS.tr hE15
          replace hS22 := hS22.ext hE15 (fun _ h => h.elim)
          obtain ⟨y1, y2, usy, rfl, hMy⟩ := hR15
          obtain ⟨qy1, ny1, cy1, rfl⟩ := id hMy.keys.shape; obtain ⟨qy2, ny2, cy2, rfl⟩ := id hMy.vals.shape
          have hN23 : SetR (fun i => i = b4 ∨ i = b3 ∨ i = b5 ∨ M i) w15 (.agg #[.slice qy1 ny1 cy1, .slice qy2 ny2 cy2]) _ := ⟨_, _, usy, rfl, hMy⟩
          refine wl_nil ⟨fun _ => hS, ?_⟩
          replace hX := hX.tr hS
          replace hB4 := hB4.ext hS id
          refine wx_only 5 _ rfl (by kernel_rfl) ?_
          refine s1_do ?_
          have hBo := hB4
          refine wl_storeB s_98 rfl rfl rfl (two1 rfl rfl) hB4 rfl ?_; intro w16 hE16 hB4 hz16
          replace hX := hX.mine hE16 hl4
          replace hN23 := hN23.ext hE16 (fun i e => .inl e)
          refine wl_nil ⟨fun h => absurd h (by decide), ?_⟩
          refine wx_done (by kernel_rfl) ?_ _
          exact ⟨rfl, (_, _, _), ⟨rfl, rfl, rfl, rfl, (congrArg Value.bool (hc1.trans hwl.symm)), trivial⟩, ⟨hX, hB4, hl4, ⟨rfl, (by rw [if_pos hwl]; exact hN23)⟩⟩⟩
        · have hwl : (!first || !apart) = false := by rw [hg14, hc1]; rfl
          refine W_skip ?_
          exact ⟨rfl, (_, _, _), ⟨rfl, rfl, rfl, rfl, (congrArg Value.bool (hc1.trans hwl.symm)), trivial⟩, ⟨hX, hB4, hl4, ⟨rfl, (by rw [if_neg (by rw [hwl]; simp)]; exact hO)⟩⟩⟩
      · rintro τ1018 ⟨out1, y1, y2⟩ C118 ⟨hX, hB4, hl4, hI⟩
        obtain ⟨heo, hO1⟩ := hI
        obtain ⟨hs1, hu1⟩ : Sorted ltI out1 ∧ ∀ s ∈ out1, s ∈ U := by by_cases hw : (!first || !apart) = true; (rw [heo, if_pos hw]; exact fold_in hso huo (hin.kid hok _).subs); (rw [heo, if_neg hw]; exact ⟨hso, huo⟩)
        obtain ⟨_, _, uso, eo, hMo⟩ := id hO1; cases eo
        obtain ⟨qo1, no1, co1, rfl⟩ := id hMo.keys.shape; obtain ⟨qo2, no2, co2, rfl⟩ := id hMo.vals.shape
        refine W_seq ?_
        refine W_seq ?_
        refine W_region ?_
        refine wl_val (rn_move (by conv => lhs; whnf)) ?_
        refine wl_val (rn_len sl_22 rfl) ?_
        refine wl_val (rn_eql rfl rfl) ?_
        refine wl_nil ?_
        refine W_cond rfl (fun hc2 => ?_) (fun hc2 => ?_)
        · exact absurd (of_decide_eq_true hc2) (by omega)
        · refine W_skip ?_
          refine W_seq ?_
          refine W_drawX (fun j => j == 8) mixed ?_; intro w17 hE17
          replace hX := hX.tr hE17
          replace hB4 := hB4.ext hE17 id
          replace hO1 := hO1.ext hE17 (fun _ h => h.elim)
          have hS := Ext.refl Non w17
          refine wx_take 0 [8] _ _ rfl (by kernel_rfl) hS (yd_do fun A hA => rn_load1 p_193 rfl ((hC5.ext hX (fun e => h54 e)).ext hA id) rfl) ?_
          refine wx_take 1 [5, 8] _ _ rfl (by kernel_rfl) hS (yd_do fun A hA => rn_move (by conv => lhs; whnf)) ?_
          refine wx_take 2 [3, 4, 5, 8] _ _ rfl (by kernel_rfl) hS (yd_do fun A hA => rn_move (by conv => lhs; whnf)) ?_
          refine wx_take 3 [4, 5, 8] _ _ rfl (by kernel_rfl) hS (yd_do fun A hA => rn_indexAddr sl_22 rfl rfl (by omega)) ?_
          refine wx_take 4 [5, 8] _ _ rfl (by kernel_rfl) hS (yd_do fun A hA => rn_load p_9 rfl (((hl.ext hX (fun i e => .inl e)).ext hA (fun _ h => h.elim)).at0 (eS_at (i := 0) (x := l) rfl) rfl)) ?_
          refine wx_take 6 [7, 8] _ _ rfl (by kernel_rfl) hS (yd_do fun A hA => rn_move (by conv => lhs; whnf)) ?_
          refine wx_take 7 [8] _ _ rfl (by kernel_rfl) hS (yd_do fun A hA => rn_slice sl_22 (l := 1) (h := (ls.length + 1)) (m := c) rfl ⟨_, rfl⟩ rfl rfl (by simp) (by omega) (by omega) (by omega)) ?_
          refine wx_only 5 _ rfl (by kernel_rfl) ?_
          refine s1_do ?_
          refine wl_call e_46 rfl (nkid_ok w17 t (fun i => i = b4 ∨ i = b3 ∨ i = b5 ∨ M i) (fun i h => Nat.lt_of_lt_of_le (hFw i h) (Nat.le_trans hX.size hS.size)) (ht.ext (hX.tr hS) (fun i e => .inl e)) hok (by omega) l) ?_; intro v36 w18 hE18 hR18
          replace hS := hS.tr hE18
          have hK36 := hR18
          refine wl_nil ⟨fun _ => hS, ?_⟩
          replace hX := hX.tr hS
          replace hB4 := hB4.ext hS id
          replace hO1 := hO1.ext hS (fun _ h => h.elim)
          refine wx_only 8 _ rfl (by kernel_rfl) ?_
          refine s1_do ?_
          refine wl_callv (args := [v36, .slice (if c = 1 then some ⟨bb, o, none⟩ else (some (⟨bb, o, none⟩ : Addr)).map (·.add (1 * 1))) (ls.length + 1 - 1) (c - 1), .bool false]) (cap := #[.pointer (some ⟨b3, 0, none⟩), .pointer (some ⟨b4, 0, none⟩), .pointer (some ⟨b5, 0, none⟩)]) rfl e_135 rfl (ih w18 (t.kid l) _ (fun i h => Nat.lt_of_lt_of_le (hMw i h) hX.size) (hC3.ext hX (fun e => h34 e)) (hC5.ext hX (fun e => h54 e)) hB4 hO1 hs1 hu1 hK36 (hok.kid _) (hin.kid hok _) (htl.ext hX (fun i e => .inl e))) ?_; rintro _ w19 ⟨v39, rfl, hE19, hR19⟩; refine ⟨_, rfl, ?_⟩
          obtain ⟨z1_39, z2_39, hB4, hO39⟩ := hR19
          obtain ⟨_, _, us39, eo39, hMo39⟩ := id hO39; cases eo39
          obtain ⟨qa39, na39, ca39, rfl⟩ := id hMo39.keys.shape; obtain ⟨qb39, nb39, cb39, rfl⟩ := id hMo39.vals.shape
          replace hX := hX.trans hE19
          refine wl_nil ⟨fun h => absurd h (by decide), ?_⟩
          refine wx_done (by kernel_rfl) ?_ _
          refine W_seq ?_
          refine W_region ?_
          refine wl_val (rn_move (by conv => lhs; whnf)) ?_
          refine wl_nil ?_
          refine W_cond rfl (fun hc3 => ?_) (fun hc3 => ?_)
          · have hm39 := mt_in apart ls false (t.kid l) out1 (hok.kid l) (hin.kid hok l) hs1 hu1
            refine W_drawX (fun j => j == 5) mixed ?_; intro w20 hE20
            replace hX := hX.tr hE20
            replace hB4 := hB4.ext hE20 id
            replace hO39 := hO39.ext hE20 (fun _ h => h.elim)
            have hS := Ext.refl Non w20
            refine wx_take 0 [5] _ _ rfl (by kernel_rfl) hS (yd_do fun A hA => rn_load1 p_193 rfl ((hC5.ext hX (fun e => h54 e)).ext hA id) rfl) ?_
            refine wx_take 1 [2, 5] _ _ rfl (by kernel_rfl) hS (yd_do fun A hA => rn_move (by conv => lhs; whnf)) ?_
            refine wx_take 3 [4, 5] _ _ rfl (by kernel_rfl) hS (yd_do fun A hA => rn_move (by conv => lhs; whnf)) ?_
            refine wx_take 4 [5] _ _ rfl (by kernel_rfl) hS (yd_do fun A hA => rn_slice sl_22 (l := 1) (h := (ls.length + 1)) (m := c) rfl ⟨_, rfl⟩ rfl rfl (by simp) (by omega) (by omega) (by omega)) ?_
            refine wx_only 2 _ rfl (by kernel_rfl) ?_
            refine s1_do ?_
            refine wl_call e_46 rfl (nkid_ok w20 t (fun i => i = b4 ∨ i = b3 ∨ i = b5 ∨ M i) (fun i h => Nat.lt_of_lt_of_le (hFw i h) (Nat.le_trans hX.size hS.size)) (ht.ext (hX.tr hS) (fun i e => .inl e)) hok (by omega) [43]) ?_; intro v43 w21 hE21 hR21
            replace hS := hS.tr hE21
            have hK43 := hR21
            refine wl_nil ⟨fun _ => hS, ?_⟩
            replace hX := hX.tr hS
            replace hB4 := hB4.ext hS id
            replace hO39 := hO39.ext hS (fun _ h => h.elim)
            refine wx_only 5 _ rfl (by kernel_rfl) ?_
            refine s1_do ?_
            refine wl_callv (args := [v43, .slice (if c = 1 then some ⟨bb, o, none⟩ else (some (⟨bb, o, none⟩ : Addr)).map (·.add (1 * 1))) (ls.length + 1 - 1) (c - 1), .bool false]) (cap := #[.pointer (some ⟨b3, 0, none⟩), .pointer (some ⟨b4, 0, none⟩), .pointer (some ⟨b5, 0, none⟩)]) rfl e_135 rfl (ih w21 (t.kid [43]) _ (fun i h => Nat.lt_of_lt_of_le (hMw i h) hX.size) (hC3.ext hX (fun e => h34 e)) (hC5.ext hX (fun e => h54 e)) hB4 hO39 hm39.1 hm39.2 hK43 (hok.kid _) (hin.kid hok _) (htl.ext hX (fun i e => .inl e))) ?_; rintro _ w22 ⟨v46, rfl, hE22, hR22⟩; refine ⟨_, rfl, ?_⟩
            obtain ⟨z1_46, z2_46, hB4, hO46⟩ := hR22
            obtain ⟨_, _, us46, eo46, hMo46⟩ := id hO46; cases eo46
            obtain ⟨qa46, na46, ca46, rfl⟩ := id hMo46.keys.shape; obtain ⟨qb46, nb46, cb46, rfl⟩ := id hMo46.vals.shape
            replace hX := hX.trans hE22
            refine wl_nil ⟨fun h => absurd h (by decide), ?_⟩
            refine wx_done (by kernel_rfl) ?_ _
            exact ⟨_, rfl, hX, ⟨_, _, hB4, by unfold mt; rw [← heo, if_pos hc3]; exact hO46⟩⟩
          · refine W_skip ?_
            exact ⟨_, rfl, hX, ⟨_, _, hB4, by unfold mt; rw [← heo, if_neg (by rw [hc3]; simp)]; exact hO39⟩⟩
theorem mwalk_ok (apart : Bool) (U : List Int) (b3 b4 b5 : Nat) (M : Nat → Prop) (h34 : b3 ≠ b4) (h54 : b5 ≠ b4) {n : Nat} (hn : n ≤ 1000) (hU : U.length ≤ 1000) : ∀ (ls : List Str) (first : Bool) (w : World) (t : Tr) (out : List Int) {m : Nat} {v vl x1 x2 : Value} (hMw : ∀ i, M i → i < w.heap.size) (hC3 : IsBox w b3 [.bool apart]) (hC5 : IsBox w b5 [.func (.func 135) #[] #[.pointer (some ⟨b3, 0, none⟩), .pointer (some ⟨b4, 0, none⟩), .pointer (some ⟨b5, 0, none⟩)]]) (hB4 : IsBox w b4 [x1, x2]) (hO : SetR (fun i => i = b4 ∨ i = b3 ∨ i = b5 ∨ M i) w (.agg #[x1, x2]) out) (hso : Sorted ltI out) (huo : ∀ s ∈ out, s ∈ U) (ht : TrM (fun i => i = b4 ∨ i = b3 ∨ i = b5 ∨ M i) w t v) (hok : t.Ok n m) (hin : t.In U) (hl : Sl (fun i => i = b4 ∨ i = b3 ∨ i = b5 ∨ M i) w vl 1 (ls.map eS1)), FnM Tryz.prog (fun i => i = b4) 135 #[v, vl, .bool first, .pointer (some ⟨b3, 0, none⟩), .pointer (some ⟨b4, 0, none⟩), .pointer (some ⟨b5, 0, none⟩)] w fun u w' => ∃ z1 z2, IsBox w' b4 [z1, z2] ∧ SetR (fun i => i = b4 ∨ i = b3 ∨ i = b5 ∨ M i) w' (.agg #[z1, z2]) (mt apart ls first t out)
  | [], first, w, t, out, m, v, vl, x1, x2, hMw, hC3, hC5, hB4, hO, hso, huo, ht, hok, hin, hl => mwalk_nil w t first apart out U b3 b4 b5 M h34 h54 hn hU hMw hC3 hC5 hB4 hO hso huo ht hok hin hl
  | l :: ls, first, w, t, out, m, v, vl, x1, x2, hMw, hC3, hC5, hB4, hO, hso, huo, ht, hok, hin, hl => mwalk_cons w t first apart out U b3 b4 b5 M h34 h54 hn hU hMw hC3 hC5 hB4 hO hso huo ht hok hin l ls hl fun w t out m v vl x1 x2 hMw hC3 hC5 hB4 hO hso huo ht hok hin hl => mwalk_ok apart U b3 b4 b5 M h34 h54 hn hU ls false w t out hMw hC3 hC5 hB4 hO hso huo ht hok hin hl
end Go.Proofs.YtaddeakfojpdoaaGreatDoorC

/- Whom a topic reaches; subscribing. -/
set_option linter.unusedVariables false
set_option linter.unusedSimpArgs false
set_option maxRecDepth 100000
namespace Go.Proofs.YtaddeakfojpdoaaGreatDoorC
open Go.RowKit
/-- Whom a topic reaches. -/
def reach (t : Tr) (name : Str) : List Int := if topicB name = true then mt (headIs 36 name) (spl 47 name) true t [] else []
-- bellman/topic.Levels
theorem levelsO_ok (w : World) (s : Str) (hsn : s.length ≤ 1000000) : Fn Tryz.prog 26 #[Sv s] w fun u w' => Sl (Old w) w' u 1 ((spl 47 s).map eS1) := by
  have hX := Ext.refl Non w
  refine fn_of_W (args := [_]) Tryz.func26 rfl (by kernel_rfl) rfl ?_
  refine W_seq ?_
  refine W_region ?_
  refine wl_val (rn_assign (by conv => lhs; whnf)) ?_
  refine wl_nil ?_
  refine W_seq ?_
  refine W_region ?_
  refine wl_alloc z_22 ?_; intro b3 w1 hb3 hE1 hB3
  have hq3 : w.heap.size ≤ b3 := Nat.le_trans hX.size hb3
  have hl3 : Mine Non w b3 := .inr hq3
  replace hX := hX.tr hE1
  refine wl_nil ?_
  refine W_seq ?_
  refine W_seq ?_
  refine W_region ?_
  refine wl_val (rn_move (by conv => lhs; whnf)) ?_
  refine wl_call e_47 rfl (each_ok w1 s (fun i => i = b3) (fun i e => by rw [e]; exact hB3.lt) hsn) ?_; intro v7 w2 hE2 hR2
  replace hX := hX.tr hE2
  replace hB3 := hB3.ext hE2 id
  have hIt := hR2; obtain ⟨fk, ck, hfk, _⟩ := id hIt; subst hfk
  have hW := Ext.refl (fun i => i = b3) w2; have hz3 := hB3.lt; have hspl := spl_len_le 47 s
  refine wl_nil ?_
  refine W_block ?_   -- block 0
  have hszr := hX.size
  have hsz_hW := hW.size
  have ho3 : w.heap.size ≤ b3 := by rcases hl3 with h | h; exact h.elim; exact h
  refine W_rangeFunc (M := fun i => i = b3) (w0 := w2) (I := fun pre N A => ∃ v3 : Value, ∃ oo : Option Nat, Box N A b3 [v3] ∧ Ext Non w A ∧ Ext (fun i => i = b3) w2 A ∧ MkN w [] N A ∧ (OwX w2.heap.size N A v3 oo 1 ((pre.map fun p => p.2).map eS1)) ∧ (True)) (X := fun c N A => False) (encs := fun p : Nat × Str => [.int .i64 (p.1 : Nat), Sv p.2]) (xs := numb (spl 47 s)) rfl (hIt) (hW) (fun _ => rfl) (fun pre => Stab.ex fun v3 => Stab.ex fun oo => (Stab.box _ _).and ((Stab.old hX.size).and ((Stab.oldM hW.size).and ((Stab.mk _ _).and ((Stab.owx _ _ _ _ _).and ((Stab.pure _))))))) (fun c => Stab.false) ⟨.slice none 0 0, none, ⟨hB3, id⟩, hX, hW, (Mk.nil : Mk w [] w2).toN, ⟨OwO.nil, by simp⟩, trivial⟩ ?_ ?_ ?_
  · rintro l N pre x A hl hN hA hst ⟨v3, oo, hK3, hXo, hW, hDk, hO, hIr⟩ ⟨post, hpre⟩
    have hB3 := hK3.1; have hl3 : Mine (Yc (fun i => i = b3) w2 N) A b3 := .inl ⟨hK3.2, .inl rfl⟩
    have hX := Ext.refl (Yc (fun i => i = b3) w2 N) A
    refine W_region ?_
    refine wl_val (rn_assign (by conv => lhs; whnf)) ?_
    refine wl_nil ?_
    refine ⟨rfl, hX, fun A2 hE2r hz2r hst2 => ?_⟩
    have hNl := (hN l hl).2
    replace hB3 := hB3.ext hE2r (fun e => hK3.2 (by rw [e]; exact hl))
    replace hXo := hXo.mine hE2r (.inr (Nat.le_trans hszr (hN l hl).1)); replace hDk := hDk.lp hE2r hl
    replace hW := hW.mine hE2r (.inr (Nat.le_trans hsz_hW (hN l hl).1))
    replace hO := hO.ext hE2r (fun i hi e => (hO.2 i hi).1 (by rw [e]; exact hl))
    have hl3 : Mine (Yc (fun i => i = b3) w2 N) A2 b3 := .inl ⟨hK3.2, .inl rfl⟩
    have hX := Ext.refl (Yc (fun i => i = b3) w2 N) A2
    refine W_block ?_   -- block 1
    refine W_region ?_
    have hpl : (spl 47 s).length = pre.length + (post.length + 1) := by have := congrArg List.length hpre; rw [numb_len] at this; rw [this]; simp
    refine wl_val (rn_load1 p_22 rfl hB3 rfl) ?_
    refine wl_val (rn_move (by conv => lhs; whnf)) ?_
    refine wl_lit1 (r := eS1 x.2) sl_22 rfl rfl rfl rfl (by decide) ?_; intro v12 w3 b12 hb12 hE3 hO12
    replace hX := hX.tr hE3
    replace hB3 := hB3.ext hE3 id
    replace hXo := hXo.tr hE3
    replace hDk := hDk.non hE3
    replace hW := hW.tr hE3
    replace hO := hO.ext hE3 (fun _ _ h => h)
    have hsx := hX.size; have hsw := hW.size
    refine wl_app sl_22 rfl rfl rfl hO.1 (hO12.sl (M := Non) id) (fun r hr => by simp only [List.mem_singleton] at hr; subst hr; exact one1 rfl) (by simp only [List.length_map, List.length_cons, List.length_nil]; omega) (by simp only [List.length_map, List.length_cons, List.length_nil, big]; omega) ?_; intro v13 w4 o13 hE4 hO13 hf13
    obtain ⟨a13, c13, hv13⟩ := id hO13.len; subst hv13
    replace hX := hX.mineO hE4 (fun i hi => .inl ⟨(hO.2 i hi).1, .inr (hO.2 i hi).2⟩); replace hXo := hXo.mineO hE4 (fun i hi => .inr (Nat.le_trans hszr (hO.2 i hi).2)); replace hW := hW.mineO hE4 (fun i hi => .inr (hO.2 i hi).2); replace hDk : MkN w [] N w4 := ⟨Mk.nil, fun r h => by cases h⟩
    replace hB3 := hB3.ext hE4 (fun e => by have := (hO.2 _ e).2; omega)
    have hOn : OwX w2.heap.size N w4 _ o13 1 (((pre ++ [x]).map fun p => p.2).map eS1) := ⟨by rw [List.map_append, List.map_append]; exact hO13, fun i hi => by rcases hf13 i hi with h | h; exact hO.2 i h; exact ⟨fun hNi => by have := (hN i hNi).2; omega, by omega⟩⟩
    have hBo := hB3
    refine wl_store1 (b := b3) p_22 rfl (by conv => lhs; whnf) rfl rfl hB3 (Nat.le_of_ble_eq_true rfl) ?_; intro w5 hE5 hB3 hz5
    replace hX := hX.mine hE5 hl3
    replace hXo := hXo.mine hE5 (.inr ho3)
    replace hDk := hDk.box hE5 hBo
    replace hW := hW.mine hE5 (.inl rfl)
    replace hOn := hOn.ext hE5 (fun i hi e => by have := (hOn.2 i hi).2; omega)
    refine wl_nil ?_
    exact ⟨hX, .slice a13 _ c13, o13, ⟨hB3, hK3.2⟩, hXo, hW, hDk, hOn, trivial⟩
  · rintro N rk w' ⟨v3, oo, hK3, hXo, hW, hDk, hO, hIr⟩ hN hA hr hrd
    have hB3 := hK3.1
    have hX := hXo; have hD := hDk.add hrd (Nat.le_trans hszr (hN rk hr).1) hr
    rw [numb_snd] at hO
    obtain ⟨a3, c3, hv3⟩ := id hO.1.len; subst hv3
    refine W_seq ?_
    refine W_region ?_
    refine wl_val (rn_load1 p_22 rfl hB3 rfl) ?_
    refine wl_val (rn_assign (by conv => lhs; whnf)) ?_
    refine wl_nil ?_
    refine W_ret ?_
    refine hD.leave fun B hB => ?_
    have hB3 := hB3.ext hB (hD.ne hB3)
    have hX := hD.out hX hB
    exact ⟨_, resR1 (res1_tmp rfl), hX, (hO.ext hB (fun i hi h => (hO.2 i hi).1 (by simp only [List.mem_singleton] at h; rw [mark_inj h]; exact hr))).1.sl (M := Old w) (fun i hi h => by have := (hO.2 i hi).2; unfold Old at h; omega)⟩
  · intro c N rk w' h; exact h.elim
-- slices.AppendSeq[[]int,int]
theorem appendSeq_ok (w : World) (xs : List Int) {fv : Value} (hit : Iter Tryz.prog Non w fv (fun x : Int => #[.int .i64 x]) xs) (hn : xs.length ≤ 100000) : Fn Tryz.prog 134 #[.slice none 0 0, fv] w fun u w' => Sl (Old w) w' u 1 (xs.map eI1) := by
  have hX := Ext.refl Non w
  refine fn_of_W (args := [_, _]) Tryz.func134 rfl (by kernel_rfl) rfl ?_
  refine W_seq ?_
  refine W_region ?_
  refine wl_box1 (by conv => lhs; whnf) rfl ?_; intro b2 w1 hb2 hE1 hB2
  have hq2 : w.heap.size ≤ b2 := Nat.le_trans hX.size hb2
  have hl2 : Mine Non w b2 := .inr hq2
  replace hX := hX.tr hE1
  refine wl_val (rn_assign (by conv => lhs; whnf)) ?_
  refine wl_nil ?_
  refine W_seq ?_
  refine W_seq ?_
  refine W_region ?_
  refine wl_val (rn_move (by conv => lhs; whnf)) ?_
  refine wl_nil ?_
  refine W_block ?_   -- block 0
  have hszr := hX.size
  have ho2 : w.heap.size ≤ b2 := by rcases hl2 with h | h; exact h.elim; exact h
  refine W_rangeFunc (M := Non) (w0 := w) (I := fun pre N A => ∃ v3 : Value, ∃ oo : Option Nat, Box N A b2 [v3] ∧ Ext Non w A ∧ MkN w [] N A ∧ (OwX (b2 + 1) N A v3 oo 1 (pre.map eI1)) ∧ (True)) (X := fun c N A => False) (encs := fun x : Int => [.int .i64 x]) (xs := xs) rfl (hit) (hX) (fun _ => rfl) (fun pre => Stab.ex fun v3 => Stab.ex fun oo => (Stab.box _ _).and ((Stab.old hX.size).and ((Stab.mk _ _).and ((Stab.owx _ _ _ _ _).and ((Stab.pure _)))))) (fun c => Stab.false) ⟨.slice none 0 0, none, ⟨hB2, id⟩, hX, (Mk.nil : Mk w [] _).toN, ⟨OwO.nil, by simp⟩, trivial⟩ ?_ ?_ ?_
  · rintro l N pre x A hl hN hA hst ⟨v3, oo, hK2, hXo, hDk, hO, hIr⟩ ⟨post, hpre⟩
    have hB2 := hK2.1; have hl2 : Mine (Yc (Non) w N) A b2 := .inl ⟨hK2.2, .inr hq2⟩
    have hX := Ext.refl (Yc (Non) w N) A
    refine W_region ?_
    refine wl_val (rn_assign (by conv => lhs; whnf)) ?_
    refine wl_nil ?_
    refine ⟨rfl, hX, fun A2 hE2r hz2r hst2 => ?_⟩
    have hNl := (hN l hl).2
    replace hB2 := hB2.ext hE2r (fun e => hK2.2 (by rw [e]; exact hl))
    replace hXo := hXo.mine hE2r (.inr (Nat.le_trans hszr (hN l hl).1)); replace hDk := hDk.lp hE2r hl
    replace hO := hO.ext hE2r (fun i hi e => (hO.2 i hi).1 (by rw [e]; exact hl))
    have hl2 : Mine (Yc (Non) w N) A2 b2 := .inl ⟨hK2.2, .inr hq2⟩
    have hX := Ext.refl (Yc (Non) w N) A2
    refine W_block ?_   -- block 1
    refine W_region ?_
    have hpl : xs.length = pre.length + (post.length + 1) := by rw [hpre]; simp
    refine wl_val (rn_load1 p_23 rfl hB2 rfl) ?_
    refine wl_val (rn_move (by conv => lhs; whnf)) ?_
    refine wl_lit1 (r := [.int .i64 x]) sl_23 rfl rfl rfl rfl (by decide) ?_; intro v10 w2 b10 hb10 hE2 hO10
    have hz2 := hB2.lt
    replace hX := hX.tr hE2
    replace hB2 := hB2.ext hE2 id
    replace hXo := hXo.tr hE2
    replace hDk := hDk.non hE2
    replace hO := hO.ext hE2 (fun _ _ h => h)
    refine wl_app sl_23 rfl rfl rfl hO.1 (hO10.sl (M := Non) id) (fun r hr => by simp only [List.mem_singleton] at hr; subst hr; exact one1 rfl) (by simp only [List.length_map, List.length_cons, List.length_nil]; omega) (by simp only [List.length_map, List.length_cons, List.length_nil, big]; omega) ?_; intro v11 w3 o11 hE3 hO11 hf11
    obtain ⟨a11, c11, hv11⟩ := id hO11.len; subst hv11
    have hsx := hX.size; have hsw := hXo.size
    replace hX := hX.mineO hE3 (fun i hi => .inl ⟨(hO.2 i hi).1, .inr (Nat.le_of_succ_le (Nat.lt_of_le_of_lt hq2 (hO.2 i hi).2))⟩); replace hXo := hXo.mineO hE3 (fun i hi => .inr (Nat.le_of_succ_le (Nat.lt_of_le_of_lt hq2 (hO.2 i hi).2))); replace hDk : MkN w [] N w3 := ⟨Mk.nil, fun r h => by cases h⟩
    replace hB2 := hB2.ext hE3 (fun e => by have := (hO.2 _ e).2; omega)
    have hOn : OwX (b2 + 1) N w3 _ o11 1 ((pre ++ [x]).map eI1) := ⟨by rw [List.map_append]; exact hO11, fun i hi => by rcases hf11 i hi with h | h; exact hO.2 i h; exact ⟨fun hNi => by have := (hN i hNi).2; omega, by omega⟩⟩
    have hBo := hB2
    refine wl_store1 (b := b2) p_23 rfl (by conv => lhs; whnf) rfl rfl hB2 (Nat.le_of_ble_eq_true rfl) ?_; intro w4 hE4 hB2 hz4
    replace hX := hX.mine hE4 hl2
    replace hXo := hXo.mine hE4 (.inr ho2)
    replace hDk := hDk.box hE4 hBo
    replace hOn := hOn.ext hE4 (fun i hi e => by have := (hOn.2 i hi).1; have := (hOn.2 i hi).2; omega)
    refine wl_nil ?_
    exact ⟨hX, .slice a11 _ c11, o11, ⟨hB2, hK2.2⟩, hXo, hDk, hOn, trivial⟩
  · rintro N rk w' ⟨v3, oo, hK2, hXo, hDk, hO, hIr⟩ hN hA hr hrd
    have hB2 := hK2.1
    have hX := hXo; have hD := hDk.add hrd (Nat.le_trans hszr (hN rk hr).1) hr
    refine W_seq ?_
    refine W_region ?_
    refine wl_val (rn_load1 p_23 rfl hB2 rfl) ?_
    refine wl_val (rn_assign (by conv => lhs; whnf)) ?_
    refine wl_nil ?_
    refine W_ret ?_
    refine hD.leave fun B hB => ?_
    have hB2 := hB2.ext hB (hD.ne hB2)
    have hX := hD.out hX hB
    exact ⟨_, resR1 (res1_tmp rfl), hX, (hO.ext hB (fun i hi h => (hO.2 i hi).1 (by simp only [List.mem_singleton] at h; rw [mark_inj h]; exact hr))).1.sl (M := Old w) (fun i hi h => by have := (hO.2 i hi).2; unfold Old at h; omega)⟩
  · intro c N rk w' h; exact h.elim
-- slices.Collect[int]
theorem collect_ok (w : World) (xs : List Int) {fv : Value} (hit : Iter Tryz.prog Non w fv (fun x : Int => #[.int .i64 x]) xs) (hn : xs.length ≤ 100000) : Fn Tryz.prog 95 #[fv] w fun u w' => Sl (Old w) w' u 1 (xs.map eI1) := by
  have hX := Ext.refl Non w
  refine fn_of_W (args := [_]) Tryz.func95 rfl (by kernel_rfl) rfl ?_
  refine W_seq ?_
  refine W_region ?_
  refine wl_val (rn_assign (by conv => lhs; whnf)) ?_
  refine wl_nil ?_
  refine W_seq ?_
  refine W_region ?_
  refine wl_val (rn_move (by conv => lhs; whnf)) ?_
  have hs4 := hX.size
  refine wl_call e_134 rfl (appendSeq_ok w xs (hit.ext hX (fun _ h _ => h)) hn) ?_; intro v4 w1 hE1 hR1
  replace hX := hX.tr hE1
  have hS4 := hR1
  refine wl_val (rn_assign (by conv => lhs; whnf)) ?_
  refine wl_nil ?_
  refine W_ret ?_
  exact ⟨_, resR1 (res1_tmp rfl), hX, hS4.sub (fun i h _ => Nat.lt_of_lt_of_le h hs4)⟩
-- (bellman/trie.Trie).Match
set_option maxHeartbeats 1600000 in
theorem tmatch13_ok (w : World) (t : Tr) {v : Value} (len : Int) (name : Str) (hnn : name.length ≤ 1000000) (U : List Int) (hU : U.length ≤ 1000) {n m : Nat} (hok : t.Ok n m) (hn : n ≤ 1000) (hin : t.In U) (ht : TrM Non w t v) : Fn Tryz.prog 96 #[.agg #[v, .int .i64 len], Sv name] w fun u w' => SetR Non w' u (reach t name) := by
  obtain ⟨pa, rfl⟩ := ht.ptr
  have hX := Ext.refl Non w
  refine fn_of_W (args := [_, _]) Tryz.func96 rfl (by kernel_rfl) rfl ?_
  refine W_seq ?_
  refine W_region ?_
  refine wl_boxS rfl ?_; intro b2 w1 hb2 hE1 hB2
  have hq2 : w.heap.size ≤ b2 := Nat.le_trans hX.size hb2
  have hl2 : Mine Non w b2 := .inr hq2
  replace hX := hX.tr hE1
  refine wl_alloc z_98 ?_; intro b4 w2 hb4 hE2 hB4
  have hn2_4 : b2 < b4 := Nat.lt_of_lt_of_le hB2.lt hb4
  have hq4 : w.heap.size ≤ b4 := Nat.le_trans hX.size hb4
  have hl4 : Mine Non w b4 := .inr hq4
  replace hX := hX.tr hE2
  replace hB2 := hB2.ext hE2 id
  refine wl_nil ?_
  refine W_seq ?_
  refine W_region ?_
  refine wl_alloc z_98 ?_; intro b5 w3 hb5 hE3 hB5
  have hn2_5 : b2 < b5 := Nat.lt_of_lt_of_le hB2.lt hb5
  have hn4_5 : b4 < b5 := Nat.lt_of_lt_of_le hB4.lt hb5
  have hq5 : w.heap.size ≤ b5 := Nat.le_trans hX.size hb5
  have hl5 : Mine Non w b5 := .inr hq5
  replace hX := hX.tr hE3
  replace hB2 := hB2.ext hE3 id; replace hB4 := hB4.ext hE3 id
  refine wl_nil ?_
  refine W_seq ?_
  refine W_seq ?_
  refine W_region ?_
  refine wl_val (rn_move (by conv => lhs; whnf)) ?_
  refine wl_call e_92 rfl (ttopic_ok w3 name hnn) ?_; intro v9 w4 hE4 hR4
  replace hX := hX.tr hE4
  replace hB2 := hB2.ext hE4 id; replace hB4 := hB4.ext hE4 id; replace hB5 := hB5.ext hE4 id
  subst hR4
  refine wl_val (rn_not rfl) ?_
  refine wl_nil ?_
  refine W_cond rfl (fun hc0 => ?_) (fun hc0 => ?_)
  · have htp : topicB name = false := by simpa using hc0
    refine W_seq ?_
    refine W_region ?_
    refine wl_val (rn_loadB s_98 rfl rfl hB5) ?_
    refine wl_storeB s_98 rfl rfl rfl (two1 rfl rfl) hB4 rfl ?_; intro w5 hE5 hB4 hz5
    replace hX := hX.mine hE5 hl4
    replace hB2 := hB2.ext hE5 (fun h => by omega); replace hB5 := hB5.ext hE5 (fun h => by omega)
    refine wl_nil ?_
    refine W_ret ?_
    exact ⟨_, resR1 (res1_box s_98 rfl hB4 rfl), hX, by unfold reach; rw [if_neg (by rw [htp]; simp)]; exact ⟨_, _, [], rfl, ⟨Sl.nil _ _ _, Sl.nil _ _ _, rfl⟩⟩⟩
  · have htp : topicB name = true := by simpa using hc0
    obtain ⟨c, hcc⟩ := topic_ne htp
    have h0n : 0 < name.length := (List.getElem?_eq_some_iff.1 hcc).1
    refine W_skip ?_
    refine W_seq ?_
    refine W_region ?_
    refine wl_val (rn_move (by conv => lhs; whnf)) ?_
    refine wl_val (rn_sindex us_9 rfl rfl (by omega) hcc) ?_
    refine wl_val (rn_eql rfl rfl) ?_
    refine wl_alloc z_4 ?_; intro b6 w6 hb6 hE6 hB6
    have hn2_6 : b2 < b6 := Nat.lt_of_lt_of_le hB2.lt hb6
    have hn4_6 : b4 < b6 := Nat.lt_of_lt_of_le hB4.lt hb6
    have hn5_6 : b5 < b6 := Nat.lt_of_lt_of_le hB5.lt hb6
    have hq6 : w.heap.size ≤ b6 := Nat.le_trans hX.size hb6
    have hl6 : Mine Non w b6 := .inr hq6
    replace hX := hX.tr hE6
    replace hB2 := hB2.ext hE6 id; replace hB4 := hB4.ext hE6 id; replace hB5 := hB5.ext hE6 id
    refine wl_store1 (b := b6) p_4 rfl (by conv => lhs; whnf) rfl rfl hB6 (Nat.le_of_ble_eq_true rfl) ?_; intro w7 hE7 hB6 hz7
    replace hX := hX.mine hE7 hl6
    replace hB2 := hB2.ext hE7 (fun h => by omega); replace hB4 := hB4.ext hE7 (fun h => by omega); replace hB5 := hB5.ext hE7 (fun h => by omega)
    refine wl_nil ?_
    refine W_seq ?_
    refine W_region ?_
    refine wl_alloc z_193 ?_; intro b7 w8 hb7 hE8 hB7
    have hn2_7 : b2 < b7 := Nat.lt_of_lt_of_le hB2.lt hb7
    have hn4_7 : b4 < b7 := Nat.lt_of_lt_of_le hB4.lt hb7
    have hn5_7 : b5 < b7 := Nat.lt_of_lt_of_le hB5.lt hb7
    have hn6_7 : b6 < b7 := Nat.lt_of_lt_of_le hB6.lt hb7
    have hq7 : w.heap.size ≤ b7 := Nat.le_trans hX.size hb7
    have hl7 : Mine Non w b7 := .inr hq7
    replace hX := hX.tr hE8
    replace hB2 := hB2.ext hE8 id; replace hB4 := hB4.ext hE8 id; replace hB5 := hB5.ext hE8 id; replace hB6 := hB6.ext hE8 id
    refine wl_nil ?_
    refine W_seq ?_
    refine W_region ?_
    refine wl_val (rn_makeFunc rfl) ?_
    refine wl_store1 (b := b7) p_193 rfl (by conv => lhs; whnf) rfl rfl hB7 (Nat.le_of_ble_eq_true rfl) ?_; intro w9 hE9 hB7 hz9
    replace hX := hX.mine hE9 hl7
    replace hB2 := hB2.ext hE9 (fun h => by omega); replace hB4 := hB4.ext hE9 (fun h => by omega); replace hB5 := hB5.ext hE9 (fun h => by omega); replace hB6 := hB6.ext hE9 (fun h => by omega)
    refine wl_nil ?_
    refine W_seq ?_
    refine W_drawX (fun j => j == 5) mixed ?_; intro w10 hE10
    replace hX := hX.tr hE10
    replace hB2 := hB2.ext hE10 id; replace hB4 := hB4.ext hE10 id; replace hB5 := hB5.ext hE10 id; replace hB6 := hB6.ext hE10 id; replace hB7 := hB7.ext hE10 id
    have hS := Ext.refl Non w10
    refine wx_take 0 [5] _ _ rfl (by kernel_rfl) hS (yd_do fun A hA => rn_load1 p_193 rfl (hB7.ext hA id) rfl) ?_
    refine wx_take 1 [2, 5] _ _ rfl (by kernel_rfl) hS (yd_do fun A hA => rn_fieldAddr f_44_0 (by decide) rfl) ?_
    refine wx_take 2 [5] _ _ rfl (by kernel_rfl) hS (yd_do fun A hA => rn_load1 p_26 rfl (hB2.ext hA id) rfl) ?_
    refine wx_take 3 [4, 5] _ _ rfl (by kernel_rfl) hS (yd_do fun A hA => rn_move (by conv => lhs; whnf)) ?_
    refine wx_only 4 _ rfl (by kernel_rfl) ?_
    refine s1_do ?_
    refine wl_call e_26 rfl (levelsO_ok w10 name hnn) ?_; intro v20 w11 hE11 hR11
    replace hS := hS.tr hE11
    have hL20 := (hR11).sub (M' := (fun i => i = b5 ∨ i = b6 ∨ i = b7 ∨ i = b4)) (fun i h _ => by unfold Old; have := hB7.lt; have := hB6.lt; have := hB5.lt; have := hS.size; have := hB4.lt; rcases h with h | h | h | h <;> omega)
    refine wl_nil ⟨fun _ => hS, ?_⟩
    replace hX := hX.tr hS
    replace hB2 := hB2.ext hS id; replace hB4 := hB4.ext hS id; replace hB5 := hB5.ext hS id; replace hB6 := hB6.ext hS id; replace hB7 := hB7.ext hS id
    refine wx_only 5 _ rfl (by kernel_rfl) ?_
    refine s1_do ?_
    replace hB6 := hB6.cast (show [Value.bool (decide ((c.toNat : Int) = 36))] = [.bool (headIs 36 name)] by rw [headIs_at hcc]; exact congrArg (fun b => [Value.bool b]) (decide_eq_decide.2 ⟨fun h => u8_eq (d := 36) h, fun h => by rw [h]; rfl⟩))
    refine wl_callv (args := [.pointer pa, v20, .bool true]) (cap := #[.pointer (some ⟨b6, 0, none⟩), .pointer (some ⟨b5, 0, none⟩), .pointer (some ⟨b7, 0, none⟩)]) rfl e_135 rfl (mwalk_ok (headIs 36 name) U b6 b5 b7 (fun i => i = b4) (by omega) (by omega) hn hU (spl 47 name) true w11 t [] (fun i h => by rw [h]; exact hB4.lt) hB6 hB7 hB5 ⟨_, _, [], rfl, ⟨Sl.nil _ _ _, Sl.nil _ _ _, rfl⟩⟩ sorted_nil (by simp) ((ht.sub (M' := (fun i => i = b5 ∨ i = b6 ∨ i = b7 ∨ i = b4)) (fun i h hlt => by rcases h with h | h | h | h <;> omega)).ext hX (fun _ h => h.elim)) hok hin hL20) ?_; rintro _ w12 ⟨v21, rfl, hE12, hR12⟩; refine ⟨_, rfl, ?_⟩
    obtain ⟨z1, z2, hB5, hO21⟩ := hR12
    obtain ⟨_, _, us21, eo21, hMo21⟩ := id hO21; cases eo21
    obtain ⟨qa, na, ca, rfl⟩ := id hMo21.keys.shape; obtain ⟨qb, nb, cb, rfl⟩ := id hMo21.vals.shape
    replace hX := hX.mine hE12 hl5
    replace hB2 := hB2.ext hE12 (fun e => by omega); replace hB4 := hB4.ext hE12 (fun e => by omega); replace hB6 := hB6.ext hE12 (fun e => by omega); replace hB7 := hB7.ext hE12 (fun e => by omega)
    refine wl_nil ⟨fun h => absurd h (by decide), ?_⟩
    refine wx_done (by kernel_rfl) ?_ _
    refine W_seq ?_
    refine W_region ?_
    refine wl_val (rn_loadB s_98 rfl rfl hB5) ?_
    have hBo := hB4
    refine wl_storeB s_98 rfl rfl rfl (two1 rfl rfl) hB4 rfl ?_; intro w13 hE13 hB4 hz13
    replace hX := hX.mine hE13 hl4
    replace hB2 := hB2.ext hE13 (fun h => by omega); replace hB5 := hB5.ext hE13 (fun h => by omega); replace hB6 := hB6.ext hE13 (fun h => by omega); replace hB7 := hB7.ext hE13 (fun h => by omega)
    replace hO21 := hO21.ext hE13 (fun i e => .inr (.inr (.inr e)))
    refine wl_nil ?_
    refine W_ret ?_
    exact ⟨_, resR1 (res1_box s_98 rfl hB4 rfl), hX, by unfold reach; rw [if_pos htp]; exact hO21.sub (fun _ h _ => h.elim)⟩
end Go.Proofs.YtaddeakfojpdoaaGreatDoorC
