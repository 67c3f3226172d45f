/- The table of subscriptions: subscribing, whom a topic reaches. -/
import Derived.Test.YtaddeakfojpdoaaGreatDoorBunM11
import Derived.Test.YtaddeakfojpdoaaGreatDoorBunM5
import Derived.Test.YtaddeakfojpdoaaGreatDoorBunM6
import Derived.Test.YtaddeakfojpdoaaGreatDoorBunM7
import Derived.Test.YtaddeakfojpdoaaGreatDoorBunM10
set_option linter.unusedVariables false
set_option linter.unusedSimpArgs false
set_option maxRecDepth 100000
namespace Go.Proofs.YtaddeakfojpdoaaGreatDoorC
open Go.RowKit
theorem five1 {a b c d e : Value} (h1 : a.oneCell' = true) (h2 : b.oneCell' = true) (h3 : c.oneCell' = true) (h4 : d.oneCell' = true) (h5 : e.oneCell' = true) : ∀ x ∈ [a, b, c, d, e], x.oneCell' = true := by intro x hx; simp only [List.mem_cons, List.not_mem_nil, or_false] at hx; rcases hx with rfl | rfl | rfl | rfl | rfl <;> assumption
theorem putV_one {κ : Type} [DecidableEq κ] {lt : κ → κ → Bool} {ks : List κ} {x : κ} {vs : List (List Value)} {p q : Value} (h : ∀ r ∈ vs, ∀ u ∈ r, u.oneCell' = true) (hp : p.oneCell' = true) (hq : q.oneCell' = true) : ∀ r ∈ putV lt ks x vs [p, q], ∀ u ∈ r, u.oneCell' = true := by
  intro r hr
  unfold putV at hr
  split at hr
  · rcases List.mem_or_eq_of_mem_set hr with hr | rfl
    · exact h r hr
    · exact two1 hp hq
  · simp only [List.mem_append, List.mem_cons] at hr
    rcases hr with hr | rfl | hr
    · exact h r (List.mem_of_mem_take hr)
    · exact two1 hp hq
    · exact h r (List.mem_of_mem_drop hr)
-- (bellman/sess.Table).Reached
theorem reached_ok (w : World) (subs : Int) (t : Tr) {v n1 n2 : Value} (len : Int) (hsn : (∃ a b c, n1 = .slice a b c) ∧ ∃ a b c, n2 = .slice a b c) (name : Str) (hnn : name.length ≤ 1000000) (U : List Int) (hU : U.length ≤ 1000) {n m : Nat} (hok : t.Ok n m) (hn : n ≤ 1000) (hin : t.In U) (ht : TrM Non w t v) : Fn Tryz.prog 59 #[.agg #[.int .i64 subs, v, .int .i64 len, n1, n2], Sv name] w fun u w' => Sl (Old w) w' u 1 ((reach t name).map eI1) := by
  obtain ⟨pa, rfl⟩ := ht.ptr
  obtain ⟨⟨qn1, ln1, cn1, rfl⟩, qn2, ln2, cn2, rfl⟩ := hsn
  have hX := Ext.refl Non w
  refine fn_of_W (args := [_, _]) Tryz.func59 rfl (by kernel_rfl) rfl ?_
  refine W_seq ?_
  refine W_region ?_
  refine wl_boxS rfl ?_; intro b2 w1 hb2 hE1 hB2
  have hq2 : w.heap.size ≤ b2 := Nat.le_trans hX.size hb2
  have hl2 : Mine Non w b2 := .inr hq2
  replace hX := hX.tr hE1
  refine wl_val (rn_assign (by conv => lhs; whnf)) ?_
  refine wl_nil ?_
  refine W_seq ?_
  refine W_region ?_
  refine wl_val (rn_fieldAddr f_49_1 (by decide) rfl) ?_
  refine wl_val (rn_loadS s_44 (vs := [_, _]) rfl rfl (hB2.part rfl (Nat.le_of_ble_eq_true rfl))) ?_
  refine wl_val (rn_move (by conv => lhs; whnf)) ?_
  refine wl_call e_96 rfl (tmatch13_ok w1 t len name hnn U hU hok hn hin (ht.ext hX (fun _ h => h))) ?_; intro v8 w2 hE2 hR2
  replace hX := hX.tr hE2
  replace hB2 := hB2.ext hE2 id
  have hS8 := hR2
  refine wl_call e_43 rfl (all_ok w2 _ Non (fun _ h => h.elim) hS8) ?_; intro v9 w3 hE3 hR3
  replace hX := hX.tr hE3
  replace hB2 := hB2.ext hE3 id
  have hIt := hR3; obtain ⟨fi, ci, hfi, _⟩ := id hIt; subst hfi
  have hs10 := hX.size
  refine wl_call e_95 rfl (collect_ok w3 _ hIt (by have : Sorted ltI (reach t name) ∧ ∀ s ∈ reach t name, s ∈ U := (by unfold reach; split; exact mt_in _ _ true t [] hok hin sorted_nil (by simp); exact ⟨sorted_nil, by simp⟩); have := in_len this.1 this.2; omega)) ?_; intro v10 w4 hE4 hR4
  replace hX := hX.tr hE4
  replace hB2 := hB2.ext hE4 id
  have hS10 := hR4
  refine wl_val (rn_assign (by conv => lhs; whnf)) ?_
  refine wl_nil ?_
  refine W_ret ?_
  exact ⟨_, resR1 (res1_tmp rfl), hX, hS10.sub (fun i h _ => Nat.lt_of_lt_of_le h hs10)⟩
-- (bellman/sess.Table).Subs
theorem subs_ok (w : World) (subs len : Int) {v n1 n2 : Value} : Fn Tryz.prog 62 #[.agg #[.int .i64 subs, v, .int .i64 len, n1, n2]] w fun u w' => u = .int .i64 subs := by
  have hX := Ext.refl Non w
  refine fn_of_W (args := [_]) Tryz.func62 rfl (by kernel_rfl) rfl ?_
  refine W_seq ?_
  refine W_region ?_
  refine wl_boxS rfl ?_; intro b1 w1 hb1 hE1 hB1
  have hq1 : w.heap.size ≤ b1 := Nat.le_trans hX.size hb1
  have hl1 : Mine Non w b1 := .inr hq1
  replace hX := hX.tr hE1
  refine wl_val (rn_assign (by conv => lhs; whnf)) ?_
  refine wl_nil ?_
  refine W_seq ?_
  refine W_region ?_
  refine wl_val (rn_fieldAddr f_49_0 (by decide) rfl) ?_
  refine wl_val (rn_load1 p_3 rfl hB1 rfl) ?_
  refine wl_val (rn_assign (by conv => lhs; whnf)) ?_
  refine wl_nil ?_
  refine W_ret ?_
  exact ⟨_, resR1 (res1_tmp rfl), hX, rfl⟩
-- (bellman/set.Set[string]).With
theorem swith0_ok (w : World) (f : Str) : Fn Tryz.prog 79 #[.agg #[.slice none 0 0, .slice none 0 0], Sv f] w fun u w' => ∃ a1 l1 g1 a2 l2 g2, u = .agg #[.slice a1 l1 g1, .slice a2 l2 g2] := by
  have hX := Ext.refl Non w
  refine fn_of_W (args := [_, _]) Tryz.func79 rfl (by kernel_rfl) rfl ?_
  refine W_seq ?_
  refine W_region ?_
  refine wl_boxS rfl ?_; intro b2 w1 hb2 hE1 hB2
  have hq2 : w.heap.size ≤ b2 := Nat.le_trans hX.size hb2
  have hl2 : Mine Non w b2 := .inr hq2
  replace hX := hX.tr hE1
  refine wl_alloc z_120 ?_; intro b4 w2 hb4 hE2 hB4
  have hn2_4 : b2 < b4 := Nat.lt_of_lt_of_le hB2.lt hb4
  have hq4 : w.heap.size ≤ b4 := Nat.le_trans hX.size hb4
  have hl4 : Mine Non w b4 := .inr hq4
  replace hX := hX.tr hE2
  replace hB2 := hB2.ext hE2 id
  refine wl_nil ?_
  refine W_seq ?_
  refine W_region ?_
  refine wl_val (rn_fieldAddr f_120_0 (by decide) rfl) ?_
  refine wl_val (rn_loadS s_118 (vs := [_, _]) rfl rfl (hB2.part rfl (Nat.le_of_ble_eq_true rfl))) ?_
  refine wl_val (rn_move (by conv => lhs; whnf)) ?_
  refine wl_val (rn_build' b_158 rfl rfl (cs := _) rfl) ?_
  refine wl_call e_117 rfl (mput_su w2 [] [] f ⟨Sl.nil _ _ _, Sl.nil _ _ _, rfl⟩ List.Pairwise.nil (by decide) (by simp)) ?_; intro v9 w3 hE3 hR3
  replace hX := hX.tr hE3
  replace hB2 := hB2.ext hE3 id; replace hB4 := hB4.ext hE3 id
  obtain ⟨u1, u2, rfl, hM9⟩ := hR3
  obtain ⟨a1, l1, c1, rfl⟩ := id hM9.keys.shape; obtain ⟨a2, l2, c2, rfl⟩ := id hM9.vals.shape
  refine wl_val (rn_build' b_120 rfl rfl (cs := [.slice a1 l1 c1, .slice a2 l2 c2]) rfl) ?_
  refine wl_storeB s_120 rfl rfl rfl (two1 rfl rfl) hB4 rfl ?_; intro w4 hE4 hB4 hz4
  replace hX := hX.mine hE4 hl4
  replace hB2 := hB2.ext hE4 (fun h => by omega)
  refine wl_nil ?_
  refine W_ret ?_
  exact ⟨_, resR1 (res1_box s_120 rfl hB4 rfl), hX, ⟨_, _, _, _, _, _, rfl⟩⟩
-- (bellman/sess.Table).may
theorem may_ok (w : World) (subs : Int) (t : Tr) {v n1 n2 : Value} (len : Int) (hsn : (∃ a b c, n1 = .slice a b c) ∧ ∃ a b c, n2 = .slice a b c) (sub : Int) (f : Str) (hnf : f.length ≤ 1000000) (h1 : 1 ≤ sub) (h2 : sub ≤ subs) (hfil : filterB f = true) (hv1 : v.oneCell' = true) : Fn Tryz.prog 53 #[.agg #[.int .i64 subs, v, .int .i64 len, n1, n2], .int .i64 sub, Sv f] w fun u w' => u = .int .i64 0 := by
  obtain ⟨⟨qn1, ln1, cn1, rfl⟩, qn2, ln2, cn2, rfl⟩ := hsn
  have hX := Ext.refl Non w
  refine fn_of_W (args := [_, _, _]) Tryz.func53 rfl (by kernel_rfl) rfl ?_
  refine W_seq ?_
  refine W_region ?_
  refine wl_boxS rfl ?_; intro b3 w1 hb3 hE1 hB3
  have hq3 : w.heap.size ≤ b3 := Nat.le_trans hX.size hb3
  have hl3 : Mine Non w b3 := .inr hq3
  replace hX := hX.tr hE1
  refine wl_val (rn_assign (by conv => lhs; whnf)) ?_
  refine wl_nil ?_
  refine W_seq ?_
  refine W_block ?_   -- block 0
  refine W_seq ?_
  refine W_region ?_
  refine wl_val (rn_move (by conv => lhs; whnf)) ?_
  refine wl_val (rn_lss rfl rfl) ?_
  refine wl_val (rn_move (by conv => lhs; whnf)) ?_
  refine wl_split (d := 10) rfl (fun hg10 => ?_) (fun hg10 => ?_)
  · exact absurd (of_decide_eq_true hg10) (by omega)
  · refine wl_yes rfl (congrArg Value.bool hg10) ?_
    refine wl_val (rn_move (by conv => lhs; whnf)) ?_
    refine wl_yes rfl (congrArg Value.bool hg10) ?_
    refine wl_val (rn_fieldAddr f_49_0 (by decide) rfl) ?_
    refine wl_yes rfl (congrArg Value.bool hg10) ?_
    refine wl_val (rn_load1 p_3 rfl hB3 rfl) ?_
    refine wl_yes rfl (congrArg Value.bool hg10) ?_
    refine wl_val (rn_gtr rfl rfl) ?_
    refine wl_val (rn_pickF (congrArg Value.bool hg10) (by conv => lhs; whnf)) ?_
    refine wl_val (rn_assign (by conv => lhs; whnf)) ?_
    refine wl_nil ?_
    refine W_cond rfl (fun hc0 => ?_) (fun hc0 => ?_)
    · exact absurd (of_decide_eq_true hc0) (by omega)
    · refine W_seq ?_
      refine W_region ?_
      refine wl_val (rn_move (by conv => lhs; whnf)) ?_
      refine wl_call e_64 rfl (tfilter_ok w1 f hnf) ?_; intro v18 w2 hE2 hR2
      replace hX := hX.tr hE2
      replace hB3 := hB3.ext hE2 id
      subst hR2
      refine wl_val (rn_not rfl) ?_
      refine wl_val (rn_assign (by conv => lhs; whnf)) ?_
      refine wl_nil ?_
      refine W_cond rfl (fun hc1 => ?_) (fun hc1 => ?_)
      · exact absurd hc1 (by rw [hfil]; simp)
      · refine W_skip ?_
        refine W_seq ?_
        refine W_region ?_
        refine wl_val (rn_assign (by conv => lhs; whnf)) ?_
        refine wl_nil ?_
        refine W_ret ?_
        exact ⟨_, resR1 (res1_tmp rfl), hX, rfl⟩
-- (bellman/sess.Table).of
theorem of13_ok (w : World) (subs : Int) {v n1 n2 : Value} (len : Int) (hv1 : v.oneCell' = true) (nks : List Int) (nvs : List (List Value)) (hnm : MapR Non w eI1 2 n1 n2 nks nvs) (hnord : Sorted ltI nks) (hnn : nks.length ≤ 1000) (hnv : ∀ r ∈ nvs, ∀ u ∈ r, u.oneCell' = true) (sub : Int) (hna : isAt ltI nks sub = false) : Fn Tryz.prog 56 #[.agg #[.int .i64 subs, v, .int .i64 len, n1, n2], .int .i64 sub] w fun u w' => u = .agg #[.slice none 0 0, .slice none 0 0] := by
  obtain ⟨qn1, ln1, cn1, rfl⟩ := id hnm.keys.shape; obtain ⟨qn2, ln2, cn2, rfl⟩ := id hnm.vals.shape
  have hX := Ext.refl Non w
  refine fn_of_W (args := [_, _]) Tryz.func56 rfl (by kernel_rfl) rfl ?_
  refine W_seq ?_
  refine W_region ?_
  refine wl_boxS rfl ?_; intro b2 w1 hb2 hE1 hB2
  have hq2 : w.heap.size ≤ b2 := Nat.le_trans hX.size hb2
  have hl2 : Mine Non w b2 := .inr hq2
  replace hX := hX.tr hE1
  refine wl_alloc z_120 ?_; intro b4 w2 hb4 hE2 hB4
  have hn2_4 : b2 < b4 := Nat.lt_of_lt_of_le hB2.lt hb4
  have hq4 : w.heap.size ≤ b4 := Nat.le_trans hX.size hb4
  have hl4 : Mine Non w b4 := .inr hq4
  replace hX := hX.tr hE2
  replace hB2 := hB2.ext hE2 id
  refine wl_nil ?_
  refine W_seq ?_
  refine W_region ?_
  refine wl_val (rn_fieldAddr f_49_2 (by decide) rfl) ?_
  refine wl_val (rn_loadS s_47 (vs := [_, _]) rfl rfl (hB2.part rfl (Nat.le_of_ble_eq_true rfl))) ?_
  refine wl_val (rn_move (by conv => lhs; whnf)) ?_
  refine wl_call e_90 rfl (mget_it w2 nks nvs sub (hnm.ext hX (fun _ h => h)) hnord (by omega) hnv) ?_; intro v11 w3 hE3 hR3
  replace hX := hX.tr hE3
  replace hB2 := hB2.ext hE3 id; replace hB4 := hB4.ext hE3 id
  obtain ⟨p, q, rfl, _, hpq⟩ := hR3
  obtain ⟨rfl, rfl⟩ := hpq hna
  refine wl_val (rn_move (by conv => lhs; whnf)) ?_
  refine wl_val (rn_extract rfl rfl) ?_
  refine wl_val (rn_extract rfl rfl) ?_
  refine wl_alloc z_120 ?_; intro b5 w4 hb5 hE4 hB5
  have hn2_5 : b2 < b5 := Nat.lt_of_lt_of_le hB2.lt hb5
  have hn4_5 : b4 < b5 := Nat.lt_of_lt_of_le hB4.lt hb5
  have hq5 : w.heap.size ≤ b5 := Nat.le_trans hX.size hb5
  have hl5 : Mine Non w b5 := .inr hq5
  replace hX := hX.tr hE4
  replace hB2 := hB2.ext hE4 id; replace hB4 := hB4.ext hE4 id
  refine wl_storeB s_120 rfl rfl rfl (two1 rfl rfl) hB5 rfl ?_; intro w5 hE5 hB5 hz5
  replace hX := hX.mine hE5 hl5
  replace hB2 := hB2.ext hE5 (fun h => by omega); replace hB4 := hB4.ext hE5 (fun h => by omega)
  refine wl_val (rn_assign (by conv => lhs; whnf)) ?_
  refine wl_nil ?_
  refine W_seq ?_
  refine W_region ?_
  refine wl_val (rn_loadB s_120 rfl rfl hB5) ?_
  refine wl_storeB s_120 rfl rfl rfl (two1 rfl rfl) hB4 rfl ?_; intro w6 hE6 hB4 hz6
  replace hX := hX.mine hE6 hl4
  replace hB2 := hB2.ext hE6 (fun h => by omega); replace hB5 := hB5.ext hE6 (fun h => by omega)
  refine wl_nil ?_
  refine W_ret ?_
  exact ⟨_, resR1 (res1_box s_120 rfl hB4 rfl), hX, rfl⟩
-- (bellman/sess.Table).Subscribe
set_option maxHeartbeats 1600000 in
theorem tsub_ok (w : World) (subs : Int) (t : Tr) {v n1 n2 : Value} (len : Int) (M : Nat → Prop) (hM : ∀ i, M i → i < w.heap.size) (ht : TrM M w t v) {n m : Nat} (hok : t.Ok n m) (hn : n ≤ 900000) (nks : List Int) (nvs : List (List Value)) (hnm : MapR M w eI1 2 n1 n2 nks nvs) (hnord : Sorted ltI nks) (hnn : nks.length ≤ 1000) (hnv : ∀ r ∈ nvs, ∀ u ∈ r, u.oneCell' = true) (sub : Int) (hna : isAt ltI nks sub = false) (f : Str) (hnf : f.length ≤ 100000) (hfm : f.length + 1 ≤ m) (h1 : 1 ≤ sub) (h2 : sub ≤ subs) (hfil : filterB f = true) (hnew : isAt ltI (Tr.go (spl 47 f) t).subs sub = false) (hlen : 0 ≤ len ∧ len ≤ 100000) : Fn Tryz.prog 50 #[.agg #[.int .i64 subs, v, .int .i64 len, n1, n2], .int .i64 sub, Sv f] w fun u w' => ∃ (p m1 m2 : Value) (nvs' : List (List Value)), u = .tuple #[.agg #[.int .i64 subs, p, .int .i64 (len + 1), m1, m2], .int .i64 0] ∧ TrM M w' (t.put (spl 47 f) sub) p ∧ MapR M w' eI1 2 m1 m2 (putK ltI nks sub) nvs' ∧ (∀ r ∈ nvs', ∀ u ∈ r, u.oneCell' = true) := by
  obtain ⟨pa, rfl⟩ := ht.ptr
  obtain ⟨qn1, ln1, cn1, rfl⟩ := id hnm.keys.shape; obtain ⟨qn2, ln2, cn2, rfl⟩ := id hnm.vals.shape
  have hX := Ext.refl Non w
  refine fn_of_W (args := [_, _, _]) Tryz.func50 rfl (by kernel_rfl) rfl ?_
  refine W_seq ?_
  refine W_region ?_
  refine wl_boxS rfl ?_; intro b3 w1 hb3 hE1 hB3
  have hq3 : w.heap.size ≤ b3 := Nat.le_trans hX.size hb3
  have hl3 : Mine Non w b3 := .inr hq3
  replace hX := hX.tr hE1
  refine wl_alloc z_49 ?_; intro b6 w2 hb6 hE2 hB6
  have hn3_6 : b3 < b6 := Nat.lt_of_lt_of_le hB3.lt hb6
  have hq6 : w.heap.size ≤ b6 := Nat.le_trans hX.size hb6
  have hl6 : Mine Non w b6 := .inr hq6
  replace hX := hX.tr hE2
  replace hB3 := hB3.ext hE2 id
  refine wl_val (rn_assign (by conv => lhs; whnf)) ?_
  refine wl_nil ?_
  refine W_seq ?_
  refine W_seq ?_
  refine W_region ?_
  refine wl_val (rn_loadB s_49 rfl rfl hB3) ?_
  refine wl_val (rn_move (by conv => lhs; whnf)) ?_
  refine wl_val (rn_move (by conv => lhs; whnf)) ?_
  refine wl_call e_53 rfl (may_ok w2 subs t len ⟨⟨_, _, _, rfl⟩, _, _, _, rfl⟩ sub f (by omega) h1 h2 hfil rfl) ?_; intro v14 w3 hE3 hR3
  replace hX := hX.tr hE3
  replace hB3 := hB3.ext hE3 id; replace hB6 := hB6.ext hE3 id
  subst hR3
  refine wl_val (rn_assign (by conv => lhs; whnf)) ?_
  refine wl_nil ?_
  refine W_seq ?_
  refine W_region ?_
  refine wl_val (rn_move (by conv => lhs; whnf)) ?_
  refine wl_val (rn_neq rfl rfl) ?_
  refine wl_nil ?_
  refine W_cond rfl (fun hc0 => ?_) (fun hc0 => ?_)
  · exact absurd hc0 (by simp)
  · refine W_skip ?_
    refine W_seq ?_
    refine W_region ?_
    refine wl_val (rn_fieldAddr f_49_1 (by decide) rfl) ?_
    refine wl_val (rn_loadS s_44 (vs := [_, _]) rfl rfl (hB3.part rfl (Nat.le_of_ble_eq_true rfl))) ?_
    refine wl_val (rn_move (by conv => lhs; whnf)) ?_
    refine wl_val (rn_move (by conv => lhs; whnf)) ?_
    refine wl_call e_78 rfl (tadd_ok w3 t len f sub (by omega) (fun i => M i ∨ i = b3 ∨ i = b6) (fun i h => by rcases h with h | h | h; exact Nat.lt_of_lt_of_le (hM i h) hX.size; rw [h]; exact hB3.lt; rw [h]; exact hB6.lt) ((ht.sub (M' := (fun i => M i ∨ i = b3 ∨ i = b6)) (fun i h hlt => by rcases h with h | h | h; exact h; omega; omega)).ext hX (fun _ h => h.elim)) hok hn hfm hfil hnew (by omega)) ?_; intro v24 w4 hE4 hR4
    replace hX := hX.tr hE4
    replace hB3 := hB3.ext hE4 id; replace hB6 := hB6.ext hE4 id
    obtain ⟨p24, rfl, hT24⟩ := hR4; obtain ⟨pb, rfl⟩ := hT24.ptr
    replace hT24 := hT24.sub (M' := fun i => M i ∨ i = b3 ∨ i = b6 ∨ (World.heap w4).size ≤ i) (fun i h hlt => by rcases h with h | h | h | h; exact .inl h; exact .inr (.inl h); exact .inr (.inr h); omega)
    refine wl_val (rn_move (by conv => lhs; whnf)) ?_
    refine wl_val (rn_extract rfl rfl) ?_
    refine wl_val (rn_extract rfl rfl) ?_
    refine wl_alloc z_44 ?_; intro b9 w5 hb9 hE5 hB9
    have hn3_9 : b3 < b9 := Nat.lt_of_lt_of_le hB3.lt hb9
    have hn6_9 : b6 < b9 := Nat.lt_of_lt_of_le hB6.lt hb9
    have hq9 : w.heap.size ≤ b9 := Nat.le_trans hX.size hb9
    have hl9 : Mine Non w b9 := .inr hq9
    replace hX := hX.tr hE5
    replace hB3 := hB3.ext hE5 id; replace hB6 := hB6.ext hE5 id
    replace hT24 := hT24.ext hE5 (fun _ h => h.elim)
    have hBo := hB9
    refine wl_storeB s_44 rfl rfl rfl (two1 rfl rfl) hB9 rfl ?_; intro w6 hE6 hB9 hz6
    replace hX := hX.mine hE6 hl9
    replace hB3 := hB3.ext hE6 (fun h => by omega); replace hB6 := hB6.ext hE6 (fun h => by omega)
    replace hT24 := hT24.ext hE6 (fun i e => by first | exact .inr (.inl e) | exact .inr (.inr (.inl e)) | exact .inr (.inr (.inr (by rw [e]; exact hb9))))
    refine wl_val (rn_assign (by conv => lhs; whnf)) ?_
    refine wl_nil ?_
    refine W_seq ?_
    refine W_seq ?_
    refine W_region ?_
    refine wl_val (rn_move (by conv => lhs; whnf)) ?_
    refine wl_val (rn_neq rfl rfl) ?_
    refine wl_nil ?_
    refine W_cond rfl (fun hc1 => ?_) (fun hc1 => ?_)
    · exact absurd hc1 (by simp)
    · refine W_skip ?_
      refine W_seq ?_
      refine W_drawX (fun j => j == 11 || j == 12 || j == 13) mixed ?_; intro w7 hE7
      replace hX := hX.tr hE7
      replace hB3 := hB3.ext hE7 id; replace hB6 := hB6.ext hE7 id; replace hB9 := hB9.ext hE7 id
      replace hT24 := hT24.ext hE7 (fun _ h => h.elim)
      have hS := Ext.refl Non w7
      refine wx_take 0 [10, 11, 12, 13] _ _ rfl (by kernel_rfl) hS (yd_do fun A hA => rn_loadB s_44 rfl rfl (hB9.ext hA id)) ?_
      refine wx_take 1 [2, 9, 10, 11, 12, 13] _ _ rfl (by kernel_rfl) hS (yd_do fun A hA => rn_fieldAddr f_49_2 (by decide) rfl) ?_
      refine wx_take 2 [9, 10, 11, 12, 13] _ _ rfl (by kernel_rfl) hS (yd_do fun A hA => rn_loadS s_47 (vs := [_, _]) rfl rfl ((hB3.ext hA id).part rfl (Nat.le_of_ble_eq_true rfl))) ?_
      refine wx_take 3 [9, 11, 12, 13] _ _ rfl (by kernel_rfl) hS (yd_do fun A hA => rn_move (by conv => lhs; whnf)) ?_
      refine wx_take 4 [6, 8, 9, 10, 11, 12, 13] _ _ rfl (by kernel_rfl) hS (yd_do fun A hA => rn_loadB s_49 rfl rfl (hB3.ext hA id)) ?_
      refine wx_take 5 [6, 8, 9, 11, 12, 13] _ _ rfl (by kernel_rfl) hS (yd_do fun A hA => rn_move (by conv => lhs; whnf)) ?_
      refine wx_take 7 [8, 9, 11, 12, 13] _ _ rfl (by kernel_rfl) hS (yd_do fun A hA => rn_move (by conv => lhs; whnf)) ?_
      refine wx_take 10 [11, 12, 13] _ _ rfl (by kernel_rfl) hS (yd_do fun A hA => rn_fieldAddr f_49_1 (by decide) rfl) ?_
      refine wx_only 6 _ rfl (by kernel_rfl) ?_
      refine s1_do ?_
      refine wl_call e_56 rfl (of13_ok w7 subs len rfl nks nvs ((hnm.sub (M' := Non) (fun _ h _ => h.elim)).ext (hX.tr hS) (fun _ h => h)) hnord hnn hnv sub hna) ?_; intro v37 w8 hE8 hR8
      replace hS := hS.tr hE8
      subst hR8
      refine wl_nil ⟨fun _ => hS, ?_⟩
      refine wx_only 8 _ rfl (by kernel_rfl) ?_
      refine s1_do ?_
      refine wl_call e_79 rfl (swith0_ok w8 f) ?_; intro v39 w9 hE9 hR9
      replace hS := hS.tr hE9
      obtain ⟨a1, l1, g1, a2, l2, g2, rfl⟩ := hR9
      refine wl_nil ⟨fun _ => hS, ?_⟩
      have hs40 := hS.size
      refine wx_only 9 _ rfl (by kernel_rfl) ?_
      refine s1_do ?_
      refine wl_call e_55 rfl (mput_it w9 nks nvs sub ((hnm.sub (M' := Non) (fun _ h _ => h.elim)).ext (hX.tr hS) (fun _ h => h)) hnord (by omega) hnv (.slice a1 l1 g1) (.slice a2 l2 g2) rfl rfl) ?_; intro v40 w10 hE10 hR10
      replace hS := hS.tr hE10
      obtain ⟨m1, m2, rfl, hM40⟩ := hR10; obtain ⟨e1, x1, y1, rfl⟩ := id hM40.keys.shape; obtain ⟨e2, x2, y2, rfl⟩ := id hM40.vals.shape
      replace hM40 := hM40.sub (M' := (fun i => M i ∨ i = b3 ∨ i = b6)) (fun i h _ => by unfold Old; have := hX.size; have := hB3.lt; have := hB6.lt; have := hs40; rcases h with h | h | h; have := hM i h; omega; omega; omega)
      refine wl_nil ⟨fun _ => hS, ?_⟩
      replace hX := hX.tr hS
      replace hB3 := hB3.ext hS id; replace hB6 := hB6.ext hS id; replace hB9 := hB9.ext hS id
      replace hT24 := hT24.ext hS (fun _ h => h.elim)
      refine wx_only 11 _ rfl (by kernel_rfl) ?_
      refine s1_do ?_
      have hBo := hB3
      refine wl_storeP (b := b3) s_44 rfl rfl rfl (two1 rfl rfl) hB3 (Nat.le_of_ble_eq_true rfl) ?_; intro w11 hE11 hB3 hz11
      replace hX := hX.mine hE11 hl3
      replace hB6 := hB6.ext hE11 (fun h => by omega); replace hB9 := hB9.ext hE11 (fun h => by omega)
      replace hT24 := hT24.ext hE11 (fun i e => by first | exact .inr (.inl e) | exact .inr (.inr (.inl e)) | exact .inr (.inr (.inr (by rw [e]; exact hb9))))
      replace hM40 := hM40.ext hE11 (fun i e => by first | exact .inr (.inl e) | exact .inr (.inr e))
      refine wl_nil ⟨fun h => absurd h (by decide), ?_⟩
      refine wx_only 12 _ rfl (by kernel_rfl) ?_
      refine s1_do ?_
      refine wl_val (rn_fieldAddr f_49_2 (by decide) rfl) ?_
      refine wl_nil ⟨fun h => absurd h (by decide), ?_⟩
      refine wx_only 13 _ rfl (by kernel_rfl) ?_
      refine s1_do ?_
      have hBo := hB3
      refine wl_storeP (b := b3) s_47 rfl rfl rfl (two1 rfl rfl) hB3 (Nat.le_of_ble_eq_true rfl) ?_; intro w12 hE12 hB3 hz12
      replace hX := hX.mine hE12 hl3
      replace hB6 := hB6.ext hE12 (fun h => by omega); replace hB9 := hB9.ext hE12 (fun h => by omega)
      replace hT24 := hT24.ext hE12 (fun i e => by first | exact .inr (.inl e) | exact .inr (.inr (.inl e)) | exact .inr (.inr (.inr (by rw [e]; exact hb9))))
      replace hM40 := hM40.ext hE12 (fun i e => by first | exact .inr (.inl e) | exact .inr (.inr e))
      refine wl_nil ⟨fun h => absurd h (by decide), ?_⟩
      refine wx_done (by kernel_rfl) ?_ _
      refine W_seq ?_
      refine W_region ?_
      refine wl_val (rn_loadB s_49 rfl rfl hB3) ?_
      have hBo := hB6
      refine wl_storeB s_49 rfl rfl rfl (five1 rfl rfl rfl rfl rfl) hB6 rfl ?_; intro w13 hE13 hB6 hz13
      replace hX := hX.mine hE13 hl6
      replace hB3 := hB3.ext hE13 (fun h => by omega); replace hB9 := hB9.ext hE13 (fun h => by omega)
      replace hT24 := hT24.ext hE13 (fun i e => by first | exact .inr (.inl e) | exact .inr (.inr (.inl e)) | exact .inr (.inr (.inr (by rw [e]; exact hb9))))
      replace hM40 := hM40.ext hE13 (fun i e => by first | exact .inr (.inl e) | exact .inr (.inr e))
      refine wl_val (rn_assign (by conv => lhs; whnf)) ?_
      refine wl_nil ?_
      refine W_ret ?_
      exact ⟨_, resR2 (res1_box s_49 rfl hB6 rfl) (res1_tmp rfl), hX, ⟨_, _, _, _, rfl, hT24.sub (fun i h _ => .inl h), hM40.sub (fun i h _ => .inl h), putV_one hnv rfl rfl⟩⟩
end Go.Proofs.YtaddeakfojpdoaaGreatDoorC

/- A key's going out of a map; a map's keys with their values, one by one; the document's maps. -/
set_option linter.unusedVariables false
set_option linter.unusedSimpArgs false
set_option maxRecDepth 100000
namespace Go.Proofs.YtaddeakfojpdoaaGreatDoorC
open Go.RowKit
theorem dropK_no {κ : Type} [DecidableEq κ] {lt : κ → κ → Bool} {l : List κ} {x : κ} (h : isAt lt l x = false) : dropK lt l x = l := by unfold dropK; rw [if_neg (by rw [h]; simp)]
theorem dropV_no {κ β : Type} [DecidableEq κ] {lt : κ → κ → Bool} {l : List κ} {x : κ} {vs : List β} (h : isAt lt l x = false) : dropV lt l x vs = vs := by unfold dropV; rw [if_neg (by rw [h]; simp)]
theorem dropK_yes {κ γ : Type} [DecidableEq κ] {lt : κ → κ → Bool} {l : List κ} {x : κ} (e : κ → γ) (h : isAt lt l x = true) : (dropK lt l x).map e = (l.map e).take (lb lt l x) ++ (l.map e).drop (lb lt l x + 1) := by unfold dropK; rw [if_pos h]; simp [List.map_take, List.map_drop]
theorem dropV_yes {κ β : Type} [DecidableEq κ] {lt : κ → κ → Bool} {l : List κ} {x : κ} {vs : List β} (h : isAt lt l x = true) : dropV lt l x vs = vs.take (lb lt l x) ++ vs.drop (lb lt l x + 1) := by unfold dropV; rw [if_pos h]
theorem zip_take_add {α β : Type} {l : List α} {m : List β} {i : Nat} {x : α} {y : β} (hx : l[i]? = some x) (hy : m[i]? = some y) : (l.zip m)[i]? = some (x, y) := by simp [List.getElem?_zip_eq_some, hx, hy]
-- (bellman/set.Map[string, bellman/keep.entry]).Drop
set_option maxHeartbeats 800000 in
theorem mdrop_se (w : World) (M : Nat → Prop) (hM : ∀ i, M i → i < w.heap.size) (ks : List Str) (vs : List (List Value)) {v1 v2 : Value} (x : Str) (hmM : MapR M w eS1 2 v1 v2 ks vs) (hord : Sorted ltS ks) (hn : ks.length ≤ 1000000) (hv1 : ∀ r ∈ vs, ∀ u ∈ r, u.oneCell' = true) : Fn Tryz.prog 93 #[.agg #[v1, v2], Sv x] w fun u w' => ∃ u1 u2, u = .agg #[u1, u2] ∧ MapR M w' eS1 2 u1 u2 (dropK ltS ks x) (dropV ltS ks x vs) := by
  have hm := hmM.sub (M' := Non) (fun _ h _ => h.elim)
  obtain ⟨q1, n1, c1, rfl⟩ := hm.keys.shape; obtain ⟨q2, n2, c2, rfl⟩ := hm.vals.shape
  have hlb := lb_le (lt := ltS) ks x
  have hlen := hm.len
  have hX := Ext.refl Non w
  refine fn_of_W (args := [_, _]) Tryz.func93 rfl (by kernel_rfl) rfl ?_
  refine W_seq ?_
  refine W_region ?_
  refine wl_boxS rfl ?_; intro b2 w1 hb2 hE1 hB2
  have hq2 : w.heap.size ≤ b2 := Nat.le_trans hX.size hb2
  have hl2 : Mine Non w b2 := .inr hq2
  replace hX := hX.tr hE1
  refine wl_alloc z_55 ?_; intro b4 w2 hb4 hE2 hB4
  have hn2_4 : b2 < b4 := Nat.lt_of_lt_of_le hB2.lt hb4
  have hq4 : w.heap.size ≤ b4 := Nat.le_trans hX.size hb4
  have hl4 : Mine Non w b4 := .inr hq4
  replace hX := hX.tr hE2
  replace hB2 := hB2.ext hE2 id
  refine wl_nil ?_
  refine W_seq ?_
  refine W_region ?_
  refine wl_val (rn_fieldAddr f_55_0 (by decide) rfl) ?_
  refine wl_val (rn_load1 p_22 rfl hB2 rfl) ?_
  refine wl_val (rn_move (by conv => lhs; whnf)) ?_
  refine wl_call e_108 rfl (bs_s w2 ks x (hm.keys.ext hX (fun _ h => h)) hord hn) ?_; intro v11 w3 hE3 hR3
  replace hX := hX.tr hE3
  replace hB2 := hB2.ext hE3 id; replace hB4 := hB4.ext hE3 id
  subst hR3
  refine wl_val (rn_move (by conv => lhs; whnf)) ?_
  refine wl_val (rn_extract rfl rfl) ?_
  refine wl_val (rn_extract rfl rfl) ?_
  refine wl_val (rn_assign (by conv => lhs; whnf)) ?_
  refine wl_val (rn_assign (by conv => lhs; whnf)) ?_
  refine wl_nil ?_
  refine W_seq ?_
  refine W_seq ?_
  refine W_region ?_
  refine wl_val (rn_move (by conv => lhs; whnf)) ?_
  refine wl_val (rn_not rfl) ?_
  refine wl_nil ?_
  refine W_cond rfl (fun hc0 => ?_) (fun hc0 => ?_)
  · have hat : isAt ltS ks x = false := by simpa using hc0
    refine W_seq ?_
    refine W_region ?_
    refine wl_val (rn_loadB s_55 rfl rfl hB2) ?_
    refine wl_storeB s_55 rfl rfl rfl (two1 rfl rfl) hB4 rfl ?_; intro w4 hE4 hB4 hz4
    replace hX := hX.mine hE4 hl4
    replace hB2 := hB2.ext hE4 (fun h => by omega)
    refine wl_nil ?_
    refine W_ret ?_
    exact ⟨_, resR1 (res1_box s_55 rfl hB4 rfl), hX, ⟨_, _, rfl, by rw [dropK_no hat, dropV_no hat]; exact hmM.ext hX (fun _ h => h.elim)⟩⟩
  · have hat : isAt ltS ks x = true := by simpa using hc0
    have hltk := isAt_lt hat
    have hne1 : ¬ ks.map eS1 = [] := fun e => by have := congrArg List.length e; rw [List.length_map] at this; simp at this; rw [this] at hltk; simp at hltk
    have hne2 : ¬ vs = [] := fun e => by rw [e] at hlen; simp at hlen; omega
    refine W_skip ?_
    refine W_seq ?_
    refine W_drawX (fun j => j == 15) mixed ?_; intro w5 hE5
    replace hX := hX.tr hE5
    replace hB2 := hB2.ext hE5 id; replace hB4 := hB4.ext hE5 id
    have hS := Ext.refl Non w5
    have hz4 := hB4.lt; have hzw := hX.size
    refine wx_take 0 [1, 2, 6, 9, 13, 14, 15] _ _ rfl (by kernel_rfl) hS (yd_do fun A hA => rn_fieldAddr f_55_0 (by decide) rfl) ?_
    refine wx_take 1 [2, 6, 9, 13, 14, 15] _ _ rfl (by kernel_rfl) hS (yd_do fun A hA => rn_load1 p_22 rfl (hB2.ext hA id) rfl) ?_
    refine wx_take 3 [6, 9, 13, 14, 15] _ _ rfl (by kernel_rfl) hS (yd_do fun A hA => rn_move (by conv => lhs; whnf)) ?_
    refine wx_take 4 [5, 6, 9, 13, 14, 15] _ _ rfl (by kernel_rfl) hS (yd_do fun A hA => rn_move (by conv => lhs; whnf)) ?_
    refine wx_take 5 [6, 9, 13, 14, 15] _ _ rfl (by kernel_rfl) hS (yd_do fun A hA => rn_add rfl rfl (by omega)) ?_
    refine wx_take 7 [8, 9, 13, 14, 15] _ _ rfl (by kernel_rfl) hS (yd_do fun A hA => rn_fieldAddr f_55_1 (by decide) rfl) ?_
    refine wx_take 8 [9, 13, 14, 15] _ _ rfl (by kernel_rfl) hS (yd_do fun A hA => rn_load1 p_53 rfl (hB2.ext hA id) rfl) ?_
    refine wx_take 10 [13, 14, 15] _ _ rfl (by kernel_rfl) hS (yd_do fun A hA => rn_move (by conv => lhs; whnf)) ?_
    refine wx_take 11 [12, 13, 14, 15] _ _ rfl (by kernel_rfl) hS (yd_do fun A hA => rn_move (by conv => lhs; whnf)) ?_
    refine wx_take 12 [13, 14, 15] _ _ rfl (by kernel_rfl) hS (yd_do fun A hA => rn_add rfl rfl (by omega)) ?_
    have hsz19 := hS.size
    refine wx_only 2 _ rfl (by kernel_rfl) ?_
    refine s1_do ?_
    refine wl_call e_110 rfl (clone_s w5 (ks.map eS1) (hm.keys.ext (hX.tr hS) (fun _ h => h)) (eS_one ks) (by first | (rw [List.length_map]; exact hn) | (rw [hlen]; exact hn))) ?_; intro v19 w6 hE6 hR6
    replace hS := hS.tr hE6
    obtain ⟨o19, hO19, ho19⟩ := hR6
    rcases hO19 with ⟨_, h19, _⟩ | ⟨b19, sp19, hoe19, hO19⟩
    exact absurd h19 hne1
    have hge19 := Nat.le_trans hsz19 (ho19 _ hoe19)
    have hl19_ := hO19.box.lt; have hgo19 := ho19 _ hoe19
    refine wl_nil ⟨fun _ => hS, ?_⟩
    refine wx_only 6 _ rfl (by kernel_rfl) ?_
    refine s1_do ?_
    refine wl_callM (M := (fun x => x = b19)) e_109 rfl (delete_s w6 (lb ltS ks x) (lb ltS ks x + 1) b19 (ks.map eS1) sp19 hO19 (by omega) (by first | (rw [List.length_map]; omega) | (rw [hlen]; omega)) (eS_one ks) (by first | (rw [List.length_map]; exact hn) | (rw [hlen]; exact hn))) ?_; intro v23 w7 hE7 hR7
    obtain ⟨sp23, hO23⟩ := hR7
    obtain ⟨a23, l23, c23, rfl⟩ := id hO23.shape
    replace hS := hS.mine hE7 (.inr hge19); have hsd23 := hE7.size
    refine wl_nil ⟨fun _ => hS, ?_⟩
    have hsz26 := hS.size
    refine wx_only 9 _ rfl (by kernel_rfl) ?_
    refine s1_do ?_
    refine wl_call e_132 rfl (clone_e w7 vs (hm.vals.ext (hX.tr hS) (fun _ h => h)) hv1 (by first | (rw [List.length_map]; exact hn) | (rw [hlen]; exact hn))) ?_; intro v26 w8 hE8 hR8
    replace hS := hS.tr hE8
    replace hO23 := hO23.ext hE8 id
    obtain ⟨o26, hO26, ho26⟩ := hR8
    rcases hO26 with ⟨_, h26, _⟩ | ⟨b26, sp26, hoe26, hO26⟩
    exact absurd h26 hne2
    have hge26 := Nat.le_trans hsz26 (ho26 _ hoe26)
    have hl26_ := hO26.box.lt; have hgo26 := ho26 _ hoe26
    refine wl_nil ⟨fun _ => hS, ?_⟩
    refine wx_only 13 _ rfl (by kernel_rfl) ?_
    refine s1_do ?_
    refine wl_callM (M := (fun x => x = b26)) e_131 rfl (delete_e w8 (lb ltS ks x) (lb ltS ks x + 1) b26 vs sp26 hO26 (by omega) (by first | (rw [List.length_map]; omega) | (rw [hlen]; omega)) hv1 (by first | (rw [List.length_map]; exact hn) | (rw [hlen]; exact hn))) ?_; intro v30 w9 hE9 hR9
    obtain ⟨sp30, hO30⟩ := hR9
    obtain ⟨a30, l30, c30, rfl⟩ := id hO30.shape
    replace hS := hS.mine hE9 (.inr hge26); have hsd30 := hE9.size
    replace hO23 := hO23.ext hE9 (fun e => by omega)
    refine wl_nil ⟨fun _ => hS, ?_⟩
    refine wx_take 14 [15] _ _ rfl (by kernel_rfl) hS (yd_do fun A hA => rn_build' b_55 rfl rfl (cs := [.slice a23 l23 c23, .slice a30 l30 c30]) rfl) ?_
    replace hX := hX.tr hS
    replace hB2 := hB2.ext hS id; replace hB4 := hB4.ext hS id
    refine wx_only 15 _ rfl (by kernel_rfl) ?_
    refine s1_do ?_
    have hBo := hB4
    refine wl_storeB s_55 rfl rfl rfl (two1 rfl rfl) hB4 rfl ?_; intro w10 hE10 hB4 hz10
    replace hX := hX.mine hE10 hl4
    replace hB2 := hB2.ext hE10 (fun h => by omega)
    replace hO23 := hO23.ext hE10 (fun e => by omega)
    replace hO30 := hO30.ext hE10 (fun e => by omega)
    refine wl_nil ⟨fun h => absurd h (by decide), ?_⟩
    refine wx_done (by kernel_rfl) ?_ _
    refine W_ret ?_
    exact ⟨_, resR1 (res1_box s_55 rfl hB4 rfl), hX, ⟨_, _, rfl, ⟨by rw [dropK_yes eS1 hat]; exact hO23.sl (fun h => by have := hM _ h; omega), by rw [dropV_yes hat]; exact hO30.sl (fun h => by have := hM _ h; omega), dropV_len hm.len⟩⟩⟩
-- (bellman/set.Map[string, bellman/keep.entry]).All$1
set_option maxHeartbeats 800000 in
theorem mall_iter_se (ks : List Str) (ys : List (Str × Int)) {v1 v2 : Value} (M : Nat → Prop) (w0 : World) (b1 : Nat) (hk : Sl M w0 v1 1 (ks.map eS1)) (hv : Sl M w0 v2 2 (ys.map eE1)) (hle : ys.length = ks.length) (hC1 : IsBox w0 b1 [v1, v2]) (h1 : ¬ M b1) :
    Iter Tryz.prog M w0 (.func (.func 151) #[] #[.pointer (some ⟨b1, 0, none⟩)]) (fun p : Str × (Str × Int) => #[Sv p.1, .agg #[Sv p.2.1, .int .i64 p.2.2]]) (ks.zip ys) := by
  refine iter_of e_151 fun l W J Jx hW hX hY => ?_
  obtain ⟨a, c, rfl, _⟩ := hk.len; obtain ⟨a2, c2, rfl, _⟩ := hv.len
  simp only [List.length_map] at hk hv hC1 ⊢
  have hbig : ks.length ≤ big := by obtain ⟨⟨a1, c1, e1, e2, e3, _⟩, _⟩ := hk; simp at e2; omega
  have hbig2 : big = 9223372036854775807 := rfl
  have ea : (#[Value.func (.yield l) #[] #[]] ++ #[.pointer (some ⟨b1, 0, none⟩)] : Array Value) = [Value.func (.yield l) #[] #[], .pointer (some ⟨b1, 0, none⟩)].toArray := by simp
  rw [ea]
  refine calls_of_W (R := fun v W' => Tl M w0 W (J (ks.zip ys)) [] W' ∨ Tl M w0 W Jx [] W') Tryz.func151 rfl (by kernel_rfl) rfl ?_
  refine W_seq ?_
  refine W_region ?_
  refine wl_val (rn_fieldAddr f_55_0 (by decide) rfl) ?_
  refine wl_val (rn_load1 p_22 rfl (hC1.ext hX.w0 h1) rfl) ?_
  refine wl_val (rn_len sl_22 rfl) ?_
  refine wl_val (rn_move (by conv => lhs; whnf)) ?_
  refine wl_nil ?_
  refine W_block ?_   -- block 0
  refine W_loopS (S := Nat) [0, 1, 6, 7, 8] (fun i => [.func (.yield l) #[] #[], .pointer (some ⟨b1, 0, none⟩), .slice a ks.length c, .int .i64 (ks.length : Nat), .int .i64 (i : Nat)]) (fun i A => (Tl M w0 W (J ((ks.zip ys).take i)) [] A) ∧ (i ≤ ks.length)) (fun i => ks.length - i) 0 ⟨rfl, rfl, rfl, rfl, rfl, trivial⟩ ⟨(hX.less (by simp)), Nat.zero_le _⟩ ?_
  rintro τ0 i A0 ⟨hX, hI0⟩
  have hik := hI0
  refine W_seq ?_
  refine W_region ?_
  refine wl_val (rn_lss rfl rfl) ?_
  refine wl_nil ?_
  refine W_seq ?_
  refine W_cond rfl (fun hc0 => ?_) (fun hc0 => ?_)
  · have hlt := of_decide_eq_true hc0; simp only [Int.ofNat_lt] at hlt
    obtain ⟨x, hi⟩ : ∃ x, ks[i]? = some x := ⟨_, List.getElem?_eq_getElem hlt⟩
    obtain ⟨y, hj⟩ : ∃ y, ys[i]? = some y := ⟨_, List.getElem?_eq_getElem (by omega)⟩
    obtain ⟨bb, oo, ea⟩ := hk.base (by intro e; have := congrArg List.length e; simp only [List.length_map, List.length_nil] at this; omega); subst ea
    obtain ⟨bb2, oo2, ea2⟩ := hv.base (by intro e; have := congrArg List.length e; simp only [List.length_map, List.length_nil] at this; omega); subst ea2
    have hz := zip_take_add hi hj
    have htk : (ks.zip ys).take (i + 1) = (ks.zip ys).take i ++ [(x, y)] := by rw [List.take_add_one, hz]; rfl
    have hsp : (ks.zip ys) = (ks.zip ys).take i ++ (x, y) :: (ks.zip ys).drop (i + 1) := by obtain ⟨h1, h2⟩ := List.getElem?_eq_some_iff.1 hz; rw [← h2, List.getElem_cons_drop, List.take_append_drop]
    refine W_skip ?_
    refine W_seq ?_
    refine W_block ?_   -- block 1
    refine W_seq ?_
    refine W_region ?_
    refine wl_val (rn_move (by conv => lhs; whnf)) ?_
    refine wl_val (rn_indexAddr sl_22 rfl rfl (by omega)) ?_
    refine wl_val (rn_load p_9 rfl ((hk.ext hX.w0 (fun _ h => h)).at0 (eS_at hi) rfl)) ?_
    refine wl_val (rn_assign (by conv => lhs; whnf)) ?_
    refine wl_val (rn_assign (by conv => lhs; whnf)) ?_
    refine wl_nil ?_
    refine W_seq ?_
    refine W_region ?_
    refine wl_val (rn_move (by conv => lhs; whnf)) ?_
    refine wl_val (rn_move (by conv => lhs; whnf)) ?_
    refine wl_val (rn_fieldAddr f_55_1 (by decide) rfl) ?_
    refine wl_val (rn_load1 p_53 rfl (hC1.ext hX.w0 h1) rfl) ?_
    refine wl_val (rn_move (by conv => lhs; whnf)) ?_
    refine wl_val (rn_indexAddr sl_53 rfl rfl (by omega)) ?_
    refine wl_val (rn_loadS s_161 rfl rfl ((hv.ext hX.w0 (fun _ h => h)).all0 (eE_at hj))) ?_
    refine wl_yield rfl rfl (hY _ _ _ _ _ hsp hX) ?_; rintro b20 w1 ⟨hE1, hyT, hyF⟩
    refine wl_val (rn_not rfl) ?_
    refine wl_nil ?_
    refine W_cond rfl (fun hc1 => ?_) (fun hc1 => ?_)
    · refine W_ret ?_
      first | exact ⟨_, rfl, .inr ((hyF (by simpa using hc1)).less (by simp))⟩ | exact ⟨_, rfl, .inl (by have hge := of_decide_eq_false hc0; simp only [Int.ofNat_lt, Nat.not_lt] at hge; have hie : i = ks.length := (by omega); subst hie; rw [List.take_of_length_le (by rw [List.length_zip]; omega)] at hX; exact hX.less (by simp))⟩
    · refine W_skip ?_
      refine W_region ?_
      refine wl_val (rn_add rfl rfl (by omega)) ?_
      refine wl_val (rn_move (by conv => lhs; whnf)) ?_
      refine wl_nil ?_
      replace hX := hyT (by simpa using hc1)
      rw [← htk] at hX
      exact ⟨rfl, i + 1, ⟨rfl, rfl, rfl, rfl, rfl, trivial⟩, ⟨(hX.less (by simp)), hlt⟩, by omega⟩
  · refine W_exit ?_   -- exit 0
    first | exact ⟨_, rfl, .inr ((hyF (by simpa using hc1)).less (by simp))⟩ | exact ⟨_, rfl, .inl (by have hge := of_decide_eq_false hc0; simp only [Int.ofNat_lt, Nat.not_lt] at hge; have hie : i = ks.length := (by omega); subst hie; rw [List.take_of_length_le (by rw [List.length_zip]; omega)] at hX; exact hX.less (by simp))⟩
-- (bellman/set.Map[string, bellman/keep.entry]).All
theorem mall_se (w : World) (ks : List Str) (ys : List (Str × Int)) {v1 v2 : Value} (M : Nat → Prop) (hM : ∀ i, M i → i < w.heap.size) (hk : Sl M w v1 1 (ks.map eS1)) (hv : Sl M w v2 2 (ys.map eE1)) (hle : ys.length = ks.length) : Fn Tryz.prog 119 #[.agg #[v1, v2]] w fun u w' => Iter Tryz.prog M w' u (fun p : Str × (Str × Int) => #[Sv p.1, .agg #[Sv p.2.1, .int .i64 p.2.2]]) (ks.zip ys) := by
  obtain ⟨a, c, rfl, _⟩ := hk.len; obtain ⟨a2, c2, rfl, _⟩ := hv.len
  have hX := Ext.refl Non w
  refine fn_of_W (args := [_]) Tryz.func119 rfl (by kernel_rfl) rfl ?_
  refine W_seq ?_
  refine W_region ?_
  refine wl_boxS rfl ?_; intro b1 w1 hb1 hE1 hB1
  have hq1 : w.heap.size ≤ b1 := Nat.le_trans hX.size hb1
  have hl1 : Mine Non w b1 := .inr hq1
  replace hX := hX.tr hE1
  refine wl_val (rn_assign (by conv => lhs; whnf)) ?_
  refine wl_nil ?_
  refine W_seq ?_
  refine W_region ?_
  refine wl_val (rn_makeFunc rfl) ?_
  refine wl_val (rn_assign (by conv => lhs; whnf)) ?_
  refine wl_nil ?_
  refine W_ret ?_
  exact ⟨_, resR1 (res1_tmp rfl), hX, mall_iter_se ks ys M _ b1 (hk.ext hX.of_non (fun _ h => h)) (hv.ext hX.of_non (fun _ h => h)) hle hB1 (fun h => by have := hM _ h; omega)⟩
end Go.Proofs.YtaddeakfojpdoaaGreatDoorC

/- The store of what is kept: putting, getting. -/
set_option linter.unusedVariables false
set_option linter.unusedSimpArgs false
set_option maxRecDepth 100000
namespace Go.Proofs.YtaddeakfojpdoaaGreatDoorC
open Go.RowKit
def kErr (t p : Str) : Int := if topicB t = false then 2 else if p.length > 16 then 1 else 0
def kK (ks : List Str) (t p : Str) : List Str := if p = [] then dropK ltS ks t else putK ltS ks t
def kY (ks : List Str) (ys : List (Str × Int)) (ver : Int) (t p : Str) : List (Str × Int) := if p = [] then dropV ltS ks t ys else putW ltS ks t ys (p, ver + 1)
theorem putV_eE {ks : List Str} {x : Str} {ys : List (Str × Int)} {y : Str × Int} : putV ltS ks x (ys.map eE1) [Sv y.1, .int .i64 y.2] = (putW ltS ks x ys y).map eE1 := by
  rw [← putW_map]; rfl
-- (bellman/keep.Store).Put
set_option maxHeartbeats 800000 in
theorem kput_ok (w : World) (ks : List Str) (ys : List (Str × Int)) (ver : Int) {u1 u2 : Value} (M : Nat → Prop) (hM : ∀ i, M i → i < w.heap.size) (hmM : MapR M w eS1 2 u1 u2 ks (ys.map eE1)) (hord : Sorted ltS ks) (hn : ks.length ≤ 100000) (t p : Str) (hnt : t.length ≤ 1000000) (hnp : p.length ≤ 1000000) (hv : 0 ≤ ver ∧ ver ≤ 1000000) : Fn Tryz.prog 58 #[.agg #[u1, u2, .int .i64 ver], Sv t, Sv p] w fun u w' => ∃ x1 x2, u = .tuple #[.agg #[x1, x2, .int .i64 (if kErr t p = 0 then ver + 1 else ver)], .int .i64 (kErr t p)] ∧ MapR M w' eS1 2 x1 x2 (if kErr t p = 0 then kK ks t p else ks) ((if kErr t p = 0 then kY ks ys ver t p else ys).map eE1) := by
  have hm := hmM.sub (M' := Non) (fun _ h _ => h.elim)
  obtain ⟨q1, n1, c1, rfl⟩ := hm.keys.shape; obtain ⟨q2, n2, c2, rfl⟩ := hm.vals.shape
  have hlen : ys.length = ks.length := by have := hm.len; simpa using this
  have hX := Ext.refl Non w
  refine fn_of_W (args := [_, _, _]) Tryz.func58 rfl (by kernel_rfl) rfl ?_
  refine W_seq ?_
  refine W_region ?_
  refine wl_boxS rfl ?_; intro b3 w1 hb3 hE1 hB3
  have hq3 : w.heap.size ≤ b3 := Nat.le_trans hX.size hb3
  have hl3 : Mine Non w b3 := .inr hq3
  replace hX := hX.tr hE1
  refine wl_alloc z_57 ?_; intro b6 w2 hb6 hE2 hB6
  have hn3_6 : b3 < b6 := Nat.lt_of_lt_of_le hB3.lt hb6
  have hq6 : w.heap.size ≤ b6 := Nat.le_trans hX.size hb6
  have hl6 : Mine Non w b6 := .inr hq6
  replace hX := hX.tr hE2
  replace hB3 := hB3.ext hE2 id
  refine wl_val (rn_assign (by conv => lhs; whnf)) ?_
  refine wl_nil ?_
  refine W_seq ?_
  refine W_block ?_   -- block 0
  refine W_seq ?_
  refine W_region ?_
  refine wl_val (rn_move (by conv => lhs; whnf)) ?_
  refine wl_call e_92 rfl (ttopic_ok w2 t hnt) ?_; intro v10 w3 hE3 hR3
  replace hX := hX.tr hE3
  replace hB3 := hB3.ext hE3 id; replace hB6 := hB6.ext hE3 id
  subst hR3
  refine wl_val (rn_not rfl) ?_
  refine wl_val (rn_assign (by conv => lhs; whnf)) ?_
  refine wl_nil ?_
  refine W_cond rfl (fun hc0 => ?_) (fun hc0 => ?_)
  · have he : kErr t p = 2 := by unfold kErr; rw [if_pos (by simpa using hc0)]
    refine W_seq ?_
    refine W_region ?_
    refine wl_val (rn_loadB s_57 rfl rfl hB3) ?_
    refine wl_storeB s_57 rfl rfl rfl (three1 rfl rfl rfl) hB6 rfl ?_; intro w4 hE4 hB6 hz4
    replace hX := hX.mine hE4 hl6
    replace hB3 := hB3.ext hE4 (fun h => by omega)
    refine wl_val (rn_assign (by conv => lhs; whnf)) ?_
    refine wl_nil ?_
    refine W_ret ?_
    exact ⟨_, resR2 (res1_box s_57 rfl hB6 rfl) (res1_tmp rfl), hX, ⟨_, _, by rw [he]; rfl, by rw [he]; exact hmM.ext hX (fun _ h => h.elim)⟩⟩
  · have ht : topicB t = true := by simpa using hc0
    refine W_seq ?_
    refine W_region ?_
    refine wl_val (rn_move (by conv => lhs; whnf)) ?_
    refine wl_val (rn_slen us_9 rfl) ?_
    refine wl_val (rn_gtr rfl rfl) ?_
    refine wl_val (rn_assign (by conv => lhs; whnf)) ?_
    refine wl_nil ?_
    refine W_cond rfl (fun hc1 => ?_) (fun hc1 => ?_)
    · have he : kErr t p = 1 := by unfold kErr; rw [if_neg (by rw [ht]; simp), if_pos (by have := of_decide_eq_true hc1; omega)]
      refine W_seq ?_
      refine W_region ?_
      refine wl_val (rn_loadB s_57 rfl rfl hB3) ?_
      refine wl_storeB s_57 rfl rfl rfl (three1 rfl rfl rfl) hB6 rfl ?_; intro w5 hE5 hB6 hz5
      replace hX := hX.mine hE5 hl6
      replace hB3 := hB3.ext hE5 (fun h => by omega)
      refine wl_val (rn_assign (by conv => lhs; whnf)) ?_
      refine wl_nil ?_
      refine W_ret ?_
      exact ⟨_, resR2 (res1_box s_57 rfl hB6 rfl) (res1_tmp rfl), hX, ⟨_, _, by rw [he]; rfl, by rw [he]; exact hmM.ext hX (fun _ h => h.elim)⟩⟩
    · have he : kErr t p = 0 := by unfold kErr; rw [if_neg (by rw [ht]; simp), if_neg (by have := of_decide_eq_false hc1; omega)]
      refine W_skip ?_
      refine W_seq ?_
      refine W_region ?_
      have hm3 : MapR (fun i => M i ∨ i = b3 ∨ i = b6) w eS1 2 _ _ ks (ys.map eE1) := hmM.sub (fun i h hi => by rcases h with h | h | h; exact h; omega; omega)
      refine wl_val (rn_fieldAddr f_57_1 (by decide) rfl) ?_
      refine wl_val (rn_load1 p_3 rfl hB3 rfl) ?_
      refine wl_val (rn_add rfl rfl (by omega)) ?_
      refine wl_val (rn_fieldAddr f_57_1 (by decide) rfl) ?_
      refine wl_store1 (b := b3) p_3 rfl (by conv => lhs; whnf) rfl rfl hB3 (Nat.le_of_ble_eq_true rfl) ?_; intro w6 hE6 hB3 hz6
      replace hX := hX.mine hE6 hl3
      replace hB6 := hB6.ext hE6 (fun h => by omega)
      refine wl_nil ?_
      refine W_seq ?_
      refine W_seq ?_
      refine W_region ?_
      refine wl_val (rn_move (by conv => lhs; whnf)) ?_
      refine wl_val (rn_seql rfl rfl) ?_
      refine wl_nil ?_
      refine W_cond rfl (fun hc2 => ?_) (fun hc2 => ?_)
      · have hpe : p = [] := of_decide_eq_true hc2
        refine W_region ?_
        refine wl_val (rn_fieldAddr f_57_0 (by decide) rfl) ?_
        refine wl_val (rn_loadS s_55 (vs := [_, _]) rfl rfl (hB3.part rfl (Nat.le_of_ble_eq_true rfl))) ?_
        refine wl_val (rn_move (by conv => lhs; whnf)) ?_
        have hsz := hX.size; have hz3 := hB3.lt; have hz6 := hB6.lt
        refine wl_call e_93 rfl (mdrop_se w6 (fun i => M i ∨ i = b3 ∨ i = b6) (fun i h => by rcases h with h | h | h; exact Nat.lt_of_lt_of_le (hM i h) hX.size; rw [h]; exact hB3.lt; rw [h]; exact hB6.lt) ks (ys.map eE1) t (hm3.ext hX (fun _ h => h.elim)) hord (by omega) (eE_one ys)) ?_; intro v27 w7 hE7 hR7
        replace hX := hX.tr hE7
        replace hB3 := hB3.ext hE7 id; replace hB6 := hB6.ext hE7 id
        obtain ⟨x1, x2, rfl, hM27⟩ := hR7; obtain ⟨e1, l1, g1, rfl⟩ := id hM27.keys.shape; obtain ⟨e2, l2, g2, rfl⟩ := id hM27.vals.shape
        refine wl_val (rn_fieldAddr f_57_0 (by decide) rfl) ?_
        have hBo := hB3
        refine wl_storeP (b := b3) s_55 rfl rfl rfl (two1 rfl rfl) hB3 (Nat.le_of_ble_eq_true rfl) ?_; intro w8 hE8 hB3 hz8
        replace hX := hX.mine hE8 hl3
        replace hB6 := hB6.ext hE8 (fun h => by omega)
        replace hM27 := hM27.ext hE8 (fun i e => by first | exact .inr (.inl e) | exact .inr (.inr e))
        refine wl_nil ?_
        refine W_seq ?_
        refine W_region ?_
        refine wl_val (rn_loadB s_57 rfl rfl hB3) ?_
        have hBo := hB6
        refine wl_storeB s_57 rfl rfl rfl (three1 rfl rfl rfl) hB6 rfl ?_; intro w9 hE9 hB6 hz9
        replace hX := hX.mine hE9 hl6
        replace hB3 := hB3.ext hE9 (fun h => by omega)
        replace hM27 := hM27.ext hE9 (fun i e => by first | exact .inr (.inl e) | exact .inr (.inr e))
        refine wl_val (rn_assign (by conv => lhs; whnf)) ?_
        refine wl_nil ?_
        refine W_ret ?_
        exact ⟨_, resR2 (res1_box s_57 rfl hB6 rfl) (res1_tmp rfl), hX, ⟨_, _, by rw [he]; rfl, by rw [he]; show MapR M _ eS1 2 _ _ (kK ks t p) ((kY ks ys ver t p).map eE1); unfold kK kY; rw [if_pos hpe, if_pos hpe, ← dropV_map]; exact hM27.sub (fun i h _ => .inl h)⟩⟩
      · have hpe : ¬ p = [] := of_decide_eq_false hc2
        refine W_region ?_
        refine wl_val (rn_fieldAddr f_57_0 (by decide) rfl) ?_
        refine wl_val (rn_loadS s_55 (vs := [_, _]) rfl rfl (hB3.part rfl (Nat.le_of_ble_eq_true rfl))) ?_
        refine wl_val (rn_move (by conv => lhs; whnf)) ?_
        refine wl_val (rn_move (by conv => lhs; whnf)) ?_
        refine wl_val (rn_fieldAddr f_57_1 (by decide) rfl) ?_
        refine wl_val (rn_load1 p_3 rfl hB3 rfl) ?_
        refine wl_val (rn_build' b_161 rfl rfl (cs := _) rfl) ?_
        have hsz := hX.size; have hz3 := hB3.lt; have hz6 := hB6.lt
        refine wl_call e_94 rfl (mput_se w6 ks (ys.map eE1) t (hm.ext hX (fun _ h => h)) hord (by omega) (eE_one ys) (Sv p) (.int .i64 (ver + 1)) rfl rfl) ?_; intro v36 w10 hE10 hR10
        replace hX := hX.tr hE10
        replace hB3 := hB3.ext hE10 id; replace hB6 := hB6.ext hE10 id
        obtain ⟨x1, x2, rfl, hM36⟩ := hR10; obtain ⟨e1, l1, g1, rfl⟩ := id hM36.keys.shape; obtain ⟨e2, l2, g2, rfl⟩ := id hM36.vals.shape
        replace hM36 := hM36.sub (M' := (fun i => M i ∨ i = b3 ∨ i = b6)) (fun i h _ => by show i < _; rcases h with h | h | h; have := hM i h; omega; omega; omega)
        refine wl_val (rn_fieldAddr f_57_0 (by decide) rfl) ?_
        have hBo := hB3
        refine wl_storeP (b := b3) s_55 rfl rfl rfl (two1 rfl rfl) hB3 (Nat.le_of_ble_eq_true rfl) ?_; intro w11 hE11 hB3 hz11
        replace hX := hX.mine hE11 hl3
        replace hB6 := hB6.ext hE11 (fun h => by omega)
        replace hM36 := hM36.ext hE11 (fun i e => by first | exact .inr (.inl e) | exact .inr (.inr e))
        refine wl_nil ?_
        refine W_seq ?_
        refine W_region ?_
        refine wl_val (rn_loadB s_57 rfl rfl hB3) ?_
        have hBo := hB6
        refine wl_storeB s_57 rfl rfl rfl (three1 rfl rfl rfl) hB6 rfl ?_; intro w12 hE12 hB6 hz12
        replace hX := hX.mine hE12 hl6
        replace hB3 := hB3.ext hE12 (fun h => by omega)
        replace hM36 := hM36.ext hE12 (fun i e => by first | exact .inr (.inl e) | exact .inr (.inr e))
        refine wl_val (rn_assign (by conv => lhs; whnf)) ?_
        refine wl_nil ?_
        refine W_ret ?_
        exact ⟨_, resR2 (res1_box s_57 rfl hB6 rfl) (res1_tmp rfl), hX, ⟨_, _, by rw [he]; rfl, by rw [he]; show MapR M _ eS1 2 _ _ (kK ks t p) ((kY ks ys ver t p).map eE1); unfold kK kY; rw [if_neg hpe, if_neg hpe, ← putV_eE]; exact hM36.sub (fun i h _ => .inl h)⟩⟩
theorem Ts.grow0 {M : Nat → Prop} {w0 W A : World} {J : (Nat → Prop) → World → Prop} {S : Nat → Prop} (h : Ts M w0 W J S A) : Ts M w0 W J (fun i => S i ∨ (A.heap.size ≤ i ∧ i < A.heap.size)) A := h.less fun i hi => hi.elim id (fun e => absurd e.1 (by omega))
theorem Ts.grow {M F : Nat → Prop} {w0 W A B C : World} {J : (Nat → Prop) → World → Prop} {S : Nat → Prop} (h : Ts M w0 W J (fun i => S i ∨ (A.heap.size ≤ i ∧ i < B.heap.size)) B) (hE : Ext F B C) (hF : ∀ i, F i → S i ∨ (A.heap.size ≤ i ∧ i < B.heap.size)) :
    Ts M w0 W J (fun i => S i ∨ (A.heap.size ≤ i ∧ i < C.heap.size)) C := (h.add hE hF).less fun i hi => by
  rcases hi with hi | hi
  · exact .inl (.inl hi)
  · rcases Nat.lt_or_ge i B.heap.size with h' | h'
    · exact .inl (.inr ⟨hi.1, h'⟩)
    · exact .inr ⟨h', hi.2⟩
/-- A function value of one text that answers p, as long as what M may turn is turned. -/
def TellsM (M : Nat → Prop) (fk : FuncId) (cap : Array Value) (w : World) (p : Str → Bool) : Prop := entersB Tryz.prog fk = true ∧ ∀ (A : World) (x : Str), x.length ≤ 1000000 → Ext M w A → Fn Tryz.prog fk (#[Sv x] ++ cap) A fun u _ => u = .bool (p x)
def eM1 (p : Str × (Str × Int)) : List Value := [Sv p.1, Sv p.2.1, .bool true]
-- (bellman/keep.Store).some$1
set_option maxHeartbeats 1600000 in
theorem some_iter (ks : List Str) (ys : List (Str × Int)) (ver : Int) {u1 u2 : Value} (fk : FuncId) (cap : Array Value) (p : Str → Bool) (M : Nat → Prop) (w0 : World) (b1 b2 : Nat) (hm0 : MapR M w0 eS1 2 u1 u2 ks (ys.map eE1)) (hn : ks.length ≤ 100000) (hkl : ∀ y ∈ ks, y.length ≤ 1000000) (hC1 : IsBox w0 b1 [u1, u2, .int .i64 ver]) (hC2 : IsBox w0 b2 [.func (.func fk) #[] cap]) (h1 : ¬ M b1) (h2 : ¬ M b2) (hp : TellsM M fk cap w0 p) :
    Iter Tryz.prog M w0 (.func (.func 118) #[] #[.pointer (some ⟨b1, 0, none⟩), .pointer (some ⟨b2, 0, none⟩)]) (fun p : Str × (Str × Int) => #[.agg (eM1 p).toArray]) ((ks.zip ys).filter fun q => p q.1) := by
  refine iter_ofS e_118 fun l W J Jx hW hT hY => ?_
  replace hT := hT.all0
  obtain ⟨q1, n1, c1, rfl⟩ := hm0.keys.shape; obtain ⟨q2, n2, c2, rfl⟩ := hm0.vals.shape
  have hlen : ys.length = ks.length := by have := hm0.len; simpa using this
  have ea : (#[Value.func (.yield l) #[] #[]] ++ #[.pointer (some ⟨b1, 0, none⟩), .pointer (some ⟨b2, 0, none⟩)] : Array Value) = [Value.func (.yield l) #[] #[], .pointer (some ⟨b1, 0, none⟩), .pointer (some ⟨b2, 0, none⟩)].toArray := by simp
  rw [ea]
  have hX := Ext.refl Tru W
  have hB1 := hC1.ext hW h1; have hB2 := hC2.ext hW h2
  have hl1 : Mine Tru W b1 := .inl trivial; have hl2 : Mine Tru W b2 := .inl trivial
  refine calls_of_W (R := fun v W' => Ts M w0 W (J ((ks.zip ys).filter fun q => p q.1)) Non W' ∨ Ts M w0 W Jx Non W') Tryz.func118 rfl (by kernel_rfl) rfl ?_
  refine W_seq ?_
  refine W_region ?_
  refine wl_box1 (by conv => lhs; whnf) rfl ?_; intro b3 w1 hb3 hE1 hB3
  have hn1_3 : b1 < b3 := Nat.lt_of_lt_of_le hB1.lt hb3
  have hn2_3 : b2 < b3 := Nat.lt_of_lt_of_le hB2.lt hb3
  have hq3 : W.heap.size ≤ b3 := Nat.le_trans hX.size hb3
  have hl3 : Mine Tru W b3 := .inr hq3
  replace hX := hX.tr hE1
  replace hB1 := hB1.ext hE1 id; replace hB2 := hB2.ext hE1 id
  replace hT := hT.allT hE1
  refine wl_nil ?_
  refine W_seq ?_
  refine W_region ?_
  have hz3 := hB3.lt; have hW2 := hX.size; have hzC2 := hC2.lt
  have hkk : Sl (fun i => (M i ∨ w0.heap.size ≤ i) ∧ i < w1.heap.size) w1 _ 1 (ks.map eS1) := (((hm0.keys.sub (M' := fun i => M i ∨ w0.heap.size ≤ i) (fun i h hi => h.resolve_right (by omega))).ext hW (fun i h => .inl h)).ext hE1 (fun _ h => h.elim)).sub (fun i h _ => h.1)
  have hvv : Sl (fun i => (M i ∨ w0.heap.size ≤ i) ∧ i < w1.heap.size) w1 _ 2 (ys.map eE1) := (((hm0.vals.sub (M' := fun i => M i ∨ w0.heap.size ≤ i) (fun i h hi => h.resolve_right (by omega))).ext hW (fun i h => .inl h)).ext hE1 (fun _ h => h.elim)).sub (fun i h _ => h.1)
  refine wl_val (rn_fieldAddr f_57_0 (by decide) rfl) ?_
  refine wl_val (rn_loadS s_55 (vs := [_, _]) rfl rfl (hB1.part rfl (Nat.le_of_ble_eq_true rfl))) ?_
  refine wl_call e_119 rfl (mall_se w1 ks ys (fun i => (M i ∨ w0.heap.size ≤ i) ∧ i < w1.heap.size) (fun i h => h.2) hkk hvv hlen) ?_; intro v8 w2 hE2 hR2
  replace hX := hX.tr hE2
  replace hB1 := hB1.ext hE2 id; replace hB2 := hB2.ext hE2 id; replace hB3 := hB3.ext hE2 id
  replace hT := hT.allT hE2
  have hIt := hR2; obtain ⟨fi, ci, hfi, _⟩ := id hIt; subst hfi
  have hz38 := hE2.size
  refine wl_nil ?_
  refine W_block ?_   -- block 0
  have hszr := hX.size
  refine W_rangeFunc (M := fun i => (M i ∨ w0.heap.size ≤ i) ∧ i < w1.heap.size) (w0 := w2) (I := fun pre N A => Box N A b2 [.func (.func fk) #[] cap] ∧ Box N A b3 [.func (.yield l) #[] #[]] ∧ Ext Tru W A ∧ MkN W [] N A ∧ (Ts M w0 W (J (pre.filter fun q => p q.1)) (fun i => Al W w2 i ∨ N i) A) ∧ (True)) (X := fun c N A => c = .ret ∧ Ext Tru W A ∧ MkN W [] N A ∧ (Ts M w0 W Jx (fun i => Al W w2 i ∨ N i) A) ∧ (True)) (encs := fun q : Str × (Str × Int) => [Sv q.1, .agg #[Sv q.2.1, .int .i64 q.2.2]]) (xs := ks.zip ys) rfl (hIt) (Ext.refl _ w2) (fun _ => rfl) (fun pre => (Stab.box _ _).and ((Stab.box _ _).and ((Stab.oldM hX.size).and ((Stab.mk _ _).and ((Ts.stabS _ _ _ _ _).and ((Stab.pure _))))))) (fun c => (Stab.pure _).and ((Stab.oldM hX.size).and ((Stab.mk _ _).and ((Ts.stabS _ _ _ _ _).and ((Stab.pure _)))))) ⟨⟨hB2, id⟩, ⟨hB3, id⟩, hX, ⟨Mk.nil, fun r h => by cases h⟩, hT.less (fun i hi => hi.elim id (fun h => h.elim)), trivial⟩ ?_ ?_ ?_
  · rintro l N pre x A hl hN hA hst ⟨hK2, hK3, hXo, hDk, hT, hIr⟩ ⟨post, hpre⟩
    have hB2 := hK2.1
    have hB3 := hK3.1
    have hX := Ext.refl (Yc (fun i => (M i ∨ w0.heap.size ≤ i) ∧ i < w1.heap.size) w2 N) A
    replace hT := Ts.grow0 hT
    refine W_seq ?_
    refine W_region ?_
    refine wl_val (rn_assign (by conv => lhs; whnf)) ?_
    refine wl_nil ?_
    refine W_region ?_
    refine wl_alloc z_161 ?_; intro b5 w3 hb5 hE3 hB5
    have hn2_5 : b2 < b5 := Nat.lt_of_lt_of_le hB2.lt hb5
    have hn3_5 : b3 < b5 := Nat.lt_of_lt_of_le hB3.lt hb5
    have hq5 : A.heap.size ≤ b5 := Nat.le_trans hX.size hb5
    have hl5 : Mine (Yc (fun i => (M i ∨ w0.heap.size ≤ i) ∧ i < w1.heap.size) w2 N) A b5 := .inr hq5
    have ho5 : W.heap.size ≤ b5 := Nat.le_trans hXo.size hb5
    replace hX := hX.tr hE3
    replace hB2 := hB2.ext hE3 id; replace hB3 := hB3.ext hE3 id
    replace hXo := hXo.tr hE3
    replace hDk := hDk.non hE3
    replace hT := hT.grow hE3 (fun _ h => h.elim)
    have hBo := hB5
    refine wl_storeB s_161 rfl rfl rfl (two1 rfl rfl) hB5 rfl ?_; intro w4 hE4 hB5 hz4
    replace hX := hX.mine hE4 hl5
    replace hB2 := hB2.ext hE4 (fun h => by omega); replace hB3 := hB3.ext hE4 (fun h => by omega)
    replace hXo := hXo.mine hE4 (.inl trivial)
    replace hDk := hDk.box hE4 hBo
    replace hT := hT.grow hE4 (fun i e => .inr (by rw [e]; exact ⟨hq5, hBo.lt⟩))
    refine wl_nil ?_
    refine ⟨rfl, hX, fun A2 hE2r hz2r hst2 => ?_⟩
    have hNl := (hN l hl).2
    replace hB2 := hB2.ext hE2r (fun e => hK2.2 (by rw [e]; exact hl))
    replace hB3 := hB3.ext hE2r (fun e => hK3.2 (by rw [e]; exact hl))
    replace hB5 := hB5.ext hE2r (fun e => by omega)
    replace hXo := hXo.mine hE2r (.inr (Nat.le_trans hszr (hN l hl).1)); replace hDk := hDk.lp hE2r hl
    replace hT := hT.grow hE2r (fun i e => .inl (.inr (by rw [e]; exact hl)))
    have hl5 : Mine (Yc (fun i => (M i ∨ w0.heap.size ≤ i) ∧ i < w1.heap.size) w2 N) A2 b5 := .inl ⟨fun h => by have := (hN _ h).2; omega, .inr (by omega)⟩
    have hX := Ext.refl (Yc (fun i => (M i ∨ w0.heap.size ≤ i) ∧ i < w1.heap.size) w2 N) A2
    have hxl : x.1.length ≤ 1000000 := hkl _ (List.of_mem_zip (by rw [hpre]; simp : (x.1, x.2) ∈ ks.zip ys)).1
    refine W_block ?_   -- block 1
    refine W_seq ?_
    refine W_region ?_
    refine wl_val (rn_load1 p_37 rfl hB2 rfl) ?_
    refine wl_val (rn_move (by conv => lhs; whnf)) ?_
    refine wl_tell (s := x.1) rfl hp.1 rfl (hp.2 A2 x.1 hxl hT.w0) ?_; intro w5 hE5
    replace hX := hX.tr hE5
    replace hB2 := hB2.ext hE5 id; replace hB3 := hB3.ext hE5 id; replace hB5 := hB5.ext hE5 id
    replace hXo := hXo.tr hE5
    replace hDk := hDk.non hE5
    replace hT := hT.grow hE5 (fun _ h => h.elim)
    refine wl_val (rn_move (by conv => lhs; whnf)) ?_
    refine wl_split (d := 14) rfl (fun hg14 => ?_) (fun hg14 => ?_)
    · refine wl_yes rfl (congrArg Value.bool hg14) ?_
      refine wl_val (rn_load1 p_178 rfl hB3 rfl) ?_
      refine wl_yes rfl (congrArg Value.bool hg14) ?_
      refine wl_val (rn_move (by conv => lhs; whnf)) ?_
      refine wl_yes rfl (congrArg Value.bool hg14) ?_
      refine wl_val (rn_fieldAddr f_161_0 (by decide) rfl) ?_
      refine wl_yes rfl (congrArg Value.bool hg14) ?_
      refine wl_val (rn_load1 p_9 rfl hB5 rfl) ?_
      refine wl_yes rfl (congrArg Value.bool hg14) ?_
      refine wl_val (rn_build' b_62 rfl rfl (cs := _) rfl) ?_
      refine wl_yes rfl (congrArg Value.bool hg14) ?_
      refine wl_yield rfl rfl (hY (pre.filter fun q => p q.1) x (post.filter fun q => p q.1) _ w5 (by rw [hpre, List.filter_append, List.filter_cons_of_pos (by exact hg14)]) hT) ?_; intro y20 w6 ⟨hE6, hyT, hyF⟩
      replace hX := hX.trans (hE6.mono fun i h => ⟨fun hn => h.1 (.inl (.inr hn)), (Nat.lt_or_ge i w2.heap.size).elim (fun h4 => .inl ⟨h.2, (Nat.lt_or_ge i w1.heap.size).elim id (fun h3 => absurd (Or.inl (Or.inl ⟨Nat.le_trans hW2 h3, h4⟩)) h.1)⟩) .inr⟩)
      replace hXo := hXo.trans (hE6.mono fun _ _ => trivial); replace hDk : MkN W [] N w6 := ⟨Mk.nil, fun r h => by cases h⟩
      replace hB2 := hB2.ext hE6 (fun h => h.2.elim h2 (fun e => by omega)); replace hB3 := hB3.ext hE6 (fun h => h.1 (.inl (.inl ⟨hq3, by omega⟩)))
      refine wl_yes rfl (congrArg Value.bool hg14) ?_
      refine wl_val (rn_not rfl) ?_
      refine wl_val (rn_pickT (congrArg Value.bool hg14) (by conv => lhs; whnf)) ?_
      refine wl_nil ?_
      refine W_cond rfl (fun hc0 => ?_) (fun hc0 => ?_)
      · have hTx := (hyF (by simpa using hc0)).less (S' := fun i => Al W w2 i ∨ N i) (fun i h => .inl h)
        refine W_ret ?_
        exact ⟨hX, rfl, hXo, hDk, hTx, trivial⟩
      · replace hT := hyT (by simpa using hc0)
        refine W_skip ?_
        exact ⟨hX, ⟨hB2, hK2.2⟩, ⟨hB3, hK3.2⟩, hXo, hDk, (by rw [List.filter_append, List.filter_cons_of_pos (by exact hg14), List.filter_nil]; exact hT.less (fun i h => .inl h)), trivial⟩
    · refine wl_no rfl (congrArg Value.bool hg14) ?_
      refine wl_no rfl (congrArg Value.bool hg14) ?_
      refine wl_no rfl (congrArg Value.bool hg14) ?_
      refine wl_no rfl (congrArg Value.bool hg14) ?_
      refine wl_no rfl (congrArg Value.bool hg14) ?_
      refine wl_no rfl (congrArg Value.bool hg14) ?_
      refine wl_no rfl (congrArg Value.bool hg14) ?_
      refine wl_val (rn_pickF (congrArg Value.bool hg14) (by conv => lhs; whnf)) ?_
      refine wl_nil ?_
      refine W_condF rfl ?_
      refine W_skip ?_
      exact ⟨hX, ⟨hB2, hK2.2⟩, ⟨hB3, hK3.2⟩, hXo, hDk, (by rw [List.filter_append, List.filter_cons_of_neg (by rw [hg14]; simp), List.filter_nil, List.append_nil]; exact hT.less (fun i h => .inl h)), trivial⟩
  · rintro N rk w' ⟨hK2, hK3, hXo, hDk, hT, hIr⟩ hN hA hr hrd
    have hB2 := hK2.1
    have hB3 := hK3.1
    have hX := hXo; have hD := hDk.add hrd (Nat.le_trans hszr (hN rk hr).1) hr
    refine hD.leave fun B hB => ?_
    have hB2 := hB2.ext hB (hD.ne hB2)
    have hB3 := hB3.ext hB (hD.ne hB3)
    exact ⟨_, rfl, .inl ((hT.ext hB (fun i hi => .inr (by simp only [List.mem_singleton] at hi; rw [mark_inj hi]; exact hr))).less (fun _ h => h.elim))⟩
  · rintro c N rk w' ⟨rfl, hXo, hDk, hTx, hIr⟩ hN hA hr hrd
    have hX := hXo; have hD := hDk.add hrd (Nat.le_trans hszr (hN rk hr).1) hr
    refine W_ret ?_
    refine hD.leave fun B hB => ?_
    exact ⟨_, rfl, .inr ((hTx.ext hB (fun i hi => .inr (by simp only [List.mem_singleton] at hi; rw [mark_inj hi]; exact hr))).less (fun _ h => h.elim))⟩
end Go.Proofs.YtaddeakfojpdoaaGreatDoorC

/- The store's messages; the law's scan; the example. -/
set_option linter.unusedVariables false
set_option linter.unusedSimpArgs false
set_option maxRecDepth 100000
namespace Go.Proofs.YtaddeakfojpdoaaGreatDoorC
open Go.RowKit
theorem TellsM.ext {M : Nat → Prop} {fk : FuncId} {cap : Array Value} {w w' : World} {p : Str → Bool} (h : TellsM M fk cap w p) (hE : Ext Non w w') : TellsM M fk cap w' p := ⟨h.1, fun A x hx hA => h.2 A x hx ((hE.mono fun _ h => h.elim).trans hA)⟩
-- (bellman/keep.Store).some
theorem ksome_ok (w : World) (ks : List Str) (ys : List (Str × Int)) (ver : Int) {u1 u2 : Value} (M : Nat → Prop) (hM : ∀ i, M i → i < w.heap.size) (hmM : MapR M w eS1 2 u1 u2 ks (ys.map eE1)) (hn : ks.length ≤ 100000) (hkl : ∀ y ∈ ks, y.length ≤ 1000000) (fk : FuncId) (cap : Array Value) (p : Str → Bool) (hp : TellsM M fk cap w p) : Fn Tryz.prog 80 #[.agg #[u1, u2, .int .i64 ver], .func (.func fk) #[] cap] w fun u w' => Iter Tryz.prog M w' u (fun p : Str × (Str × Int) => #[.agg (eM1 p).toArray]) ((ks.zip ys).filter fun q => p q.1) := by
  obtain ⟨q1, n1, c1, rfl⟩ := hmM.keys.shape; obtain ⟨q2, n2, c2, rfl⟩ := hmM.vals.shape
  have hX := Ext.refl Non w
  refine fn_of_W (args := [_, _]) Tryz.func80 rfl (by kernel_rfl) rfl ?_
  refine W_seq ?_
  refine W_region ?_
  refine wl_boxS rfl ?_; intro b2 w1 hb2 hE1 hB2
  have hq2 : w.heap.size ≤ b2 := Nat.le_trans hX.size hb2
  have hl2 : Mine Non w b2 := .inr hq2
  replace hX := hX.tr hE1
  refine wl_box1 (by conv => lhs; whnf) rfl ?_; intro b3 w2 hb3 hE2 hB3
  have hn2_3 : b2 < b3 := Nat.lt_of_lt_of_le hB2.lt hb3
  have hq3 : w.heap.size ≤ b3 := Nat.le_trans hX.size hb3
  have hl3 : Mine Non w b3 := .inr hq3
  replace hX := hX.tr hE2
  replace hB2 := hB2.ext hE2 id
  refine wl_val (rn_assign (by conv => lhs; whnf)) ?_
  refine wl_nil ?_
  refine W_seq ?_
  refine W_region ?_
  refine wl_val (rn_makeFunc rfl) ?_
  refine wl_val (rn_assign (by conv => lhs; whnf)) ?_
  refine wl_nil ?_
  refine W_ret ?_
  exact ⟨_, resR1 (res1_tmp rfl), hX, some_iter ks ys ver fk cap p M _ b2 b3 (hmM.ext hX (fun _ h => h.elim)) hn hkl hB2 hB3 (fun h => by have := hM _ h; omega) (fun h => by have := hM _ h; omega) (hp.ext hX)⟩
-- (bellman/keep.Store).Scan$1
theorem kscan1_ok (w : World) (f t : Str) (b : Nat) (hC1 : IsBox w b [Sv f]) (hnf : f.length ≤ 1000000) (hnt : t.length ≤ 1000000) : Fn Tryz.prog 81 #[Sv t, .pointer (some ⟨b, 0, none⟩)] w fun u w' => u = .bool (matchB f t) := by
  have hX := Ext.refl Non w
  refine fn_of_W (args := [_, _]) Tryz.func81 rfl (by kernel_rfl) rfl ?_
  refine W_seq ?_
  refine W_region ?_
  refine wl_val (rn_assign (by conv => lhs; whnf)) ?_
  refine wl_nil ?_
  refine W_seq ?_
  refine W_region ?_
  refine wl_val (rn_load1 p_9 rfl (hC1.ext hX id) rfl) ?_
  refine wl_val (rn_move (by conv => lhs; whnf)) ?_
  refine wl_call e_82 rfl (tmatch_ok w f t hnf hnt) ?_; intro v6 w1 hE1 hR1
  replace hX := hX.tr hE1
  subst hR1
  refine wl_val (rn_assign (by conv => lhs; whnf)) ?_
  refine wl_nil ?_
  refine W_ret ?_
  exact ⟨_, resR1 (res1_tmp rfl), hX, rfl⟩
-- (bellman/keep.Store).Scan
theorem kscan_ok (w : World) (ks : List Str) (ys : List (Str × Int)) (ver : Int) {u1 u2 : Value} (M : Nat → Prop) (hM : ∀ i, M i → i < w.heap.size) (hmM : MapR M w eS1 2 u1 u2 ks (ys.map eE1)) (hn : ks.length ≤ 100000) (hkl : ∀ y ∈ ks, y.length ≤ 1000000) (f : Str) (hnf : f.length ≤ 1000000) : Fn Tryz.prog 51 #[.agg #[u1, u2, .int .i64 ver], Sv f] w fun u w' => Iter Tryz.prog M w' u (fun p : Str × (Str × Int) => #[.agg (eM1 p).toArray]) ((ks.zip ys).filter fun q => matchB f q.1) := by
  obtain ⟨q1, n1, c1, rfl⟩ := hmM.keys.shape; obtain ⟨q2, n2, c2, rfl⟩ := hmM.vals.shape
  have hX := Ext.refl Non w
  refine fn_of_W (args := [_, _]) Tryz.func51 rfl (by kernel_rfl) rfl ?_
  refine W_seq ?_
  refine W_region ?_
  refine wl_boxS rfl ?_; intro b2 w1 hb2 hE1 hB2
  have hq2 : w.heap.size ≤ b2 := Nat.le_trans hX.size hb2
  have hl2 : Mine Non w b2 := .inr hq2
  replace hX := hX.tr hE1
  refine wl_box1 (by conv => lhs; whnf) rfl ?_; intro b3 w2 hb3 hE2 hB3
  have hn2_3 : b2 < b3 := Nat.lt_of_lt_of_le hB2.lt hb3
  have hq3 : w.heap.size ≤ b3 := Nat.le_trans hX.size hb3
  have hl3 : Mine Non w b3 := .inr hq3
  replace hX := hX.tr hE2
  replace hB2 := hB2.ext hE2 id
  refine wl_val (rn_assign (by conv => lhs; whnf)) ?_
  refine wl_nil ?_
  refine W_seq ?_
  refine W_region ?_
  refine wl_val (rn_loadB s_57 rfl rfl hB2) ?_
  refine wl_val (rn_makeFunc rfl) ?_
  refine wl_call e_80 rfl (ksome_ok w2 ks ys ver M (fun i h => Nat.lt_of_lt_of_le (hM i h) hX.size) (hmM.ext hX (fun _ h => h.elim)) hn hkl 81 #[.pointer (some ⟨b3, 0, none⟩)] (matchB f) ⟨e_81, fun A x hx hA => kscan1_ok A f x b3 (hB3.ext hA (fun h => by have := hM _ h; omega)) hnf hx⟩) ?_; intro v7 w3 hE3 hR3
  replace hX := hX.tr hE3
  replace hB2 := hB2.ext hE3 id; replace hB3 := hB3.ext hE3 id
  have hIt := hR3; obtain ⟨fi, ci, hfi, _⟩ := id hIt; subst hfi
  refine wl_val (rn_assign (by conv => lhs; whnf)) ?_
  refine wl_nil ?_
  refine W_ret ?_
  exact ⟨_, resR1 (res1_tmp rfl), hX, hIt⟩
end Go.Proofs.YtaddeakfojpdoaaGreatDoorC

/- The model's state in memory. -/
set_option linter.unusedVariables false
set_option linter.unusedSimpArgs false
namespace Go.Proofs.YtaddeakfojpdoaaGreatDoorC
open Go.RowKit
theorem putW_rel {κ α β : Type} [DecidableEq κ] {lt : κ → κ → Bool} {ks : List κ} {l : κ} {vs : List α} {ps : List β} {k : α} {vk : β} {R : α → β → Prop} (h1 : vs.length = ks.length) (h2 : ps.length = ks.length) (hk : ∀ (i : Nat) (t : α) (p : β), vs[i]? = some t → ps[i]? = some p → R t p) (hv : R k vk) :
    ∀ (i : Nat) (t : α) (p : β), (putW lt ks l vs k)[i]? = some t → (putW lt ks l ps vk)[i]? = some p → R t p := by
  intro i t p
  have hb := lb_le (lt := lt) ks l
  unfold putW
  by_cases ha : isAt lt ks l = true
  · rw [if_pos ha, if_pos ha]
    have hlt := isAt_lt ha
    intro h3 h4
    rw [List.getElem?_set] at h3 h4
    by_cases e : lb lt ks l = i
    · rw [if_pos e, if_pos (by omega)] at h3 h4
      cases h3; cases h4; exact hv
    · rw [if_neg e] at h3 h4; exact hk i t p h3 h4
  · rw [if_neg ha, if_neg ha]
    intro h3 h4
    rw [List.getElem?_append, List.length_take, Nat.min_eq_left (by omega)] at h3 h4
    by_cases c : i < lb lt ks l
    · rw [if_pos c, List.getElem?_take_of_lt c] at h3 h4; exact hk i t p h3 h4
    · rw [if_neg c] at h3 h4
      cases hj : i - lb lt ks l with
      | zero => rw [hj] at h3 h4; simp only [List.getElem?_cons_zero, Option.some.injEq] at h3 h4; subst h3; subst h4; exact hv
      | succ j => rw [hj] at h3 h4; rw [List.getElem?_cons_succ, List.getElem?_drop] at h3 h4; exact hk _ t p h3 h4
/-- What the model keeps. -/
structure Md where
  subs : Int
  t : Tr
  len : Int
  nks : List Int
  room : Int
  bks : List Int
  bqs : List (List MsgD × Int)
  ks : List Str
  ys : List (Str × Int)
  ver : Int
def Md.boxOf (d : Md) (sub : Int) : List MsgD × Int := if isAt ltI d.bks sub = true then (d.bqs[lb ltI d.bks sub]?).getD ([], 0) else ([], 0)
def Md.setBox (d : Md) (sub : Int) (q : List MsgD × Int) : Md := { d with bks := putK ltI d.bks sub, bqs := putW ltI d.bks sub d.bqs q }
/-- A message offered: the state, and how many were taken and weren't. -/
def offS (m : MsgD) (x : Md × Int × Int) (sub : Int) : Md × Int × Int :=
  if ((x.1.boxOf sub).1.length : Int) < x.1.room then (x.1.setBox sub ((x.1.boxOf sub).1 ++ [m], (x.1.boxOf sub).2), x.2.1 + 1, x.2.2)
  else (x.1.setBox sub ((x.1.boxOf sub).1, (x.1.boxOf sub).2 + 1), x.2.1, x.2.2 + 1)
def zeroMsg : MsgD := ⟨[], [], false⟩
def Md.publish (d : Md) (o : OpD) : Md × AnsD :=
  if kErr o.text o.payload = 0 then
    let r := (reach d.t o.text).foldl (offS ⟨o.text, o.payload, false⟩) (d, 0, 0)
    (if o.keep = true then { r.1 with ks := kK d.ks o.text o.payload, ys := kY d.ks d.ys d.ver o.text o.payload, ver := d.ver + 1 } else r.1, ⟨0, r.2.1, r.2.2, zeroMsg⟩)
  else (d, ⟨kErr o.text o.payload, 0, 0, zeroMsg⟩)
def Md.scan (d : Md) (f : Str) : List (Str × (Str × Int)) := (d.ks.zip d.ys).filter fun q => matchB f q.1
def keptMsg (q : Str × (Str × Int)) : MsgD := ⟨q.1, q.2.1, true⟩
def Md.subscribe (d : Md) (o : OpD) : Md × AnsD :=
  let r := (d.scan o.text).foldl (fun x q => offS (keptMsg q) x o.sub) ({ d with t := d.t.put (spl 47 o.text) o.sub, len := d.len + 1, nks := putK ltI d.nks o.sub }, 0, 0)
  (r.1, ⟨0, r.2.1, r.2.2, zeroMsg⟩)
def Md.poll (d : Md) (sub : Int) : Md × AnsD :=
  match (d.boxOf sub).1 with
  | [] => (d, ⟨7, 0, 0, zeroMsg⟩)
  | m :: q => (d.setBox sub (q, (d.boxOf sub).2), ⟨0, 0, 0, m⟩)
/-! ### in memory -/
def QsM (M : Nat → Prop) (w : World) (bvs : List (List Value)) (bqs : List (List MsgD × Int)) : Prop := ∀ (i : Nat) (r : List Value) (q : List MsgD × Int), bvs[i]? = some r → bqs[i]? = some q → ∃ a n c, r = [.slice a n c, .int .i64 q.2] ∧ Sl M w (.slice a n c) 3 (q.1.map MsgD.enc)
def MdM (M : Nat → Prop) (w : World) (d : Md) (cs : List Value) : Prop :=
  ∃ (pa : Option Addr) (q1 : Option Addr) (l1 c1 : Nat) (q2 : Option Addr) (l2 c2 : Nat) (q3 : Option Addr) (l3 c3 : Nat) (q4 : Option Addr) (l4 c4 : Nat) (q5 : Option Addr) (l5 c5 : Nat) (q6 : Option Addr) (l6 c6 : Nat) (nvs bvs : List (List Value)),
    cs = [.int .i64 d.subs, .pointer pa, .int .i64 d.len, .slice q1 l1 c1, .slice q2 l2 c2, .int .i64 d.room, .slice q3 l3 c3, .slice q4 l4 c4, .slice q5 l5 c5, .slice q6 l6 c6, .int .i64 d.ver] ∧
    TrM M w d.t (.pointer pa) ∧ MapR M w eI1 2 (.slice q1 l1 c1) (.slice q2 l2 c2) d.nks nvs ∧ (∀ r ∈ nvs, ∀ u ∈ r, u.oneCell' = true) ∧ MapR M w eI1 2 (.slice q3 l3 c3) (.slice q4 l4 c4) d.bks bvs ∧ d.bqs.length = d.bks.length ∧ QsM M w bvs d.bqs ∧ MapR M w eS1 2 (.slice q5 l5 c5) (.slice q6 l6 c6) d.ks (d.ys.map eE1)
theorem QsM.ext {M M' : Nat → Prop} {w w' : World} {bvs : List (List Value)} {bqs : List (List MsgD × Int)} (h : QsM M w bvs bqs) (hE : Ext M' w w') (hm : ∀ i, M' i → M i) : QsM M w' bvs bqs := fun i r q h1 h2 => by
  obtain ⟨a, n, c, e, hs⟩ := h i r q h1 h2; exact ⟨a, n, c, e, hs.ext hE hm⟩
theorem QsM.sub {M M' : Nat → Prop} {w : World} {bvs : List (List Value)} {bqs : List (List MsgD × Int)} (h : QsM M w bvs bqs) (hm : ∀ i, M' i → i < w.heap.size → M i) : QsM M' w bvs bqs := fun i r q h1 h2 => by
  obtain ⟨a, n, c, e, hs⟩ := h i r q h1 h2; exact ⟨a, n, c, e, hs.sub hm⟩
theorem QsM.one {M : Nat → Prop} {w : World} {bvs : List (List Value)} {bqs : List (List MsgD × Int)} (h : QsM M w bvs bqs) (hl : bqs.length = bvs.length) : ∀ r ∈ bvs, ∀ u ∈ r, u.oneCell' = true := by
  intro r hr
  obtain ⟨i, hi⟩ := List.getElem?_of_mem hr
  have hlt := (List.getElem?_eq_some_iff.1 hi).1
  obtain ⟨a, n, c, rfl, _⟩ := h i r _ hi (List.getElem?_eq_getElem (by omega))
  exact two1 rfl rfl
theorem MdM.ext {M M' : Nat → Prop} {w w' : World} {d : Md} {cs : List Value} (h : MdM M w d cs) (hE : Ext M' w w') (hm : ∀ i, M' i → M i) : MdM M w' d cs := by
  obtain ⟨pa, q1, l1, c1, q2, l2, c2, q3, l3, c3, q4, l4, c4, q5, l5, c5, q6, l6, c6, nvs, bvs, e, h1, h2, h3, h4, h5, h6, h7⟩ := h
  exact ⟨pa, q1, l1, c1, q2, l2, c2, q3, l3, c3, q4, l4, c4, q5, l5, c5, q6, l6, c6, nvs, bvs, e, h1.ext hE hm, h2.ext hE hm, h3, h4.ext hE hm, h5, h6.ext hE hm, h7.ext hE hm⟩
theorem MdM.sub {M M' : Nat → Prop} {w : World} {d : Md} {cs : List Value} (h : MdM M w d cs) (hm : ∀ i, M' i → i < w.heap.size → M i) : MdM M' w d cs := by
  obtain ⟨pa, q1, l1, c1, q2, l2, c2, q3, l3, c3, q4, l4, c4, q5, l5, c5, q6, l6, c6, nvs, bvs, e, h1, h2, h3, h4, h5, h6, h7⟩ := h
  exact ⟨pa, q1, l1, c1, q2, l2, c2, q3, l3, c3, q4, l4, c4, q5, l5, c5, q6, l6, c6, nvs, bvs, e, h1.sub hm, h2.sub hm, h3, h4.sub hm, h5, h6.sub hm, h7.sub hm⟩
theorem MdM.one {M : Nat → Prop} {w : World} {d : Md} {cs : List Value} (h : MdM M w d cs) : ∀ v ∈ cs, v.oneCell' = true := by
  obtain ⟨pa, q1, l1, c1, q2, l2, c2, q3, l3, c3, q4, l4, c4, q5, l5, c5, q6, l6, c6, nvs, bvs, rfl, _⟩ := h
  intro v hv
  simp only [List.mem_cons, List.not_mem_nil, or_false] at hv
  rcases hv with rfl | rfl | rfl | rfl | rfl | rfl | rfl | rfl | rfl | rfl | rfl <;> rfl
theorem MdM.len {M : Nat → Prop} {w : World} {d : Md} {cs : List Value} (h : MdM M w d cs) : cs.length = 11 := by
  obtain ⟨pa, q1, l1, c1, q2, l2, c2, q3, l3, c3, q4, l4, c4, q5, l5, c5, q6, l6, c6, nvs, bvs, rfl, _⟩ := h; rfl
theorem setBox_lens {d : Md} (h : d.bqs.length = d.bks.length) (sub : Int) (q : List MsgD × Int) : (d.setBox sub q).bqs.length = (d.setBox sub q).bks.length := putW_len h
theorem msgs_one (l : List MsgD) : ∀ r ∈ l.map MsgD.enc, ∀ u ∈ r, u.oneCell' = true := by
  intro r hr u hu; obtain ⟨x, _, rfl⟩ := List.mem_map.1 hr; exact MsgD.one _ _ hu
/-- A box set anew, in memory. -/
theorem QsM.put {M : Nat → Prop} {w : World} {d : Md} {bvs : List (List Value)} (h : QsM M w bvs d.bqs) (hl : d.bqs.length = d.bks.length) (hl2 : bvs.length = d.bks.length) (sub : Int) (q : List MsgD × Int) {a : Option Addr} {n c : Nat} (hs : Sl M w (.slice a n c) 3 (q.1.map MsgD.enc)) :
    QsM M w (putV ltI d.bks sub bvs [.slice a n c, .int .i64 q.2]) (d.setBox sub q).bqs := fun i r p h1 h2 => putW_rel (R := fun r (p : List MsgD × Int) => ∃ a n c, r = [.slice a n c, .int .i64 p.2] ∧ Sl M w (.slice a n c) 3 (p.1.map MsgD.enc)) hl2 hl (fun i t p h1 h2 => h i t p h1 h2) ⟨a, n, c, rfl, hs⟩ i r p h1 h2
end Go.Proofs.YtaddeakfojpdoaaGreatDoorC
