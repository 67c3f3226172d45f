/- The store of what is kept: putting, getting. -/
import Derived.Test.YthcclgoidchkdaaDoorSet8
import Derived.Test.YthcclgoidchkdaaDoorMat1
set_option linter.unusedVariables false
set_option linter.unusedSimpArgs false
set_option maxRecDepth 100000
namespace Go.Proofs.YthcclgoidchkdaaDoorC
open Go.RowKit
def kErr (t p : Str) : Int := if topicB t = false then 2 else if p.length > 16 then 1 else 0
def kK (ks : List Str) (t p : Str) : List Str := if p = [] then dropK ltS ks t else putK ltS ks t
def kY (ks : List Str) (ys : List (Str × Int)) (ver : Int) (t p : Str) : List (Str × Int) := if p = [] then dropV ltS ks t ys else putW ltS ks t ys (p, ver + 1)
def kGet (ks : List Str) (ys : List (Str × Int)) (t : Str) : Str × Int := if isAt ltS ks t = true then (ys[lb ltS ks t]?).getD ([], 0) else ([], 0)
theorem eE_one2 (ys : List (Str × Int)) : ∀ r ∈ ys.map eE1, ∀ u ∈ r, u.oneCell' = true := eE_one ys
theorem putV_eE {ks : List Str} {x : Str} {ys : List (Str × Int)} {y : Str × Int} : putV ltS ks x (ys.map eE1) [Sv y.1, .int .i64 y.2] = (putW ltS ks x ys y).map eE1 := by
  rw [← putW_map]; rfl
theorem kGet_no {ks : List Str} {ys : List (Str × Int)} {t : Str} (h : isAt ltS ks t = false) : kGet ks ys t = ([], 0) := by unfold kGet; rw [if_neg (by rw [h]; simp)]
theorem kGet_yes {ks : List Str} {ys : List (Str × Int)} {t : Str} {y : Str × Int} (h : isAt ltS ks t = true) (hy : ys[lb ltS ks t]? = some y) : kGet ks ys t = y := by unfold kGet; rw [if_pos h, hy]; rfl
theorem kget_of {ks : List Str} {ys : List (Str × Int)} {t : Str} {p q : Value} (hlen : ys.length = ks.length) (h1 : isAt ltS ks t = true → (ys.map eE1)[lb ltS ks t]? = some [p, q]) (h2 : isAt ltS ks t = false → p = Sv [] ∧ q = .int .i64 0) :
    p = Sv (kGet ks ys t).1 ∧ q = .int .i64 (kGet ks ys t).2 := by
  cases h : isAt ltS ks t with
  | false => rw [kGet_no h]; exact h2 h
  | true =>
    have h3 := h1 h
    obtain ⟨y, hy⟩ : ∃ y, ys[lb ltS ks t]? = some y := ⟨_, List.getElem?_eq_getElem (by rw [hlen]; exact isAt_lt h)⟩
    rw [kGet_yes h hy]
    rw [eE_at hy] at h3
    simp only [Option.some.injEq, List.cons.injEq, and_true] at h3
    exact ⟨h3.1.symm, h3.2.symm⟩
-- (bellman/keep.Store).Put
set_option maxHeartbeats 800000 in
theorem kput_ok (w : World) (ks : List Str) (ys : List (Str × Int)) (ver : Int) {u1 u2 : Value} (M : Nat → Prop) (hM : ∀ i, M i → i < w.heap.size) (hmM : MapR M w eS1 2 u1 u2 ks (ys.map eE1)) (hord : Sorted ltS ks) (hn : ks.length ≤ 100000) (t p : Str) (hnt : t.length ≤ 1000000) (hnp : p.length ≤ 1000000) (hv : 0 ≤ ver ∧ ver ≤ 1000000) : Fn Tryd.prog 33 #[.agg #[u1, u2, .int .i64 ver], Sv t, Sv p] w fun u w' => ∃ x1 x2, u = .tuple #[.agg #[x1, x2, .int .i64 (if kErr t p = 0 then ver + 1 else ver)], .int .i64 (kErr t p)] ∧ MapR M w' eS1 2 x1 x2 (if kErr t p = 0 then kK ks t p else ks) ((if kErr t p = 0 then kY ks ys ver t p else ys).map eE1) := by
  have hm := hmM.sub (M' := Non) (fun _ h _ => h.elim)
  obtain ⟨q1, n1, c1, rfl⟩ := hm.keys.shape; obtain ⟨q2, n2, c2, rfl⟩ := hm.vals.shape
  have hlen : ys.length = ks.length := by have := hm.len; simpa using this
  have hX := Ext.refl Non w
  refine fn_of_W (args := [_, _, _]) Tryd.func33 rfl (by kernel_rfl) rfl ?_
  refine W_seq ?_
  refine W_region ?_
  refine wl_boxS rfl ?_; intro b3 w1 hb3 hE1 hB3
  have hq3 : w.heap.size ≤ b3 := Nat.le_trans hX.size hb3
  have hl3 : Mine Non w b3 := .inr hq3
  replace hX := hX.tr hE1
  refine wl_alloc z_74 ?_; intro b6 w2 hb6 hE2 hB6
  have hn3_6 : b3 < b6 := Nat.lt_of_lt_of_le hB3.lt hb6
  have hq6 : w.heap.size ≤ b6 := Nat.le_trans hX.size hb6
  have hl6 : Mine Non w b6 := .inr hq6
  replace hX := hX.tr hE2
  replace hB3 := hB3.ext hE2 id
  refine wl_val (rn_assign (by conv => lhs; whnf)) ?_
  refine wl_nil ?_
  refine W_seq ?_
  refine W_block ?_   -- block 0
  refine W_seq ?_
  refine W_region ?_
  refine wl_val (rn_move (by conv => lhs; whnf)) ?_
  refine wl_call e_78 rfl (ttopic_ok w2 t hnt) ?_; intro v10 w3 hE3 hR3
  replace hX := hX.tr hE3
  replace hB3 := hB3.ext hE3 id; replace hB6 := hB6.ext hE3 id
  subst hR3
  refine wl_val (rn_not rfl) ?_
  refine wl_val (rn_assign (by conv => lhs; whnf)) ?_
  refine wl_nil ?_
  refine W_cond rfl (fun hc0 => ?_) (fun hc0 => ?_)
  · have he : kErr t p = 2 := by unfold kErr; rw [if_pos (by simpa using hc0)]
    refine W_seq ?_
    refine W_region ?_
    refine wl_val (rn_loadB s_74 rfl rfl hB3) ?_
    refine wl_storeB s_74 rfl rfl rfl (three1 rfl rfl rfl) hB6 rfl ?_; intro w4 hE4 hB6 hz4
    replace hX := hX.mine hE4 hl6
    replace hB3 := hB3.ext hE4 (fun h => by omega)
    refine wl_val (rn_assign (by conv => lhs; whnf)) ?_
    refine wl_nil ?_
    refine W_ret ?_
    exact ⟨_, resR2 (res1_box s_74 rfl hB6 rfl) (res1_tmp rfl), hX, ⟨_, _, by rw [he]; rfl, by rw [he]; exact hmM.ext hX (fun _ h => h.elim)⟩⟩
  · have ht : topicB t = true := by simpa using hc0
    refine W_seq ?_
    refine W_region ?_
    refine wl_val (rn_move (by conv => lhs; whnf)) ?_
    refine wl_val (rn_slen us_9 rfl) ?_
    refine wl_val (rn_gtr rfl rfl) ?_
    refine wl_val (rn_assign (by conv => lhs; whnf)) ?_
    refine wl_nil ?_
    refine W_cond rfl (fun hc1 => ?_) (fun hc1 => ?_)
    · have he : kErr t p = 1 := by unfold kErr; rw [if_neg (by rw [ht]; simp), if_pos (by have := of_decide_eq_true hc1; omega)]
      refine W_seq ?_
      refine W_region ?_
      refine wl_val (rn_loadB s_74 rfl rfl hB3) ?_
      refine wl_storeB s_74 rfl rfl rfl (three1 rfl rfl rfl) hB6 rfl ?_; intro w5 hE5 hB6 hz5
      replace hX := hX.mine hE5 hl6
      replace hB3 := hB3.ext hE5 (fun h => by omega)
      refine wl_val (rn_assign (by conv => lhs; whnf)) ?_
      refine wl_nil ?_
      refine W_ret ?_
      exact ⟨_, resR2 (res1_box s_74 rfl hB6 rfl) (res1_tmp rfl), hX, ⟨_, _, by rw [he]; rfl, by rw [he]; exact hmM.ext hX (fun _ h => h.elim)⟩⟩
    · have he : kErr t p = 0 := by unfold kErr; rw [if_neg (by rw [ht]; simp), if_neg (by have := of_decide_eq_false hc1; omega)]
      refine W_skip ?_
      refine W_seq ?_
      refine W_region ?_
      have hm3 : MapR (fun i => M i ∨ i = b3 ∨ i = b6) w eS1 2 _ _ ks (ys.map eE1) := hmM.sub (fun i h hi => by rcases h with h | h | h; exact h; omega; omega)
      refine wl_val (rn_fieldAddr f_74_1 (by decide) rfl) ?_
      refine wl_val (rn_load1 p_3 rfl hB3 rfl) ?_
      refine wl_val (rn_add rfl rfl (by omega)) ?_
      refine wl_val (rn_fieldAddr f_74_1 (by decide) rfl) ?_
      refine wl_store1 (b := b3) p_3 rfl (by conv => lhs; whnf) rfl rfl hB3 (Nat.le_of_ble_eq_true rfl) ?_; intro w6 hE6 hB3 hz6
      replace hX := hX.mine hE6 hl3
      replace hB6 := hB6.ext hE6 (fun h => by omega)
      refine wl_nil ?_
      refine W_seq ?_
      refine W_seq ?_
      refine W_region ?_
      refine wl_val (rn_move (by conv => lhs; whnf)) ?_
      refine wl_val (rn_seql rfl rfl) ?_
      refine wl_nil ?_
      refine W_cond rfl (fun hc2 => ?_) (fun hc2 => ?_)
      · have hpe : p = [] := of_decide_eq_true hc2
        refine W_region ?_
        refine wl_val (rn_fieldAddr f_74_0 (by decide) rfl) ?_
        refine wl_val (rn_loadS s_72 (vs := [_, _]) rfl rfl (hB3.part rfl (Nat.le_of_ble_eq_true rfl))) ?_
        refine wl_val (rn_move (by conv => lhs; whnf)) ?_
        have hsz := hX.size; have hz3 := hB3.lt; have hz6 := hB6.lt
        refine wl_call e_79 rfl (mdrop_se w6 (fun i => M i ∨ i = b3 ∨ i = b6) (fun i h => by rcases h with h | h | h; exact Nat.lt_of_lt_of_le (hM i h) hX.size; rw [h]; exact hB3.lt; rw [h]; exact hB6.lt) ks (ys.map eE1) t (hm3.ext hX (fun _ h => h.elim)) hord (by omega) (eE_one ys)) ?_; intro v27 w7 hE7 hR7
        replace hX := hX.tr hE7
        replace hB3 := hB3.ext hE7 id; replace hB6 := hB6.ext hE7 id
        obtain ⟨x1, x2, rfl, hM27⟩ := hR7; obtain ⟨e1, l1, g1, rfl⟩ := id hM27.keys.shape; obtain ⟨e2, l2, g2, rfl⟩ := id hM27.vals.shape
        refine wl_val (rn_fieldAddr f_74_0 (by decide) rfl) ?_
        have hBo := hB3
        refine wl_storeP (b := b3) s_72 rfl rfl rfl (two1 rfl rfl) hB3 (Nat.le_of_ble_eq_true rfl) ?_; intro w8 hE8 hB3 hz8
        replace hX := hX.mine hE8 hl3
        replace hB6 := hB6.ext hE8 (fun h => by omega)
        replace hM27 := hM27.ext hE8 (fun i e => by first | exact .inr (.inl e) | exact .inr (.inr e))
        refine wl_nil ?_
        refine W_seq ?_
        refine W_region ?_
        refine wl_val (rn_loadB s_74 rfl rfl hB3) ?_
        have hBo := hB6
        refine wl_storeB s_74 rfl rfl rfl (three1 rfl rfl rfl) hB6 rfl ?_; intro w9 hE9 hB6 hz9
        replace hX := hX.mine hE9 hl6
        replace hB3 := hB3.ext hE9 (fun h => by omega)
        replace hM27 := hM27.ext hE9 (fun i e => by first | exact .inr (.inl e) | exact .inr (.inr e))
        refine wl_val (rn_assign (by conv => lhs; whnf)) ?_
        refine wl_nil ?_
        refine W_ret ?_
        exact ⟨_, resR2 (res1_box s_74 rfl hB6 rfl) (res1_tmp rfl), hX, ⟨_, _, by rw [he]; rfl, by rw [he]; show MapR M _ eS1 2 _ _ (kK ks t p) ((kY ks ys ver t p).map eE1); unfold kK kY; rw [if_pos hpe, if_pos hpe, ← dropV_map]; exact hM27.sub (fun i h _ => .inl h)⟩⟩
      · have hpe : ¬ p = [] := of_decide_eq_false hc2
        refine W_region ?_
        refine wl_val (rn_fieldAddr f_74_0 (by decide) rfl) ?_
        refine wl_val (rn_loadS s_72 (vs := [_, _]) rfl rfl (hB3.part rfl (Nat.le_of_ble_eq_true rfl))) ?_
        refine wl_val (rn_move (by conv => lhs; whnf)) ?_
        refine wl_val (rn_move (by conv => lhs; whnf)) ?_
        refine wl_val (rn_fieldAddr f_74_1 (by decide) rfl) ?_
        refine wl_val (rn_load1 p_3 rfl hB3 rfl) ?_
        refine wl_val (rn_build' b_134 rfl rfl (cs := _) rfl) ?_
        have hsz := hX.size; have hz3 := hB3.lt; have hz6 := hB6.lt
        refine wl_call e_80 rfl (mput_se w6 ks (ys.map eE1) t (hm.ext hX (fun _ h => h)) hord (by omega) (eE_one ys) (Sv p) (.int .i64 (ver + 1)) rfl rfl) ?_; intro v36 w10 hE10 hR10
        replace hX := hX.tr hE10
        replace hB3 := hB3.ext hE10 id; replace hB6 := hB6.ext hE10 id
        obtain ⟨x1, x2, rfl, hM36⟩ := hR10; obtain ⟨e1, l1, g1, rfl⟩ := id hM36.keys.shape; obtain ⟨e2, l2, g2, rfl⟩ := id hM36.vals.shape
        replace hM36 := hM36.sub (M' := (fun i => M i ∨ i = b3 ∨ i = b6)) (fun i h _ => by show i < _; rcases h with h | h | h; have := hM i h; omega; omega; omega)
        refine wl_val (rn_fieldAddr f_74_0 (by decide) rfl) ?_
        have hBo := hB3
        refine wl_storeP (b := b3) s_72 rfl rfl rfl (two1 rfl rfl) hB3 (Nat.le_of_ble_eq_true rfl) ?_; intro w11 hE11 hB3 hz11
        replace hX := hX.mine hE11 hl3
        replace hB6 := hB6.ext hE11 (fun h => by omega)
        replace hM36 := hM36.ext hE11 (fun i e => by first | exact .inr (.inl e) | exact .inr (.inr e))
        refine wl_nil ?_
        refine W_seq ?_
        refine W_region ?_
        refine wl_val (rn_loadB s_74 rfl rfl hB3) ?_
        have hBo := hB6
        refine wl_storeB s_74 rfl rfl rfl (three1 rfl rfl rfl) hB6 rfl ?_; intro w12 hE12 hB6 hz12
        replace hX := hX.mine hE12 hl6
        replace hB3 := hB3.ext hE12 (fun h => by omega)
        replace hM36 := hM36.ext hE12 (fun i e => by first | exact .inr (.inl e) | exact .inr (.inr e))
        refine wl_val (rn_assign (by conv => lhs; whnf)) ?_
        refine wl_nil ?_
        refine W_ret ?_
        exact ⟨_, resR2 (res1_box s_74 rfl hB6 rfl) (res1_tmp rfl), hX, ⟨_, _, by rw [he]; rfl, by rw [he]; show MapR M _ eS1 2 _ _ (kK ks t p) ((kY ks ys ver t p).map eE1); unfold kK kY; rw [if_neg hpe, if_neg hpe, ← putV_eE]; exact hM36.sub (fun i h _ => .inl h)⟩⟩
-- (bellman/keep.Store).Get
theorem kget_ok (w : World) (ks : List Str) (ys : List (Str × Int)) (ver : Int) {u1 u2 : Value} (hm : MapR Non w eS1 2 u1 u2 ks (ys.map eE1)) (hord : Sorted ltS ks) (hn : ks.length ≤ 100000) (t : Str) : Fn Tryd.prog 36 #[.agg #[u1, u2, .int .i64 ver], Sv t] w fun u w' => u = .tuple #[Sv (kGet ks ys t).1, .int .i64 (kGet ks ys t).2, .bool (isAt ltS ks t)] := by
  obtain ⟨q1, n1, c1, rfl⟩ := hm.keys.shape; obtain ⟨q2, n2, c2, rfl⟩ := hm.vals.shape
  have hlen : ys.length = ks.length := by have := hm.len; simpa using this
  have hX := Ext.refl Non w
  refine fn_of_W (args := [_, _]) Tryd.func36 rfl (by kernel_rfl) rfl ?_
  refine W_seq ?_
  refine W_region ?_
  refine wl_boxS rfl ?_; intro b2 w1 hb2 hE1 hB2
  have hq2 : w.heap.size ≤ b2 := Nat.le_trans hX.size hb2
  have hl2 : Mine Non w b2 := .inr hq2
  replace hX := hX.tr hE1
  refine wl_val (rn_assign (by conv => lhs; whnf)) ?_
  refine wl_val (rn_assign (by conv => lhs; whnf)) ?_
  refine wl_val (rn_assign (by conv => lhs; whnf)) ?_
  refine wl_nil ?_
  refine W_seq ?_
  refine W_region ?_
  refine wl_val (rn_fieldAddr f_74_0 (by decide) rfl) ?_
  refine wl_val (rn_loadS s_72 (vs := [_, _]) rfl rfl (hB2.part rfl (Nat.le_of_ble_eq_true rfl))) ?_
  refine wl_val (rn_move (by conv => lhs; whnf)) ?_
  refine wl_call e_84 rfl (mget_se w1 ks (ys.map eE1) t (hm.ext hX (fun _ h => h)) hord (by omega) (eE_one ys)) ?_; intro v12 w2 hE2 hR2
  replace hX := hX.tr hE2
  replace hB2 := hB2.ext hE2 id
  obtain ⟨p, q, rfl, hy1, hy2⟩ := hR2
  obtain ⟨rfl, rfl⟩ := kget_of hlen hy1 hy2
  refine wl_val (rn_move (by conv => lhs; whnf)) ?_
  refine wl_val (rn_extract rfl rfl) ?_
  refine wl_val (rn_extract rfl rfl) ?_
  refine wl_alloc z_134 ?_; intro b7 w3 hb7 hE3 hB7
  have hn2_7 : b2 < b7 := Nat.lt_of_lt_of_le hB2.lt hb7
  have hq7 : w.heap.size ≤ b7 := Nat.le_trans hX.size hb7
  have hl7 : Mine Non w b7 := .inr hq7
  replace hX := hX.tr hE3
  replace hB2 := hB2.ext hE3 id
  refine wl_storeB s_134 rfl rfl rfl (two1 rfl rfl) hB7 rfl ?_; intro w4 hE4 hB7 hz4
  replace hX := hX.mine hE4 hl7
  replace hB2 := hB2.ext hE4 (fun h => by omega)
  refine wl_val (rn_assign (by conv => lhs; whnf)) ?_
  refine wl_nil ?_
  refine W_seq ?_
  refine W_drawE mixed ?_; intro w5 hE5
  replace hX := hX.tr hE5
  replace hB2 := hB2.ext hE5 id; replace hB7 := hB7.ext hE5 id
  have hS := Ext.refl Non w5
  refine wd_take 0 _ _ rfl (by kernel_rfl) hS (yd_do fun A hA => rn_fieldAddr f_134_0 (by decide) rfl) ?_
  refine wd_take 1 _ _ rfl (by kernel_rfl) hS (yd_do fun A hA => rn_load1 p_9 rfl (hB7.ext hA id) rfl) ?_
  refine wd_take 2 _ _ rfl (by kernel_rfl) hS (yd_do fun A hA => rn_fieldAddr f_134_1 (by decide) rfl) ?_
  refine wd_take 3 _ _ rfl (by kernel_rfl) hS (yd_do fun A hA => rn_load1 p_3 rfl (hB7.ext hA id) rfl) ?_
  refine wd_take 4 _ _ rfl (by kernel_rfl) hS (yd_do fun A hA => rn_move (by conv => lhs; whnf)) ?_
  refine wd_take 5 _ _ rfl (by kernel_rfl) hS (yd_do fun A hA => rn_assign (by conv => lhs; whnf)) ?_
  refine wd_take 6 _ _ rfl (by kernel_rfl) hS (yd_do fun A hA => rn_assign (by conv => lhs; whnf)) ?_
  refine wd_take 7 _ _ rfl (by kernel_rfl) hS (yd_do fun A hA => rn_assign (by conv => lhs; whnf)) ?_
  refine wd_done (by kernel_rfl) ?_ _
  replace hX := hX.tr hS
  replace hB2 := hB2.ext hS id; replace hB7 := hB7.ext hS id
  refine W_ret ?_
  exact ⟨_, resR3 (res1_tmp rfl) (res1_tmp rfl) (res1_tmp rfl), hX, rfl⟩
-- (bellman/keep.Store).Len
theorem klen_ok (w : World) (ks : List Str) (ys : List (Str × Int)) (ver : Int) {u1 u2 : Value} (hm : MapR Non w eS1 2 u1 u2 ks (ys.map eE1)) (hn : ks.length ≤ 100000)  : Fn Tryd.prog 38 #[.agg #[u1, u2, .int .i64 ver]] w fun u w' => u = .int .i64 (ks.length : Nat) := by
  obtain ⟨q1, n1, c1, rfl⟩ := hm.keys.shape; obtain ⟨q2, n2, c2, rfl⟩ := hm.vals.shape
  have hlen : ys.length = ks.length := by have := hm.len; simpa using this
  have hX := Ext.refl Non w
  refine fn_of_W (args := [_]) Tryd.func38 rfl (by kernel_rfl) rfl ?_
  refine W_seq ?_
  refine W_region ?_
  refine wl_boxS rfl ?_; intro b1 w1 hb1 hE1 hB1
  have hq1 : w.heap.size ≤ b1 := Nat.le_trans hX.size hb1
  have hl1 : Mine Non w b1 := .inr hq1
  replace hX := hX.tr hE1
  refine wl_val (rn_assign (by conv => lhs; whnf)) ?_
  refine wl_nil ?_
  refine W_seq ?_
  refine W_region ?_
  refine wl_val (rn_fieldAddr f_74_0 (by decide) rfl) ?_
  refine wl_val (rn_loadS s_72 (vs := [_, _]) rfl rfl (hB1.part rfl (Nat.le_of_ble_eq_true rfl))) ?_
  refine wl_call e_85 rfl (mlen_se w1 ks (ys.map eE1) (hm.ext hX (fun _ h => h)) (by omega)) ?_; intro v5 w2 hE2 hR2
  replace hX := hX.tr hE2
  replace hB1 := hB1.ext hE2 id
  subst hR2
  refine wl_val (rn_assign (by conv => lhs; whnf)) ?_
  refine wl_nil ?_
  refine W_ret ?_
  exact ⟨_, resR1 (res1_tmp rfl), hX, rfl⟩
-- (bellman/keep.Store).Version
theorem kver_ok (w : World) (u1 u2 : Value) (ver : Int) : Fn Tryd.prog 39 #[.agg #[u1, u2, .int .i64 ver]] w fun u w' => u = .int .i64 ver := by
  have hX := Ext.refl Non w
  refine fn_of_W (args := [_]) Tryd.func39 rfl (by kernel_rfl) rfl ?_
  refine W_seq ?_
  refine W_region ?_
  refine wl_boxS rfl ?_; intro b1 w1 hb1 hE1 hB1
  have hq1 : w.heap.size ≤ b1 := Nat.le_trans hX.size hb1
  have hl1 : Mine Non w b1 := .inr hq1
  replace hX := hX.tr hE1
  refine wl_val (rn_assign (by conv => lhs; whnf)) ?_
  refine wl_nil ?_
  refine W_seq ?_
  refine W_region ?_
  refine wl_val (rn_fieldAddr f_74_1 (by decide) rfl) ?_
  refine wl_val (rn_load1 p_3 rfl hB1 rfl) ?_
  refine wl_val (rn_assign (by conv => lhs; whnf)) ?_
  refine wl_nil ?_
  refine W_ret ?_
  exact ⟨_, resR1 (res1_tmp rfl), hX, rfl⟩
theorem Ts.grow0 {M : Nat → Prop} {w0 W A : World} {J : (Nat → Prop) → World → Prop} {S : Nat → Prop} (h : Ts M w0 W J S A) : Ts M w0 W J (fun i => S i ∨ (A.heap.size ≤ i ∧ i < A.heap.size)) A := h.less fun i hi => hi.elim id (fun e => absurd e.1 (by omega))
theorem Ts.grow {M F : Nat → Prop} {w0 W A B C : World} {J : (Nat → Prop) → World → Prop} {S : Nat → Prop} (h : Ts M w0 W J (fun i => S i ∨ (A.heap.size ≤ i ∧ i < B.heap.size)) B) (hE : Ext F B C) (hF : ∀ i, F i → S i ∨ (A.heap.size ≤ i ∧ i < B.heap.size)) :
    Ts M w0 W J (fun i => S i ∨ (A.heap.size ≤ i ∧ i < C.heap.size)) C := (h.add hE hF).less fun i hi => by
  rcases hi with hi | hi
  · exact .inl (.inl hi)
  · rcases Nat.lt_or_ge i B.heap.size with h' | h'
    · exact .inl (.inr ⟨hi.1, h'⟩)
    · exact .inr ⟨h', hi.2⟩
/-- A function value of one text that answers p, as long as what M may turn is turned. -/
def TellsM (M : Nat → Prop) (fk : FuncId) (cap : Array Value) (w : World) (p : Str → Bool) : Prop := entersB Tryd.prog fk = true ∧ ∀ (A : World) (x : Str), x.length ≤ 1000000 → Ext M w A → Fn Tryd.prog fk (#[Sv x] ++ cap) A fun u _ => u = .bool (p x)
def eM1 (p : Str × (Str × Int)) : List Value := [Sv p.1, Sv p.2.1, .bool true]
-- (bellman/keep.Store).some$1
set_option maxHeartbeats 1600000 in
theorem some_iter (ks : List Str) (ys : List (Str × Int)) (ver : Int) {u1 u2 : Value} (fk : FuncId) (cap : Array Value) (p : Str → Bool) (M : Nat → Prop) (w0 : World) (b1 b2 : Nat) (hm0 : MapR M w0 eS1 2 u1 u2 ks (ys.map eE1)) (hn : ks.length ≤ 100000) (hkl : ∀ y ∈ ks, y.length ≤ 1000000) (hC1 : IsBox w0 b1 [u1, u2, .int .i64 ver]) (hC2 : IsBox w0 b2 [.func (.func fk) #[] cap]) (h1 : ¬ M b1) (h2 : ¬ M b2) (hp : TellsM M fk cap w0 p) :
    Iter Tryd.prog M w0 (.func (.func 163) #[] #[.pointer (some ⟨b1, 0, none⟩), .pointer (some ⟨b2, 0, none⟩)]) (fun p : Str × (Str × Int) => #[.agg (eM1 p).toArray]) ((ks.zip ys).filter fun q => p q.1) := by
  refine iter_ofS e_163 fun l W J Jx hW hT hY => ?_
  replace hT := hT.all0
  obtain ⟨q1, n1, c1, rfl⟩ := hm0.keys.shape; obtain ⟨q2, n2, c2, rfl⟩ := hm0.vals.shape
  have hlen : ys.length = ks.length := by have := hm0.len; simpa using this
  have ea : (#[Value.func (.yield l) #[] #[]] ++ #[.pointer (some ⟨b1, 0, none⟩), .pointer (some ⟨b2, 0, none⟩)] : Array Value) = [Value.func (.yield l) #[] #[], .pointer (some ⟨b1, 0, none⟩), .pointer (some ⟨b2, 0, none⟩)].toArray := by simp
  rw [ea]
  have hX := Ext.refl Tru W
  have hB1 := hC1.ext hW h1; have hB2 := hC2.ext hW h2
  have hl1 : Mine Tru W b1 := .inl trivial; have hl2 : Mine Tru W b2 := .inl trivial
  refine calls_of_W (R := fun v W' => Ts M w0 W (J ((ks.zip ys).filter fun q => p q.1)) Non W' ∨ Ts M w0 W Jx Non W') Tryd.func163 rfl (by kernel_rfl) rfl ?_
  refine W_seq ?_
  refine W_region ?_
  refine wl_box1 (by conv => lhs; whnf) rfl ?_; intro b3 w1 hb3 hE1 hB3
  have hn1_3 : b1 < b3 := Nat.lt_of_lt_of_le hB1.lt hb3
  have hn2_3 : b2 < b3 := Nat.lt_of_lt_of_le hB2.lt hb3
  have hq3 : W.heap.size ≤ b3 := Nat.le_trans hX.size hb3
  have hl3 : Mine Tru W b3 := .inr hq3
  replace hX := hX.tr hE1
  replace hB1 := hB1.ext hE1 id; replace hB2 := hB2.ext hE1 id
  replace hT := hT.allT hE1
  refine wl_nil ?_
  refine W_seq ?_
  refine W_region ?_
  have hz3 := hB3.lt; have hW2 := hX.size; have hzC2 := hC2.lt
  have hkk : Sl (fun i => (M i ∨ w0.heap.size ≤ i) ∧ i < w1.heap.size) w1 _ 1 (ks.map eS1) := (((hm0.keys.sub (M' := fun i => M i ∨ w0.heap.size ≤ i) (fun i h hi => h.resolve_right (by omega))).ext hW (fun i h => .inl h)).ext hE1 (fun _ h => h.elim)).sub (fun i h _ => h.1)
  have hvv : Sl (fun i => (M i ∨ w0.heap.size ≤ i) ∧ i < w1.heap.size) w1 _ 2 (ys.map eE1) := (((hm0.vals.sub (M' := fun i => M i ∨ w0.heap.size ≤ i) (fun i h hi => h.resolve_right (by omega))).ext hW (fun i h => .inl h)).ext hE1 (fun _ h => h.elim)).sub (fun i h _ => h.1)
  refine wl_val (rn_fieldAddr f_74_0 (by decide) rfl) ?_
  refine wl_val (rn_loadS s_72 (vs := [_, _]) rfl rfl (hB1.part rfl (Nat.le_of_ble_eq_true rfl))) ?_
  refine wl_call e_164 rfl (mall_se w1 ks ys (fun i => (M i ∨ w0.heap.size ≤ i) ∧ i < w1.heap.size) (fun i h => h.2) hkk hvv hlen) ?_; intro v8 w2 hE2 hR2
  replace hX := hX.tr hE2
  replace hB1 := hB1.ext hE2 id; replace hB2 := hB2.ext hE2 id; replace hB3 := hB3.ext hE2 id
  replace hT := hT.allT hE2
  have hIt := hR2; obtain ⟨fi, ci, hfi, _⟩ := id hIt; subst hfi
  have hz38 := hE2.size
  refine wl_nil ?_
  refine W_block ?_   -- block 0
  have hszr := hX.size
  refine W_rangeFunc (M := fun i => (M i ∨ w0.heap.size ≤ i) ∧ i < w1.heap.size) (w0 := w2) (I := fun pre N A => Box N A b2 [.func (.func fk) #[] cap] ∧ Box N A b3 [.func (.yield l) #[] #[]] ∧ Ext Tru W A ∧ MkN W [] N A ∧ (Ts M w0 W (J (pre.filter fun q => p q.1)) (fun i => Al W w2 i ∨ N i) A) ∧ (True)) (X := fun c N A => c = .ret ∧ Ext Tru W A ∧ MkN W [] N A ∧ (Ts M w0 W Jx (fun i => Al W w2 i ∨ N i) A) ∧ (True)) (encs := fun q : Str × (Str × Int) => [Sv q.1, .agg #[Sv q.2.1, .int .i64 q.2.2]]) (xs := ks.zip ys) rfl (hIt) (Ext.refl _ w2) (fun _ => rfl) (fun pre => (Stab.box _ _).and ((Stab.box _ _).and ((Stab.oldM hX.size).and ((Stab.mk _ _).and ((Ts.stabS _ _ _ _ _).and ((Stab.pure _))))))) (fun c => (Stab.pure _).and ((Stab.oldM hX.size).and ((Stab.mk _ _).and ((Ts.stabS _ _ _ _ _).and ((Stab.pure _)))))) ⟨⟨hB2, id⟩, ⟨hB3, id⟩, hX, ⟨Mk.nil, fun r h => by cases h⟩, hT.less (fun i hi => hi.elim id (fun h => h.elim)), trivial⟩ ?_ ?_ ?_
  · rintro l N pre x A hl hN hA hst ⟨hK2, hK3, hXo, hDk, hT, hIr⟩ ⟨post, hpre⟩
    have hB2 := hK2.1
    have hB3 := hK3.1
    have hX := Ext.refl (Yc (fun i => (M i ∨ w0.heap.size ≤ i) ∧ i < w1.heap.size) w2 N) A
    replace hT := Ts.grow0 hT
    refine W_seq ?_
    refine W_region ?_
    refine wl_val (rn_assign (by conv => lhs; whnf)) ?_
    refine wl_nil ?_
    refine W_region ?_
    refine wl_alloc z_134 ?_; intro b5 w3 hb5 hE3 hB5
    have hn2_5 : b2 < b5 := Nat.lt_of_lt_of_le hB2.lt hb5
    have hn3_5 : b3 < b5 := Nat.lt_of_lt_of_le hB3.lt hb5
    have hq5 : A.heap.size ≤ b5 := Nat.le_trans hX.size hb5
    have hl5 : Mine (Yc (fun i => (M i ∨ w0.heap.size ≤ i) ∧ i < w1.heap.size) w2 N) A b5 := .inr hq5
    have ho5 : W.heap.size ≤ b5 := Nat.le_trans hXo.size hb5
    replace hX := hX.tr hE3
    replace hB2 := hB2.ext hE3 id; replace hB3 := hB3.ext hE3 id
    replace hXo := hXo.tr hE3
    replace hDk := hDk.non hE3
    replace hT := hT.grow hE3 (fun _ h => h.elim)
    have hBo := hB5
    refine wl_storeB s_134 rfl rfl rfl (two1 rfl rfl) hB5 rfl ?_; intro w4 hE4 hB5 hz4
    replace hX := hX.mine hE4 hl5
    replace hB2 := hB2.ext hE4 (fun h => by omega); replace hB3 := hB3.ext hE4 (fun h => by omega)
    replace hXo := hXo.mine hE4 (.inl trivial)
    replace hDk := hDk.box hE4 hBo
    replace hT := hT.grow hE4 (fun i e => .inr (by rw [e]; exact ⟨hq5, hBo.lt⟩))
    refine wl_nil ?_
    refine ⟨rfl, hX, fun A2 hE2r hz2r hst2 => ?_⟩
    have hNl := (hN l hl).2
    replace hB2 := hB2.ext hE2r (fun e => hK2.2 (by rw [e]; exact hl))
    replace hB3 := hB3.ext hE2r (fun e => hK3.2 (by rw [e]; exact hl))
    replace hB5 := hB5.ext hE2r (fun e => by omega)
    replace hXo := hXo.mine hE2r (.inr (Nat.le_trans hszr (hN l hl).1)); replace hDk := hDk.lp hE2r hl
    replace hT := hT.grow hE2r (fun i e => .inl (.inr (by rw [e]; exact hl)))
    have hl5 : Mine (Yc (fun i => (M i ∨ w0.heap.size ≤ i) ∧ i < w1.heap.size) w2 N) A2 b5 := .inl ⟨fun h => by have := (hN _ h).2; omega, .inr (by omega)⟩
    have hX := Ext.refl (Yc (fun i => (M i ∨ w0.heap.size ≤ i) ∧ i < w1.heap.size) w2 N) A2
    have hxl : x.1.length ≤ 1000000 := hkl _ (List.of_mem_zip (by rw [hpre]; simp : (x.1, x.2) ∈ ks.zip ys)).1
    refine W_block ?_   -- block 1
    refine W_seq ?_
    refine W_region ?_
    refine wl_val (rn_load1 p_69 rfl hB2 rfl) ?_
    refine wl_val (rn_move (by conv => lhs; whnf)) ?_
    refine wl_tell (s := x.1) rfl hp.1 rfl (hp.2 A2 x.1 hxl hT.w0) ?_; intro w5 hE5
    replace hX := hX.tr hE5
    replace hB2 := hB2.ext hE5 id; replace hB3 := hB3.ext hE5 id; replace hB5 := hB5.ext hE5 id
    replace hXo := hXo.tr hE5
    replace hDk := hDk.non hE5
    replace hT := hT.grow hE5 (fun _ h => h.elim)
    refine wl_val (rn_move (by conv => lhs; whnf)) ?_
    refine wl_split (d := 14) rfl (fun hg14 => ?_) (fun hg14 => ?_)
    · refine wl_yes rfl (congrArg Value.bool hg14) ?_
      refine wl_val (rn_load1 p_213 rfl hB3 rfl) ?_
      refine wl_yes rfl (congrArg Value.bool hg14) ?_
      refine wl_val (rn_move (by conv => lhs; whnf)) ?_
      refine wl_yes rfl (congrArg Value.bool hg14) ?_
      refine wl_val (rn_fieldAddr f_134_0 (by decide) rfl) ?_
      refine wl_yes rfl (congrArg Value.bool hg14) ?_
      refine wl_val (rn_load1 p_9 rfl hB5 rfl) ?_
      refine wl_yes rfl (congrArg Value.bool hg14) ?_
      refine wl_val (rn_build' b_32 rfl rfl (cs := _) rfl) ?_
      refine wl_yes rfl (congrArg Value.bool hg14) ?_
      refine wl_yield rfl rfl (hY (pre.filter fun q => p q.1) x (post.filter fun q => p q.1) _ w5 (by rw [hpre, List.filter_append, List.filter_cons_of_pos (by exact hg14)]) hT) ?_; intro y20 w6 ⟨hE6, hyT, hyF⟩
      replace hX := hX.trans (hE6.mono fun i h => ⟨fun hn => h.1 (.inl (.inr hn)), (Nat.lt_or_ge i w2.heap.size).elim (fun h4 => .inl ⟨h.2, (Nat.lt_or_ge i w1.heap.size).elim id (fun h3 => absurd (Or.inl (Or.inl ⟨Nat.le_trans hW2 h3, h4⟩)) h.1)⟩) .inr⟩)
      replace hXo := hXo.trans (hE6.mono fun _ _ => trivial); replace hDk : MkN W [] N w6 := ⟨Mk.nil, fun r h => by cases h⟩
      replace hB2 := hB2.ext hE6 (fun h => h.2.elim h2 (fun e => by omega)); replace hB3 := hB3.ext hE6 (fun h => h.1 (.inl (.inl ⟨hq3, by omega⟩)))
      refine wl_yes rfl (congrArg Value.bool hg14) ?_
      refine wl_val (rn_not rfl) ?_
      refine wl_val (rn_pickT (congrArg Value.bool hg14) (by conv => lhs; whnf)) ?_
      refine wl_nil ?_
      refine W_cond rfl (fun hc0 => ?_) (fun hc0 => ?_)
      · have hTx := (hyF (by simpa using hc0)).less (S' := fun i => Al W w2 i ∨ N i) (fun i h => .inl h)
        refine W_ret ?_
        exact ⟨hX, rfl, hXo, hDk, hTx, trivial⟩
      · replace hT := hyT (by simpa using hc0)
        refine W_skip ?_
        exact ⟨hX, ⟨hB2, hK2.2⟩, ⟨hB3, hK3.2⟩, hXo, hDk, (by rw [List.filter_append, List.filter_cons_of_pos (by exact hg14), List.filter_nil]; exact hT.less (fun i h => .inl h)), trivial⟩
    · refine wl_no rfl (congrArg Value.bool hg14) ?_
      refine wl_no rfl (congrArg Value.bool hg14) ?_
      refine wl_no rfl (congrArg Value.bool hg14) ?_
      refine wl_no rfl (congrArg Value.bool hg14) ?_
      refine wl_no rfl (congrArg Value.bool hg14) ?_
      refine wl_no rfl (congrArg Value.bool hg14) ?_
      refine wl_no rfl (congrArg Value.bool hg14) ?_
      refine wl_val (rn_pickF (congrArg Value.bool hg14) (by conv => lhs; whnf)) ?_
      refine wl_nil ?_
      refine W_condF rfl ?_
      refine W_skip ?_
      exact ⟨hX, ⟨hB2, hK2.2⟩, ⟨hB3, hK3.2⟩, hXo, hDk, (by rw [List.filter_append, List.filter_cons_of_neg (by rw [hg14]; simp), List.filter_nil, List.append_nil]; exact hT.less (fun i h => .inl h)), trivial⟩
  · rintro N rk w' ⟨hK2, hK3, hXo, hDk, hT, hIr⟩ hN hA hr hrd
    have hB2 := hK2.1
    have hB3 := hK3.1
    have hX := hXo; have hD := hDk.add hrd (Nat.le_trans hszr (hN rk hr).1) hr
    refine hD.leave fun B hB => ?_
    have hB2 := hB2.ext hB (hD.ne hB2)
    have hB3 := hB3.ext hB (hD.ne hB3)
    exact ⟨_, rfl, .inl ((hT.ext hB (fun i hi => .inr (by simp only [List.mem_singleton] at hi; rw [mark_inj hi]; exact hr))).less (fun _ h => h.elim))⟩
  · rintro c N rk w' ⟨rfl, hXo, hDk, hTx, hIr⟩ hN hA hr hrd
    have hX := hXo; have hD := hDk.add hrd (Nat.le_trans hszr (hN rk hr).1) hr
    refine W_ret ?_
    refine hD.leave fun B hB => ?_
    exact ⟨_, rfl, .inr ((hTx.ext hB (fun i hi => .inr (by simp only [List.mem_singleton] at hi; rw [mark_inj hi]; exact hr))).less (fun _ h => h.elim))⟩
end Go.Proofs.YthcclgoidchkdaaDoorC
