/- The model: a subscriber's box; offering. -/
import Derived.Test.YtaddeakfojpdoaaGreatDoorBunM12
set_option linter.unusedVariables false
set_option linter.unusedSimpArgs false
set_option maxRecDepth 100000
namespace Go.Proofs.YtaddeakfojpdoaaGreatDoorC
open Go.RowKit
theorem box_of {M : Nat → Prop} {w : World} {d : Md} {bvs : List (List Value)} {sub : Int} {p q : Value} (hQ : QsM M w bvs d.bqs) (hl : d.bqs.length = d.bks.length) (h1 : isAt ltI d.bks sub = true → bvs[lb ltI d.bks sub]? = some [p, q]) (h2 : isAt ltI d.bks sub = false → p = .slice none 0 0 ∧ q = .int .i64 0) :
    ∃ a n c, p = .slice a n c ∧ q = .int .i64 (d.boxOf sub).2 ∧ Sl M w (.slice a n c) 3 ((d.boxOf sub).1.map MsgD.enc) := by
  unfold Md.boxOf
  by_cases ha : isAt ltI d.bks sub = true
  · rw [if_pos ha]
    have hlt := isAt_lt ha
    have hq : d.bqs[lb ltI d.bks sub]? = some (d.bqs[lb ltI d.bks sub]'(by omega)) := List.getElem?_eq_getElem _
    obtain ⟨a, n, c, e, hs⟩ := hQ _ _ _ (h1 ha) hq
    simp only [List.cons.injEq, and_true] at e
    rw [hq]
    exact ⟨a, n, c, e.1, e.2, hs⟩
  · obtain ⟨rfl, rfl⟩ := h2 (by simpa using ha)
    rw [if_neg ha]
    exact ⟨none, 0, 0, rfl, rfl, Sl.nil _ _ _⟩
theorem offS_yes {m : MsgD} {d : Md} {a b : Int} {sub : Int} (h : ((d.boxOf sub).1.length : Int) < d.room) : offS m (d, a, b) sub = (d.setBox sub ((d.boxOf sub).1 ++ [m], (d.boxOf sub).2), a + 1, b) := by unfold offS; rw [if_pos h]
theorem offS_no {m : MsgD} {d : Md} {a b : Int} {sub : Int} (h : ¬ ((d.boxOf sub).1.length : Int) < d.room) : offS m (d, a, b) sub = (d.setBox sub ((d.boxOf sub).1, (d.boxOf sub).2 + 1), a, b + 1) := by unfold offS; rw [if_neg h]
theorem elev1 {a b c d e f g h i j k : Value} (h1 : a.oneCell' = true) (h2 : b.oneCell' = true) (h3 : c.oneCell' = true) (h4 : d.oneCell' = true) (h5 : e.oneCell' = true) (h6 : f.oneCell' = true) (h7 : g.oneCell' = true) (h8 : h.oneCell' = true) (h9 : i.oneCell' = true) (h10 : j.oneCell' = true) (h11 : k.oneCell' = true) : ∀ x ∈ [a, b, c, d, e, f, g, h, i, j, k], x.oneCell' = true := by
  intro x hx; simp only [List.mem_cons, List.not_mem_nil, or_false] at hx; rcases hx with rfl | rfl | rfl | rfl | rfl | rfl | rfl | rfl | rfl | rfl | rfl <;> assumption
theorem sl_cap2 {M : Nat → Prop} {w : World} {a : Option Addr} {n c k : Nat} {rows : List (List Value)} (h : Sl M w (.slice a n c) k rows) : rows.length ≤ c := by
  obtain ⟨⟨_, _, e, hc, _⟩, _⟩ := h
  simp only [Value.slice.injEq] at e
  omega
-- (bellman/model.State).box
theorem sbox_ok (w : World) (d : Md) {cs : List Value} (M : Nat → Prop) (hM : ∀ i, M i → i < w.heap.size) (hd : MdM M w d cs) (hbs : Sorted ltI d.bks) (hbn : d.bks.length ≤ 1000) (sub : Int) : Fn Tryz.prog 38 #[.agg cs.toArray, .int .i64 sub] w fun u w' => ∃ a n c, u = .agg #[.slice a n c, .int .i64 (d.boxOf sub).2] ∧ Sl M w' (.slice a n c) 3 ((d.boxOf sub).1.map MsgD.enc) := by
  obtain ⟨pa, q1, l1, c1, q2, l2, c2, q3, l3, c3, q4, l4, c4, q5, l5, c5, q6, l6, c6, nvs, bvs, rfl, hT, hN, hNv, hBx, hbl, hQ, hK⟩ := hd
  have hbl2 : bvs.length = d.bks.length := hBx.len
  have hX := Ext.refl Non w
  refine fn_of_W (args := [_, _]) Tryz.func38 rfl (by kernel_rfl) rfl ?_
  refine W_seq ?_
  refine W_region ?_
  refine wl_boxS rfl ?_; intro b2 w1 hb2 hE1 hB2
  have hq2 : w.heap.size ≤ b2 := Nat.le_trans hX.size hb2
  have hl2 : Mine Non w b2 := .inr hq2
  replace hX := hX.tr hE1
  refine wl_alloc z_87 ?_; intro b4 w2 hb4 hE2 hB4
  have hn2_4 : b2 < b4 := Nat.lt_of_lt_of_le hB2.lt hb4
  have hq4 : w.heap.size ≤ b4 := Nat.le_trans hX.size hb4
  have hl4 : Mine Non w b4 := .inr hq4
  replace hX := hX.tr hE2
  replace hB2 := hB2.ext hE2 id
  refine wl_nil ?_
  refine W_seq ?_
  refine W_region ?_
  refine wl_val (rn_fieldAddr f_59_2 (by decide) rfl) ?_
  refine wl_val (rn_loadS s_52 (vs := [_, _]) rfl rfl (hB2.part rfl (Nat.le_of_ble_eq_true rfl))) ?_
  refine wl_val (rn_move (by conv => lhs; whnf)) ?_
  refine wl_call e_63 rfl (mget_ib w2 d.bks bvs sub ((hBx.sub (M' := Non) (fun _ h _ => h.elim)).ext hX (fun _ h => h)) hbs (by omega) (hQ.one (by omega))) ?_; intro v11 w3 hE3 hR3
  replace hX := hX.tr hE3
  replace hB2 := hB2.ext hE3 id; replace hB4 := hB4.ext hE3 id
  obtain ⟨p, q, rfl, hp1, hp2⟩ := hR3
  obtain ⟨a, n, c, rfl, rfl, hS11⟩ := box_of ((hQ.sub (M' := fun i => M i ∨ i = b2 ∨ i = b4) (fun i h hlt => by rcases h with h | h | h; exact h; omega; omega)).ext hX (fun _ h => h.elim)) hbl hp1 hp2
  replace hS11 := hS11.sub (M' := fun i => M i ∨ i = b2 ∨ i = b4 ∨ (World.heap w3).size ≤ i) (fun i h hlt => by rcases h with h | h | h | h; exact .inl h; exact .inr (.inl h); exact .inr (.inr h); omega)
  refine wl_val (rn_move (by conv => lhs; whnf)) ?_
  refine wl_val (rn_extract rfl rfl) ?_
  refine wl_val (rn_extract rfl rfl) ?_
  refine wl_alloc z_87 ?_; intro b5 w4 hb5 hE4 hB5
  have hn2_5 : b2 < b5 := Nat.lt_of_lt_of_le hB2.lt hb5
  have hn4_5 : b4 < b5 := Nat.lt_of_lt_of_le hB4.lt hb5
  have hq5 : w.heap.size ≤ b5 := Nat.le_trans hX.size hb5
  have hl5 : Mine Non w b5 := .inr hq5
  replace hX := hX.tr hE4
  replace hB2 := hB2.ext hE4 id; replace hB4 := hB4.ext hE4 id
  replace hS11 := hS11.ext hE4 (fun _ h => h.elim)
  have hBo := hB5
  refine wl_storeB s_87 rfl rfl rfl (two1 rfl rfl) hB5 rfl ?_; intro w5 hE5 hB5 hz5
  replace hX := hX.mine hE5 hl5
  replace hB2 := hB2.ext hE5 (fun h => by omega); replace hB4 := hB4.ext hE5 (fun h => by omega)
  replace hS11 := hS11.ext hE5 (fun i e => by first | exact .inr (.inl e) | exact .inr (.inr (.inl e)) | exact .inr (.inr (.inr (by rw [e]; exact hb5))))
  refine wl_val (rn_assign (by conv => lhs; whnf)) ?_
  refine wl_nil ?_
  refine W_seq ?_
  refine W_region ?_
  refine wl_val (rn_loadB s_87 rfl rfl hB5) ?_
  have hBo := hB4
  refine wl_storeB s_87 rfl rfl rfl (two1 rfl rfl) hB4 rfl ?_; intro w6 hE6 hB4 hz6
  replace hX := hX.mine hE6 hl4
  replace hB2 := hB2.ext hE6 (fun h => by omega); replace hB5 := hB5.ext hE6 (fun h => by omega)
  replace hS11 := hS11.ext hE6 (fun i e => by first | exact .inr (.inl e) | exact .inr (.inr (.inl e)) | exact .inr (.inr (.inr (by rw [e]; exact hb5))))
  refine wl_nil ?_
  refine W_ret ?_
  exact ⟨_, resR1 (res1_box s_87 rfl hB4 rfl), hX, ⟨_, _, _, rfl, hS11.sub (fun i h _ => .inl h)⟩⟩
-- (bellman/model.State).there
theorem there_ok (w : World) (d : Md) {cs : List Value} {M : Nat → Prop} (hd : MdM M w d cs) (sub : Int) (h1 : 1 ≤ sub) (h2 : sub ≤ d.subs) : Fn Tryz.prog 37 #[.agg cs.toArray, .int .i64 sub] w fun u w' => u = .bool true := by
  obtain ⟨pa, q1, l1, c1, q2, l2, c2, q3, l3, c3, q4, l4, c4, q5, l5, c5, q6, l6, c6, nvs, bvs, rfl, hT, hN, hNv, hBx, hbl, hQ, hK⟩ := hd
  have hX := Ext.refl Non w
  refine fn_of_W (args := [_, _]) Tryz.func37 rfl (by kernel_rfl) rfl ?_
  refine W_seq ?_
  refine W_region ?_
  refine wl_boxS rfl ?_; intro b2 w1 hb2 hE1 hB2
  have hq2 : w.heap.size ≤ b2 := Nat.le_trans hX.size hb2
  have hl2 : Mine Non w b2 := .inr hq2
  replace hX := hX.tr hE1
  refine wl_val (rn_assign (by conv => lhs; whnf)) ?_
  refine wl_nil ?_
  refine W_seq ?_
  refine W_region ?_
  refine wl_val (rn_move (by conv => lhs; whnf)) ?_
  refine wl_val (rn_geq rfl rfl) ?_
  refine wl_val (rn_move (by conv => lhs; whnf)) ?_
  refine wl_split (d := 7) rfl (fun hg7 => ?_) (fun hg7 => ?_)
  · refine wl_yes rfl (congrArg Value.bool hg7) ?_
    refine wl_val (rn_move (by conv => lhs; whnf)) ?_
    refine wl_yes rfl (congrArg Value.bool hg7) ?_
    refine wl_val (rn_fieldAddr f_59_0 (by decide) rfl) ?_
    refine wl_yes rfl (congrArg Value.bool hg7) ?_
    refine wl_val (rn_loadS s_49 (vs := [_, _, _, _, _]) rfl rfl (hB2.part rfl (Nat.le_of_ble_eq_true rfl))) ?_
    refine wl_yes rfl (congrArg Value.bool hg7) ?_
    refine wl_call e_62 rfl (subs_ok w1 d.subs d.len) ?_; intro v11 w2 hE2 hR2
    replace hX := hX.tr hE2
    replace hB2 := hB2.ext hE2 id
    subst hR2
    refine wl_yes rfl (congrArg Value.bool hg7) ?_
    refine wl_val (rn_leq rfl rfl) ?_
    refine wl_val (rn_pickT (congrArg Value.bool hg7) (by conv => lhs; whnf)) ?_
    refine wl_val (rn_assign (by conv => lhs; whnf)) ?_
    refine wl_nil ?_
    refine W_ret ?_
    exact ⟨_, resR1 (res1_tmp rfl), hX, congrArg Value.bool (decide_eq_true h2)⟩
  · exact absurd (of_decide_eq_false hg7) (by omega)
-- (bellman/model.State).offer
set_option maxHeartbeats 3200000 in
theorem offer_ok (w : World) (d : Md) {cs : List Value} (M : Nat → Prop) (hM : ∀ i, M i → i < w.heap.size) (hd : MdM M w d cs) (hbs : Sorted ltI d.bks) (hbn : d.bks.length ≤ 1000) (sub : Int) (m : MsgD) (b3 : Nat) (x : AnsD) (hMb : M b3) (hB3 : IsBox w b3 [.int .i64 x.err, .int .i64 x.a, .int .i64 x.b, Sv x.msg.topic, Sv x.msg.payload, .bool x.msg.kept]) (hqn : ((d.boxOf sub).1).length ≤ 100000) (hdr : 0 ≤ (d.boxOf sub).2 ∧ (d.boxOf sub).2 ≤ 100000) (hxa : 0 ≤ x.a ∧ x.a ≤ 100000) (hxb : 0 ≤ x.b ∧ x.b ≤ 100000) : FnM Tryz.prog (fun i => i = b3) 52 #[.agg cs.toArray, .int .i64 sub, .agg m.enc.toArray, .pointer (some ⟨b3, 0, none⟩)] w fun u w' => ∃ cs' : List Value, u = .agg cs'.toArray ∧ MdM M w' (offS m (d, x.a, x.b) sub).1 cs' ∧ IsBox w' b3 [.int .i64 x.err, .int .i64 (offS m (d, x.a, x.b) sub).2.1, .int .i64 (offS m (d, x.a, x.b) sub).2.2, Sv x.msg.topic, Sv x.msg.payload, .bool x.msg.kept] := by
  obtain ⟨pa, q1, l1, c1, q2, l2, c2, q3, l3, c3, q4, l4, c4, q5, l5, c5, q6, l6, c6, nvs, bvs, rfl, hT, hN, hNv, hBx, hbl, hQ, hK⟩ := hd
  have hbl2 : bvs.length = d.bks.length := hBx.len
  have hl3 : Mine (fun i => i = b3) w b3 := .inl rfl
  have hz3w := hB3.lt
  have hmd : MdM M w d _ := ⟨pa, q1, l1, c1, q2, l2, c2, q3, l3, c3, q4, l4, c4, q5, l5, c5, q6, l6, c6, nvs, bvs, rfl, hT, hN, hNv, hBx, hbl, hQ, hK⟩
  have hX := Ext.refl (fun i => i = b3) w
  refine fnM_of_W (args := [_, _, _, _]) Tryz.func52 rfl (by kernel_rfl) rfl ?_
  refine W_seq ?_
  refine W_region ?_
  refine wl_boxS rfl ?_; intro b4 w1 hb4 hE1 hB4
  have hn3_4 : b3 < b4 := Nat.lt_of_lt_of_le hB3.lt hb4
  have hq4 : w.heap.size ≤ b4 := Nat.le_trans hX.size hb4
  have hl4 : Mine (fun i => i = b3) w b4 := .inr hq4
  replace hX := hX.tr hE1
  replace hB3 := hB3.ext hE1 id
  refine wl_boxS rfl ?_; intro b6 w2 hb6 hE2 hB6
  have hn3_6 : b3 < b6 := Nat.lt_of_lt_of_le hB3.lt hb6
  have hn4_6 : b4 < b6 := Nat.lt_of_lt_of_le hB4.lt hb6
  have hq6 : w.heap.size ≤ b6 := Nat.le_trans hX.size hb6
  have hl6 : Mine (fun i => i = b3) w b6 := .inr hq6
  replace hX := hX.tr hE2
  replace hB3 := hB3.ext hE2 id; replace hB4 := hB4.ext hE2 id
  refine wl_alloc z_59 ?_; intro b8 w3 hb8 hE3 hB8
  have hn3_8 : b3 < b8 := Nat.lt_of_lt_of_le hB3.lt hb8
  have hn4_8 : b4 < b8 := Nat.lt_of_lt_of_le hB4.lt hb8
  have hn6_8 : b6 < b8 := Nat.lt_of_lt_of_le hB6.lt hb8
  have hq8 : w.heap.size ≤ b8 := Nat.le_trans hX.size hb8
  have hl8 : Mine (fun i => i = b3) w b8 := .inr hq8
  replace hX := hX.tr hE3
  replace hB3 := hB3.ext hE3 id; replace hB4 := hB4.ext hE3 id; replace hB6 := hB6.ext hE3 id
  refine wl_nil ?_
  refine W_seq ?_
  refine W_region ?_
  refine wl_val (rn_loadB s_59 rfl rfl hB4) ?_
  refine wl_val (rn_move (by conv => lhs; whnf)) ?_
  refine wl_call e_38 rfl (sbox_ok w3 d (fun i => M i ∨ i = b4 ∨ i = b6 ∨ i = b8) (fun i h => by rcases h with h | h | h | h; exact Nat.lt_of_lt_of_le (hM i h) hX.size; rw [h]; exact hB4.lt; rw [h]; exact hB6.lt; rw [h]; exact hB8.lt) ((hmd.sub (M' := fun i => M i ∨ i = b4 ∨ i = b6 ∨ i = b8) (fun i h hlt => by rcases h with h | h | h | h; exact h; omega; omega; omega)).ext hX (fun i e => .inl (e ▸ hMb))) hbs hbn sub) ?_; intro v12 w4 hE4 hR4
  replace hX := hX.tr hE4
  replace hB3 := hB3.ext hE4 id; replace hB4 := hB4.ext hE4 id; replace hB6 := hB6.ext hE4 id; replace hB8 := hB8.ext hE4 id
  obtain ⟨a, n, c, rfl, hS12⟩ := hR4
  have hnl : n = (d.boxOf sub).1.length := by obtain ⟨_, _, e, _⟩ := id hS12.len; simp only [Value.slice.injEq, List.length_map] at e; exact e.2.1
  subst hnl
  have hcap := sl_cap2 hS12; rw [List.length_map] at hcap
  replace hS12 := hS12.sub (M' := fun i => M i ∨ i = b4 ∨ i = b6 ∨ i = b8 ∨ (World.heap w4).size ≤ i) (fun i h hlt => by rcases h with h | h | h | h | h; exact .inl h; exact .inr (.inl h); exact .inr (.inr (.inl h)); exact .inr (.inr (.inr h)); omega)
  refine wl_alloc z_87 ?_; intro b9 w5 hb9 hE5 hB9
  have hn3_9 : b3 < b9 := Nat.lt_of_lt_of_le hB3.lt hb9
  have hn4_9 : b4 < b9 := Nat.lt_of_lt_of_le hB4.lt hb9
  have hn6_9 : b6 < b9 := Nat.lt_of_lt_of_le hB6.lt hb9
  have hn8_9 : b8 < b9 := Nat.lt_of_lt_of_le hB8.lt hb9
  have hq9 : w.heap.size ≤ b9 := Nat.le_trans hX.size hb9
  have hl9 : Mine (fun i => i = b3) w b9 := .inr hq9
  replace hX := hX.tr hE5
  replace hB3 := hB3.ext hE5 id; replace hB4 := hB4.ext hE5 id; replace hB6 := hB6.ext hE5 id; replace hB8 := hB8.ext hE5 id
  replace hS12 := hS12.ext hE5 (fun _ h => h.elim)
  have hBo := hB9
  refine wl_storeB s_87 rfl rfl rfl (two1 rfl rfl) hB9 rfl ?_; intro w6 hE6 hB9 hz6
  replace hX := hX.mine hE6 hl9
  replace hB3 := hB3.ext hE6 (fun h => by omega); replace hB4 := hB4.ext hE6 (fun h => by omega); replace hB6 := hB6.ext hE6 (fun h => by omega); replace hB8 := hB8.ext hE6 (fun h => by omega)
  replace hS12 := hS12.ext hE6 (fun i e => by first | exact .inl (e ▸ hMb) | exact .inr (.inl e) | exact .inr (.inr (.inl e)) | exact .inr (.inr (.inr (.inl e))) | exact .inr (.inr (.inr (.inr e))) | exact .inr (.inr (.inr (.inr (by rw [e]; exact hb9)))))
  refine wl_nil ?_
  refine W_seq ?_
  refine W_seq ?_
  refine W_region ?_
  refine wl_val (rn_fieldAddr f_87_0 (by decide) rfl) ?_
  refine wl_val (rn_load1 p_85 rfl hB9 rfl) ?_
  refine wl_val (rn_len sl_85 rfl) ?_
  refine wl_val (rn_fieldAddr f_59_1 (by decide) rfl) ?_
  refine wl_val (rn_load1 p_3 rfl hB4 rfl) ?_
  refine wl_val (rn_lss rfl rfl) ?_
  refine wl_nil ?_
  refine W_cond rfl (fun hc0 => ?_) (fun hc0 => ?_)
  · have hroom := of_decide_eq_true hc0
    refine W_seq ?_
    refine W_drawX (fun j => j == 13) mixed ?_; intro w7 hE7
    replace hX := hX.tr hE7
    replace hB3 := hB3.ext hE7 id; replace hB4 := hB4.ext hE7 id; replace hB6 := hB6.ext hE7 id; replace hB8 := hB8.ext hE7 id; replace hB9 := hB9.ext hE7 id
    replace hS12 := hS12.ext hE7 (fun _ h => h.elim)
    have hS := Ext.refl Non w7
    refine wx_take 0 [1, 8, 11, 12, 13] _ _ rfl (by kernel_rfl) hS (yd_do fun A hA => rn_fieldAddr f_87_0 (by decide) rfl) ?_
    refine wx_take 1 [8, 11, 12, 13] _ _ rfl (by kernel_rfl) hS (yd_do fun A hA => rn_load1 p_85 rfl (hB9.ext hA id) rfl) ?_
    refine wx_take 2 [3, 4, 8, 11, 12, 13] _ _ rfl (by kernel_rfl) hS (yd_do fun A hA => rn_fieldAddr f_87_0 (by decide) rfl) ?_
    refine wx_take 3 [4, 8, 11, 12, 13] _ _ rfl (by kernel_rfl) hS (yd_do fun A hA => rn_load1 p_85 rfl (hB9.ext hA id) rfl) ?_
    refine wx_take 4 [8, 11, 12, 13] _ _ rfl (by kernel_rfl) hS (yd_do fun A hA => rn_len sl_85 rfl) ?_
    refine wx_take 5 [6, 7, 8, 11, 12, 13] _ _ rfl (by kernel_rfl) hS (yd_do fun A hA => rn_fieldAddr f_87_0 (by decide) rfl) ?_
    refine wx_take 6 [7, 8, 11, 12, 13] _ _ rfl (by kernel_rfl) hS (yd_do fun A hA => rn_load1 p_85 rfl (hB9.ext hA id) rfl) ?_
    refine wx_take 7 [8, 11, 12, 13] _ _ rfl (by kernel_rfl) hS (yd_do fun A hA => rn_len sl_85 rfl) ?_
    refine wx_take 8 [11, 12, 13] _ _ rfl (by kernel_rfl) hS (yd_do fun A hA => rn_slice0 sl_85 (h := (d.boxOf sub).1.length) (m := (d.boxOf sub).1.length) rfl rfl ⟨_, rfl⟩ ⟨_, rfl⟩ (by simp) (by omega) (by omega)) ?_
    refine wx_take 9 [10, 11, 12, 13] _ _ rfl (by kernel_rfl) hS (yd_do fun A hA => rn_loadB s_62 rfl rfl (hB6.ext hA id)) ?_
    refine wx_only 10 _ rfl (by kernel_rfl) ?_
    refine s1_do ?_
    refine wl_lit1 (r := m.enc) sl_85 rfl rfl rfl rfl (by decide) ?_; intro v29 w8 b29 hb29 hE8 hO29
    obtain ⟨k29, hv29, _⟩ := id hO29.val; subst hv29
    replace hS := hS.tr hE8
    refine wl_nil ⟨fun _ => hS, ?_⟩
    refine wx_only 11 _ rfl (by kernel_rfl) ?_
    refine s1_do ?_
    refine wl_grow (rows := (d.boxOf sub).1.map MsgD.enc) (rows2 := [m.enc]) sl_85 rfl rfl rfl (by have := ((hS12.ext hS (fun _ h => h.elim)).sub (M' := Non) (fun _ h _ => h.elim)).cut0 (h := (d.boxOf sub).1.length) (m := (d.boxOf sub).1.length) (Nat.le_refl _) (Nat.le_refl _) (by omega); rw [List.take_of_length_le (by rw [List.length_map]; exact Nat.le_refl _)] at this; exact this) (hO29.sl (M := Non) id) (by simp only [List.length_map, List.length_cons, List.length_nil]; omega) (by simp only [List.length_map, List.length_cons, List.length_nil]; omega) (by simp only [List.length_map, List.length_cons, List.length_nil, big]; omega) ?_; intro v30 w9 b30 spare30 hb30 hE9 hO30
    rw [show (d.boxOf sub).1.map MsgD.enc ++ [m.enc] = ((d.boxOf sub).1 ++ [m]).map MsgD.enc from by rw [List.map_append]; rfl] at hO30
    obtain ⟨k30, hv30, _⟩ := id hO30.val; subst hv30
    have hz4d := hB4.lt; have hz6d := hB6.lt; have hz8d := hB8.lt; have hz9d := hB9.lt; have hsd := hS.size; have hxd := hX.size
    have hSq := hO30.sl (M := (fun i => M i ∨ i = b4 ∨ i = b6 ∨ i = b8 ∨ i = b9)) (fun h => by rcases h with h | h | h | h | h; have := hM _ h; omega; omega; omega; omega; omega)
    replace hS := hS.tr hE9
    replace hO29 := hO29.ext hE9 id
    refine wl_nil ⟨fun _ => hS, ?_⟩
    refine wx_take 12 [13] _ _ rfl (by kernel_rfl) hS (yd_do fun A hA => rn_fieldAddr f_87_0 (by decide) rfl) ?_
    replace hX := hX.tr hS
    replace hB3 := hB3.ext hS id; replace hB4 := hB4.ext hS id; replace hB6 := hB6.ext hS id; replace hB8 := hB8.ext hS id; replace hB9 := hB9.ext hS id
    replace hS12 := hS12.ext hS (fun _ h => h.elim)
    refine wx_only 13 _ rfl (by kernel_rfl) ?_
    refine s1_do ?_
    have hBo := hB9
    refine wl_store1 (b := b9) p_85 rfl (by conv => lhs; whnf) rfl rfl hB9 (Nat.le_of_ble_eq_true rfl) ?_; intro w10 hE10 hB9 hz10
    replace hX := hX.mine hE10 hl9
    replace hB3 := hB3.ext hE10 (fun h => by omega); replace hB4 := hB4.ext hE10 (fun h => by omega); replace hB6 := hB6.ext hE10 (fun h => by omega); replace hB8 := hB8.ext hE10 (fun h => by omega)
    replace hS12 := hS12.ext hE10 (fun i e => by first | exact .inl (e ▸ hMb) | exact .inr (.inl e) | exact .inr (.inr (.inl e)) | exact .inr (.inr (.inr (.inl e))) | exact .inr (.inr (.inr (.inr e))) | exact .inr (.inr (.inr (.inr (by rw [e]; exact hb9)))))
    replace hSq := hSq.ext hE10 (fun i e => by first | exact .inl (e ▸ hMb) | exact .inr (.inl e) | exact .inr (.inr (.inl e)) | exact .inr (.inr (.inr (.inl e))) | exact .inr (.inr (.inr (.inr e))) | exact .inr (.inr (.inr (.inr (by rw [e]; exact hb9)))))
    refine wl_nil ⟨fun h => absurd h (by decide), ?_⟩
    refine wx_done (by kernel_rfl) ?_ _
    refine W_region ?_
    refine wl_val (rn_move (by conv => lhs; whnf)) ?_
    refine wl_val (rn_nilCheck rfl) ?_
    refine wl_val (rn_fieldAddr f_64_1 (by decide) rfl) ?_
    refine wl_val (rn_load1 p_3 rfl hB3 rfl) ?_
    refine wl_val (rn_add rfl rfl (by omega)) ?_
    refine wl_val (rn_nilCheck rfl) ?_
    refine wl_val (rn_fieldAddr f_64_1 (by decide) rfl) ?_
    have hBo := hB3
    refine wl_store1 (b := b3) p_3 rfl (by conv => lhs; whnf) rfl rfl hB3 (Nat.le_of_ble_eq_true rfl) ?_; intro w11 hE11 hB3 hz11
    replace hX := hX.mine hE11 hl3
    replace hB4 := hB4.ext hE11 (fun h => by omega); replace hB6 := hB6.ext hE11 (fun h => by omega); replace hB8 := hB8.ext hE11 (fun h => by omega); replace hB9 := hB9.ext hE11 (fun h => by omega)
    replace hS12 := hS12.ext hE11 (fun i e => by first | exact .inl (e ▸ hMb) | exact .inr (.inl e) | exact .inr (.inr (.inl e)) | exact .inr (.inr (.inr (.inl e))) | exact .inr (.inr (.inr (.inr e))) | exact .inr (.inr (.inr (.inr (by rw [e]; exact hb9)))))
    replace hSq := hSq.ext hE11 (fun i e => by first | exact .inl (e ▸ hMb) | exact .inr (.inl e) | exact .inr (.inr (.inl e)) | exact .inr (.inr (.inr (.inl e))) | exact .inr (.inr (.inr (.inr e))) | exact .inr (.inr (.inr (.inr (by rw [e]; exact hb9)))))
    refine wl_nil ?_
    refine W_seq ?_
    refine W_region ?_
    refine wl_val (rn_fieldAddr f_59_2 (by decide) rfl) ?_
    refine wl_val (rn_loadS s_52 (vs := [_, _]) rfl rfl (hB4.part rfl (Nat.le_of_ble_eq_true rfl))) ?_
    refine wl_val (rn_move (by conv => lhs; whnf)) ?_
    refine wl_val (rn_loadB s_87 rfl rfl hB9) ?_
    have hs54 := hX.size; have hz4 := hB4.lt; have hz6 := hB6.lt; have hz8 := hB8.lt; have hz9 := hB9.lt
    refine wl_call e_61 rfl (mput_ib w11 d.bks bvs sub ((hBx.ext hX (fun i e => e ▸ hMb)).sub (M' := Non) (fun _ h _ => h.elim)) hbs (by omega) (hQ.one (by omega)) _ _ rfl rfl) ?_; intro v54 w12 hE12 hR12
    replace hX := hX.tr hE12
    replace hB3 := hB3.ext hE12 id; replace hB4 := hB4.ext hE12 id; replace hB6 := hB6.ext hE12 id; replace hB8 := hB8.ext hE12 id; replace hB9 := hB9.ext hE12 id
    replace hS12 := hS12.ext hE12 (fun _ h => h.elim)
    replace hSq := hSq.ext hE12 (fun _ h => h.elim)
    obtain ⟨u1, u2, rfl, hM54⟩ := hR12; obtain ⟨e1, y1, z1, rfl⟩ := id hM54.keys.shape; obtain ⟨e2, y2, z2, rfl⟩ := id hM54.vals.shape
    replace hM54 := hM54.sub (M' := (fun i => M i ∨ i = b4 ∨ i = b6 ∨ i = b8 ∨ i = b9)) (fun i h _ => by unfold Old; rcases h with h | h | h | h | h; have := hM i h; omega; omega; omega; omega; omega)
    refine wl_val (rn_fieldAddr f_59_2 (by decide) rfl) ?_
    have hBo := hB4
    refine wl_storeP (b := b4) s_52 rfl rfl rfl (two1 rfl rfl) hB4 (Nat.le_of_ble_eq_true rfl) ?_; intro w13 hE13 hB4 hz13
    replace hX := hX.mine hE13 hl4
    replace hB3 := hB3.ext hE13 (fun h => by omega); replace hB6 := hB6.ext hE13 (fun h => by omega); replace hB8 := hB8.ext hE13 (fun h => by omega); replace hB9 := hB9.ext hE13 (fun h => by omega)
    replace hS12 := hS12.ext hE13 (fun i e => by first | exact .inl (e ▸ hMb) | exact .inr (.inl e) | exact .inr (.inr (.inl e)) | exact .inr (.inr (.inr (.inl e))) | exact .inr (.inr (.inr (.inr e))) | exact .inr (.inr (.inr (.inr (by rw [e]; exact hb9)))))
    replace hSq := hSq.ext hE13 (fun i e => by first | exact .inl (e ▸ hMb) | exact .inr (.inl e) | exact .inr (.inr (.inl e)) | exact .inr (.inr (.inr (.inl e))) | exact .inr (.inr (.inr (.inr e))) | exact .inr (.inr (.inr (.inr (by rw [e]; exact hb9)))))
    replace hM54 := hM54.ext hE13 (fun i e => by first | exact .inl (e ▸ hMb) | exact .inr (.inl e) | exact .inr (.inr (.inl e)) | exact .inr (.inr (.inr (.inl e))) | exact .inr (.inr (.inr (.inr e))) | exact .inr (.inr (.inr (.inr (by rw [e]; exact hb9)))))
    refine wl_nil ?_
    refine W_seq ?_
    refine W_region ?_
    refine wl_val (rn_loadB s_59 rfl rfl hB4) ?_
    have hBo := hB8
    refine wl_storeB s_59 rfl rfl rfl (elev1 rfl rfl rfl rfl rfl rfl rfl rfl rfl rfl rfl) hB8 rfl ?_; intro w14 hE14 hB8 hz14
    replace hX := hX.mine hE14 hl8
    replace hB3 := hB3.ext hE14 (fun h => by omega); replace hB4 := hB4.ext hE14 (fun h => by omega); replace hB6 := hB6.ext hE14 (fun h => by omega); replace hB9 := hB9.ext hE14 (fun h => by omega)
    replace hS12 := hS12.ext hE14 (fun i e => by first | exact .inl (e ▸ hMb) | exact .inr (.inl e) | exact .inr (.inr (.inl e)) | exact .inr (.inr (.inr (.inl e))) | exact .inr (.inr (.inr (.inr e))) | exact .inr (.inr (.inr (.inr (by rw [e]; exact hb9)))))
    replace hSq := hSq.ext hE14 (fun i e => by first | exact .inl (e ▸ hMb) | exact .inr (.inl e) | exact .inr (.inr (.inl e)) | exact .inr (.inr (.inr (.inl e))) | exact .inr (.inr (.inr (.inr e))) | exact .inr (.inr (.inr (.inr (by rw [e]; exact hb9)))))
    replace hM54 := hM54.ext hE14 (fun i e => by first | exact .inl (e ▸ hMb) | exact .inr (.inl e) | exact .inr (.inr (.inl e)) | exact .inr (.inr (.inr (.inl e))) | exact .inr (.inr (.inr (.inr e))) | exact .inr (.inr (.inr (.inr (by rw [e]; exact hb9)))))
    refine wl_nil ?_
    refine W_ret ?_
    have e0 := offS_yes (m := m) (a := x.a) (b := x.b) hroom
    have hwB : ∀ i, M i → ¬ i = b4 := fun i h e => by have := hM i h; omega
    exact ⟨_, resR1 (res1_box s_59 rfl hB8 rfl), hX, ⟨_, rfl, by rw [e0]; exact ⟨pa, q1, l1, c1, q2, l2, c2, e1, y1, z1, e2, y2, z2, q5, l5, c5, q6, l6, c6, nvs, _, rfl, hT.ext hX (fun i e => e ▸ hMb), hN.ext hX (fun i e => e ▸ hMb), hNv, hM54.sub (fun i h _ => .inl h), setBox_lens hbl _ _, (hQ.ext hX (fun i e => e ▸ hMb)).put hbl hbl2 sub ((d.boxOf sub).1 ++ [m], (d.boxOf sub).2) (hSq.sub (fun i h _ => .inl h)), hK.ext hX (fun i e => e ▸ hMb)⟩, by rw [e0]; exact hB3⟩⟩
  · have hroom := of_decide_eq_false hc0
    refine W_seq ?_
    refine W_region ?_
    refine wl_val (rn_fieldAddr f_87_1 (by decide) rfl) ?_
    refine wl_val (rn_load1 p_3 rfl hB9 rfl) ?_
    refine wl_val (rn_add rfl rfl (by omega)) ?_
    refine wl_val (rn_fieldAddr f_87_1 (by decide) rfl) ?_
    have hBo := hB9
    refine wl_store1 (b := b9) p_3 rfl (by conv => lhs; whnf) rfl rfl hB9 (Nat.le_of_ble_eq_true rfl) ?_; intro w15 hE15 hB9 hz15
    replace hX := hX.mine hE15 hl9
    replace hB3 := hB3.ext hE15 (fun h => by omega); replace hB4 := hB4.ext hE15 (fun h => by omega); replace hB6 := hB6.ext hE15 (fun h => by omega); replace hB8 := hB8.ext hE15 (fun h => by omega)
    replace hS12 := hS12.ext hE15 (fun i e => by first | exact .inl (e ▸ hMb) | exact .inr (.inl e) | exact .inr (.inr (.inl e)) | exact .inr (.inr (.inr (.inl e))) | exact .inr (.inr (.inr (.inr e))) | exact .inr (.inr (.inr (.inr (by rw [e]; exact hb9)))))
    refine wl_nil ?_
    refine W_region ?_
    refine wl_val (rn_move (by conv => lhs; whnf)) ?_
    refine wl_val (rn_nilCheck rfl) ?_
    refine wl_val (rn_fieldAddr f_64_2 (by decide) rfl) ?_
    refine wl_val (rn_load1 p_3 rfl hB3 rfl) ?_
    refine wl_val (rn_add rfl rfl (by omega)) ?_
    refine wl_val (rn_nilCheck rfl) ?_
    refine wl_val (rn_fieldAddr f_64_2 (by decide) rfl) ?_
    have hBo := hB3
    refine wl_store1 (b := b3) p_3 rfl (by conv => lhs; whnf) rfl rfl hB3 (Nat.le_of_ble_eq_true rfl) ?_; intro w16 hE16 hB3 hz16
    replace hX := hX.mine hE16 hl3
    replace hB4 := hB4.ext hE16 (fun h => by omega); replace hB6 := hB6.ext hE16 (fun h => by omega); replace hB8 := hB8.ext hE16 (fun h => by omega); replace hB9 := hB9.ext hE16 (fun h => by omega)
    replace hS12 := hS12.ext hE16 (fun i e => by first | exact .inl (e ▸ hMb) | exact .inr (.inl e) | exact .inr (.inr (.inl e)) | exact .inr (.inr (.inr (.inl e))) | exact .inr (.inr (.inr (.inr e))) | exact .inr (.inr (.inr (.inr (by rw [e]; exact hb9)))))
    refine wl_nil ?_
    refine W_seq ?_
    refine W_region ?_
    refine wl_val (rn_fieldAddr f_59_2 (by decide) rfl) ?_
    refine wl_val (rn_loadS s_52 (vs := [_, _]) rfl rfl (hB4.part rfl (Nat.le_of_ble_eq_true rfl))) ?_
    refine wl_val (rn_move (by conv => lhs; whnf)) ?_
    refine wl_val (rn_loadB s_87 rfl rfl hB9) ?_
    have hs54 := hX.size; have hz4 := hB4.lt; have hz6 := hB6.lt; have hz8 := hB8.lt; have hz9 := hB9.lt
    refine wl_call e_61 rfl (mput_ib w16 d.bks bvs sub ((hBx.ext hX (fun i e => e ▸ hMb)).sub (M' := Non) (fun _ h _ => h.elim)) hbs (by omega) (hQ.one (by omega)) _ _ rfl rfl) ?_; intro v54 w17 hE17 hR17
    replace hX := hX.tr hE17
    replace hB3 := hB3.ext hE17 id; replace hB4 := hB4.ext hE17 id; replace hB6 := hB6.ext hE17 id; replace hB8 := hB8.ext hE17 id; replace hB9 := hB9.ext hE17 id
    replace hS12 := hS12.ext hE17 (fun _ h => h.elim)
    obtain ⟨u1, u2, rfl, hM54⟩ := hR17; obtain ⟨e1, y1, z1, rfl⟩ := id hM54.keys.shape; obtain ⟨e2, y2, z2, rfl⟩ := id hM54.vals.shape
    replace hM54 := hM54.sub (M' := (fun i => M i ∨ i = b4 ∨ i = b6 ∨ i = b8 ∨ i = b9)) (fun i h _ => by unfold Old; rcases h with h | h | h | h | h; have := hM i h; omega; omega; omega; omega; omega)
    refine wl_val (rn_fieldAddr f_59_2 (by decide) rfl) ?_
    have hBo := hB4
    refine wl_storeP (b := b4) s_52 rfl rfl rfl (two1 rfl rfl) hB4 (Nat.le_of_ble_eq_true rfl) ?_; intro w18 hE18 hB4 hz18
    replace hX := hX.mine hE18 hl4
    replace hB3 := hB3.ext hE18 (fun h => by omega); replace hB6 := hB6.ext hE18 (fun h => by omega); replace hB8 := hB8.ext hE18 (fun h => by omega); replace hB9 := hB9.ext hE18 (fun h => by omega)
    replace hS12 := hS12.ext hE18 (fun i e => by first | exact .inl (e ▸ hMb) | exact .inr (.inl e) | exact .inr (.inr (.inl e)) | exact .inr (.inr (.inr (.inl e))) | exact .inr (.inr (.inr (.inr e))) | exact .inr (.inr (.inr (.inr (by rw [e]; exact hb9)))))
    replace hM54 := hM54.ext hE18 (fun i e => by first | exact .inl (e ▸ hMb) | exact .inr (.inl e) | exact .inr (.inr (.inl e)) | exact .inr (.inr (.inr (.inl e))) | exact .inr (.inr (.inr (.inr e))) | exact .inr (.inr (.inr (.inr (by rw [e]; exact hb9)))))
    refine wl_nil ?_
    refine W_seq ?_
    refine W_region ?_
    refine wl_val (rn_loadB s_59 rfl rfl hB4) ?_
    have hBo := hB8
    refine wl_storeB s_59 rfl rfl rfl (elev1 rfl rfl rfl rfl rfl rfl rfl rfl rfl rfl rfl) hB8 rfl ?_; intro w19 hE19 hB8 hz19
    replace hX := hX.mine hE19 hl8
    replace hB3 := hB3.ext hE19 (fun h => by omega); replace hB4 := hB4.ext hE19 (fun h => by omega); replace hB6 := hB6.ext hE19 (fun h => by omega); replace hB9 := hB9.ext hE19 (fun h => by omega)
    replace hS12 := hS12.ext hE19 (fun i e => by first | exact .inl (e ▸ hMb) | exact .inr (.inl e) | exact .inr (.inr (.inl e)) | exact .inr (.inr (.inr (.inl e))) | exact .inr (.inr (.inr (.inr e))) | exact .inr (.inr (.inr (.inr (by rw [e]; exact hb9)))))
    replace hM54 := hM54.ext hE19 (fun i e => by first | exact .inl (e ▸ hMb) | exact .inr (.inl e) | exact .inr (.inr (.inl e)) | exact .inr (.inr (.inr (.inl e))) | exact .inr (.inr (.inr (.inr e))) | exact .inr (.inr (.inr (.inr (by rw [e]; exact hb9)))))
    refine wl_nil ?_
    refine W_ret ?_
    have e0 := offS_no (m := m) (a := x.a) (b := x.b) hroom
    have hwB : ∀ i, M i → ¬ i = b4 := fun i h e => by have := hM i h; omega
    exact ⟨_, resR1 (res1_box s_59 rfl hB8 rfl), hX, ⟨_, rfl, by rw [e0]; exact ⟨pa, q1, l1, c1, q2, l2, c2, e1, y1, z1, e2, y2, z2, q5, l5, c5, q6, l6, c6, nvs, _, rfl, hT.ext hX (fun i e => e ▸ hMb), hN.ext hX (fun i e => e ▸ hMb), hNv, hM54.sub (fun i h _ => .inl h), setBox_lens hbl _ _, (hQ.ext hX (fun i e => e ▸ hMb)).put hbl hbl2 sub ((d.boxOf sub).1, (d.boxOf sub).2 + 1) (hS12.sub (fun i h _ => .inl h)), hK.ext hX (fun i e => e ▸ hMb)⟩, by rw [e0]; exact hB3⟩⟩
end Go.Proofs.YtaddeakfojpdoaaGreatDoorC

/- The model's bounds; plain. -/
set_option linter.unusedVariables false
set_option linter.unusedSimpArgs false
namespace Go.Proofs.YtaddeakfojpdoaaGreatDoorC
open Go.RowKit
/-- The boxes are few, rising, and small. -/
structure BdM (N : Nat) (d : Md) : Prop where
  s : Sorted ltI d.bks
  n : d.bks.length ≤ N
  l : d.bqs.length = d.bks.length
  q : ∀ q ∈ d.bqs, q.1.length ≤ N ∧ 0 ≤ q.2 ∧ q.2 ≤ N
theorem BdM.mono {N N' : Nat} {d : Md} (h : BdM N d) (hn : N ≤ N') : BdM N' d := ⟨h.s, Nat.le_trans h.n hn, h.l, fun q hq => by have := h.q q hq; omega⟩
theorem BdM.box {N : Nat} {d : Md} (h : BdM N d) (sub : Int) : (d.boxOf sub).1.length ≤ N ∧ 0 ≤ (d.boxOf sub).2 ∧ (d.boxOf sub).2 ≤ N := by
  unfold Md.boxOf
  split
  · rename_i ha
    have hlt := isAt_lt ha
    have hq : d.bqs[lb ltI d.bks sub]? = some (d.bqs[lb ltI d.bks sub]'(by have := h.l; omega)) := List.getElem?_eq_getElem _
    rw [hq]; exact h.q _ (List.getElem_mem _)
  · exact ⟨Nat.zero_le _, Int.le_refl _, by simp⟩
theorem putW_mem {κ α : Type} [DecidableEq κ] {lt : κ → κ → Bool} {ks : List κ} {l : κ} {vs : List α} {k x : α} (h : x ∈ putW lt ks l vs k) : x = k ∨ x ∈ vs := by
  unfold putW at h
  split at h
  · rcases List.mem_or_eq_of_mem_set h with h | h
    · exact .inr h
    · exact .inl h
  · simp only [List.mem_append, List.mem_cons] at h
    rcases h with h | h | h
    · exact .inr (List.mem_of_mem_take h)
    · exact .inl h
    · exact .inr (List.mem_of_mem_drop h)
theorem BdM.set {N : Nat} {d : Md} (h : BdM N d) (sub : Int) {q : List MsgD × Int} (hq : q.1.length ≤ N + 1 ∧ 0 ≤ q.2 ∧ q.2 ≤ ((N + 1 : Nat) : Int)) : BdM (N + 1) (d.setBox sub q) :=
  ⟨putK_sorted lo_int h.s sub, Nat.le_trans (putK_len _ _) (Nat.succ_le_succ h.n), setBox_lens h.l sub q, fun x hx => by
    rcases putW_mem hx with rfl | hx
    · exact hq
    · have := h.q x hx; omega⟩
theorem BdM.off {N : Nat} {x : Md × Int × Int} (h : BdM N x.1) (m : MsgD) (sub : Int) : BdM (N + 1) (offS m x sub).1 := by
  have hb := h.box sub
  unfold offS
  split
  · exact h.set sub ⟨by simp only [List.length_append, List.length_singleton]; omega, by show (0 : Int) ≤ (x.1.boxOf sub).2; omega, by show (x.1.boxOf sub).2 ≤ _; omega⟩
  · exact h.set sub ⟨by show (x.1.boxOf sub).1.length ≤ N + 1; omega, by show (0 : Int) ≤ (x.1.boxOf sub).2 + 1; omega, by show (x.1.boxOf sub).2 + 1 ≤ _; omega⟩
theorem off_cnt (m : MsgD) (x : Md × Int × Int) (sub : Int) : x.2.1 ≤ (offS m x sub).2.1 ∧ (offS m x sub).2.1 ≤ x.2.1 + 1 ∧ x.2.2 ≤ (offS m x sub).2.2 ∧ (offS m x sub).2.2 ≤ x.2.2 + 1 := by
  unfold offS; split
  · exact ⟨by show x.2.1 ≤ x.2.1 + 1; omega, Int.le_refl _, Int.le_refl _, by show x.2.2 ≤ x.2.2 + 1; omega⟩
  · exact ⟨Int.le_refl _, by show x.2.1 ≤ x.2.1 + 1; omega, by show x.2.2 ≤ x.2.2 + 1; omega, Int.le_refl _⟩
theorem fold_bd {α : Type} (f : Md × Int × Int → α → Md × Int × Int) (hf : ∀ (N : Nat) x y, BdM N x.1 → BdM (N + 1) (f x y).1 ∧ x.2.1 ≤ (f x y).2.1 ∧ (f x y).2.1 ≤ x.2.1 + 1 ∧ x.2.2 ≤ (f x y).2.2 ∧ (f x y).2.2 ≤ x.2.2 + 1) : ∀ (l : List α) (N : Nat) (x : Md × Int × Int), BdM N x.1 →
    BdM (N + l.length) (l.foldl f x).1 ∧ x.2.1 ≤ (l.foldl f x).2.1 ∧ (l.foldl f x).2.1 ≤ x.2.1 + (l.length : Nat) ∧ x.2.2 ≤ (l.foldl f x).2.2 ∧ (l.foldl f x).2.2 ≤ x.2.2 + (l.length : Nat) := by
  intro l
  induction l with
  | nil => intro N x h; exact ⟨h, Int.le_refl _, by simp, Int.le_refl _, by simp⟩
  | cons y l ih =>
    intro N x h
    have h1 := hf N x y h
    have h2 := ih (N + 1) (f x y) h1.1
    simp only [List.foldl_cons, List.length_cons]
    refine ⟨by rw [show N + (l.length + 1) = N + 1 + l.length from by omega]; exact h2.1, by omega, by omega, by omega, by omega⟩
theorem off_bd (m : MsgD) : ∀ (N : Nat) (x : Md × Int × Int) (y : Int), BdM N x.1 → BdM (N + 1) (offS m x y).1 ∧ x.2.1 ≤ (offS m x y).2.1 ∧ (offS m x y).2.1 ≤ x.2.1 + 1 ∧ x.2.2 ≤ (offS m x y).2.2 ∧ (offS m x y).2.2 ≤ x.2.2 + 1 :=
  fun N x y h => ⟨h.off m y, off_cnt m x y⟩
theorem off_bd2 (sub : Int) : ∀ (N : Nat) (x : Md × Int × Int) (y : Str × (Str × Int)), BdM N x.1 → BdM (N + 1) (offS (keptMsg y) x sub).1 ∧ x.2.1 ≤ (offS (keptMsg y) x sub).2.1 ∧ (offS (keptMsg y) x sub).2.1 ≤ x.2.1 + 1 ∧ x.2.2 ≤ (offS (keptMsg y) x sub).2.2 ∧ (offS (keptMsg y) x sub).2.2 ≤ x.2.2 + 1 :=
  fun N x y h => ⟨h.off _ sub, off_cnt _ x sub⟩
theorem reach_len {t : Tr} {n m : Nat} {U : List Int} (hok : t.Ok n m) (hin : t.In U) (name : Str) : (reach t name).length ≤ U.length := by
  have : Sorted ltI (reach t name) ∧ ∀ s ∈ reach t name, s ∈ U := by unfold reach; split; exact mt_in _ _ true t [] hok hin sorted_nil (by simp); exact ⟨sorted_nil, by simp⟩
  exact in_len this.1 this.2
theorem fold_take2 {α β : Type} {f : β → α → β} {l : List α} {x0 : β} {i : Nat} {x : α} (h : l[i]? = some x) : (l.take (i + 1)).foldl f x0 = f ((l.take i).foldl f x0) x := by
  rw [List.take_add_one, h]; simp
end Go.Proofs.YtaddeakfojpdoaaGreatDoorC

/- The model: publishing. -/
set_option linter.unusedVariables false
set_option linter.unusedSimpArgs false
set_option maxRecDepth 100000
namespace Go.Proofs.YtaddeakfojpdoaaGreatDoorC
open Go.RowKit
theorem MdM.setKept {M : Nat → Prop} {w : World} {d : Md} {c0 c1 c2 c3 c4 c5 c6 c7 k1 k2 kv : Value} (h : MdM M w d [c0, c1, c2, c3, c4, c5, c6, c7, k1, k2, kv]) {e1 e2 : Option Addr} {y1 g1 y2 g2 : Nat} {ks : List Str} {ys : List (Str × Int)} {ver : Int} (hK : MapR M w eS1 2 (.slice e1 y1 g1) (.slice e2 y2 g2) ks (ys.map eE1)) :
    MdM M w { d with ks := ks, ys := ys, ver := ver } [c0, c1, c2, c3, c4, c5, c6, c7, .slice e1 y1 g1, .slice e2 y2 g2, .int .i64 ver] := by
  obtain ⟨pa, q1, l1, a1, q2, l2, a2, q3, l3, a3, q4, l4, a4, q5, l5, a5, q6, l6, a6, nvs, bvs, e, h1, h2, h3, h4, h5, h6, h7⟩ := h
  simp only [List.cons.injEq, and_true] at e
  obtain ⟨rfl, rfl, rfl, rfl, rfl, rfl, rfl, rfl, _⟩ := e
  exact ⟨pa, q1, l1, a1, q2, l2, a2, q3, l3, a3, q4, l4, a4, e1, y1, g1, e2, y2, g2, nvs, bvs, rfl, h1, h2, h3, h4, h5, h6, hK⟩
theorem Ext.mineG {F G : Nat → Prop} {w A B : World} (h : Ext F w A) (k : Ext G A B) (hb : ∀ i, G i → Mine F w i) : Ext F w B :=
  ⟨k.os.trans h.os, k.tape.trans h.tape, k.output.trans h.output, Nat.le_trans h.size k.size, fun i hi hn => (k.block i (Nat.lt_of_lt_of_le hi h.size) (fun h' => by rcases hb i h' with h1 | h1; exact hn h1; omega)).trans (h.block i hi hn)⟩
theorem six1 {a b c d e f : Value} (h1 : a.oneCell' = true) (h2 : b.oneCell' = true) (h3 : c.oneCell' = true) (h4 : d.oneCell' = true) (h5 : e.oneCell' = true) (h6 : f.oneCell' = true) : ∀ x ∈ [a, b, c, d, e, f], x.oneCell' = true := by intro x hx; simp only [List.mem_cons, List.not_mem_nil, or_false] at hx; rcases hx with rfl | rfl | rfl | rfl | rfl | rfl <;> assumption
-- (bellman/model.State).publish
set_option maxHeartbeats 6400000 in
theorem publish_ok (w : World) (d : Md) {cs : List Value} (M : Nat → Prop) (hM : ∀ i, M i → i < w.heap.size) (hd : MdM M w d cs) (hbd : BdM 500 d) (o : OpD) (hos : o.text.length ≤ 100000) (hop : o.payload.length ≤ 100000) (U : List Int) (hU : U.length ≤ 100) {n m : Nat} (hok : d.t.Ok n m) (hn : n ≤ 1000) (hin : d.t.In U) (hko : Sorted ltS d.ks) (hkn : d.ks.length ≤ 1000) (hvr : 0 ≤ d.ver ∧ d.ver ≤ 1000) : Fn Tryz.prog 35 #[.agg cs.toArray, .agg o.enc.toArray] w fun u w' => ∃ cs' : List Value, u = .tuple #[.agg cs'.toArray, .agg (d.publish o).2.enc.toArray] ∧ MdM M w' (d.publish o).1 cs' := by
  obtain ⟨pa, q1, l1, c1, q2, l2, c2, q3, l3, c3, q4, l4, c4, q5, l5, c5, q6, l6, c6, nvs, bvs, rfl, hT, hN, hNv, hBx, hbl, hQ, hK⟩ := id hd
  have hX := Ext.refl Non w
  refine fn_of_W (args := [_, _]) Tryz.func35 rfl (by kernel_rfl) rfl ?_
  refine W_seq ?_
  refine W_region ?_
  refine wl_boxS rfl ?_; intro b2 w1 hb2 hE1 hB2
  have hq2 : w.heap.size ≤ b2 := Nat.le_trans hX.size hb2
  have hl2 : Mine Non w b2 := .inr hq2
  replace hX := hX.tr hE1
  refine wl_boxS rfl ?_; intro b3 w2 hb3 hE2 hB3
  have hn2_3 : b2 < b3 := Nat.lt_of_lt_of_le hB2.lt hb3
  have hq3 : w.heap.size ≤ b3 := Nat.le_trans hX.size hb3
  have hl3 : Mine Non w b3 := .inr hq3
  replace hX := hX.tr hE2
  replace hB2 := hB2.ext hE2 id
  refine wl_alloc z_59 ?_; intro b4 w3 hb4 hE3 hB4
  have hn2_4 : b2 < b4 := Nat.lt_of_lt_of_le hB2.lt hb4
  have hn3_4 : b3 < b4 := Nat.lt_of_lt_of_le hB3.lt hb4
  have hq4 : w.heap.size ≤ b4 := Nat.le_trans hX.size hb4
  have hl4 : Mine Non w b4 := .inr hq4
  replace hX := hX.tr hE3
  replace hB2 := hB2.ext hE3 id; replace hB3 := hB3.ext hE3 id
  refine wl_alloc z_64 ?_; intro b5 w4 hb5 hE4 hB5
  have hn2_5 : b2 < b5 := Nat.lt_of_lt_of_le hB2.lt hb5
  have hn3_5 : b3 < b5 := Nat.lt_of_lt_of_le hB3.lt hb5
  have hn4_5 : b4 < b5 := Nat.lt_of_lt_of_le hB4.lt hb5
  have hq5 : w.heap.size ≤ b5 := Nat.le_trans hX.size hb5
  have hl5 : Mine Non w b5 := .inr hq5
  replace hX := hX.tr hE4
  replace hB2 := hB2.ext hE4 id; replace hB3 := hB3.ext hE4 id; replace hB4 := hB4.ext hE4 id
  refine wl_nil ?_
  refine W_seq ?_
  refine W_region ?_
  refine wl_val (rn_fieldAddr f_59_3 (by decide) rfl) ?_
  refine wl_val (rn_loadS s_57 (vs := [_, _, _]) rfl rfl (hB2.part rfl (Nat.le_of_ble_eq_true rfl))) ?_
  refine wl_val (rn_fieldAddr f_69_2 (by decide) rfl) ?_
  refine wl_val (rn_load1 p_9 rfl hB3 rfl) ?_
  refine wl_val (rn_fieldAddr f_69_3 (by decide) rfl) ?_
  refine wl_val (rn_load1 p_9 rfl hB3 rfl) ?_
  refine wl_call e_58 rfl (kput_ok w4 d.ks d.ys d.ver (fun i => M i ∨ i = b2 ∨ i = b3 ∨ i = b4 ∨ i = b5) (fun i h => by rcases h with h | h | h | h | h; exact Nat.lt_of_lt_of_le (hM i h) hX.size; rw [h]; exact hB2.lt; rw [h]; exact hB3.lt; rw [h]; exact hB4.lt; rw [h]; exact hB5.lt) ((hK.sub (M' := fun i => M i ∨ i = b2 ∨ i = b3 ∨ i = b4 ∨ i = b5) (fun i h hlt => by rcases h with h | h | h | h | h; exact h; omega; omega; omega; omega)).ext hX (fun _ h => h.elim)) hko (by omega) o.text o.payload (by omega) (by omega) (by omega)) ?_; intro v18 w5 hE5 hR5
  replace hX := hX.tr hE5
  replace hB2 := hB2.ext hE5 id; replace hB3 := hB3.ext hE5 id; replace hB4 := hB4.ext hE5 id; replace hB5 := hB5.ext hE5 id
  obtain ⟨x1, x2, rfl, hKp⟩ := hR5; obtain ⟨e1, y1, g1, rfl⟩ := id hKp.keys.shape; obtain ⟨e2, y2, g2, rfl⟩ := id hKp.vals.shape
  obtain ⟨n18, hn18⟩ : ∃ n, n = (World.heap w5).size := ⟨_, rfl⟩
  replace hKp := hKp.sub (M' := fun i => M i ∨ i = b2 ∨ i = b3 ∨ i = b4 ∨ i = b5 ∨ n18 ≤ i) (fun i h hlt => by rcases h with h | h | h | h | h | h; exact .inl h; exact .inr (.inl h); exact .inr (.inr (.inl h)); exact .inr (.inr (.inr (.inl h))); exact .inr (.inr (.inr (.inr h))); omega)
  refine wl_val (rn_move (by conv => lhs; whnf)) ?_
  refine wl_val (rn_extract rfl rfl) ?_
  refine wl_val (rn_extract rfl rfl) ?_
  refine wl_alloc z_57 ?_; intro b6 w6 hb6 hE6 hB6
  have hn2_6 : b2 < b6 := Nat.lt_of_lt_of_le hB2.lt hb6
  have hn3_6 : b3 < b6 := Nat.lt_of_lt_of_le hB3.lt hb6
  have hn4_6 : b4 < b6 := Nat.lt_of_lt_of_le hB4.lt hb6
  have hn5_6 : b5 < b6 := Nat.lt_of_lt_of_le hB5.lt hb6
  have hq6 : w.heap.size ≤ b6 := Nat.le_trans hX.size hb6
  have hl6 : Mine Non w b6 := .inr hq6
  have hg6 : n18 ≤ b6 := by omega
  replace hX := hX.tr hE6
  replace hB2 := hB2.ext hE6 id; replace hB3 := hB3.ext hE6 id; replace hB4 := hB4.ext hE6 id; replace hB5 := hB5.ext hE6 id
  replace hKp := hKp.ext hE6 (fun _ h => h.elim)
  have hBo := hB6
  refine wl_storeB s_57 rfl rfl rfl (three1 rfl rfl rfl) hB6 rfl ?_; intro w7 hE7 hB6 hz7
  replace hX := hX.mine hE7 hl6
  replace hB2 := hB2.ext hE7 (fun h => by omega); replace hB3 := hB3.ext hE7 (fun h => by omega); replace hB4 := hB4.ext hE7 (fun h => by omega); replace hB5 := hB5.ext hE7 (fun h => by omega)
  replace hKp := hKp.ext hE7 (fun i e => .inr (.inr (.inr (.inr (.inr (by rw [e]; exact hg6))))))
  refine wl_val (rn_assign (by conv => lhs; whnf)) ?_
  refine wl_nil ?_
  refine W_seq ?_
  refine W_region ?_
  refine wl_val (rn_move (by conv => lhs; whnf)) ?_
  refine wl_val (rn_build' b_64 rfl rfl (cs := [.int .i64 (kErr o.text o.payload), .int .i64 0, .int .i64 0, Sv [], Sv [], .bool false]) rfl) ?_
  refine wl_alloc z_64 ?_; intro b8 w8 hb8 hE8 hB8
  have hn2_8 : b2 < b8 := Nat.lt_of_lt_of_le hB2.lt hb8
  have hn3_8 : b3 < b8 := Nat.lt_of_lt_of_le hB3.lt hb8
  have hn4_8 : b4 < b8 := Nat.lt_of_lt_of_le hB4.lt hb8
  have hn5_8 : b5 < b8 := Nat.lt_of_lt_of_le hB5.lt hb8
  have hn6_8 : b6 < b8 := Nat.lt_of_lt_of_le hB6.lt hb8
  have hq8 : w.heap.size ≤ b8 := Nat.le_trans hX.size hb8
  have hl8 : Mine Non w b8 := .inr hq8
  have hg8 : n18 ≤ b8 := by have := hB6.lt; omega
  replace hX := hX.tr hE8
  replace hB2 := hB2.ext hE8 id; replace hB3 := hB3.ext hE8 id; replace hB4 := hB4.ext hE8 id; replace hB5 := hB5.ext hE8 id; replace hB6 := hB6.ext hE8 id
  replace hKp := hKp.ext hE8 (fun _ h => h.elim)
  have hBo := hB8
  refine wl_storeB s_64 rfl rfl rfl (six1 rfl rfl rfl rfl rfl rfl) hB8 rfl ?_; intro w9 hE9 hB8 hz9
  replace hX := hX.mine hE9 hl8
  replace hB2 := hB2.ext hE9 (fun h => by omega); replace hB3 := hB3.ext hE9 (fun h => by omega); replace hB4 := hB4.ext hE9 (fun h => by omega); replace hB5 := hB5.ext hE9 (fun h => by omega); replace hB6 := hB6.ext hE9 (fun h => by omega)
  replace hKp := hKp.ext hE9 (fun i e => .inr (.inr (.inr (.inr (.inr (by rw [e]; exact hg8))))))
  refine wl_nil ?_
  refine W_seq ?_
  refine W_seq ?_
  refine W_region ?_
  refine wl_val (rn_move (by conv => lhs; whnf)) ?_
  refine wl_val (rn_eql rfl rfl) ?_
  refine wl_nil ?_
  refine W_cond rfl (fun hc0 => ?_) (fun hc0 => ?_)
  · have hke : (kErr o.text o.payload) = 0 := of_decide_eq_true hc0
    refine W_seq ?_
    refine W_seq ?_
    refine W_region ?_
    refine wl_val (rn_fieldAddr f_59_0 (by decide) rfl) ?_
    refine wl_val (rn_loadS s_49 (vs := [_, _, _, _, _]) rfl rfl (hB2.part rfl (Nat.le_of_ble_eq_true rfl))) ?_
    refine wl_val (rn_fieldAddr f_69_2 (by decide) rfl) ?_
    refine wl_val (rn_load1 p_9 rfl hB3 rfl) ?_
    have hs29 := hX.size; have hz2 := hB2.lt; have hz3 := hB3.lt; have hz4 := hB4.lt; have hz5 := hB5.lt; have hz6 := hB6.lt; have hz8 := hB8.lt
    refine wl_call e_59 rfl (reached_ok w9 d.subs d.t d.len ⟨⟨_, _, _, rfl⟩, _, _, _, rfl⟩ o.text (by omega) U (by omega) hok hn hin ((hT.sub (M' := Non) (fun _ h _ => h.elim)).ext hX (fun _ h => h))) ?_; intro v29 w10 hE10 hR10
    replace hX := hX.tr hE10
    replace hB2 := hB2.ext hE10 id; replace hB3 := hB3.ext hE10 id; replace hB4 := hB4.ext hE10 id; replace hB5 := hB5.ext hE10 id; replace hB6 := hB6.ext hE10 id; replace hB8 := hB8.ext hE10 id
    replace hKp := hKp.ext hE10 (fun _ h => h.elim)
    have hR := (hR10).sub (M' := (fun i => M i ∨ i = b2 ∨ i = b3 ∨ i = b4 ∨ i = b5 ∨ i = b6 ∨ i = b8)) (fun i h _ => by unfold Old; rcases h with h | h | h | h | h | h | h; have := hM i h; omega; omega; omega; omega; omega; omega; omega); obtain ⟨ar, cr, hvr_, hbigr⟩ := id hR.len; rw [List.length_map] at hvr_; subst hvr_
    have hd8 := (hd.sub (M' := (fun i => M i ∨ i = b2 ∨ i = b3 ∨ i = b4 ∨ i = b5 ∨ i = b6 ∨ i = b8)) (fun i h hlt => by rcases h with h | h | h | h | h | h | h; exact h; omega; omega; omega; omega; omega; omega)).ext hX (fun _ h => h.elim)
    have hKp8 := hKp.sub (M' := (fun i => M i ∨ i = b2 ∨ i = b3 ∨ i = b4 ∨ i = b5 ∨ i = b6 ∨ i = b8)) (fun i h _ => by rcases h with h | h | h | h | h | h | h; exact .inl h; exact .inr (.inl h); exact .inr (.inr (.inl h)); exact .inr (.inr (.inr (.inl h))); exact .inr (.inr (.inr (.inr (.inl h)))); exact .inr (.inr (.inr (.inr (.inr (by rw [h]; exact hg6))))); exact .inr (.inr (.inr (.inr (.inr (by rw [h]; exact hg8))))))
    have hR8 := hR
    rw [hke] at hB8
    refine wl_val (rn_len sl_23 rfl) ?_
    refine wl_val (rn_move (by conv => lhs; whnf)) ?_
    refine wl_nil ?_
    refine W_block ?_   -- block 0
    refine W_loopS (S := Nat × Md × Int × Int × List Value) [2, 3, 4, 5, 6, 8, 29, 30, 31] (fun ⟨i, dd, a, b, cs⟩ => [.pointer (some ⟨b2, 0, none⟩), .pointer (some ⟨b3, 0, none⟩), .pointer (some ⟨b4, 0, none⟩), .pointer (some ⟨b5, 0, none⟩), .pointer (some ⟨b6, 0, none⟩), .pointer (some ⟨b8, 0, none⟩), .slice ar (reach d.t o.text).length cr, .int .i64 ((reach d.t o.text).length : Nat), .int .i64 (i : Nat)]) (fun ⟨i, dd, a, b, cs⟩ A => (Ext Non w A) ∧ (IsBox A b2 cs) ∧ (IsBox A b3 o.enc) ∧ (IsBox A b4 [.int .i64 0, .pointer none, .int .i64 0, .slice none 0 0, .slice none 0 0, .int .i64 0, .slice none 0 0, .slice none 0 0, .slice none 0 0, .slice none 0 0, .int .i64 0]) ∧ (IsBox A b5 [.int .i64 0, .int .i64 0, .int .i64 0, Sv [], Sv [], .bool false]) ∧ (IsBox A b6 [.slice e1 y1 g1, .slice e2 y2 g2, .int .i64 (if (kErr o.text o.payload) = 0 then d.ver + 1 else d.ver)]) ∧ (IsBox A b8 [.int .i64 0, .int .i64 a, .int .i64 b, Sv [], Sv [], .bool false]) ∧ (Mine Non w b2) ∧ (Mine Non w b3) ∧ (Mine Non w b4) ∧ (Mine Non w b5) ∧ (Mine Non w b6) ∧ (Mine Non w b8) ∧ (b2 < b3) ∧ (b2 < b4) ∧ (b2 < b5) ∧ (b2 < b6) ∧ (b2 < b8) ∧ (b3 < b4) ∧ (b3 < b5) ∧ (b3 < b6) ∧ (b3 < b8) ∧ (b4 < b5) ∧ (b4 < b6) ∧ (b4 < b8) ∧ (b5 < b6) ∧ (b5 < b8) ∧ (b6 < b8) ∧ (i ≤ (reach d.t o.text).length ∧ (dd, a, b) = ((reach d.t o.text).take i).foldl (offS ⟨o.text, o.payload, false⟩) (d, 0, 0) ∧ MdM (fun i => M i ∨ i = b2 ∨ i = b3 ∨ i = b4 ∨ i = b5 ∨ i = b6 ∨ i = b8) A dd cs ∧ MapR (fun i => M i ∨ i = b2 ∨ i = b3 ∨ i = b4 ∨ i = b5 ∨ i = b6 ∨ i = b8) A eS1 2 (.slice e1 y1 g1) (.slice e2 y2 g2) (if (kErr o.text o.payload) = 0 then kK d.ks o.text o.payload else d.ks) ((if (kErr o.text o.payload) = 0 then kY d.ks d.ys d.ver o.text o.payload else d.ys).map eE1) ∧ Sl (fun i => M i ∨ i = b2 ∨ i = b3 ∨ i = b4 ∨ i = b5 ∨ i = b6 ∨ i = b8) A (.slice ar (reach d.t o.text).length cr) 1 ((reach d.t o.text).map eI1))) (fun ⟨i, dd, a, b, cs⟩ => (reach d.t o.text).length - i) (0, d, 0, 0, _) ⟨rfl, rfl, rfl, rfl, rfl, rfl, rfl, rfl, rfl, trivial⟩ ⟨hX, hB2, hB3, hB4, hB5, hB6, hB8, hl2, hl3, hl4, hl5, hl6, hl8, hn2_3, hn2_4, hn2_5, hn2_6, hn2_8, hn3_4, hn3_5, hn3_6, hn3_8, hn4_5, hn4_6, hn4_8, hn5_6, hn5_8, hn6_8, ⟨Nat.zero_le _, rfl, hd8, hKp8, hR8⟩⟩ ?_
    rintro τ0 ⟨i, dd, a, b, cs⟩ A0 ⟨hX, hB2, hB3, hB4, hB5, hB6, hB8, hl2, hl3, hl4, hl5, hl6, hl8, hn2_3, hn2_4, hn2_5, hn2_6, hn2_8, hn3_4, hn3_5, hn3_6, hn3_8, hn4_5, hn4_6, hn4_8, hn5_6, hn5_8, hn6_8, hI0⟩
    obtain ⟨hil, hfo, hMd, hKp, hR⟩ := hI0
    obtain ⟨pz, z1, zl1, zc1, z2, zl2, zc2, z3, zl3, zc3, z4, zl4, zc4, z5, zl5, zc5, z6, zl6, zc6, nvz, bvz, rfl, hTz, hNz, hNvz, hBxz, hblz, hQz, hKz⟩ := id hMd
    have hfb := fold_bd (offS ⟨o.text, o.payload, false⟩) (off_bd ⟨o.text, o.payload, false⟩) ((reach d.t o.text).take i) 500 (d, 0, 0) hbd
    rw [← hfo, List.length_take] at hfb
    obtain ⟨hbz0, ha1, ha2, hb1, hb2_⟩ := hfb
    have hrl := reach_len hok hin o.text
    have hbz : BdM 600 dd := hbz0.mono (by omega)
    simp only at ha1 ha2 hb1 hb2_
    have hmi : ((min i (reach d.t o.text).length : Nat) : Int) ≤ 100 := by omega
    refine W_seq ?_
    refine W_region ?_
    refine wl_val (rn_lss rfl rfl) ?_
    refine wl_nil ?_
    refine W_seq ?_
    refine W_cond rfl (fun hc1 => ?_) (fun hc1 => ?_)
    · have hlt := of_decide_eq_true hc1; simp only [Int.ofNat_lt] at hlt
      obtain ⟨s, hi⟩ : ∃ s, ((reach d.t o.text))[i]? = some s := ⟨_, List.getElem?_eq_getElem hlt⟩
      obtain ⟨bb, oo, ea⟩ := hR.base (by intro e; have := congrArg List.length e; simp only [List.length_map, List.length_nil] at this; omega); subst ea
      refine W_skip ?_
      refine W_seq ?_
      refine W_block ?_   -- block 1
      refine W_seq ?_
      refine W_region ?_
      refine wl_val (rn_indexAddr sl_23 rfl rfl (by omega)) ?_
      refine wl_val (rn_load p_3 rfl (hR.at0 (eI_at hi) rfl)) ?_
      refine wl_val (rn_assign (by conv => lhs; whnf)) ?_
      refine wl_nil ?_
      refine W_region ?_
      refine wl_val (rn_loadB s_59 rfl rfl hB2) ?_
      refine wl_val (rn_move (by conv => lhs; whnf)) ?_
      refine wl_val (rn_fieldAddr f_69_2 (by decide) rfl) ?_
      refine wl_val (rn_load1 p_9 rfl hB3 rfl) ?_
      refine wl_val (rn_fieldAddr f_69_3 (by decide) rfl) ?_
      refine wl_val (rn_load1 p_9 rfl hB3 rfl) ?_
      refine wl_val (rn_build' b_62 rfl rfl (cs := [Sv o.text, Sv o.payload, .bool false]) rfl) ?_
      refine wl_callM (M := fun i => i = b8) e_52 rfl (offer_ok A0 dd (fun i => M i ∨ i = b2 ∨ i = b3 ∨ i = b4 ∨ i = b5 ∨ i = b6 ∨ i = b8) (fun i h => by rcases h with h | h | h | h | h | h | h; exact Nat.lt_of_lt_of_le (hM i h) hX.size; rw [h]; exact hB2.lt; rw [h]; exact hB3.lt; rw [h]; exact hB4.lt; rw [h]; exact hB5.lt; rw [h]; exact hB6.lt; rw [h]; exact hB8.lt) hMd hbz.s (by have := hbz.n; omega) s ⟨o.text, o.payload, false⟩ b8 ⟨0, a, b, zeroMsg⟩ (.inr (.inr (.inr (.inr (.inr (.inr rfl)))))) hB8 (by have := (hbz.box (s)).1; omega) (by have := (hbz.box (s)).2; omega) (by show 0 ≤ a ∧ a ≤ 100000; omega) (by show 0 ≤ b ∧ b ≤ 100000; omega)) ?_; intro v42 w11 hE11 hR11
      obtain ⟨cs42, rfl, hMn, hB8⟩ := hR11
      obtain ⟨py, y1, yl1, yc1, y2, yl2, yc2, y3, yl3, yc3, y4, yl4, yc4, y5, yl5, yc5, y6, yl6, yc6, nvy, bvy, rfl, _⟩ := id hMn
      replace hX := hX.mine hE11 hl8; replace hB2 := hB2.ext hE11 (fun h => by omega); replace hB3 := hB3.ext hE11 (fun h => by omega); replace hB4 := hB4.ext hE11 (fun h => by omega); replace hB5 := hB5.ext hE11 (fun h => by omega); replace hB6 := hB6.ext hE11 (fun h => by omega)
      replace hKp := hKp.ext hE11 (fun i e => by first | exact .inr (.inl e) | exact .inr (.inr (.inl e)) | exact .inr (.inr (.inr (.inl e))) | exact .inr (.inr (.inr (.inr (.inl e)))) | exact .inr (.inr (.inr (.inr (.inr (.inl e))))) | exact .inr (.inr (.inr (.inr (.inr (.inr e)))))); replace hR := hR.ext hE11 (fun i e => by first | exact .inr (.inl e) | exact .inr (.inr (.inl e)) | exact .inr (.inr (.inr (.inl e))) | exact .inr (.inr (.inr (.inr (.inl e)))) | exact .inr (.inr (.inr (.inr (.inr (.inl e))))) | exact .inr (.inr (.inr (.inr (.inr (.inr e))))))
      have hBo := hB2
      refine wl_storeB s_59 rfl rfl rfl (elev1 rfl rfl rfl rfl rfl rfl rfl rfl rfl rfl rfl) hB2 rfl ?_; intro w12 hE12 hB2 hz12
      replace hX := hX.mine hE12 hl2
      replace hB3 := hB3.ext hE12 (fun h => by omega); replace hB4 := hB4.ext hE12 (fun h => by omega); replace hB5 := hB5.ext hE12 (fun h => by omega); replace hB6 := hB6.ext hE12 (fun h => by omega); replace hB8 := hB8.ext hE12 (fun h => by omega)
      replace hKp := hKp.ext hE12 (fun i e => by first | exact .inr (.inl e) | exact .inr (.inr (.inl e)) | exact .inr (.inr (.inr (.inl e))) | exact .inr (.inr (.inr (.inr (.inl e)))) | exact .inr (.inr (.inr (.inr (.inr (.inl e))))) | exact .inr (.inr (.inr (.inr (.inr (.inr e))))))
      replace hR := hR.ext hE12 (fun i e => by first | exact .inr (.inl e) | exact .inr (.inr (.inl e)) | exact .inr (.inr (.inr (.inl e))) | exact .inr (.inr (.inr (.inr (.inl e)))) | exact .inr (.inr (.inr (.inr (.inr (.inl e))))) | exact .inr (.inr (.inr (.inr (.inr (.inr e))))))
      replace hMn := hMn.ext hE12 (fun i e => by first | exact .inr (.inl e) | exact .inr (.inr (.inl e)) | exact .inr (.inr (.inr (.inl e))) | exact .inr (.inr (.inr (.inr (.inl e)))) | exact .inr (.inr (.inr (.inr (.inr (.inl e))))) | exact .inr (.inr (.inr (.inr (.inr (.inr e))))))
      refine wl_nil ?_
      refine W_region ?_
      refine wl_val (rn_add rfl rfl (by omega)) ?_
      refine wl_val (rn_move (by conv => lhs; whnf)) ?_
      refine wl_nil ?_
      exact ⟨rfl, (i + 1, (offS ⟨o.text, o.payload, false⟩ (dd, a, b) s).1, (offS ⟨o.text, o.payload, false⟩ (dd, a, b) s).2.1, (offS ⟨o.text, o.payload, false⟩ (dd, a, b) s).2.2, _), ⟨rfl, rfl, rfl, rfl, rfl, rfl, rfl, rfl, rfl, trivial⟩, ⟨hX, hB2, hB3, hB4, hB5, hB6, hB8, hl2, hl3, hl4, hl5, hl6, hl8, hn2_3, hn2_4, hn2_5, hn2_6, hn2_8, hn3_4, hn3_5, hn3_6, hn3_8, hn4_5, hn4_6, hn4_8, hn5_6, hn5_8, hn6_8, ⟨hlt, by rw [fold_take2 hi, ← hfo], hMn, hKp, hR⟩⟩, by show (reach d.t o.text).length - (i + 1) < (reach d.t o.text).length - i; omega⟩
    · have hge := of_decide_eq_false hc1; simp only [Int.ofNat_lt, Nat.not_lt] at hge
      rw [List.take_of_length_le hge] at hfo
      refine W_exit ?_   -- exit 0
      refine W_seq ?_
      refine W_region ?_
      refine wl_val (rn_fieldAddr f_69_4 (by decide) rfl) ?_
      refine wl_val (rn_load1 p_4 rfl hB3 rfl) ?_
      refine wl_nil ?_
      refine W_cond rfl (fun hc2 => ?_) (fun hc2 => ?_)
      · refine W_region ?_
        refine wl_val (rn_loadB s_57 rfl rfl hB6) ?_
        refine wl_val (rn_fieldAddr f_59_3 (by decide) rfl) ?_
        have hBo := hB2
        refine wl_storeP (b := b2) s_57 rfl rfl rfl (three1 rfl rfl rfl) hB2 (Nat.le_of_ble_eq_true rfl) ?_; intro w13 hE13 hB2 hz13
        replace hX := hX.mine hE13 hl2
        replace hB3 := hB3.ext hE13 (fun h => by omega); replace hB4 := hB4.ext hE13 (fun h => by omega); replace hB5 := hB5.ext hE13 (fun h => by omega); replace hB6 := hB6.ext hE13 (fun h => by omega); replace hB8 := hB8.ext hE13 (fun h => by omega)
        replace hMd := hMd.ext hE13 (fun i e => by first | exact .inr (.inl e) | exact .inr (.inr (.inl e)) | exact .inr (.inr (.inr (.inl e))) | exact .inr (.inr (.inr (.inr (.inl e)))) | exact .inr (.inr (.inr (.inr (.inr (.inl e))))) | exact .inr (.inr (.inr (.inr (.inr (.inr e))))))
        replace hKp := hKp.ext hE13 (fun i e => by first | exact .inr (.inl e) | exact .inr (.inr (.inl e)) | exact .inr (.inr (.inr (.inl e))) | exact .inr (.inr (.inr (.inr (.inl e)))) | exact .inr (.inr (.inr (.inr (.inr (.inl e))))) | exact .inr (.inr (.inr (.inr (.inr (.inr e))))))
        replace hR := hR.ext hE13 (fun i e => by first | exact .inr (.inl e) | exact .inr (.inr (.inl e)) | exact .inr (.inr (.inr (.inl e))) | exact .inr (.inr (.inr (.inr (.inl e)))) | exact .inr (.inr (.inr (.inr (.inr (.inl e))))) | exact .inr (.inr (.inr (.inr (.inr (.inr e))))))
        refine wl_nil ?_
        refine W_seq ?_
        refine W_drawF (fun i => i = b4 ∨ i = b5) mixed ?_; intro w14 hE14
        replace hX := hX.tr hE14
        replace hB2 := hB2.ext hE14 id; replace hB3 := hB3.ext hE14 id; replace hB4 := hB4.ext hE14 id; replace hB5 := hB5.ext hE14 id; replace hB6 := hB6.ext hE14 id; replace hB8 := hB8.ext hE14 id
        replace hMd := hMd.ext hE14 (fun _ h => h.elim)
        replace hKp := hKp.ext hE14 (fun _ h => h.elim)
        replace hR := hR.ext hE14 (fun _ h => h.elim)
        have hS := Ext.refl (fun i => i = b4 ∨ i = b5) w14
        have hzd4 := hB4.lt; have hzd5 := hB5.lt
        refine wd_take 0 _ _ rfl (by kernel_rfl) hS (yd_do fun A hA => rn_loadB s_59 rfl rfl (hB2.ext hA (fun e => by omega))) ?_
        refine wd_take 1 _ _ rfl (by kernel_rfl) hS (yd_do fun A hA => rn_loadB s_64 rfl rfl (hB8.ext hA (fun e => by omega))) ?_
        refine wd_only 2 _ rfl (by kernel_rfl) ?_
        refine s1_do ?_
        refine wl_storeB s_59 rfl rfl rfl (elev1 rfl rfl rfl rfl rfl rfl rfl rfl rfl rfl rfl) hB4 rfl ?_; intro w15 hE15 hB4 hz15
        replace hB5 := hB5.ext hE15 (fun h => by omega)
        replace hS := hS.mine hE15 (by first | exact .inl rfl | exact .inl (.inl rfl) | exact .inl (.inr rfl) | exact .inl (.inr (.inr rfl)) | exact .inl (.inr (.inl rfl)) | exact .inl (.inl (.inl rfl)) | exact .inl (.inl (.inr rfl)))
        refine wl_nil ⟨hS, ?_⟩
        refine wd_only 3 _ rfl (by kernel_rfl) ?_
        refine s1_do ?_
        refine wl_storeB s_64 rfl rfl rfl (six1 rfl rfl rfl rfl rfl rfl) hB5 rfl ?_; intro w16 hE16 hB5 hz16
        replace hB4 := hB4.ext hE16 (fun h => by omega)
        replace hS := hS.mine hE16 (by first | exact .inl rfl | exact .inl (.inl rfl) | exact .inl (.inr rfl) | exact .inl (.inr (.inr rfl)) | exact .inl (.inr (.inl rfl)) | exact .inl (.inl (.inl rfl)) | exact .inl (.inl (.inr rfl)))
        refine wl_nil ⟨hS, ?_⟩
        refine wd_done (by kernel_rfl) ?_ _
        replace hX := hX.mineG hS (fun i h => .inr (by rcases h with h | h; rw [h]; exact hq4; rw [h]; exact hq5))
        try replace hMd := hMd.ext hS (fun i h => by rcases h with h | h; exact .inr (.inr (.inr (.inl h))); exact .inr (.inr (.inr (.inr (.inl h)))))
        try replace hKp := hKp.ext hS (fun i h => by rcases h with h | h; exact .inr (.inr (.inr (.inl h))); exact .inr (.inr (.inr (.inr (.inl h)))))
        replace hB2 := hB2.ext hS (fun e => by omega); replace hB3 := hB3.ext hS (fun e => by omega); replace hB6 := hB6.ext hS (fun e => by omega); replace hB8 := hB8.ext hS (fun e => by omega)
        refine W_ret ?_
        have e0 : d.publish o = ({ dd with ks := kK d.ks o.text o.payload, ys := kY d.ks d.ys d.ver o.text o.payload, ver := d.ver + 1 }, ⟨0, a, b, zeroMsg⟩) := by unfold Md.publish; rw [if_pos hke, ← hfo]; simp only [if_pos hc2]
        rw [if_pos hke, if_pos hke] at hKp
        rw [if_pos hke] at hB4
        exact ⟨_, resR2 (res1_box s_59 rfl hB4 rfl) (res1_box s_64 rfl hB5 rfl), hX, by rw [e0]; exact ⟨_, rfl, (hMd.setKept hKp).sub (fun i h _ => .inl h)⟩⟩
      · refine W_skip ?_
        refine W_seq ?_
        refine W_drawF (fun i => i = b4 ∨ i = b5) mixed ?_; intro w17 hE17
        replace hX := hX.tr hE17
        replace hB2 := hB2.ext hE17 id; replace hB3 := hB3.ext hE17 id; replace hB4 := hB4.ext hE17 id; replace hB5 := hB5.ext hE17 id; replace hB6 := hB6.ext hE17 id; replace hB8 := hB8.ext hE17 id
        replace hMd := hMd.ext hE17 (fun _ h => h.elim)
        replace hKp := hKp.ext hE17 (fun _ h => h.elim)
        replace hR := hR.ext hE17 (fun _ h => h.elim)
        have hS := Ext.refl (fun i => i = b4 ∨ i = b5) w17
        have hzd4 := hB4.lt; have hzd5 := hB5.lt
        refine wd_take 0 _ _ rfl (by kernel_rfl) hS (yd_do fun A hA => rn_loadB s_59 rfl rfl (hB2.ext hA (fun e => by omega))) ?_
        refine wd_take 1 _ _ rfl (by kernel_rfl) hS (yd_do fun A hA => rn_loadB s_64 rfl rfl (hB8.ext hA (fun e => by omega))) ?_
        refine wd_only 2 _ rfl (by kernel_rfl) ?_
        refine s1_do ?_
        refine wl_storeB s_59 rfl rfl rfl (elev1 rfl rfl rfl rfl rfl rfl rfl rfl rfl rfl rfl) hB4 rfl ?_; intro w18 hE18 hB4 hz18
        replace hB5 := hB5.ext hE18 (fun h => by omega)
        replace hS := hS.mine hE18 (by first | exact .inl rfl | exact .inl (.inl rfl) | exact .inl (.inr rfl) | exact .inl (.inr (.inr rfl)) | exact .inl (.inr (.inl rfl)) | exact .inl (.inl (.inl rfl)) | exact .inl (.inl (.inr rfl)))
        refine wl_nil ⟨hS, ?_⟩
        refine wd_only 3 _ rfl (by kernel_rfl) ?_
        refine s1_do ?_
        refine wl_storeB s_64 rfl rfl rfl (six1 rfl rfl rfl rfl rfl rfl) hB5 rfl ?_; intro w19 hE19 hB5 hz19
        replace hB4 := hB4.ext hE19 (fun h => by omega)
        replace hS := hS.mine hE19 (by first | exact .inl rfl | exact .inl (.inl rfl) | exact .inl (.inr rfl) | exact .inl (.inr (.inr rfl)) | exact .inl (.inr (.inl rfl)) | exact .inl (.inl (.inl rfl)) | exact .inl (.inl (.inr rfl)))
        refine wl_nil ⟨hS, ?_⟩
        refine wd_done (by kernel_rfl) ?_ _
        replace hX := hX.mineG hS (fun i h => .inr (by rcases h with h | h; rw [h]; exact hq4; rw [h]; exact hq5))
        try replace hMd := hMd.ext hS (fun i h => by rcases h with h | h; exact .inr (.inr (.inr (.inl h))); exact .inr (.inr (.inr (.inr (.inl h)))))
        try replace hKp := hKp.ext hS (fun i h => by rcases h with h | h; exact .inr (.inr (.inr (.inl h))); exact .inr (.inr (.inr (.inr (.inl h)))))
        replace hB2 := hB2.ext hS (fun e => by omega); replace hB3 := hB3.ext hS (fun e => by omega); replace hB6 := hB6.ext hS (fun e => by omega); replace hB8 := hB8.ext hS (fun e => by omega)
        refine W_ret ?_
        have e0 : d.publish o = (dd, ⟨0, a, b, zeroMsg⟩) := by unfold Md.publish; rw [if_pos hke, ← hfo]; simp only [if_neg (by rw [hc2]; simp : ¬ o.keep = true)]
        exact ⟨_, resR2 (res1_box s_59 rfl hB4 rfl) (res1_box s_64 rfl hB5 rfl), hX, by rw [e0]; exact ⟨_, rfl, hMd.sub (fun i h _ => .inl h)⟩⟩
  · have hke : ¬ (kErr o.text o.payload) = 0 := of_decide_eq_false hc0
    refine W_skip ?_
    refine W_seq ?_
    refine W_drawF (fun i => i = b4 ∨ i = b5) mixed ?_; intro w20 hE20
    replace hX := hX.tr hE20
    replace hB2 := hB2.ext hE20 id; replace hB3 := hB3.ext hE20 id; replace hB4 := hB4.ext hE20 id; replace hB5 := hB5.ext hE20 id; replace hB6 := hB6.ext hE20 id; replace hB8 := hB8.ext hE20 id
    replace hKp := hKp.ext hE20 (fun _ h => h.elim)
    have hS := Ext.refl (fun i => i = b4 ∨ i = b5) w20
    have hzd4 := hB4.lt; have hzd5 := hB5.lt
    refine wd_take 0 _ _ rfl (by kernel_rfl) hS (yd_do fun A hA => rn_loadB s_59 rfl rfl (hB2.ext hA (fun e => by omega))) ?_
    refine wd_take 1 _ _ rfl (by kernel_rfl) hS (yd_do fun A hA => rn_loadB s_64 rfl rfl (hB8.ext hA (fun e => by omega))) ?_
    refine wd_only 2 _ rfl (by kernel_rfl) ?_
    refine s1_do ?_
    refine wl_storeB s_59 rfl rfl rfl (elev1 rfl rfl rfl rfl rfl rfl rfl rfl rfl rfl rfl) hB4 rfl ?_; intro w21 hE21 hB4 hz21
    replace hB5 := hB5.ext hE21 (fun h => by omega)
    replace hS := hS.mine hE21 (by first | exact .inl rfl | exact .inl (.inl rfl) | exact .inl (.inr rfl) | exact .inl (.inr (.inr rfl)) | exact .inl (.inr (.inl rfl)) | exact .inl (.inl (.inl rfl)) | exact .inl (.inl (.inr rfl)))
    refine wl_nil ⟨hS, ?_⟩
    refine wd_only 3 _ rfl (by kernel_rfl) ?_
    refine s1_do ?_
    refine wl_storeB s_64 rfl rfl rfl (six1 rfl rfl rfl rfl rfl rfl) hB5 rfl ?_; intro w22 hE22 hB5 hz22
    replace hB4 := hB4.ext hE22 (fun h => by omega)
    replace hS := hS.mine hE22 (by first | exact .inl rfl | exact .inl (.inl rfl) | exact .inl (.inr rfl) | exact .inl (.inr (.inr rfl)) | exact .inl (.inr (.inl rfl)) | exact .inl (.inl (.inl rfl)) | exact .inl (.inl (.inr rfl)))
    refine wl_nil ⟨hS, ?_⟩
    refine wd_done (by kernel_rfl) ?_ _
    replace hX := hX.mineG hS (fun i h => .inr (by rcases h with h | h; rw [h]; exact hq4; rw [h]; exact hq5))
    try replace hMd := hMd.ext hS (fun i h => by rcases h with h | h; exact .inr (.inr (.inr (.inl h))); exact .inr (.inr (.inr (.inr (.inl h)))))
    try replace hKp := hKp.ext hS (fun i h => by rcases h with h | h; exact .inr (.inr (.inr (.inl h))); exact .inr (.inr (.inr (.inr (.inl h)))))
    replace hB2 := hB2.ext hS (fun e => by omega); replace hB3 := hB3.ext hS (fun e => by omega); replace hB6 := hB6.ext hS (fun e => by omega); replace hB8 := hB8.ext hS (fun e => by omega)
    refine W_ret ?_
    have e0 : d.publish o = (d, ⟨(kErr o.text o.payload), 0, 0, zeroMsg⟩) := by unfold Md.publish; rw [if_neg hke]
    exact ⟨_, resR2 (res1_box s_59 rfl hB4 rfl) (res1_box s_64 rfl hB5 rfl), hX, by rw [e0]; exact ⟨_, rfl, hd.ext hX (fun _ h => h.elim)⟩⟩
end Go.Proofs.YtaddeakfojpdoaaGreatDoorC

/- The model: polling, beginning. -/
set_option linter.unusedVariables false
set_option linter.unusedSimpArgs false
set_option maxRecDepth 100000
namespace Go.Proofs.YtaddeakfojpdoaaGreatDoorC
open Go.RowKit
theorem poll_no {d : Md} {sub : Int} (h : (d.boxOf sub).1 = []) : d.poll sub = (d, ⟨7, 0, 0, zeroMsg⟩) := by unfold Md.poll; rw [h]
theorem poll_yes {d : Md} {sub : Int} {m : MsgD} {q : List MsgD} (h : (d.boxOf sub).1 = m :: q) : d.poll sub = (d.setBox sub (q, (d.boxOf sub).2), ⟨0, 0, 0, m⟩) := by unfold Md.poll; rw [h]
-- (bellman/model.State).poll
set_option maxHeartbeats 3200000 in
theorem poll_ok (w : World) (d : Md) {cs : List Value} (M : Nat → Prop) (hM : ∀ i, M i → i < w.heap.size) (hd : MdM M w d cs) (hbd : BdM 500 d) (sub : Int) (h1 : 1 ≤ sub) (h2 : sub ≤ d.subs) : Fn Tryz.prog 36 #[.agg cs.toArray, .int .i64 sub] w fun u w' => ∃ cs' : List Value, u = .tuple #[.agg cs'.toArray, .agg (d.poll sub).2.enc.toArray] ∧ MdM M w' (d.poll sub).1 cs' := by
  obtain ⟨pa, q1, l1, c1, q2, l2, c2, q3, l3, c3, q4, l4, c4, q5, l5, c5, q6, l6, c6, nvs, bvs, rfl, hT, hN, hNv, hBx, hbl, hQ, hK⟩ := id hd
  have hbl2 : bvs.length = d.bks.length := hBx.len
  have hX := Ext.refl Non w
  refine fn_of_W (args := [_, _]) Tryz.func36 rfl (by kernel_rfl) rfl ?_
  refine W_seq ?_
  refine W_region ?_
  refine wl_boxS rfl ?_; intro b2 w1 hb2 hE1 hB2
  have hq2 : w.heap.size ≤ b2 := Nat.le_trans hX.size hb2
  have hl2 : Mine Non w b2 := .inr hq2
  replace hX := hX.tr hE1
  refine wl_alloc z_59 ?_; intro b4 w2 hb4 hE2 hB4
  have hn2_4 : b2 < b4 := Nat.lt_of_lt_of_le hB2.lt hb4
  have hq4 : w.heap.size ≤ b4 := Nat.le_trans hX.size hb4
  have hl4 : Mine Non w b4 := .inr hq4
  replace hX := hX.tr hE2
  replace hB2 := hB2.ext hE2 id
  refine wl_alloc z_64 ?_; intro b5 w3 hb5 hE3 hB5
  have hn2_5 : b2 < b5 := Nat.lt_of_lt_of_le hB2.lt hb5
  have hn4_5 : b4 < b5 := Nat.lt_of_lt_of_le hB4.lt hb5
  have hq5 : w.heap.size ≤ b5 := Nat.le_trans hX.size hb5
  have hl5 : Mine Non w b5 := .inr hq5
  replace hX := hX.tr hE3
  replace hB2 := hB2.ext hE3 id; replace hB4 := hB4.ext hE3 id
  refine wl_nil ?_
  refine W_seq ?_
  refine W_region ?_
  refine wl_val (rn_loadB s_59 rfl rfl hB2) ?_
  refine wl_val (rn_move (by conv => lhs; whnf)) ?_
  refine wl_call e_38 rfl (sbox_ok w3 d (fun i => M i ∨ i = b2 ∨ i = b4 ∨ i = b5) (fun i h => by rcases h with h | h | h | h; exact Nat.lt_of_lt_of_le (hM i h) hX.size; rw [h]; exact hB2.lt; rw [h]; exact hB4.lt; rw [h]; exact hB5.lt) ((hd.sub (M' := fun i => M i ∨ i = b2 ∨ i = b4 ∨ i = b5) (fun i h hlt => by rcases h with h | h | h | h; exact h; omega; omega; omega)).ext hX (fun _ h => h.elim)) hbd.s (by have := hbd.n; omega) sub) ?_; intro v10 w4 hE4 hR4
  replace hX := hX.tr hE4
  replace hB2 := hB2.ext hE4 id; replace hB4 := hB4.ext hE4 id; replace hB5 := hB5.ext hE4 id
  obtain ⟨a, n, c, rfl, hS10⟩ := hR4
  have hnl : n = (d.boxOf sub).1.length := by obtain ⟨_, _, e, _⟩ := id hS10.len; simp only [Value.slice.injEq, List.length_map] at e; exact e.2.1
  have hcap := sl_cap2 hS10; rw [List.length_map] at hcap
  have hbx := hbd.box sub
  obtain ⟨n10, hn10⟩ : ∃ n, n = (World.heap w4).size := ⟨_, rfl⟩
  replace hS10 := hS10.sub (M' := (fun i => M i ∨ i = b2 ∨ i = b4 ∨ i = b5 ∨ n10 ≤ i)) (fun i h hlt => by rcases h with h | h | h | h | h; exact .inl h; exact .inr (.inl h); exact .inr (.inr (.inl h)); exact .inr (.inr (.inr h)); omega)
  refine wl_alloc z_87 ?_; intro b6 w5 hb6 hE5 hB6
  have hn2_6 : b2 < b6 := Nat.lt_of_lt_of_le hB2.lt hb6
  have hn4_6 : b4 < b6 := Nat.lt_of_lt_of_le hB4.lt hb6
  have hn5_6 : b5 < b6 := Nat.lt_of_lt_of_le hB5.lt hb6
  have hq6 : w.heap.size ≤ b6 := Nat.le_trans hX.size hb6
  have hl6 : Mine Non w b6 := .inr hq6
  have hg6 : n10 ≤ b6 := by omega
  replace hX := hX.tr hE5
  replace hB2 := hB2.ext hE5 id; replace hB4 := hB4.ext hE5 id; replace hB5 := hB5.ext hE5 id
  replace hS10 := hS10.ext hE5 (fun _ h => h.elim)
  have hBo := hB6
  refine wl_storeB s_87 rfl rfl rfl (two1 rfl rfl) hB6 rfl ?_; intro w6 hE6 hB6 hz6
  replace hX := hX.mine hE6 hl6
  replace hB2 := hB2.ext hE6 (fun h => by omega); replace hB4 := hB4.ext hE6 (fun h => by omega); replace hB5 := hB5.ext hE6 (fun h => by omega)
  replace hS10 := hS10.ext hE6 (fun i e => by first | exact .inr (.inl e) | exact .inr (.inr (.inl e)) | exact .inr (.inr (.inr (.inl e))) | exact .inr (.inr (.inr (.inr (by rw [e]; exact hg6)))))
  refine wl_nil ?_
  refine W_seq ?_
  refine W_block ?_   -- block 0
  refine W_seq ?_
  refine W_region ?_
  refine wl_val (rn_loadB s_59 rfl rfl hB2) ?_
  refine wl_val (rn_move (by conv => lhs; whnf)) ?_
  refine wl_call e_37 rfl (there_ok w6 d (hd.ext hX (fun _ h => h.elim)) sub h1 h2) ?_; intro v14 w7 hE7 hR7
  replace hX := hX.tr hE7
  replace hB2 := hB2.ext hE7 id; replace hB4 := hB4.ext hE7 id; replace hB5 := hB5.ext hE7 id; replace hB6 := hB6.ext hE7 id
  replace hS10 := hS10.ext hE7 (fun _ h => h.elim)
  subst hR7
  refine wl_val (rn_not rfl) ?_
  refine wl_val (rn_assign (by conv => lhs; whnf)) ?_
  refine wl_nil ?_
  refine W_cond rfl (fun hc0 => ?_) (fun hc0 => ?_)
  · exact absurd hc0 (by simp)
  · refine W_seq ?_
    refine W_region ?_
    refine wl_val (rn_fieldAddr f_87_0 (by decide) rfl) ?_
    refine wl_val (rn_load1 p_85 rfl hB6 rfl) ?_
    refine wl_val (rn_len sl_85 rfl) ?_
    refine wl_val (rn_eql rfl rfl) ?_
    refine wl_val (rn_assign (by conv => lhs; whnf)) ?_
    refine wl_nil ?_
    refine W_cond rfl (fun hc1 => ?_) (fun hc1 => ?_)
    · have hqe : (d.boxOf sub).1 = [] := List.length_eq_zero_iff.1 (by have := of_decide_eq_true hc1; omega)
      refine W_seq ?_
      refine W_region ?_
      refine wl_val (rn_loadB s_59 rfl rfl hB2) ?_
      refine wl_val (rn_build' b_64 rfl rfl (cs := [.int .i64 7, .int .i64 0, .int .i64 0, Sv [], Sv [], .bool false]) rfl) ?_
      have hBo := hB4
      refine wl_storeB s_59 rfl rfl rfl (elev1 rfl rfl rfl rfl rfl rfl rfl rfl rfl rfl rfl) hB4 rfl ?_; intro w8 hE8 hB4 hz8
      replace hX := hX.mine hE8 hl4
      replace hB2 := hB2.ext hE8 (fun h => by omega); replace hB5 := hB5.ext hE8 (fun h => by omega); replace hB6 := hB6.ext hE8 (fun h => by omega)
      replace hS10 := hS10.ext hE8 (fun i e => by first | exact .inr (.inl e) | exact .inr (.inr (.inl e)) | exact .inr (.inr (.inr (.inl e))) | exact .inr (.inr (.inr (.inr (by rw [e]; exact hg4)))))
      have hBo := hB5
      refine wl_storeB s_64 rfl rfl rfl (six1 rfl rfl rfl rfl rfl rfl) hB5 rfl ?_; intro w9 hE9 hB5 hz9
      replace hX := hX.mine hE9 hl5
      replace hB2 := hB2.ext hE9 (fun h => by omega); replace hB4 := hB4.ext hE9 (fun h => by omega); replace hB6 := hB6.ext hE9 (fun h => by omega)
      replace hS10 := hS10.ext hE9 (fun i e => by first | exact .inr (.inl e) | exact .inr (.inr (.inl e)) | exact .inr (.inr (.inr (.inl e))) | exact .inr (.inr (.inr (.inr (by rw [e]; exact hg5)))))
      refine wl_nil ?_
      refine W_ret ?_
      exact ⟨_, resR2 (res1_box s_59 rfl hB4 rfl) (res1_box s_64 rfl hB5 rfl), hX, by rw [poll_no hqe]; exact ⟨_, rfl, hd.ext hX (fun _ h => h.elim)⟩⟩
    · obtain ⟨m0, qs, hqe⟩ : ∃ m q, (d.boxOf sub).1 = m :: q := by cases hq : (d.boxOf sub).1 with | nil => rw [hq] at hnl; exact absurd (of_decide_eq_false hc1) (by simp only [List.length_nil] at hnl; omega) | cons m q => exact ⟨m, q, rfl⟩
      have hn0 : 0 < n := by rw [hnl, hqe]; simp
      obtain ⟨bb, oo, ea⟩ := hS10.base (by intro e; have := congrArg List.length e; rw [List.length_map, List.length_nil] at this; omega); subst ea
      refine W_skip ?_
      refine W_seq ?_
      refine W_region ?_
      refine wl_val (rn_fieldAddr f_87_0 (by decide) rfl) ?_
      refine wl_val (rn_load1 p_85 rfl hB6 rfl) ?_
      refine wl_val (rn_indexAddr sl_85 rfl rfl (by omega)) ?_
      refine wl_val (rn_loadS s_62 rfl rfl (hS10.all0 (map_at (f := MsgD.enc) (i := 0) (x := m0) (by rw [hqe]; rfl)))) ?_
      refine wl_alloc z_62 ?_; intro b7 w10 hb7 hE10 hB7
      have hn2_7 : b2 < b7 := Nat.lt_of_lt_of_le hB2.lt hb7
      have hn4_7 : b4 < b7 := Nat.lt_of_lt_of_le hB4.lt hb7
      have hn5_7 : b5 < b7 := Nat.lt_of_lt_of_le hB5.lt hb7
      have hn6_7 : b6 < b7 := Nat.lt_of_lt_of_le hB6.lt hb7
      have hq7 : w.heap.size ≤ b7 := Nat.le_trans hX.size hb7
      have hl7 : Mine Non w b7 := .inr hq7
      have hg7 : n10 ≤ b7 := by have := hB6.lt; omega
      replace hX := hX.tr hE10
      replace hB2 := hB2.ext hE10 id; replace hB4 := hB4.ext hE10 id; replace hB5 := hB5.ext hE10 id; replace hB6 := hB6.ext hE10 id
      replace hS10 := hS10.ext hE10 (fun _ h => h.elim)
      have hBo := hB7
      refine wl_storeB s_62 rfl rfl rfl (MsgD.one m0) hB7 rfl ?_; intro w11 hE11 hB7 hz11
      replace hX := hX.mine hE11 hl7
      replace hB2 := hB2.ext hE11 (fun h => by omega); replace hB4 := hB4.ext hE11 (fun h => by omega); replace hB5 := hB5.ext hE11 (fun h => by omega); replace hB6 := hB6.ext hE11 (fun h => by omega)
      replace hS10 := hS10.ext hE11 (fun i e => by first | exact .inr (.inl e) | exact .inr (.inr (.inl e)) | exact .inr (.inr (.inr (.inl e))) | exact .inr (.inr (.inr (.inr (by rw [e]; exact hg7)))))
      refine wl_nil ?_
      refine W_seq ?_
      refine W_region ?_
      refine wl_val (rn_fieldAddr f_87_0 (by decide) rfl) ?_
      refine wl_val (rn_load1 p_85 rfl hB6 rfl) ?_
      refine wl_val (rn_slice sl_85 (l := 1) (h := n) (m := c) rfl ⟨_, rfl⟩ rfl rfl (by simp) (by omega) (by omega) (by omega)) ?_
      have hs32 := hX.size; have hz2 := hB2.lt; have hz4 := hB4.lt; have hz5 := hB5.lt; have hz6 := hB6.lt; have hz7 := hB7.lt
      have hSt := hS10.cut (l := 1) (h := n) (m := c) (by omega) (Nat.le_refl _) (by omega) (Nat.le_refl _)
      rw [show (((d.boxOf sub).1.map MsgD.enc).drop 1).take (n - 1) = qs.map MsgD.enc from by rw [hqe]; simp only [List.map_cons, List.drop_succ_cons, List.drop_zero]; exact List.take_of_length_le (by rw [List.length_map, hnl, hqe]; simp)] at hSt
      refine wl_call e_60 rfl (clone_m w11 (qs.map MsgD.enc) (hSt.sub (fun _ h _ => h.elim)) (msgs_one qs) (by rw [List.length_map]; have := hbx.1; rw [hqe, List.length_cons] at this; omega)) ?_; intro v32 w12 hE12 hR12
      replace hX := hX.tr hE12
      replace hB2 := hB2.ext hE12 id; replace hB4 := hB4.ext hE12 id; replace hB5 := hB5.ext hE12 id; replace hB6 := hB6.ext hE12 id; replace hB7 := hB7.ext hE12 id
      replace hS10 := hS10.ext hE12 (fun _ h => h.elim)
      obtain ⟨o32, hO32, ho32⟩ := hR12; obtain ⟨a32, c32, hv32⟩ := id hO32.len; subst hv32
      have hSq := hO32.sl (M := (fun i => M i ∨ i = b2 ∨ i = b4 ∨ i = b5 ∨ i = b6 ∨ i = b7)) (fun i hi h => by have := ho32 i hi; rcases h with h | h | h | h | h | h; have := hM i h; omega; omega; omega; omega; omega; omega)
      refine wl_val (rn_fieldAddr f_87_0 (by decide) rfl) ?_
      have hBo := hB6
      refine wl_store1 (b := b6) p_85 rfl (by conv => lhs; whnf) rfl rfl hB6 (Nat.le_of_ble_eq_true rfl) ?_; intro w13 hE13 hB6 hz13
      replace hX := hX.mine hE13 hl6
      replace hB2 := hB2.ext hE13 (fun h => by omega); replace hB4 := hB4.ext hE13 (fun h => by omega); replace hB5 := hB5.ext hE13 (fun h => by omega); replace hB7 := hB7.ext hE13 (fun h => by omega)
      replace hSq := hSq.ext hE13 (fun i e => by first | exact .inr (.inl e) | exact .inr (.inr (.inl e)) | exact .inr (.inr (.inr (.inl e))) | exact .inr (.inr (.inr (.inr (.inl e)))) | exact .inr (.inr (.inr (.inr (.inr e)))))
      refine wl_nil ?_
      refine W_seq ?_
      refine W_region ?_
      refine wl_val (rn_fieldAddr f_59_2 (by decide) rfl) ?_
      refine wl_val (rn_loadS s_52 (vs := [_, _]) rfl rfl (hB2.part rfl (Nat.le_of_ble_eq_true rfl))) ?_
      refine wl_val (rn_move (by conv => lhs; whnf)) ?_
      refine wl_val (rn_loadB s_87 rfl rfl hB6) ?_
      have hs38 := hX.size; have hy2 := hB2.lt; have hy4 := hB4.lt; have hy5 := hB5.lt; have hy6 := hB6.lt; have hy7 := hB7.lt
      refine wl_call e_61 rfl (mput_ib w13 d.bks bvs sub ((hBx.ext hX (fun _ h => h.elim)).sub (M' := Non) (fun _ h _ => h.elim)) hbd.s (by have := hbd.n; omega) (hQ.one (by omega)) _ _ rfl rfl) ?_; intro v38 w14 hE14 hR14
      replace hX := hX.tr hE14
      replace hB2 := hB2.ext hE14 id; replace hB4 := hB4.ext hE14 id; replace hB5 := hB5.ext hE14 id; replace hB6 := hB6.ext hE14 id; replace hB7 := hB7.ext hE14 id
      replace hSq := hSq.ext hE14 (fun _ h => h.elim)
      obtain ⟨u1, u2, rfl, hM38⟩ := hR14; obtain ⟨e1, y1, g1, rfl⟩ := id hM38.keys.shape; obtain ⟨e2, y2, g2, rfl⟩ := id hM38.vals.shape
      replace hM38 := hM38.sub (M' := (fun i => M i ∨ i = b2 ∨ i = b4 ∨ i = b5 ∨ i = b6 ∨ i = b7)) (fun i h _ => by unfold Old; rcases h with h | h | h | h | h | h; have := hM i h; omega; omega; omega; omega; omega; omega)
      refine wl_val (rn_fieldAddr f_59_2 (by decide) rfl) ?_
      have hBo := hB2
      refine wl_storeP (b := b2) s_52 rfl rfl rfl (two1 rfl rfl) hB2 (Nat.le_of_ble_eq_true rfl) ?_; intro w15 hE15 hB2 hz15
      replace hX := hX.mine hE15 hl2
      replace hB4 := hB4.ext hE15 (fun h => by omega); replace hB5 := hB5.ext hE15 (fun h => by omega); replace hB6 := hB6.ext hE15 (fun h => by omega); replace hB7 := hB7.ext hE15 (fun h => by omega)
      replace hSq := hSq.ext hE15 (fun i e => by first | exact .inr (.inl e) | exact .inr (.inr (.inl e)) | exact .inr (.inr (.inr (.inl e))) | exact .inr (.inr (.inr (.inr (.inl e)))) | exact .inr (.inr (.inr (.inr (.inr e)))))
      replace hM38 := hM38.ext hE15 (fun i e => by first | exact .inr (.inl e) | exact .inr (.inr (.inl e)) | exact .inr (.inr (.inr (.inl e))) | exact .inr (.inr (.inr (.inr (.inl e)))) | exact .inr (.inr (.inr (.inr (.inr e)))))
      refine wl_nil ?_
      refine W_seq ?_
      refine W_drawF (fun i => i = b4 ∨ i = b5) mixed ?_; intro w16 hE16
      replace hX := hX.tr hE16
      replace hB2 := hB2.ext hE16 id; replace hB4 := hB4.ext hE16 id; replace hB5 := hB5.ext hE16 id; replace hB6 := hB6.ext hE16 id; replace hB7 := hB7.ext hE16 id
      replace hSq := hSq.ext hE16 (fun _ h => h.elim)
      replace hM38 := hM38.ext hE16 (fun _ h => h.elim)
      have hS := Ext.refl (fun i => i = b4 ∨ i = b5) w16
      have hzd4 := hB4.lt; have hzd5 := hB5.lt
      refine wd_take 0 _ _ rfl (by kernel_rfl) hS (yd_do fun A hA => rn_loadB s_59 rfl rfl (hB2.ext hA (fun e => by omega))) ?_
      refine wd_take 1 _ _ rfl (by kernel_rfl) hS (yd_do fun A hA => rn_loadB s_62 rfl rfl (hB7.ext hA (fun e => by omega))) ?_
      refine wd_take 2 _ _ rfl (by kernel_rfl) hS (yd_do fun A hA => rn_build' b_64 rfl rfl (cs := [.int .i64 0, .int .i64 0, .int .i64 0, Sv m0.topic, Sv m0.payload, .bool m0.kept]) rfl) ?_
      refine wd_only 3 _ rfl (by kernel_rfl) ?_
      refine s1_do ?_
      refine wl_storeB s_59 rfl rfl rfl (elev1 rfl rfl rfl rfl rfl rfl rfl rfl rfl rfl rfl) hB4 rfl ?_; intro w17 hE17 hB4 hz17
      replace hB5 := hB5.ext hE17 (fun h => by omega)
      replace hS := hS.mine hE17 (by first | exact .inl rfl | exact .inl (.inl rfl) | exact .inl (.inr rfl) | exact .inl (.inr (.inr rfl)) | exact .inl (.inr (.inl rfl)) | exact .inl (.inl (.inl rfl)) | exact .inl (.inl (.inr rfl)))
      refine wl_nil ⟨hS, ?_⟩
      refine wd_only 4 _ rfl (by kernel_rfl) ?_
      refine s1_do ?_
      refine wl_storeB s_64 rfl rfl rfl (six1 rfl rfl rfl rfl rfl rfl) hB5 rfl ?_; intro w18 hE18 hB5 hz18
      replace hB4 := hB4.ext hE18 (fun h => by omega)
      replace hS := hS.mine hE18 (by first | exact .inl rfl | exact .inl (.inl rfl) | exact .inl (.inr rfl) | exact .inl (.inr (.inr rfl)) | exact .inl (.inr (.inl rfl)) | exact .inl (.inl (.inl rfl)) | exact .inl (.inl (.inr rfl)))
      refine wl_nil ⟨hS, ?_⟩
      refine wd_done (by kernel_rfl) ?_ _
      replace hX := hX.mineG hS (fun i h => .inr (by rcases h with h | h; rw [h]; exact hq4; rw [h]; exact hq5))
      replace hM38 := hM38.ext hS (fun i h => by rcases h with h | h; exact .inr (.inr (.inl h)); exact .inr (.inr (.inr (.inl h))))
      replace hSq := hSq.ext hS (fun i h => by rcases h with h | h; exact .inr (.inr (.inl h)); exact .inr (.inr (.inr (.inl h))))
      replace hB2 := hB2.ext hS (fun e => by omega); replace hB6 := hB6.ext hS (fun e => by omega); replace hB7 := hB7.ext hS (fun e => by omega)
      refine W_ret ?_
      exact ⟨_, resR2 (res1_box s_59 rfl hB4 rfl) (res1_box s_64 rfl hB5 rfl), hX, by rw [poll_yes hqe]; exact ⟨_, rfl, pa, q1, l1, c1, q2, l2, c2, e1, y1, g1, e2, y2, g2, q5, l5, c5, q6, l6, c6, nvs, _, rfl, hT.ext hX (fun _ h => h.elim), hN.ext hX (fun _ h => h.elim), hNv, hM38.sub (fun i h _ => .inl h), setBox_lens hbl _ _, (hQ.ext hX (fun _ h => h.elim)).put hbl hbl2 sub (qs, (d.boxOf sub).2) (hSq.sub (fun i h _ => .inl h)), hK.ext hX (fun _ h => h.elim)⟩⟩
end Go.Proofs.YtaddeakfojpdoaaGreatDoorC
