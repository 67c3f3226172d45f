/- The model: subscribing. -/
import Derived.Test.YtaddeakfojpdoaaGreatDoorBunM13
set_option linter.unusedVariables false
set_option linter.unusedSimpArgs false
set_option maxRecDepth 100000
namespace Go.Proofs.YtaddeakfojpdoaaGreatDoorC
open Go.RowKit
theorem Stab.md {n0 : Nat} (F : Nat → Prop) (d : Md) (cs : List Value) : Stab n0 (fun N A => MdM (fun i => N i ∨ F i) A d cs) := fun N A B hN hA h hE =>
  (h.sub (M' := fun i => grow N A B i ∨ F i) (fun i h hi => by
    rcases h with (h | h) | h
    · exact .inl h
    · exact absurd h.1 (by omega)
    · exact .inr h)).ext hE (fun i h => .inl (.inl h))
/-- The state with a new table. -/
theorem MdM.setTab {M : Nat → Prop} {w : World} {d : Md} {c0 c1 c2 c3 c4 c5 c6 c7 k1 k2 kv : Value} (h : MdM M w d [c0, c1, c2, c3, c4, c5, c6, c7, k1, k2, kv]) {t : Tr} {p : Option Addr} {len : Int} {e1 e2 : Option Addr} {y1 g1 y2 g2 : Nat} {nks : List Int} {nvs : List (List Value)} (hT : TrM M w t (.pointer p)) (hN : MapR M w eI1 2 (.slice e1 y1 g1) (.slice e2 y2 g2) nks nvs) (hv : ∀ r ∈ nvs, ∀ u ∈ r, u.oneCell' = true) :
    MdM M w { d with t := t, len := len, nks := nks } [.int .i64 d.subs, .pointer p, .int .i64 len, .slice e1 y1 g1, .slice e2 y2 g2, c5, c6, c7, k1, k2, kv] := by
  obtain ⟨pa, q1, l1, a1, q2, l2, a2, q3, l3, a3, q4, l4, a4, q5, l5, a5, q6, l6, a6, nvs0, bvs, e, h1, h2, h3, h4, h5, h6, h7⟩ := h
  simp only [List.cons.injEq, and_true] at e
  obtain ⟨_, _, _, _, _, rfl, rfl, rfl, rfl, rfl, rfl⟩ := e
  exact ⟨p, e1, y1, g1, e2, y2, g2, q3, l3, a3, q4, l4, a4, q5, l5, a5, q6, l6, a6, nvs, bvs, rfl, hT, hN, hv, h4, h5, h6, h7⟩
-- (bellman/model.State).subscribe
set_option maxHeartbeats 6400000 in
theorem subscribe_ok (w : World) (d : Md) {cs : List Value} (M : Nat → Prop) (hM : ∀ i, M i → i < w.heap.size) (hd : MdM M w d cs) (hbd : BdM 500 d) (o : OpD) (hos : o.text.length ≤ 90000) {n m : Nat} (hok : d.t.Ok n m) (hn : n ≤ 1000) (hfm : o.text.length + 1 ≤ m) (hnord : Sorted ltI d.nks) (hnn : d.nks.length ≤ 1000) (hna : isAt ltI d.nks o.sub = false) (h1 : 1 ≤ o.sub) (h2 : o.sub ≤ d.subs) (hfil : filterB o.text = true) (hnew : isAt ltI (Tr.go (spl 47 o.text) d.t).subs o.sub = false) (hlen : 0 ≤ d.len ∧ d.len ≤ 1000) (hkn : d.ks.length ≤ 100) (hkl : ∀ y ∈ d.ks, y.length ≤ 1000000) : Fn Tryz.prog 33 #[.agg cs.toArray, .agg o.enc.toArray] w fun u w' => ∃ cs' : List Value, u = .tuple #[.agg cs'.toArray, .agg (d.subscribe o).2.enc.toArray] ∧ MdM M w' (d.subscribe o).1 cs' := by
  obtain ⟨pa, q1, l1, c1, q2, l2, c2, q3, l3, c3, q4, l4, c4, q5, l5, c5, q6, l6, c6, nvs, bvs, rfl, hT, hN, hNv, hBx, hbl, hQ, hK⟩ := id hd
  have hX := Ext.refl Non w
  refine fn_of_W (args := [_, _]) Tryz.func33 rfl (by kernel_rfl) rfl ?_
  refine W_seq ?_
  refine W_region ?_
  refine wl_boxS rfl ?_; intro b2 w1 hb2 hE1 hB2
  have hq2 : w.heap.size ≤ b2 := Nat.le_trans hX.size hb2
  have hl2 : Mine Non w b2 := .inr hq2
  replace hX := hX.tr hE1
  refine wl_boxS rfl ?_; intro b3 w2 hb3 hE2 hB3
  have hn2_3 : b2 < b3 := Nat.lt_of_lt_of_le hB2.lt hb3
  have hq3 : w.heap.size ≤ b3 := Nat.le_trans hX.size hb3
  have hl3 : Mine Non w b3 := .inr hq3
  replace hX := hX.tr hE2
  replace hB2 := hB2.ext hE2 id
  refine wl_alloc z_59 ?_; intro b4 w3 hb4 hE3 hB4
  have hn2_4 : b2 < b4 := Nat.lt_of_lt_of_le hB2.lt hb4
  have hn3_4 : b3 < b4 := Nat.lt_of_lt_of_le hB3.lt hb4
  have hq4 : w.heap.size ≤ b4 := Nat.le_trans hX.size hb4
  have hl4 : Mine Non w b4 := .inr hq4
  replace hX := hX.tr hE3
  replace hB2 := hB2.ext hE3 id; replace hB3 := hB3.ext hE3 id
  refine wl_alloc z_64 ?_; intro b5 w4 hb5 hE4 hB5
  have hn2_5 : b2 < b5 := Nat.lt_of_lt_of_le hB2.lt hb5
  have hn3_5 : b3 < b5 := Nat.lt_of_lt_of_le hB3.lt hb5
  have hn4_5 : b4 < b5 := Nat.lt_of_lt_of_le hB4.lt hb5
  have hq5 : w.heap.size ≤ b5 := Nat.le_trans hX.size hb5
  have hl5 : Mine Non w b5 := .inr hq5
  replace hX := hX.tr hE4
  replace hB2 := hB2.ext hE4 id; replace hB3 := hB3.ext hE4 id; replace hB4 := hB4.ext hE4 id
  refine wl_nil ?_
  refine W_seq ?_
  refine W_region ?_
  refine wl_val (rn_fieldAddr f_59_0 (by decide) rfl) ?_
  refine wl_val (rn_loadS s_49 (vs := [_, _, _, _, _]) rfl rfl (hB2.part rfl (Nat.le_of_ble_eq_true rfl))) ?_
  refine wl_val (rn_fieldAddr f_69_1 (by decide) rfl) ?_
  refine wl_val (rn_load1 p_3 rfl hB3 rfl) ?_
  refine wl_val (rn_fieldAddr f_69_2 (by decide) rfl) ?_
  refine wl_val (rn_load1 p_9 rfl hB3 rfl) ?_
  refine wl_call e_50 rfl (tsub_ok w4 d.subs d.t d.len (fun i => M i ∨ i = b2 ∨ i = b3 ∨ i = b4 ∨ i = b5) (fun i h => by rcases h with h | h | h | h | h; exact Nat.lt_of_lt_of_le (hM i h) hX.size; rw [h]; exact hB2.lt; rw [h]; exact hB3.lt; rw [h]; exact hB4.lt; rw [h]; exact hB5.lt) ((hT.sub (M' := (fun i => M i ∨ i = b2 ∨ i = b3 ∨ i = b4 ∨ i = b5)) (fun i h hlt => by rcases h with h | h | h | h | h; exact h; omega; omega; omega; omega)).ext hX (fun _ h => h.elim)) hok (by omega) d.nks nvs ((hN.sub (M' := (fun i => M i ∨ i = b2 ∨ i = b3 ∨ i = b4 ∨ i = b5)) (fun i h hlt => by rcases h with h | h | h | h | h; exact h; omega; omega; omega; omega)).ext hX (fun _ h => h.elim)) hnord hnn hNv o.sub hna o.text (by omega) hfm h1 h2 hfil hnew (by omega)) ?_; intro v17 w5 hE5 hR5
  replace hX := hX.tr hE5
  replace hB2 := hB2.ext hE5 id; replace hB3 := hB3.ext hE5 id; replace hB4 := hB4.ext hE5 id; replace hB5 := hB5.ext hE5 id
  obtain ⟨p17, m1, m2, nvs', rfl, hTn, hNn, hNvn⟩ := hR5; obtain ⟨pn, rfl⟩ := hTn.ptr; obtain ⟨e1, y1, g1, rfl⟩ := id hNn.keys.shape; obtain ⟨e2, y2, g2, rfl⟩ := id hNn.vals.shape
  obtain ⟨n17, hn17⟩ : ∃ n, n = (World.heap w5).size := ⟨_, rfl⟩
  replace hTn := hTn.sub (M' := (fun i => M i ∨ i = b2 ∨ i = b3 ∨ i = b4 ∨ i = b5 ∨ n17 ≤ i)) (fun i h hlt => by rcases h with h | h | h | h | h | h; exact .inl h; exact .inr (.inl h); exact .inr (.inr (.inl h)); exact .inr (.inr (.inr (.inl h))); exact .inr (.inr (.inr (.inr h))); omega)
  replace hNn := hNn.sub (M' := (fun i => M i ∨ i = b2 ∨ i = b3 ∨ i = b4 ∨ i = b5 ∨ n17 ≤ i)) (fun i h hlt => by rcases h with h | h | h | h | h | h; exact .inl h; exact .inr (.inl h); exact .inr (.inr (.inl h)); exact .inr (.inr (.inr (.inl h))); exact .inr (.inr (.inr (.inr h))); omega)
  refine wl_val (rn_move (by conv => lhs; whnf)) ?_
  refine wl_val (rn_extract rfl rfl) ?_
  refine wl_val (rn_extract rfl rfl) ?_
  refine wl_alloc z_49 ?_; intro b6 w6 hb6 hE6 hB6
  have hn2_6 : b2 < b6 := Nat.lt_of_lt_of_le hB2.lt hb6
  have hn3_6 : b3 < b6 := Nat.lt_of_lt_of_le hB3.lt hb6
  have hn4_6 : b4 < b6 := Nat.lt_of_lt_of_le hB4.lt hb6
  have hn5_6 : b5 < b6 := Nat.lt_of_lt_of_le hB5.lt hb6
  have hq6 : w.heap.size ≤ b6 := Nat.le_trans hX.size hb6
  have hl6 : Mine Non w b6 := .inr hq6
  have hg6 : n17 ≤ b6 := by omega
  replace hX := hX.tr hE6
  replace hB2 := hB2.ext hE6 id; replace hB3 := hB3.ext hE6 id; replace hB4 := hB4.ext hE6 id; replace hB5 := hB5.ext hE6 id
  replace hTn := hTn.ext hE6 (fun _ h => h.elim)
  replace hNn := hNn.ext hE6 (fun _ h => h.elim)
  have hBo := hB6
  refine wl_storeB s_49 rfl rfl rfl (five1 rfl rfl rfl rfl rfl) hB6 rfl ?_; intro w7 hE7 hB6 hz7
  replace hX := hX.mine hE7 hl6
  replace hB2 := hB2.ext hE7 (fun h => by omega); replace hB3 := hB3.ext hE7 (fun h => by omega); replace hB4 := hB4.ext hE7 (fun h => by omega); replace hB5 := hB5.ext hE7 (fun h => by omega)
  replace hTn := hTn.ext hE7 (fun i e => by first | exact .inr (.inl e) | exact .inr (.inr (.inl e)) | exact (.inr (.inr (.inr (.inr (.inr (by rw [e]; exact hg6)))))))
  replace hNn := hNn.ext hE7 (fun i e => by first | exact .inr (.inl e) | exact .inr (.inr (.inl e)) | exact (.inr (.inr (.inr (.inr (.inr (by rw [e]; exact hg6)))))))
  refine wl_val (rn_assign (by conv => lhs; whnf)) ?_
  refine wl_nil ?_
  refine W_seq ?_
  refine W_region ?_
  refine wl_val (rn_move (by conv => lhs; whnf)) ?_
  refine wl_val (rn_build' b_64 rfl rfl (cs := [.int .i64 0, .int .i64 0, .int .i64 0, Sv [], Sv [], .bool false]) rfl) ?_
  refine wl_alloc z_64 ?_; intro b8 w8 hb8 hE8 hB8
  have hn2_8 : b2 < b8 := Nat.lt_of_lt_of_le hB2.lt hb8
  have hn3_8 : b3 < b8 := Nat.lt_of_lt_of_le hB3.lt hb8
  have hn4_8 : b4 < b8 := Nat.lt_of_lt_of_le hB4.lt hb8
  have hn5_8 : b5 < b8 := Nat.lt_of_lt_of_le hB5.lt hb8
  have hn6_8 : b6 < b8 := Nat.lt_of_lt_of_le hB6.lt hb8
  have hq8 : w.heap.size ≤ b8 := Nat.le_trans hX.size hb8
  have hl8 : Mine Non w b8 := .inr hq8
  have hg8 : n17 ≤ b8 := by have := hB6.lt; omega
  replace hX := hX.tr hE8
  replace hB2 := hB2.ext hE8 id; replace hB3 := hB3.ext hE8 id; replace hB4 := hB4.ext hE8 id; replace hB5 := hB5.ext hE8 id; replace hB6 := hB6.ext hE8 id
  replace hTn := hTn.ext hE8 (fun _ h => h.elim)
  replace hNn := hNn.ext hE8 (fun _ h => h.elim)
  have hBo := hB8
  refine wl_storeB s_64 rfl rfl rfl (six1 rfl rfl rfl rfl rfl rfl) hB8 rfl ?_; intro w9 hE9 hB8 hz9
  replace hX := hX.mine hE9 hl8
  replace hB2 := hB2.ext hE9 (fun h => by omega); replace hB3 := hB3.ext hE9 (fun h => by omega); replace hB4 := hB4.ext hE9 (fun h => by omega); replace hB5 := hB5.ext hE9 (fun h => by omega); replace hB6 := hB6.ext hE9 (fun h => by omega)
  replace hTn := hTn.ext hE9 (fun i e => by first | exact .inr (.inl e) | exact .inr (.inr (.inl e)) | exact (.inr (.inr (.inr (.inr (.inr (by rw [e]; exact hg8)))))))
  replace hNn := hNn.ext hE9 (fun i e => by first | exact .inr (.inl e) | exact .inr (.inr (.inl e)) | exact (.inr (.inr (.inr (.inr (.inr (by rw [e]; exact hg8)))))))
  refine wl_nil ?_
  refine W_seq ?_
  refine W_seq ?_
  refine W_region ?_
  refine wl_val (rn_move (by conv => lhs; whnf)) ?_
  refine wl_val (rn_eql rfl rfl) ?_
  refine wl_nil ?_
  refine W_cond rfl (fun hc0 => ?_) (fun hc0 => ?_)
  · refine W_seq ?_
    refine W_region ?_
    refine wl_val (rn_loadB s_49 rfl rfl hB6) ?_
    refine wl_val (rn_fieldAddr f_59_0 (by decide) rfl) ?_
    have hBo := hB2
    refine wl_storeP (b := b2) s_49 rfl rfl rfl (five1 rfl rfl rfl rfl rfl) hB2 (Nat.le_of_ble_eq_true rfl) ?_; intro w10 hE10 hB2 hz10
    replace hX := hX.mine hE10 hl2
    replace hB3 := hB3.ext hE10 (fun h => by omega); replace hB4 := hB4.ext hE10 (fun h => by omega); replace hB5 := hB5.ext hE10 (fun h => by omega); replace hB6 := hB6.ext hE10 (fun h => by omega); replace hB8 := hB8.ext hE10 (fun h => by omega)
    replace hTn := hTn.ext hE10 (fun i e => by first | exact .inr (.inl e) | exact .inr (.inr (.inl e)) | exact (.inr (.inr (.inr (.inr (.inr (by rw [e]; exact hg2)))))))
    replace hNn := hNn.ext hE10 (fun i e => by first | exact .inr (.inl e) | exact .inr (.inr (.inl e)) | exact (.inr (.inr (.inr (.inr (.inr (by rw [e]; exact hg2)))))))
    refine wl_nil ?_
    refine W_seq ?_
    refine W_region ?_
    refine wl_val (rn_fieldAddr f_59_3 (by decide) rfl) ?_
    refine wl_val (rn_loadS s_57 (vs := [_, _, _]) rfl rfl (hB2.part rfl (Nat.le_of_ble_eq_true rfl))) ?_
    refine wl_val (rn_fieldAddr f_69_2 (by decide) rfl) ?_
    refine wl_val (rn_load1 p_9 rfl hB3 rfl) ?_
    refine wl_call e_51 rfl (kscan_ok w10 d.ks d.ys d.ver (fun i => i = b2 ∨ i = b8) (fun i h => by rcases h with h | h; rw [h]; exact hB2.lt; rw [h]; exact hB8.lt) ((hK.sub (M' := fun i => i = b2 ∨ i = b8) (fun i h hlt => by rcases h with h | h; omega; omega)).ext hX (fun _ h => h.elim)) (by omega) hkl o.text (by omega)) ?_; intro v30 w11 hE11 hR11
    replace hX := hX.tr hE11
    replace hB2 := hB2.ext hE11 id; replace hB3 := hB3.ext hE11 id; replace hB4 := hB4.ext hE11 id; replace hB5 := hB5.ext hE11 id; replace hB6 := hB6.ext hE11 id; replace hB8 := hB8.ext hE11 id
    replace hTn := hTn.ext hE11 (fun _ h => h.elim)
    replace hNn := hNn.ext hE11 (fun _ h => h.elim)
    have hIt := hR11; obtain ⟨fi, ci, hfi, _⟩ := id hIt; subst hfi
    obtain ⟨wz, hwz⟩ : ∃ x, x = w11 := ⟨_, rfl⟩
    have hszz : w.heap.size ≤ wz.heap.size := by rw [hwz]; exact hX.size
    have hd8 := (hd.sub (M' := (fun i => M i ∨ i = b2 ∨ i = b3 ∨ i = b4 ∨ i = b5 ∨ i = b6 ∨ i = b8)) (fun i h hlt => by rcases h with h | h | h | h | h | h | h; exact h; omega; omega; omega; omega; omega; omega)).ext hX (fun _ h => h.elim)
    have hMd0 := hd8.setTab (len := d.len + 1) (hTn.sub (M' := (fun i => M i ∨ i = b2 ∨ i = b3 ∨ i = b4 ∨ i = b5 ∨ i = b6 ∨ i = b8)) (fun i h _ => by rcases h with h | h | h | h | h | h | h; exact .inl h; exact .inr (.inl h); exact .inr (.inr (.inl h)); exact .inr (.inr (.inr (.inl h))); exact .inr (.inr (.inr (.inr (.inl h)))); exact .inr (.inr (.inr (.inr (.inr (by rw [h]; exact hg6))))); exact .inr (.inr (.inr (.inr (.inr (by rw [h]; exact hg8))))))) (hNn.sub (M' := (fun i => M i ∨ i = b2 ∨ i = b3 ∨ i = b4 ∨ i = b5 ∨ i = b6 ∨ i = b8)) (fun i h _ => by rcases h with h | h | h | h | h | h | h; exact .inl h; exact .inr (.inl h); exact .inr (.inr (.inl h)); exact .inr (.inr (.inr (.inl h))); exact .inr (.inr (.inr (.inr (.inl h)))); exact .inr (.inr (.inr (.inr (.inr (by rw [h]; exact hg6))))); exact .inr (.inr (.inr (.inr (.inr (by rw [h]; exact hg8))))))) hNvn
    have he0 : Ext (fun i => i = b2 ∨ i = b8) wz w11 := by rw [hwz]; exact Ext.refl _ _
    rw [← hwz] at hIt
    refine wl_nil ?_
    refine W_block ?_   -- block 0
    have hszr := hX.size
    have ho2 : w.heap.size ≤ b2 := by rcases hl2 with h | h; exact h.elim; exact h
    have ho3 : w.heap.size ≤ b3 := by rcases hl3 with h | h; exact h.elim; exact h
    have ho4 : w.heap.size ≤ b4 := by rcases hl4 with h | h; exact h.elim; exact h
    have ho5 : w.heap.size ≤ b5 := by rcases hl5 with h | h; exact h.elim; exact h
    have ho6 : w.heap.size ≤ b6 := by rcases hl6 with h | h; exact h.elim; exact h
    have ho8 : w.heap.size ≤ b8 := by rcases hl8 with h | h; exact h.elim; exact h
    refine W_rangeFunc (M := fun i => i = b2 ∨ i = b8) (w0 := wz) (I := fun pre N A => ∃ dd : Md, ∃ a : Int, ∃ b : Int, ∃ cs : List Value, Box N A b2 cs ∧ Box N A b3 o.enc ∧ Box N A b4 [.int .i64 0, .pointer none, .int .i64 0, .slice none 0 0, .slice none 0 0, .int .i64 0, .slice none 0 0, .slice none 0 0, .slice none 0 0, .slice none 0 0, .int .i64 0] ∧ Box N A b5 [.int .i64 0, .int .i64 0, .int .i64 0, Sv [], Sv [], .bool false] ∧ Box N A b6 [.int .i64 d.subs, .pointer pn, .int .i64 (d.len + 1), .slice e1 y1 g1, .slice e2 y2 g2] ∧ Box N A b8 [.int .i64 0, .int .i64 a, .int .i64 b, Sv [], Sv [], .bool false] ∧ Ext Non w A ∧ MkN w [] N A ∧ (MdM (fun i => N i ∨ (fun i => M i ∨ i = b2 ∨ i = b3 ∨ i = b4 ∨ i = b5 ∨ i = b6 ∨ i = b8) i) A dd cs) ∧ ((dd, a, b) = (pre.foldl (fun x q => offS (keptMsg q) x o.sub) (({ d with t := d.t.put (spl 47 o.text) o.sub, len := d.len + 1, nks := putK ltI d.nks o.sub } : Md), 0, 0)))) (X := fun c N A => False) (encs := fun p : Str × (Str × Int) => [.agg (eM1 p).toArray]) (xs := ((d.ks.zip d.ys).filter fun q => matchB o.text q.1)) rfl (hIt) (he0) (fun _ => rfl) (fun pre => Stab.ex fun dd => Stab.ex fun a => Stab.ex fun b => Stab.ex fun cs => (Stab.box _ _).and ((Stab.box _ _).and ((Stab.box _ _).and ((Stab.box _ _).and ((Stab.box _ _).and ((Stab.box _ _).and ((Stab.old hX.size).and ((Stab.mk _ _).and ((Stab.md _ _ _).and ((Stab.pure _))))))))))) (fun c => Stab.false) ⟨({ d with t := d.t.put (spl 47 o.text) o.sub, len := d.len + 1, nks := putK ltI d.nks o.sub } : Md), 0, 0, _, ⟨hB2, id⟩, ⟨hB3, id⟩, ⟨hB4, id⟩, ⟨hB5, id⟩, ⟨hB6, id⟩, ⟨hB8, id⟩, hX, (Mk.nil : Mk w [] _).toN, (hMd0.sub (fun i h _ => h.elim (fun h => h.elim) id)), rfl⟩ ?_ ?_ ?_
    · rintro l N pre x A hl hN hA hst ⟨dd, a, b, cs, hK2, hK3, hK4, hK5, hK6, hK8, hXo, hDk, hMd, hIr⟩ ⟨post, hpre⟩
      have hB2 := hK2.1; have hl2 : Mine (Yc (fun i => i = b2 ∨ i = b8) wz N) A b2 := .inl ⟨hK2.2, .inl (.inl rfl)⟩
      have hB3 := hK3.1
      have hB4 := hK4.1
      have hB5 := hK5.1
      have hB6 := hK6.1
      have hB8 := hK8.1; have hl8 : Mine (Yc (fun i => i = b2 ∨ i = b8) wz N) A b8 := .inl ⟨hK8.2, .inl (.inr rfl)⟩
      have hX := Ext.refl (Yc (fun i => i = b2 ∨ i = b8) wz N) A
      have hfo := hIr
      have hwzA : wz.heap.size ≤ A.heap.size := by rw [hwz]; exact hA
      obtain ⟨pz, z1, zl1, zc1, z2, zl2, zc2, z3, zl3, zc3, z4, zl4, zc4, z5, zl5, zc5, z6, zl6, zc6, nvz, bvz, rfl, hTz, hNz, hNvz, hBxz, hblz, hQz, hKz⟩ := id hMd
      refine W_region ?_
      refine wl_alloc z_62 ?_; intro b9 w12 hb9 hE12 hB9
      have hn2_9 : b2 < b9 := Nat.lt_of_lt_of_le hB2.lt hb9
      have hn3_9 : b3 < b9 := Nat.lt_of_lt_of_le hB3.lt hb9
      have hn4_9 : b4 < b9 := Nat.lt_of_lt_of_le hB4.lt hb9
      have hn5_9 : b5 < b9 := Nat.lt_of_lt_of_le hB5.lt hb9
      have hn6_9 : b6 < b9 := Nat.lt_of_lt_of_le hB6.lt hb9
      have hn8_9 : b8 < b9 := Nat.lt_of_lt_of_le hB8.lt hb9
      have hq9 : A.heap.size ≤ b9 := Nat.le_trans hX.size hb9
      have hl9 : Mine (Yc (fun i => i = b2 ∨ i = b8) wz N) A b9 := .inr hq9
      have ho9 : w.heap.size ≤ b9 := Nat.le_trans hXo.size hb9
      replace hMd := hMd.sub (M' := fun i => (fun i => N i ∨ (fun i => M i ∨ i = b2 ∨ i = b3 ∨ i = b4 ∨ i = b5 ∨ i = b6 ∨ i = b8) i) i ∨ A.heap.size ≤ i) (fun i h hlt => h.resolve_right (by omega))
      replace hX := hX.tr hE12
      replace hB2 := hB2.ext hE12 id; replace hB3 := hB3.ext hE12 id; replace hB4 := hB4.ext hE12 id; replace hB5 := hB5.ext hE12 id; replace hB6 := hB6.ext hE12 id; replace hB8 := hB8.ext hE12 id
      replace hXo := hXo.tr hE12
      replace hDk := hDk.non hE12
      replace hMd := hMd.ext hE12 (fun _ h => h.elim)
      have hBo := hB9
      refine wl_storeB s_62 rfl rfl rfl (three1 rfl rfl rfl) hB9 rfl ?_; intro w13 hE13 hB9 hz13
      replace hX := hX.mine hE13 hl9
      replace hB2 := hB2.ext hE13 (fun h => by omega); replace hB3 := hB3.ext hE13 (fun h => by omega); replace hB4 := hB4.ext hE13 (fun h => by omega); replace hB5 := hB5.ext hE13 (fun h => by omega); replace hB6 := hB6.ext hE13 (fun h => by omega); replace hB8 := hB8.ext hE13 (fun h => by omega)
      replace hXo := hXo.mine hE13 (.inr ho9)
      replace hDk := hDk.box hE13 hBo
      replace hMd := hMd.ext hE13 (fun i e => by first | exact ((fun i e => .inr (by first | exact .inr (.inl e) | exact .inr (.inr (.inl e)) | exact .inr (.inr (.inr (.inl e))) | exact .inr (.inr (.inr (.inr (.inl e)))) | exact .inr (.inr (.inr (.inr (.inr (.inl e))))) | exact .inr (.inr (.inr (.inr (.inr (.inr e))))))) i e) | exact .inl ((fun i e => .inr (by first | exact .inr (.inl e) | exact .inr (.inr (.inl e)) | exact .inr (.inr (.inr (.inl e))) | exact .inr (.inr (.inr (.inr (.inl e)))) | exact .inr (.inr (.inr (.inr (.inr (.inl e))))) | exact .inr (.inr (.inr (.inr (.inr (.inr e))))))) i e) | exact .inr (by rw [e]; exact hb9))
      refine wl_nil ?_
      refine ⟨rfl, hX, fun A2 hE2r hz2r hst2 => ?_⟩
      have hNl := (hN l hl).2
      replace hB2 := hB2.ext hE2r (fun e => hK2.2 (by rw [e]; exact hl))
      replace hB3 := hB3.ext hE2r (fun e => hK3.2 (by rw [e]; exact hl))
      replace hB4 := hB4.ext hE2r (fun e => hK4.2 (by rw [e]; exact hl))
      replace hB5 := hB5.ext hE2r (fun e => hK5.2 (by rw [e]; exact hl))
      replace hB6 := hB6.ext hE2r (fun e => hK6.2 (by rw [e]; exact hl))
      replace hB8 := hB8.ext hE2r (fun e => hK8.2 (by rw [e]; exact hl))
      replace hB9 := hB9.ext hE2r (fun e => by omega)
      replace hXo := hXo.mine hE2r (.inr (Nat.le_trans hszr (hN l hl).1)); replace hDk := hDk.lp hE2r hl
      replace hMd := hMd.ext hE2r (fun i e => .inl (.inl (by rw [e]; exact hl)))
      have hl9 : Mine (Yc (fun i => i = b2 ∨ i = b8) wz N) A2 b9 := .inl ⟨fun h => by have := (hN _ h).2; omega, .inr (by omega)⟩
      have hl2 : Mine (Yc (fun i => i = b2 ∨ i = b8) wz N) A2 b2 := .inl ⟨hK2.2, .inl (.inl rfl)⟩
      have hl8 : Mine (Yc (fun i => i = b2 ∨ i = b8) wz N) A2 b8 := .inl ⟨hK8.2, .inl (.inr rfl)⟩
      have hX := Ext.refl (Yc (fun i => i = b2 ∨ i = b8) wz N) A2
      have hAA : A.heap.size ≤ A2.heap.size := by have := hB9.lt; omega
      have hNM : ∀ i, (fun i => N i ∨ (fun i => M i ∨ i = b2 ∨ i = b3 ∨ i = b4 ∨ i = b5 ∨ i = b6 ∨ i = b8) i) i → i < A2.heap.size := fun i h => by rcases h with h | h | h | h | h | h | h | h; have := (hN i h).2; omega; have := hM i h; omega; rw [h]; exact hB2.lt; rw [h]; exact hB3.lt; rw [h]; exact hB4.lt; rw [h]; exact hB5.lt; rw [h]; exact hB6.lt; rw [h]; exact hB8.lt
      have hpl : ((d.ks.zip d.ys).filter fun q => matchB o.text q.1).length = pre.length + (post.length + 1) := by rw [hpre]; simp
      have hfl : ((d.ks.zip d.ys).filter fun q => matchB o.text q.1).length ≤ 100 := Nat.le_trans (List.length_filter_le _ _) (by rw [List.length_zip]; omega)
      have hfb := fold_bd (fun x q => offS (keptMsg q) x o.sub) (off_bd2 o.sub) pre 500 (({ d with t := d.t.put (spl 47 o.text) o.sub, len := d.len + 1, nks := putK ltI d.nks o.sub } : Md), 0, 0) ⟨hbd.s, hbd.n, hbd.l, hbd.q⟩
      rw [← hfo] at hfb
      obtain ⟨hbz0, ha1, ha2, hb1, hb2_⟩ := hfb
      have hbz : BdM 600 dd := hbz0.mono (by omega)
      simp only at ha1 ha2 hb1 hb2_
      refine W_block ?_   -- block 1
      refine W_region ?_
      refine wl_val (rn_loadB s_59 rfl rfl hB2) ?_
      refine wl_val (rn_fieldAddr f_69_1 (by decide) rfl) ?_
      refine wl_val (rn_load1 p_3 rfl hB3 rfl) ?_
      refine wl_val (rn_loadB s_62 rfl rfl hB9) ?_
      refine wl_callM (M := fun i => i = b8) e_52 rfl (offer_ok A2 dd (fun i => (fun i => N i ∨ (fun i => M i ∨ i = b2 ∨ i = b3 ∨ i = b4 ∨ i = b5 ∨ i = b6 ∨ i = b8) i) i ∨ i = b9) (fun i h => by rcases h with h | h; exact Nat.lt_of_lt_of_le (hNM i h) hX.size; rw [h]; exact hB9.lt) (hMd.sub (M' := fun i => (fun i => N i ∨ (fun i => M i ∨ i = b2 ∨ i = b3 ∨ i = b4 ∨ i = b5 ∨ i = b6 ∨ i = b8) i) i ∨ i = b9) (fun i h hlt => by rcases h with h | h; exact .inl h; exact .inr (by rw [h]; exact hb9))) hbz.s (by have := hbz.n; omega) o.sub (keptMsg x) b8 ⟨0, a, b, zeroMsg⟩ (.inl (.inr (.inr (.inr (.inr (.inr (.inr (.inr rfl)))))))) hB8 (by have := (hbz.box o.sub).1; omega) (by have := (hbz.box o.sub).2; omega) (by show 0 ≤ a ∧ a ≤ 100000; omega) (by show 0 ≤ b ∧ b ≤ 100000; omega)) ?_; intro v36 w14 hE14 hR14
      obtain ⟨cs36, rfl, hMn, hB8⟩ := hR14
      obtain ⟨py, y1, yl1, yc1, y2, yl2, yc2, y3, yl3, yc3, y4, yl4, yc4, y5, yl5, yc5, y6, yl6, yc6, nvy, bvy, rfl, _⟩ := id hMn
      replace hMn := hMn.sub (M' := (fun i => N i ∨ (fun i => M i ∨ i = b2 ∨ i = b3 ∨ i = b4 ∨ i = b5 ∨ i = b6 ∨ i = b8) i)) (fun i h _ => .inl h)
      replace hX := hX.mine hE14 hl8; replace hXo := hXo.mine hE14 (.inr ho8); replace hDk : MkN w [] N w14 := ⟨Mk.nil, fun r h => by cases h⟩
      replace hB2 := hB2.ext hE14 (fun h => by omega); replace hB3 := hB3.ext hE14 (fun h => by omega); replace hB4 := hB4.ext hE14 (fun h => by omega); replace hB5 := hB5.ext hE14 (fun h => by omega); replace hB6 := hB6.ext hE14 (fun h => by omega); replace hB9 := hB9.ext hE14 (fun h => by omega)
      have hBo := hB2
      refine wl_storeB s_59 rfl rfl rfl (elev1 rfl rfl rfl rfl rfl rfl rfl rfl rfl rfl rfl) hB2 rfl ?_; intro w15 hE15 hB2 hz15
      replace hX := hX.mine hE15 hl2
      replace hB3 := hB3.ext hE15 (fun h => by omega); replace hB4 := hB4.ext hE15 (fun h => by omega); replace hB5 := hB5.ext hE15 (fun h => by omega); replace hB6 := hB6.ext hE15 (fun h => by omega); replace hB8 := hB8.ext hE15 (fun h => by omega); replace hB9 := hB9.ext hE15 (fun h => by omega)
      replace hXo := hXo.mine hE15 (.inr ho2)
      replace hDk := hDk.box hE15 hBo
      replace hMn := hMn.ext hE15 (fun i e => by first | exact ((fun i e => .inr (by first | exact .inr (.inl e) | exact .inr (.inr (.inl e)) | exact .inr (.inr (.inr (.inl e))) | exact .inr (.inr (.inr (.inr (.inl e)))) | exact .inr (.inr (.inr (.inr (.inr (.inl e))))) | exact .inr (.inr (.inr (.inr (.inr (.inr e))))))) i e) | exact .inl ((fun i e => .inr (by first | exact .inr (.inl e) | exact .inr (.inr (.inl e)) | exact .inr (.inr (.inr (.inl e))) | exact .inr (.inr (.inr (.inr (.inl e)))) | exact .inr (.inr (.inr (.inr (.inr (.inl e))))) | exact .inr (.inr (.inr (.inr (.inr (.inr e))))))) i e) | exact .inr (by rw [e]; exact hb2))
      refine wl_nil ?_
      exact ⟨hX, (offS (keptMsg x) (dd, a, b) o.sub).1, (offS (keptMsg x) (dd, a, b) o.sub).2.1, (offS (keptMsg x) (dd, a, b) o.sub).2.2, _, ⟨hB2, hK2.2⟩, ⟨hB3, hK3.2⟩, ⟨hB4, hK4.2⟩, ⟨hB5, hK5.2⟩, ⟨hB6, hK6.2⟩, ⟨hB8, hK8.2⟩, hXo, hDk, hMn, (by rw [List.foldl_append, ← hfo]; rfl)⟩
    · rintro N rk w' ⟨dd, a, b, cs, hK2, hK3, hK4, hK5, hK6, hK8, hXo, hDk, hMd, hIr⟩ hN hA hr hrd
      have hB2 := hK2.1
      have hB3 := hK3.1
      have hB4 := hK4.1
      have hB5 := hK5.1
      have hB6 := hK6.1
      have hB8 := hK8.1
      have hX := hXo; have hD := hDk.add hrd (Nat.le_trans hszr (hN rk hr).1) hr
      have hfo := hIr
      obtain ⟨pz, z1, zl1, zc1, z2, zl2, zc2, z3, zl3, zc3, z4, zl4, zc4, z5, zl5, zc5, z6, zl6, zc6, nvz, bvz, rfl, hTz, hNz, hNvz, hBxz, hblz, hQz, hKz⟩ := id hMd
      refine W_seq ?_
      refine W_drawF (fun i => i = b4 ∨ i = b5) mixed ?_; intro w16 hE16
      replace hX := hX.tr hE16
      replace hB2 := hB2.ext hE16 id; replace hB3 := hB3.ext hE16 id; replace hB4 := hB4.ext hE16 id; replace hB5 := hB5.ext hE16 id; replace hB6 := hB6.ext hE16 id; replace hB8 := hB8.ext hE16 id
      replace hD := hD.non hE16
      replace hMd := hMd.ext hE16 (fun _ h => h.elim)
      have hS := Ext.refl (fun i => i = b4 ∨ i = b5) w16
      have hzd4 := hB4.lt; have hzd5 := hB5.lt
      refine wd_take 0 _ _ rfl (by kernel_rfl) hS (yd_do fun A hA => rn_loadB s_59 rfl rfl (hB2.ext hA (fun e => by omega))) ?_
      refine wd_take 1 _ _ rfl (by kernel_rfl) hS (yd_do fun A hA => rn_loadB s_64 rfl rfl (hB8.ext hA (fun e => by omega))) ?_
      refine wd_only 2 _ rfl (by kernel_rfl) ?_
      refine s1_do ?_
      refine wl_storeB s_59 rfl rfl rfl (elev1 rfl rfl rfl rfl rfl rfl rfl rfl rfl rfl rfl) hB4 rfl ?_; intro w17 hE17 hB4 hz17
      replace hB5 := hB5.ext hE17 (fun h => by omega)
      replace hS := hS.mine hE17 (by first | exact .inl rfl | exact .inl (.inl rfl) | exact .inl (.inr rfl) | exact .inl (.inr (.inr rfl)) | exact .inl (.inr (.inl rfl)) | exact .inl (.inl (.inl rfl)) | exact .inl (.inl (.inr rfl)))
      refine wl_nil ⟨hS, ?_⟩
      refine wd_only 3 _ rfl (by kernel_rfl) ?_
      refine s1_do ?_
      refine wl_storeB s_64 rfl rfl rfl (six1 rfl rfl rfl rfl rfl rfl) hB5 rfl ?_; intro w18 hE18 hB5 hz18
      replace hB4 := hB4.ext hE18 (fun h => by omega)
      replace hS := hS.mine hE18 (by first | exact .inl rfl | exact .inl (.inl rfl) | exact .inl (.inr rfl) | exact .inl (.inr (.inr rfl)) | exact .inl (.inr (.inl rfl)) | exact .inl (.inl (.inl rfl)) | exact .inl (.inl (.inr rfl)))
      refine wl_nil ⟨hS, ?_⟩
      refine wd_done (by kernel_rfl) ?_ _
      replace hX := hX.mineG hS (fun i h => .inr (by rcases h with h | h; rw [h]; exact hq4; rw [h]; exact hq5))
      replace hMd := hMd.ext hS (fun i h => .inr (by rcases h with h | h; exact .inr (.inr (.inr (.inl h))); exact .inr (.inr (.inr (.inr (.inl h))))))
      replace hD := hD.ext hS (fun r hm e => by simp only [List.mem_singleton] at hm; have := mark_inj hm; subst this; rcases e with e | e; exact hK4.2 (e ▸ hr); exact hK5.2 (e ▸ hr))
      replace hB2 := hB2.ext hS (fun e => by omega); replace hB3 := hB3.ext hS (fun e => by omega); replace hB6 := hB6.ext hS (fun e => by omega); replace hB8 := hB8.ext hS (fun e => by omega)
      refine W_ret ?_
      have e0 : d.subscribe o = (dd, ⟨0, a, b, zeroMsg⟩) := by unfold Md.subscribe Md.scan; rw [← hfo]
      refine hD.leave fun B hB => ?_
      have hB2 := hB2.ext hB (hD.ne hB2)
      have hB3 := hB3.ext hB (hD.ne hB3)
      have hB4 := hB4.ext hB (hD.ne hB4)
      have hB5 := hB5.ext hB (hD.ne hB5)
      have hB6 := hB6.ext hB (hD.ne hB6)
      have hB8 := hB8.ext hB (hD.ne hB8)
      have hX := hD.out hX hB
      exact ⟨_, resR2 (res1_box s_59 rfl hB4 rfl) (res1_box s_64 rfl hB5 rfl), hX, by rw [e0]; exact ⟨_, rfl, (hMd.ext hB (fun i hi => .inl (by simp only [List.mem_singleton] at hi; rw [mark_inj hi]; exact hr))).sub (fun i h _ => .inr (.inl h))⟩⟩
    · intro c N rk w' h; exact h.elim
  · exact absurd (of_decide_eq_false hc0) (by simp)
end Go.Proofs.YtaddeakfojpdoaaGreatDoorC

/- The model: beginning, doing, running. -/
set_option linter.unusedVariables false
set_option linter.unusedSimpArgs false
set_option maxRecDepth 100000
namespace Go.Proofs.YtaddeakfojpdoaaGreatDoorC
open Go.RowKit
section
variable {P : Program} {σ : Env} {w : World} {dst : Option Nat} {ty : TypeId} {pos : String} {af : Array Edge} {g : Option (Nat × Bool)}
theorem rn_min2x {t u : TypeId} {x y : Operand} {k : IntKind} {a b : Int} (hx : ev σ x = .int k a) (hy : ev σ y = .int k b) : Rn P σ w ⟨dst, .call ⟨.builtin .min, #[x, y], #[t, u]⟩, ty, pos, af, g⟩ (.int k (if b < a then b else a)) := by
  show (execOp (ev σ) _).run P w = _
  by_cases h : b < a <;> simp [execOp, resolve, invoke, builtin, hx, hy, Builtin.min_, Builtin.min2, h]
end
def Md.new (subs room : Int) : Md := ⟨subs, .bare, 0, [], room, [], [], [], [], 0⟩
/-- What a step of the model owes. -/
def StepOK (f : FuncId) (x2 : Value) (d : Md) (x : Md × AnsD) : Prop := ∀ (M : Nat → Prop) (w : World) (cs : List Value), (∀ i, M i → i < w.heap.size) → MdM M w d cs →
  Fn Tryz.prog f #[.agg cs.toArray, x2] w fun u w' => ∃ cs' : List Value, u = .tuple #[.agg cs'.toArray, .agg x.2.enc.toArray] ∧ MdM M w' x.1 cs'
-- bellman/sess.New
theorem snew_ok (w : World) (a : Int) (h0 : 0 ≤ a) (h8 : a ≤ 8) : Fn Tryz.prog 32 #[.int .i64 a] w fun u w' => u = .agg #[.int .i64 a, .pointer none, .int .i64 0, .slice none 0 0, .slice none 0 0] := by
  have hX := Ext.refl Non w
  refine fn_of_W (args := [_]) Tryz.func32 rfl (by kernel_rfl) rfl ?_
  refine W_seq ?_
  refine W_region ?_
  refine wl_alloc z_49 ?_; intro b2 w1 hb2 hE1 hB2
  have hq2 : w.heap.size ≤ b2 := Nat.le_trans hX.size hb2
  have hl2 : Mine Non w b2 := .inr hq2
  replace hX := hX.tr hE1
  refine wl_nil ?_
  refine W_seq ?_
  refine W_region ?_
  refine wl_val (rn_move (by conv => lhs; whnf)) ?_
  refine wl_val (Rn.cast (rn_min2x rfl rfl) (show _ = Value.int .i64 a by first | (rw [if_neg (by omega)]) | (rw [if_pos (by omega)]) | skip)) ?_
  refine wl_val (Rn.cast (rn_max2 rfl rfl) (show _ = Value.int .i64 a by rw [if_neg (by omega)])) ?_
  refine wl_val (rn_build' b_49 rfl rfl (cs := [.int .i64 a, .pointer none, .int .i64 0, .slice none 0 0, .slice none 0 0]) rfl) ?_
  refine wl_storeB s_49 rfl rfl rfl (five1 rfl rfl rfl rfl rfl) hB2 rfl ?_; intro w2 hE2 hB2 hz2
  replace hX := hX.mine hE2 hl2
  refine wl_nil ?_
  refine W_ret ?_
  exact ⟨_, resR1 (res1_box s_49 rfl hB2 rfl), hX, rfl⟩
-- bellman/model.New
theorem mnew_ok (w : World) (a b : Int) (h0 : 0 ≤ a) (h8 : a ≤ 8) (h1 : 1 ≤ b) (h16 : b ≤ 16) : Fn Tryz.prog 19 #[.int .i64 a, .int .i64 b] w fun u w' => ∃ cs : List Value, u = .agg cs.toArray ∧ MdM Non w' (Md.new a b) cs := by
  have hX := Ext.refl Non w
  refine fn_of_W (args := [_, _]) Tryz.func19 rfl (by kernel_rfl) rfl ?_
  refine W_seq ?_
  refine W_region ?_
  refine wl_alloc z_59 ?_; intro b4 w1 hb4 hE1 hB4
  have hq4 : w.heap.size ≤ b4 := Nat.le_trans hX.size hb4
  have hl4 : Mine Non w b4 := .inr hq4
  replace hX := hX.tr hE1
  refine wl_nil ?_
  refine W_seq ?_
  refine W_region ?_
  refine wl_val (rn_move (by conv => lhs; whnf)) ?_
  refine wl_call e_32 rfl (snew_ok w1 a h0 h8) ?_; intro v6 w2 hE2 hR2
  replace hX := hX.tr hE2
  replace hB4 := hB4.ext hE2 id
  subst hR2
  refine wl_val (rn_move (by conv => lhs; whnf)) ?_
  refine wl_val (Rn.cast (rn_min2x rfl rfl) (show _ = Value.int .i64 b by first | (rw [if_neg (by omega)]) | (rw [if_pos (by omega)]) | skip)) ?_
  refine wl_val (Rn.cast (rn_max2 rfl rfl) (show _ = Value.int .i64 b by rw [if_neg (by omega)])) ?_
  refine wl_val (rn_build' b_59 rfl rfl (cs := [.int .i64 a, .pointer none, .int .i64 0, .slice none 0 0, .slice none 0 0, .int .i64 b, .slice none 0 0, .slice none 0 0, .slice none 0 0, .slice none 0 0, .int .i64 0]) rfl) ?_
  refine wl_storeB s_59 rfl rfl rfl (elev1 rfl rfl rfl rfl rfl rfl rfl rfl rfl rfl rfl) hB4 rfl ?_; intro w3 hE3 hB4 hz3
  replace hX := hX.mine hE3 hl4
  refine wl_nil ?_
  refine W_ret ?_
  exact ⟨_, resR1 (res1_box s_59 rfl hB4 rfl), hX, ⟨_, rfl, none, none, 0, 0, none, 0, 0, none, 0, 0, none, 0, 0, none, 0, 0, none, 0, 0, [], [], rfl, .nil, ⟨Sl.nil _ _ _, Sl.nil _ _ _, rfl⟩, by simp, ⟨Sl.nil _ _ _, Sl.nil _ _ _, rfl⟩, rfl, fun i r q h => by simp at h, ⟨Sl.nil _ _ _, Sl.nil _ _ _, rfl⟩⟩⟩
-- (bellman/model.State).Do
set_option maxHeartbeats 1600000 in
theorem do_sub (w : World) (d : Md) (o : OpD) (x : Md × AnsD) {cs : List Value} (M : Nat → Prop) (hM : ∀ i, M i → i < w.heap.size) (hd : MdM M w d cs) (hk : o.kind = 1) (hc : StepOK 33 (.agg o.enc.toArray) d x) : Fn Tryz.prog 20 #[.agg cs.toArray, .agg o.enc.toArray] w fun u w' => ∃ cs' : List Value, u = .tuple #[.agg cs'.toArray, .agg x.2.enc.toArray] ∧ MdM M w' x.1 cs' := by
  obtain ⟨pa, q1, l1, c1, q2, l2, c2, q3, l3, c3, q4, l4, c4, q5, l5, c5, q6, l6, c6, nvs, bvs, rfl, hT, hN, hNv, hBx, hbl, hQ, hK⟩ := id hd
  have hX := Ext.refl Non w
  refine fn_of_W (args := [_, _]) Tryz.func20 rfl (by kernel_rfl) rfl ?_
  refine W_seq ?_
  refine W_region ?_
  refine wl_boxS rfl ?_; intro b2 w1 hb2 hE1 hB2
  have hq2 : w.heap.size ≤ b2 := Nat.le_trans hX.size hb2
  have hl2 : Mine Non w b2 := .inr hq2
  replace hX := hX.tr hE1
  refine wl_boxS rfl ?_; intro b3 w2 hb3 hE2 hB3
  have hn2_3 : b2 < b3 := Nat.lt_of_lt_of_le hB2.lt hb3
  have hq3 : w.heap.size ≤ b3 := Nat.le_trans hX.size hb3
  have hl3 : Mine Non w b3 := .inr hq3
  replace hX := hX.tr hE2
  replace hB2 := hB2.ext hE2 id
  refine wl_alloc z_59 ?_; intro b4 w3 hb4 hE3 hB4
  have hn2_4 : b2 < b4 := Nat.lt_of_lt_of_le hB2.lt hb4
  have hn3_4 : b3 < b4 := Nat.lt_of_lt_of_le hB3.lt hb4
  have hq4 : w.heap.size ≤ b4 := Nat.le_trans hX.size hb4
  have hl4 : Mine Non w b4 := .inr hq4
  replace hX := hX.tr hE3
  replace hB2 := hB2.ext hE3 id; replace hB3 := hB3.ext hE3 id
  refine wl_alloc z_64 ?_; intro b5 w4 hb5 hE4 hB5
  have hn2_5 : b2 < b5 := Nat.lt_of_lt_of_le hB2.lt hb5
  have hn3_5 : b3 < b5 := Nat.lt_of_lt_of_le hB3.lt hb5
  have hn4_5 : b4 < b5 := Nat.lt_of_lt_of_le hB4.lt hb5
  have hq5 : w.heap.size ≤ b5 := Nat.le_trans hX.size hb5
  have hl5 : Mine Non w b5 := .inr hq5
  replace hX := hX.tr hE4
  replace hB2 := hB2.ext hE4 id; replace hB3 := hB3.ext hE4 id; replace hB4 := hB4.ext hE4 id
  refine wl_nil ?_
  refine W_seq ?_
  refine W_seq ?_
  refine W_region ?_
  refine wl_val (rn_fieldAddr f_69_0 (by decide) rfl) ?_
  refine wl_val (rn_load1 p_3 rfl hB3 rfl) ?_
  refine wl_nil ?_
  refine W_block ?_   -- block 0
  refine W_seq ?_
  refine W_region ?_
  refine wl_val (rn_eql rfl rfl) ?_
  refine wl_val (rn_assign (by conv => lhs; whnf)) ?_
  refine wl_nil ?_
  refine W_cond rfl (fun hc0 => ?_) (fun hc0 => ?_)
  · refine W_seq ?_
    refine W_region ?_
    refine wl_val (rn_loadB s_59 rfl rfl hB2) ?_
    refine wl_val (rn_loadB s_69 rfl rfl hB3) ?_
    refine wl_call e_33 rfl (hc (fun i => M i ∨ i = b2 ∨ i = b3 ∨ i = b4 ∨ i = b5) w4 _ (fun i h => by rcases h with h | h | h | h | h; exact Nat.lt_of_lt_of_le (hM i h) hX.size; rw [h]; exact hB2.lt; rw [h]; exact hB3.lt; rw [h]; exact hB4.lt; rw [h]; exact hB5.lt) ((hd.sub (M' := fun i => M i ∨ i = b2 ∨ i = b3 ∨ i = b4 ∨ i = b5) (fun i h hlt => by rcases h with h | h | h | h | h; exact h; omega; omega; omega; omega)).ext hX (fun _ h => h.elim))) ?_; intro v14 w5 hE5 hR5
    replace hX := hX.tr hE5
    replace hB2 := hB2.ext hE5 id; replace hB3 := hB3.ext hE5 id; replace hB4 := hB4.ext hE5 id; replace hB5 := hB5.ext hE5 id
    obtain ⟨csz, rfl, hMd⟩ := hR5
    obtain ⟨pz, z1, zl1, zc1, z2, zl2, zc2, z3, zl3, zc3, z4, zl4, zc4, z5, zl5, zc5, z6, zl6, zc6, nvz, bvz, rfl, _⟩ := id hMd
    refine wl_val (rn_extract rfl rfl) ?_
    refine wl_val (rn_extract rfl rfl) ?_
    have hBo := hB4
    refine wl_storeB s_59 rfl rfl rfl (elev1 rfl rfl rfl rfl rfl rfl rfl rfl rfl rfl rfl) hB4 rfl ?_; intro w6 hE6 hB4 hz6
    replace hX := hX.mine hE6 hl4
    replace hB2 := hB2.ext hE6 (fun h => by omega); replace hB3 := hB3.ext hE6 (fun h => by omega); replace hB5 := hB5.ext hE6 (fun h => by omega)
    replace hMd := hMd.ext hE6 (fun i e => by first | exact .inr (.inl e) | exact .inr (.inr (.inl e)) | exact .inr (.inr (.inr (.inl e))) | exact .inr (.inr (.inr (.inr e))))
    have hBo := hB5
    refine wl_storeB s_64 rfl rfl rfl (by first | exact AnsD.one x.2 | exact six1 rfl rfl rfl rfl rfl rfl) hB5 rfl ?_; intro w7 hE7 hB5 hz7
    replace hX := hX.mine hE7 hl5
    replace hB2 := hB2.ext hE7 (fun h => by omega); replace hB3 := hB3.ext hE7 (fun h => by omega); replace hB4 := hB4.ext hE7 (fun h => by omega)
    replace hMd := hMd.ext hE7 (fun i e => by first | exact .inr (.inl e) | exact .inr (.inr (.inl e)) | exact .inr (.inr (.inr (.inl e))) | exact .inr (.inr (.inr (.inr e))))
    refine wl_nil ?_
    refine W_ret ?_
    exact ⟨_, resR2 (res1_box s_59 rfl hB4 rfl) (res1_box s_64 rfl hB5 rfl), hX, ⟨_, rfl, hMd.sub (fun i h _ => .inl h)⟩⟩
  · exact absurd (of_decide_eq_false hc0) (by omega)
-- (bellman/model.State).Do
set_option maxHeartbeats 1600000 in
theorem do_pub (w : World) (d : Md) (o : OpD) (x : Md × AnsD) {cs : List Value} (M : Nat → Prop) (hM : ∀ i, M i → i < w.heap.size) (hd : MdM M w d cs) (hk : o.kind = 3) (hc : StepOK 35 (.agg o.enc.toArray) d x) : Fn Tryz.prog 20 #[.agg cs.toArray, .agg o.enc.toArray] w fun u w' => ∃ cs' : List Value, u = .tuple #[.agg cs'.toArray, .agg x.2.enc.toArray] ∧ MdM M w' x.1 cs' := by
  obtain ⟨pa, q1, l1, c1, q2, l2, c2, q3, l3, c3, q4, l4, c4, q5, l5, c5, q6, l6, c6, nvs, bvs, rfl, hT, hN, hNv, hBx, hbl, hQ, hK⟩ := id hd
  have hX := Ext.refl Non w
  refine fn_of_W (args := [_, _]) Tryz.func20 rfl (by kernel_rfl) rfl ?_
  refine W_seq ?_
  refine W_region ?_
  refine wl_boxS rfl ?_; intro b2 w1 hb2 hE1 hB2
  have hq2 : w.heap.size ≤ b2 := Nat.le_trans hX.size hb2
  have hl2 : Mine Non w b2 := .inr hq2
  replace hX := hX.tr hE1
  refine wl_boxS rfl ?_; intro b3 w2 hb3 hE2 hB3
  have hn2_3 : b2 < b3 := Nat.lt_of_lt_of_le hB2.lt hb3
  have hq3 : w.heap.size ≤ b3 := Nat.le_trans hX.size hb3
  have hl3 : Mine Non w b3 := .inr hq3
  replace hX := hX.tr hE2
  replace hB2 := hB2.ext hE2 id
  refine wl_alloc z_59 ?_; intro b4 w3 hb4 hE3 hB4
  have hn2_4 : b2 < b4 := Nat.lt_of_lt_of_le hB2.lt hb4
  have hn3_4 : b3 < b4 := Nat.lt_of_lt_of_le hB3.lt hb4
  have hq4 : w.heap.size ≤ b4 := Nat.le_trans hX.size hb4
  have hl4 : Mine Non w b4 := .inr hq4
  replace hX := hX.tr hE3
  replace hB2 := hB2.ext hE3 id; replace hB3 := hB3.ext hE3 id
  refine wl_alloc z_64 ?_; intro b5 w4 hb5 hE4 hB5
  have hn2_5 : b2 < b5 := Nat.lt_of_lt_of_le hB2.lt hb5
  have hn3_5 : b3 < b5 := Nat.lt_of_lt_of_le hB3.lt hb5
  have hn4_5 : b4 < b5 := Nat.lt_of_lt_of_le hB4.lt hb5
  have hq5 : w.heap.size ≤ b5 := Nat.le_trans hX.size hb5
  have hl5 : Mine Non w b5 := .inr hq5
  replace hX := hX.tr hE4
  replace hB2 := hB2.ext hE4 id; replace hB3 := hB3.ext hE4 id; replace hB4 := hB4.ext hE4 id
  refine wl_nil ?_
  refine W_seq ?_
  refine W_seq ?_
  refine W_region ?_
  refine wl_val (rn_fieldAddr f_69_0 (by decide) rfl) ?_
  refine wl_val (rn_load1 p_3 rfl hB3 rfl) ?_
  refine wl_nil ?_
  refine W_block ?_   -- block 0
  refine W_seq ?_
  refine W_region ?_
  refine wl_val (rn_eql rfl rfl) ?_
  refine wl_val (rn_assign (by conv => lhs; whnf)) ?_
  refine wl_nil ?_
  refine W_cond rfl (fun hc0 => ?_) (fun hc0 => ?_)
  · exact absurd (of_decide_eq_true hc0) (by omega)
  · refine W_seq ?_
    refine W_region ?_
    refine wl_val (rn_eql rfl rfl) ?_
    refine wl_val (rn_assign (by conv => lhs; whnf)) ?_
    refine wl_nil ?_
    refine W_cond rfl (fun hc1 => ?_) (fun hc1 => ?_)
    · exact absurd (of_decide_eq_true hc1) (by omega)
    · refine W_seq ?_
      refine W_region ?_
      refine wl_val (rn_eql rfl rfl) ?_
      refine wl_val (rn_assign (by conv => lhs; whnf)) ?_
      refine wl_nil ?_
      refine W_cond rfl (fun hc2 => ?_) (fun hc2 => ?_)
      · refine W_seq ?_
        refine W_region ?_
        refine wl_val (rn_loadB s_59 rfl rfl hB2) ?_
        refine wl_val (rn_loadB s_69 rfl rfl hB3) ?_
        refine wl_call e_35 rfl (hc (fun i => M i ∨ i = b2 ∨ i = b3 ∨ i = b4 ∨ i = b5) w4 _ (fun i h => by rcases h with h | h | h | h | h; exact Nat.lt_of_lt_of_le (hM i h) hX.size; rw [h]; exact hB2.lt; rw [h]; exact hB3.lt; rw [h]; exact hB4.lt; rw [h]; exact hB5.lt) ((hd.sub (M' := fun i => M i ∨ i = b2 ∨ i = b3 ∨ i = b4 ∨ i = b5) (fun i h hlt => by rcases h with h | h | h | h | h; exact h; omega; omega; omega; omega)).ext hX (fun _ h => h.elim))) ?_; intro v38 w5 hE5 hR5
        replace hX := hX.tr hE5
        replace hB2 := hB2.ext hE5 id; replace hB3 := hB3.ext hE5 id; replace hB4 := hB4.ext hE5 id; replace hB5 := hB5.ext hE5 id
        obtain ⟨csz, rfl, hMd⟩ := hR5
        obtain ⟨pz, z1, zl1, zc1, z2, zl2, zc2, z3, zl3, zc3, z4, zl4, zc4, z5, zl5, zc5, z6, zl6, zc6, nvz, bvz, rfl, _⟩ := id hMd
        refine wl_val (rn_extract rfl rfl) ?_
        refine wl_val (rn_extract rfl rfl) ?_
        have hBo := hB4
        refine wl_storeB s_59 rfl rfl rfl (elev1 rfl rfl rfl rfl rfl rfl rfl rfl rfl rfl rfl) hB4 rfl ?_; intro w6 hE6 hB4 hz6
        replace hX := hX.mine hE6 hl4
        replace hB2 := hB2.ext hE6 (fun h => by omega); replace hB3 := hB3.ext hE6 (fun h => by omega); replace hB5 := hB5.ext hE6 (fun h => by omega)
        replace hMd := hMd.ext hE6 (fun i e => by first | exact .inr (.inl e) | exact .inr (.inr (.inl e)) | exact .inr (.inr (.inr (.inl e))) | exact .inr (.inr (.inr (.inr e))))
        have hBo := hB5
        refine wl_storeB s_64 rfl rfl rfl (by first | exact AnsD.one x.2 | exact six1 rfl rfl rfl rfl rfl rfl) hB5 rfl ?_; intro w7 hE7 hB5 hz7
        replace hX := hX.mine hE7 hl5
        replace hB2 := hB2.ext hE7 (fun h => by omega); replace hB3 := hB3.ext hE7 (fun h => by omega); replace hB4 := hB4.ext hE7 (fun h => by omega)
        replace hMd := hMd.ext hE7 (fun i e => by first | exact .inr (.inl e) | exact .inr (.inr (.inl e)) | exact .inr (.inr (.inr (.inl e))) | exact .inr (.inr (.inr (.inr e))))
        refine wl_nil ?_
        refine W_ret ?_
        exact ⟨_, resR2 (res1_box s_59 rfl hB4 rfl) (res1_box s_64 rfl hB5 rfl), hX, ⟨_, rfl, hMd.sub (fun i h _ => .inl h)⟩⟩
      · exact absurd (of_decide_eq_false hc2) (by omega)
-- (bellman/model.State).Do
set_option maxHeartbeats 1600000 in
theorem do_poll (w : World) (d : Md) (o : OpD) (x : Md × AnsD) {cs : List Value} (M : Nat → Prop) (hM : ∀ i, M i → i < w.heap.size) (hd : MdM M w d cs) (hk : o.kind = 4) (hc : StepOK 36 (.int .i64 o.sub) d x) : Fn Tryz.prog 20 #[.agg cs.toArray, .agg o.enc.toArray] w fun u w' => ∃ cs' : List Value, u = .tuple #[.agg cs'.toArray, .agg x.2.enc.toArray] ∧ MdM M w' x.1 cs' := by
  obtain ⟨pa, q1, l1, c1, q2, l2, c2, q3, l3, c3, q4, l4, c4, q5, l5, c5, q6, l6, c6, nvs, bvs, rfl, hT, hN, hNv, hBx, hbl, hQ, hK⟩ := id hd
  have hX := Ext.refl Non w
  refine fn_of_W (args := [_, _]) Tryz.func20 rfl (by kernel_rfl) rfl ?_
  refine W_seq ?_
  refine W_region ?_
  refine wl_boxS rfl ?_; intro b2 w1 hb2 hE1 hB2
  have hq2 : w.heap.size ≤ b2 := Nat.le_trans hX.size hb2
  have hl2 : Mine Non w b2 := .inr hq2
  replace hX := hX.tr hE1
  refine wl_boxS rfl ?_; intro b3 w2 hb3 hE2 hB3
  have hn2_3 : b2 < b3 := Nat.lt_of_lt_of_le hB2.lt hb3
  have hq3 : w.heap.size ≤ b3 := Nat.le_trans hX.size hb3
  have hl3 : Mine Non w b3 := .inr hq3
  replace hX := hX.tr hE2
  replace hB2 := hB2.ext hE2 id
  refine wl_alloc z_59 ?_; intro b4 w3 hb4 hE3 hB4
  have hn2_4 : b2 < b4 := Nat.lt_of_lt_of_le hB2.lt hb4
  have hn3_4 : b3 < b4 := Nat.lt_of_lt_of_le hB3.lt hb4
  have hq4 : w.heap.size ≤ b4 := Nat.le_trans hX.size hb4
  have hl4 : Mine Non w b4 := .inr hq4
  replace hX := hX.tr hE3
  replace hB2 := hB2.ext hE3 id; replace hB3 := hB3.ext hE3 id
  refine wl_alloc z_64 ?_; intro b5 w4 hb5 hE4 hB5
  have hn2_5 : b2 < b5 := Nat.lt_of_lt_of_le hB2.lt hb5
  have hn3_5 : b3 < b5 := Nat.lt_of_lt_of_le hB3.lt hb5
  have hn4_5 : b4 < b5 := Nat.lt_of_lt_of_le hB4.lt hb5
  have hq5 : w.heap.size ≤ b5 := Nat.le_trans hX.size hb5
  have hl5 : Mine Non w b5 := .inr hq5
  replace hX := hX.tr hE4
  replace hB2 := hB2.ext hE4 id; replace hB3 := hB3.ext hE4 id; replace hB4 := hB4.ext hE4 id
  refine wl_nil ?_
  refine W_seq ?_
  refine W_seq ?_
  refine W_region ?_
  refine wl_val (rn_fieldAddr f_69_0 (by decide) rfl) ?_
  refine wl_val (rn_load1 p_3 rfl hB3 rfl) ?_
  refine wl_nil ?_
  refine W_block ?_   -- block 0
  refine W_seq ?_
  refine W_region ?_
  refine wl_val (rn_eql rfl rfl) ?_
  refine wl_val (rn_assign (by conv => lhs; whnf)) ?_
  refine wl_nil ?_
  refine W_cond rfl (fun hc0 => ?_) (fun hc0 => ?_)
  · exact absurd (of_decide_eq_true hc0) (by omega)
  · refine W_seq ?_
    refine W_region ?_
    refine wl_val (rn_eql rfl rfl) ?_
    refine wl_val (rn_assign (by conv => lhs; whnf)) ?_
    refine wl_nil ?_
    refine W_cond rfl (fun hc1 => ?_) (fun hc1 => ?_)
    · exact absurd (of_decide_eq_true hc1) (by omega)
    · refine W_seq ?_
      refine W_region ?_
      refine wl_val (rn_eql rfl rfl) ?_
      refine wl_val (rn_assign (by conv => lhs; whnf)) ?_
      refine wl_nil ?_
      refine W_cond rfl (fun hc2 => ?_) (fun hc2 => ?_)
      · exact absurd (of_decide_eq_true hc2) (by omega)
      · refine W_seq ?_
        refine W_region ?_
        refine wl_val (rn_eql rfl rfl) ?_
        refine wl_val (rn_assign (by conv => lhs; whnf)) ?_
        refine wl_nil ?_
        refine W_cond rfl (fun hc3 => ?_) (fun hc3 => ?_)
        · refine W_seq ?_
          refine W_region ?_
          refine wl_val (rn_loadB s_59 rfl rfl hB2) ?_
          refine wl_val (rn_fieldAddr f_69_1 (by decide) rfl) ?_
          refine wl_val (rn_load1 p_3 rfl hB3 rfl) ?_
          refine wl_call e_36 rfl (hc (fun i => M i ∨ i = b2 ∨ i = b3 ∨ i = b4 ∨ i = b5) w4 _ (fun i h => by rcases h with h | h | h | h | h; exact Nat.lt_of_lt_of_le (hM i h) hX.size; rw [h]; exact hB2.lt; rw [h]; exact hB3.lt; rw [h]; exact hB4.lt; rw [h]; exact hB5.lt) ((hd.sub (M' := fun i => M i ∨ i = b2 ∨ i = b3 ∨ i = b4 ∨ i = b5) (fun i h hlt => by rcases h with h | h | h | h | h; exact h; omega; omega; omega; omega)).ext hX (fun _ h => h.elim))) ?_; intro v46 w5 hE5 hR5
          replace hX := hX.tr hE5
          replace hB2 := hB2.ext hE5 id; replace hB3 := hB3.ext hE5 id; replace hB4 := hB4.ext hE5 id; replace hB5 := hB5.ext hE5 id
          obtain ⟨csz, rfl, hMd⟩ := hR5
          obtain ⟨pz, z1, zl1, zc1, z2, zl2, zc2, z3, zl3, zc3, z4, zl4, zc4, z5, zl5, zc5, z6, zl6, zc6, nvz, bvz, rfl, _⟩ := id hMd
          refine wl_val (rn_extract rfl rfl) ?_
          refine wl_val (rn_extract rfl rfl) ?_
          have hBo := hB4
          refine wl_storeB s_59 rfl rfl rfl (elev1 rfl rfl rfl rfl rfl rfl rfl rfl rfl rfl rfl) hB4 rfl ?_; intro w6 hE6 hB4 hz6
          replace hX := hX.mine hE6 hl4
          replace hB2 := hB2.ext hE6 (fun h => by omega); replace hB3 := hB3.ext hE6 (fun h => by omega); replace hB5 := hB5.ext hE6 (fun h => by omega)
          replace hMd := hMd.ext hE6 (fun i e => by first | exact .inr (.inl e) | exact .inr (.inr (.inl e)) | exact .inr (.inr (.inr (.inl e))) | exact .inr (.inr (.inr (.inr e))))
          have hBo := hB5
          refine wl_storeB s_64 rfl rfl rfl (by first | exact AnsD.one x.2 | exact six1 rfl rfl rfl rfl rfl rfl) hB5 rfl ?_; intro w7 hE7 hB5 hz7
          replace hX := hX.mine hE7 hl5
          replace hB2 := hB2.ext hE7 (fun h => by omega); replace hB3 := hB3.ext hE7 (fun h => by omega); replace hB4 := hB4.ext hE7 (fun h => by omega)
          replace hMd := hMd.ext hE7 (fun i e => by first | exact .inr (.inl e) | exact .inr (.inr (.inl e)) | exact .inr (.inr (.inr (.inl e))) | exact .inr (.inr (.inr (.inr e))))
          refine wl_nil ?_
          refine W_ret ?_
          exact ⟨_, resR2 (res1_box s_59 rfl hB4 rfl) (res1_box s_64 rfl hB5 rfl), hX, ⟨_, rfl, hMd.sub (fun i h _ => .inl h)⟩⟩
        · exact absurd (of_decide_eq_false hc3) (by omega)
end Go.Proofs.YtaddeakfojpdoaaGreatDoorC

/- The model: many steps. -/
set_option linter.unusedVariables false
set_option linter.unusedSimpArgs false
set_option maxRecDepth 100000
namespace Go.Proofs.YtaddeakfojpdoaaGreatDoorC
open Go.RowKit
theorem EqS.monoM {P : Program} {m m' : Nat} {t : TypeId} {a b : Value} {r : Bool} (h : EqS P m t a b r) (hm : m ≤ m') : EqS P m' t a b r := fun d w hd => h d w (Nat.le_trans hm hd)
theorem ansM_eqs (x y : AnsD) : EqS Tryz.prog 3 64 (.agg x.enc.toArray) (.agg y.enc.toArray) (decide (x = y)) := by
  have p1 : ∀ z : AnsD, (z.enc.toArray).extract 3 (3 + 3) = z.msg.enc.toArray := fun z => by simp [AnsD.enc, MsgD.enc]
  have hm : EqS Tryz.prog 2 62 (.agg ((x.enc.toArray).extract 3 (3 + 3))) (.agg ((y.enc.toArray).extract 3 (3 + 3))) (decide (x.msg = y.msg)) := by rw [p1, p1]; exact msg_eqs _ _
  have h := eqs_struct (P := Tryz.prog) (t := 64) (m := 2) (xs := x.enc.toArray) (ys := y.enc.toArray) (by kernel_rfl) sh_64 fs_64
    (EqF.cons rfl (part_1 p_60 rfl) (part_1 p_60 rfl) ((eqs_int ui_60).monoM (by decide)) (EqF.cons rfl (part_1 p_3 rfl) (part_1 p_3 rfl) ((eqs_int ui_3).monoM (by decide)) (EqF.cons rfl (part_1 p_3 rfl) (part_1 p_3 rfl) ((eqs_int ui_3).monoM (by decide)) (EqF.cons rfl (part_s s_62) (part_s s_62) hm .nil))))
  rw [show decide (x = y) = (decide (x.err = y.err) && (decide (x.a = y.a) && (decide (x.b = y.b) && (decide (x.msg = y.msg) && true)))) from ?_]
  · exact h
  · obtain ⟨a, b, c, d⟩ := x; obtain ⟨a', b', c', d'⟩ := y
    by_cases h1 : a = a' <;> by_cases h2 : b = b' <;> by_cases h3 : c = c' <;> by_cases h4 : d = d' <;> simp [h1, h2, h3, h4]

-- bellman/model.Run
set_option maxHeartbeats 3200000 in
theorem run_ok (w : World) (ops : List OpD) (st : Nat → Md) (an : Nat → AnsD) {cs v1 : _} (hst : ∀ i x, ops[i]? = some x → StepOK 20 (.agg x.enc.toArray) (st i) (st (i + 1), an i)) (hd : MdM Non w (st 0) cs) (hs : Sl Non w v1 5 (ops.map OpD.enc)) (hn : ops.length ≤ 1000) : Fn Tryz.prog 31 #[.agg cs.toArray, v1] w fun u w' => ∃ (cs' : List Value) (v : Value), u = .tuple #[.agg cs'.toArray, v] ∧ MdM Non w' (st ops.length) cs' ∧ Sl Non w' v 6 ((List.range ops.length).map fun k => (an k).enc) := by
  obtain ⟨pz, z1, zl1, zc1, z2, zl2, zc2, z3, zl3, zc3, z4, zl4, zc4, z5, zl5, zc5, z6, zl6, zc6, nvz, bvz, rfl, _⟩ := id hd
  obtain ⟨ap, cp, rfl, _⟩ := id hs.len
  simp only [List.length_map] at hs ⊢
  have hX := Ext.refl Non w
  refine fn_of_W (args := [_, _]) Tryz.func31 rfl (by kernel_rfl) rfl ?_
  refine W_seq ?_
  refine W_region ?_
  refine wl_boxS rfl ?_; intro b2 w1 hb2 hE1 hB2
  have hq2 : w.heap.size ≤ b2 := Nat.le_trans hX.size hb2
  have hl2 : Mine Non w b2 := .inr hq2
  replace hX := hX.tr hE1
  refine wl_alloc z_59 ?_; intro b4 w2 hb4 hE2 hB4
  have hn2_4 : b2 < b4 := Nat.lt_of_lt_of_le hB2.lt hb4
  have hq4 : w.heap.size ≤ b4 := Nat.le_trans hX.size hb4
  have hl4 : Mine Non w b4 := .inr hq4
  replace hX := hX.tr hE2
  replace hB2 := hB2.ext hE2 id
  refine wl_val (rn_assign (by conv => lhs; whnf)) ?_
  refine wl_nil ?_
  refine W_seq ?_
  refine W_region ?_
  refine wl_val (rn_assign (by conv => lhs; whnf)) ?_
  refine wl_nil ?_
  refine W_seq ?_
  refine W_seq ?_
  refine W_region ?_
  refine wl_val (rn_move (by conv => lhs; whnf)) ?_
  refine wl_val (rn_len sl_79 rfl) ?_
  refine wl_val (rn_move (by conv => lhs; whnf)) ?_
  refine wl_nil ?_
  refine W_block ?_   -- block 0
  refine W_loopS (S := Nat × Md × List Value × Value × Option Nat) [2, 4, 6, 10, 11, 12] (fun ⟨i, dd, cs, v6, o6⟩ => [.pointer (some ⟨b2, 0, none⟩), .pointer (some ⟨b4, 0, none⟩), v6, .slice ap ops.length cp, .int .i64 (ops.length : Nat), .int .i64 (i : Nat)]) (fun ⟨i, dd, cs, v6, o6⟩ A => (Ext Non w A) ∧ (IsBox A b2 cs) ∧ (IsBox A b4 [.int .i64 0, .pointer none, .int .i64 0, .slice none 0 0, .slice none 0 0, .int .i64 0, .slice none 0 0, .slice none 0 0, .slice none 0 0, .slice none 0 0, .int .i64 0]) ∧ (Mine Non w b2) ∧ (Mine Non w b4) ∧ (b2 < b4) ∧ (i ≤ ops.length ∧ dd = st i ∧ MdM (fun j => j = b2 ∨ j = b4 ∨ o6 = some j) A dd cs ∧ OwO A v6 o6 6 ((List.range i).map fun k => (an k).enc) ∧ (∀ j, o6 = some j → w.heap.size ≤ j ∧ j ≠ b2 ∧ j ≠ b4))) (fun ⟨i, dd, cs, v6, o6⟩ => ops.length - i) (0, st 0, _, .slice none 0 0, none) ⟨rfl, rfl, rfl, rfl, rfl, rfl, trivial⟩ ⟨hX, hB2, hB4, hl2, hl4, hn2_4, ⟨Nat.zero_le _, rfl, (hd.sub (M' := fun j => j = b2 ∨ j = b4 ∨ (none : Option Nat) = some j) (fun j h hlt => by rcases h with h | h | h; omega; omega; cases h)).ext hX (fun _ h => h.elim), OwO.nil, fun j h => by cases h⟩⟩ ?_
  rintro τ0 ⟨i, dd, cs, v6, o6⟩ A0 ⟨hX, hB2, hB4, hl2, hl4, hn2_4, hI0⟩
  obtain ⟨hil, rfl, hMd, hO, ho⟩ := hI0
  obtain ⟨pz, z1, zl1, zc1, z2, zl2, zc2, z3, zl3, zc3, z4, zl4, zc4, z5, zl5, zc5, z6, zl6, zc6, nvz, bvz, rfl, _⟩ := id hMd
  obtain ⟨a6, c6, h6⟩ := id hO.len; subst h6
  have hOA : ∀ j, o6 = some j → j < A0.heap.size := fun j hj => hO.lt hj
  replace hMd := hMd.sub (M' := (fun j => (j = b2 ∨ j = b4 ∨ o6 = some j) ∨ A0.heap.size ≤ j)) (fun j h hlt => by rcases h with h | h; exact h; omega)
  refine W_seq ?_
  refine W_region ?_
  refine wl_val (rn_lss rfl rfl) ?_
  refine wl_nil ?_
  refine W_seq ?_
  refine W_cond rfl (fun hc0 => ?_) (fun hc0 => ?_)
  · have hlt := of_decide_eq_true hc0; simp only [Int.ofNat_lt] at hlt
    obtain ⟨x, hi⟩ : ∃ x, (ops)[i]? = some x := ⟨_, List.getElem?_eq_getElem hlt⟩
    obtain ⟨bb, oo, ea⟩ := hs.base (by intro e; have := congrArg List.length e; simp only [List.length_map, List.length_nil] at this; omega); subst ea
    refine W_skip ?_
    refine W_seq ?_
    refine W_block ?_   -- block 1
    refine W_seq ?_
    refine W_region ?_
    refine wl_val (rn_indexAddr sl_79 rfl rfl (by omega)) ?_
    refine wl_val (rn_loadS s_69 rfl rfl ((hs.ext hX (fun _ h => h)).all0 (map_at hi))) ?_
    refine wl_alloc z_69 ?_; intro b8 w3 hb8 hE3 hB8
    have hn2_8 : b2 < b8 := Nat.lt_of_lt_of_le hB2.lt hb8
    have hn4_8 : b4 < b8 := Nat.lt_of_lt_of_le hB4.lt hb8
    have hq8 : w.heap.size ≤ b8 := Nat.le_trans hX.size hb8
    have hl8 : Mine Non w b8 := .inr hq8
    have hg8 : A0.heap.size ≤ b8 := by omega
    replace hX := hX.tr hE3
    replace hB2 := hB2.ext hE3 id; replace hB4 := hB4.ext hE3 id
    replace hMd := hMd.ext hE3 (fun _ h => h.elim)
    replace hO := hO.ext hE3 (fun _ _ h => h)
    have hBo := hB8
    refine wl_storeB s_69 rfl rfl rfl (OpD.one _) hB8 rfl ?_; intro w4 hE4 hB8 hz4
    replace hX := hX.mine hE4 hl8
    replace hB2 := hB2.ext hE4 (fun h => by omega); replace hB4 := hB4.ext hE4 (fun h => by omega)
    replace hMd := hMd.ext hE4 (fun i e => by first | exact .inl (.inl e) | exact .inl (.inr (.inl e)) | exact .inr (by rw [e]; exact hg8))
    replace hO := hO.ext hE4 (fun j hj e => by have := ho j hj; have := hOA j hj; omega)
    refine wl_nil ?_
    refine W_seq ?_
    refine W_region ?_
    refine wl_alloc z_64 ?_; intro b9 w5 hb9 hE5 hB9
    have hn2_9 : b2 < b9 := Nat.lt_of_lt_of_le hB2.lt hb9
    have hn4_9 : b4 < b9 := Nat.lt_of_lt_of_le hB4.lt hb9
    have hn8_9 : b8 < b9 := Nat.lt_of_lt_of_le hB8.lt hb9
    have hq9 : w.heap.size ≤ b9 := Nat.le_trans hX.size hb9
    have hl9 : Mine Non w b9 := .inr hq9
    have hg9 : A0.heap.size ≤ b9 := by omega
    replace hX := hX.tr hE5
    replace hB2 := hB2.ext hE5 id; replace hB4 := hB4.ext hE5 id; replace hB8 := hB8.ext hE5 id
    replace hMd := hMd.ext hE5 (fun _ h => h.elim)
    replace hO := hO.ext hE5 (fun _ _ h => h)
    refine wl_nil ?_
    refine W_seq ?_
    refine W_region ?_
    refine wl_val (rn_loadB s_59 rfl rfl hB2) ?_
    refine wl_val (rn_loadB s_69 rfl rfl hB8) ?_
    refine wl_call e_20 rfl (hst i x hi (fun j => (j = b2 ∨ j = b4 ∨ o6 = some j) ∨ j = b8 ∨ j = b9) w5 _ (fun j h => by rcases h with (h | h | h) | h | h; rw [h]; exact hB2.lt; rw [h]; exact hB4.lt; exact hO.lt h; rw [h]; exact hB8.lt; rw [h]; exact hB9.lt) (hMd.sub (M' := (fun j => (j = b2 ∨ j = b4 ∨ o6 = some j) ∨ j = b8 ∨ j = b9)) (fun j h _ => by rcases h with h | h | h; exact .inl h; exact .inr (by rw [h]; exact hg8); exact .inr (by rw [h]; exact hg9)))) ?_; intro v19 w6 hE6 hR6
    replace hX := hX.tr hE6
    replace hB2 := hB2.ext hE6 id; replace hB4 := hB4.ext hE6 id; replace hB8 := hB8.ext hE6 id; replace hB9 := hB9.ext hE6 id
    replace hMd := hMd.ext hE6 (fun _ h => h.elim)
    replace hO := hO.ext hE6 (fun _ _ h => h)
    obtain ⟨csz, rfl, hMz⟩ := hR6
    obtain ⟨pz, z1, zl1, zc1, z2, zl2, zc2, z3, zl3, zc3, z4, zl4, zc4, z5, zl5, zc5, z6, zl6, zc6, nvz, bvz, rfl, _⟩ := id hMz
    obtain ⟨n19, hn19e⟩ : ∃ n, n = (World.heap w6).size := ⟨_, rfl⟩
    have hn19 : n19 ≤ (World.heap w6).size := by omega
    replace hMz := hMz.sub (M' := fun j => (fun j => (j = b2 ∨ j = b4 ∨ o6 = some j) ∨ j = b8 ∨ j = b9) j ∨ n19 ≤ j) (fun j h hlt => by rcases h with h | h; exact h; omega)
    refine wl_val (rn_move (by conv => lhs; whnf)) ?_
    refine wl_val (rn_extract rfl rfl) ?_
    refine wl_val (rn_extract rfl rfl) ?_
    have hBo := hB2
    refine wl_storeB s_59 rfl rfl rfl (elev1 rfl rfl rfl rfl rfl rfl rfl rfl rfl rfl rfl) hB2 rfl ?_; intro w7 hE7 hB2 hz7
    replace hX := hX.mine hE7 hl2
    replace hB4 := hB4.ext hE7 (fun h => by omega); replace hB8 := hB8.ext hE7 (fun h => by omega); replace hB9 := hB9.ext hE7 (fun h => by omega)
    replace hO := hO.ext hE7 (fun j hj e => by have := ho j hj; have := hOA j hj; omega)
    replace hMz := hMz.ext hE7 (fun i e => .inl (by first | exact .inl (.inl e) | exact .inl (.inr (.inl e)) | exact .inr (.inl e) | exact .inr (.inr e)))
    replace hn19 := Nat.le_trans hn19 hE7.size
    have hBo := hB9
    refine wl_storeB s_64 rfl rfl rfl (AnsD.one _) hB9 rfl ?_; intro w8 hE8 hB9 hz8
    replace hX := hX.mine hE8 hl9
    replace hB2 := hB2.ext hE8 (fun h => by omega); replace hB4 := hB4.ext hE8 (fun h => by omega); replace hB8 := hB8.ext hE8 (fun h => by omega)
    replace hO := hO.ext hE8 (fun j hj e => by have := ho j hj; have := hOA j hj; omega)
    replace hMz := hMz.ext hE8 (fun i e => .inl (by first | exact .inl (.inl e) | exact .inl (.inr (.inl e)) | exact .inr (.inl e) | exact .inr (.inr e)))
    replace hn19 := Nat.le_trans hn19 hE8.size
    refine wl_nil ?_
    refine W_region ?_
    refine wl_val (rn_move (by conv => lhs; whnf)) ?_
    refine wl_val (rn_loadB s_64 rfl rfl hB9) ?_
    refine wl_lit1 (r := (an i).enc) sl_76 rfl rfl rfl rfl (by decide) ?_; intro v24 w9 b24 hb24 hE9 hO24
    replace hX := hX.tr hE9
    replace hB2 := hB2.ext hE9 id; replace hB4 := hB4.ext hE9 id; replace hB8 := hB8.ext hE9 id; replace hB9 := hB9.ext hE9 id
    replace hO := hO.ext hE9 (fun _ _ h => h)
    replace hMz := hMz.ext hE9 (fun _ h => h.elim)
    replace hn19 := Nat.le_trans hn19 hE9.size
    have hXo := hX
    refine wl_app sl_76 rfl rfl rfl hO (hO24.sl (M := Non) id) (fun r hr => by simp only [List.mem_singleton] at hr; subst hr; exact AnsD.one _) (by simp only [List.length_map, List.length_range, List.length_cons, List.length_nil]; omega) (by simp only [List.length_map, List.length_range, List.length_cons, List.length_nil, big]; omega) ?_; intro v25 w10 o25 hE10 hO25 hf25
    replace hX := hX.mineO hE10 (fun j hj => .inr (ho j hj).1); have ho25 : ∀ j, o25 = some j → w.heap.size ≤ j ∧ j ≠ b2 ∧ j ≠ b4 := fun j hj => by rcases hf25 j hj with h | h; exact ho j h; exact ⟨Nat.le_trans hXo.size h, by have := hB2.lt; omega, by have := hB4.lt; omega⟩
    have hn25 : ∀ j, o25 = some j → o6 = some j ∨ n19 ≤ j := fun j hj => by rcases hf25 j hj with h | h; exact .inl h; exact .inr (Nat.le_trans hn19 h)
    replace hMz := hMz.ext hE10 (fun j e => .inl (.inl (.inr (.inr e)))); replace hB2 := hB2.ext hE10 (fun e => (ho _ e).2.1 rfl); replace hB4 := hB4.ext hE10 (fun e => (ho _ e).2.2 rfl)
    obtain ⟨a25, c25, hv25⟩ := id hO25.len; subst hv25
    refine wl_val (rn_assign (by conv => lhs; whnf)) ?_
    refine wl_nil ?_
    refine W_region ?_
    refine wl_val (rn_add rfl rfl (by omega)) ?_
    refine wl_val (rn_move (by conv => lhs; whnf)) ?_
    refine wl_nil ?_
    exact ⟨rfl, (i + 1, st (i + 1), _, _, o25), ⟨rfl, rfl, rfl, rfl, rfl, rfl, trivial⟩, ⟨hX, hB2, hB4, hl2, hl4, hn2_4, ⟨hlt, rfl, hMz.sub (fun j h hlt => by rcases h with h | h | h; exact .inl (.inl (.inl h)); exact .inl (.inl (.inr (.inl h))); rcases hn25 j h with h | h; exact .inl (.inl (.inr (.inr h))); exact .inr h), by rw [List.range_succ, List.map_append]; exact hO25, ho25⟩⟩, by show ops.length - (i + 1) < ops.length - i; omega⟩
  · have hge := of_decide_eq_false hc0; simp only [Int.ofNat_lt, Nat.not_lt] at hge
    obtain rfl : i = ops.length := by omega
    refine W_exit ?_   -- exit 0
    refine W_seq ?_
    refine W_region ?_
    refine wl_val (rn_loadB s_59 rfl rfl hB2) ?_
    refine wl_val (rn_move (by conv => lhs; whnf)) ?_
    have hBo := hB4
    refine wl_storeB s_59 rfl rfl rfl (elev1 rfl rfl rfl rfl rfl rfl rfl rfl rfl rfl rfl) hB4 rfl ?_; intro w11 hE11 hB4 hz11
    replace hX := hX.mine hE11 hl4
    replace hB2 := hB2.ext hE11 (fun h => by omega)
    replace hMd := hMd.ext hE11 (fun i e => by first | exact .inl (.inl e) | exact .inl (.inr (.inl e)) | exact .inr (by rw [e]; exact hg4))
    replace hO := hO.ext hE11 (fun j hj e => by have := ho j hj; have := hOA j hj; omega)
    refine wl_val (rn_assign (by conv => lhs; whnf)) ?_
    refine wl_nil ?_
    refine W_ret ?_
    exact ⟨_, resR2 (res1_box s_59 rfl hB4 rfl) (res1_tmp rfl), hX, ⟨_, _, rfl, hMd.sub (fun _ h _ => h.elim), hO.sl (fun _ _ h => h)⟩⟩
end Go.Proofs.YtaddeakfojpdoaaGreatDoorC

/- The model: the runs that are met; plain. -/
set_option linter.unusedVariables false
set_option linter.unusedSimpArgs false
set_option maxRecDepth 100000
namespace Go.Proofs.YtaddeakfojpdoaaGreatDoorC
open Go.RowKit
abbrev T1 (s : Int) : Tr := Tr.bare.put [[35]] s
theorem t1_ok (s : Int) (m : Nat) (h : 2 ≤ m) : (T1 s).Ok 1 m := Tr.Ok.put (n := 0) s [[35]] Tr.Ok.bare (by simpa [wgt] using h)
theorem t1_in (s : Int) {U : List Int} (h : s ∈ U) : (T1 s).In U := fun p x hx => by
  rcases (at_put (n := 0) (m := 100) s [[35]] Tr.Ok.bare p x).1 hx with ⟨_, rfl⟩ | hx
  · exact h
  · exact absurd hx (bare_at _ _)
theorem t1_hash (s : Int) : (T1 s).kid [35] = .node [s] [] [] := rfl
theorem t1_kid (s : Int) {l : Str} (h : l ≠ [35]) : (T1 s).kid l = .bare := by
  unfold Tr.kid
  rw [if_neg]
  intro e
  have h1 := isAt_get e
  have h2 := List.mem_of_getElem? h1
  have h3 : l ∈ [([35] : Str)] := h2
  simp at h3
  exact h h3
/-- Whom a topic reaches where one has subscribed to all. -/
theorem reach_all (s : Int) (t : Str) : reach (T1 s) t = if topicB t = true ∧ headIs 36 t = false then [s] else [] := by
  unfold reach
  by_cases ht : topicB t = true
  · rw [if_pos ht]
    obtain ⟨l, ls, hl⟩ := spl_ex 47 t
    have hne : l ≠ [35] := by
      intro e
      have := ((topic_no ht).2 l (by rw [hl]; simp)).2
      rw [e] at this; simp at this
    rw [hl]
    by_cases ha : headIs 36 t = true
    · rw [ha, if_neg (by simp)]
      unfold mt
      rw [t1_kid s hne, mt_bare]
      simp
    · simp only [Bool.not_eq_true] at ha
      rw [ha, if_pos ⟨ht, rfl⟩]
      unfold mt
      rw [t1_kid s hne, t1_kid s (by decide), mt_bare, mt_bare, t1_hash]
      rfl
  · rw [if_neg ht, if_neg (fun h => ht h.1)]
theorem reach_none (t : Str) : reach .bare t = [] := by unfold reach; rw [mt_bare]; simp
/-! ### one subscriber of all -/
/-- The queue's state: none yet, or some messages. -/
def Dq (q : Option (List MsgD)) : Md := { Md.new 2 16 with t := T1 2, len := 1, nks := [2], bks := match q with | none => [] | some _ => [2], bqs := match q with | none => [] | some q => [(q, 0)] }
theorem dq_box (q : Option (List MsgD)) : (Dq q).boxOf 2 = (q.getD [], 0) := by cases q <;> rfl
theorem dq_set (q : Option (List MsgD)) (r : List MsgD) : (Dq q).setBox 2 (r, 0) = Dq (some r) := by cases q <;> rfl
theorem dq_bd {q : Option (List MsgD)} (h : (q.getD []).length ≤ 100) : BdM 500 (Dq q) := by
  cases q with
  | none => exact ⟨List.Pairwise.nil, by simp [Dq], rfl, by simp [Dq]⟩
  | some q => exact ⟨List.pairwise_singleton _ _, by simp [Dq], rfl, by intro x hx; simp [Dq] at hx; subst hx; simp only [Option.getD_some] at h; exact ⟨by show q.length ≤ 500; omega, by show (0 : Int) ≤ 0; omega, by show (0 : Int) ≤ ((500 : Nat) : Int); omega⟩⟩
abbrev pubO (t : Str) : OpD := ⟨3, 0, t, [], false⟩
def comes (t : Str) : Bool := topicB t && !headIs 36 t
def qOf (L : List Str) : List MsgD := L.map fun t => ⟨t, [], false⟩
/-- A publication to the one subscriber of all. -/
theorem dq_pub (q : Option (List MsgD)) (t : Str) (hq : (q.getD []).length < 16) : (Dq q).publish (pubO t) = if comes t = true then (Dq (some (q.getD [] ++ [⟨t, [], false⟩])), ⟨0, 1, 0, zeroMsg⟩) else (Dq q, ⟨if topicB t = true then 0 else 2, 0, 0, zeroMsg⟩) := by
  unfold Md.publish comes
  have hr := reach_all 2 t
  have ht : (Dq q).t = T1 2 := rfl
  by_cases h1 : topicB t = true
  · have hk : kErr (pubO t).text (pubO t).payload = 0 := by
      unfold kErr; rw [if_neg (by show ¬ topicB t = false; rw [h1]; decide)]; rfl
    rw [if_pos hk, ht, hr]
    by_cases h2 : headIs 36 t = true
    · rw [if_neg (by rw [h2]; simp), h1, h2]; rfl
    · simp only [Bool.not_eq_true] at h2
      rw [if_pos ⟨h1, h2⟩, h1, h2, if_pos (by rfl)]
      have ho : offS ⟨t, [], false⟩ (Dq q, 0, 0) 2 = (Dq (some (q.getD [] ++ [⟨t, [], false⟩])), 1, 0) := by
        unfold offS
        rw [dq_box]
        rw [if_pos (by show ((q.getD []).length : Int) < 16; omega)]
        show ((Dq q).setBox 2 (q.getD [] ++ [⟨t, [], false⟩], 0), (0 : Int) + 1, (0 : Int)) = _
        rw [dq_set]; rfl
      simp only [List.foldl_cons, List.foldl_nil]
      rw [ho]; rfl
  · simp only [Bool.not_eq_true] at h1
    have hk : kErr (pubO t).text (pubO t).payload = 2 := by unfold kErr; rw [if_pos h1]
    rw [if_neg (by rw [hk]; decide), hk, h1]; rfl
theorem dq_poll0 {q : Option (List MsgD)} (h : q.getD [] = []) : (Dq q).poll 2 = (Dq q, ⟨7, 0, 0, zeroMsg⟩) := by unfold Md.poll; rw [dq_box]; simp only [h]
theorem dq_poll1 {q : Option (List MsgD)} {m : MsgD} {r : List MsgD} (h : q.getD [] = m :: r) : (Dq q).poll 2 = (Dq (some r), ⟨0, 0, 0, m⟩) := by unfold Md.poll; rw [dq_box]; simp only [h, dq_set]
/-! ### steps by Do -/
theorem step_pub {d : Md} {o : OpD} {x : Md × AnsD} (e : d.publish o = x) (hk : o.kind = 3) (hbd : BdM 500 d) (hos : o.text.length ≤ 100000) (hop : o.payload.length ≤ 100000) {n m : Nat} (hok : d.t.Ok n m) (hn : n ≤ 1000) (hin : d.t.In [1, 2]) (hko : Sorted ltS d.ks) (hkn : d.ks.length ≤ 1000) (hvr : 0 ≤ d.ver ∧ d.ver ≤ 1000) : StepOK 20 (.agg o.enc.toArray) d x := by
  subst e
  exact fun M w cs hM hd => do_pub w d o _ M hM hd hk (fun M w cs hM hd => publish_ok w d M hM hd hbd o hos hop [1, 2] (by decide) hok hn hin hko hkn hvr)
theorem step_poll {d : Md} {o : OpD} {x : Md × AnsD} (e : d.poll o.sub = x) (hk : o.kind = 4) (hbd : BdM 500 d) (h1 : 1 ≤ o.sub) (h2 : o.sub ≤ d.subs) : StepOK 20 (.agg o.enc.toArray) d x := by
  subst e
  exact fun M w cs hM hd => do_poll w d o _ M hM hd hk (fun M w cs hM hd => poll_ok w d M hM hd hbd o.sub h1 h2)
theorem step_sub {d : Md} {o : OpD} {x : Md × AnsD} (e : d.subscribe o = x) (hk : o.kind = 1) (hbd : BdM 500 d) (hos : o.text.length ≤ 90000) {n m : Nat} (hok : d.t.Ok n m) (hn : n ≤ 1000) (hfm : o.text.length + 1 ≤ m) (hnord : Sorted ltI d.nks) (hnn : d.nks.length ≤ 1000) (hna : isAt ltI d.nks o.sub = false) (h1 : 1 ≤ o.sub) (h2 : o.sub ≤ d.subs) (hfil : filterB o.text = true) (hnew : isAt ltI (Tr.go (spl 47 o.text) d.t).subs o.sub = false) (hlen : 0 ≤ d.len ∧ d.len ≤ 1000) (hkn : d.ks.length ≤ 100) (hkl : ∀ y ∈ d.ks, y.length ≤ 1000000) : StepOK 20 (.agg o.enc.toArray) d x := by
  subst e
  exact fun M w cs hM hd => do_sub w d o _ M hM hd hk (fun M w cs hM hd => subscribe_ok w d M hM hd hbd o hos hok hn hfm hnord hnn hna h1 h2 hfil hnew hlen hkn hkl)
theorem sub_dq : StepOK 20 (.agg (⟨1, 2, [35], [], false⟩ : OpD).enc.toArray) (Md.new 2 16) (Dq none, ⟨0, 0, 0, zeroMsg⟩) :=
  step_sub (m := 10) (n := 0) rfl rfl ⟨List.Pairwise.nil, by simp [Md.new], rfl, by simp [Md.new]⟩ (by decide) Tr.Ok.bare (by decide) (by decide) List.Pairwise.nil (by decide) (by decide) (by decide) (by decide) (by decide +kernel) (by decide +kernel) (by decide) (by decide) (by intro y hy; cases hy)
theorem first_pub : StepOK 20 (.agg (⟨3, 0, [97], [120], false⟩ : OpD).enc.toArray) (Md.new 2 16) (Md.new 2 16, ⟨0, 0, 0, zeroMsg⟩) :=
  step_pub (m := 10) (n := 0) (by unfold Md.publish; rw [if_pos (by decide +kernel)]; show _ = _; rw [show (Md.new 2 16).t = .bare from rfl, reach_none]; rfl) rfl ⟨List.Pairwise.nil, by simp [Md.new], rfl, by simp [Md.new]⟩ (by decide) (by decide) Tr.Ok.bare (by decide) (fun p s h => absurd h (bare_at _ _)) List.Pairwise.nil (by decide) (by decide)
theorem pub_dq (q : Option (List MsgD)) (t : Str) (hq : (q.getD []).length < 16) (ht : t.length ≤ 300) : StepOK 20 (.agg (pubO t).enc.toArray) (Dq q) ((Dq q).publish (pubO t)) :=
  step_pub rfl rfl (dq_bd (by omega)) (by show t.length ≤ 100000; omega) (by show 0 ≤ 100000; omega) (t1_ok 2 10 (by decide)) (by decide) (t1_in 2 (by decide)) List.Pairwise.nil (by show 0 ≤ 1000; omega) (by show (0 : Int) ≤ 0 ∧ (0 : Int) ≤ 1000; omega)
theorem poll_dq (q : Option (List MsgD)) (hq : (q.getD []).length ≤ 16) : StepOK 20 (.agg (⟨4, 2, [], [], false⟩ : OpD).enc.toArray) (Dq q) ((Dq q).poll 2) :=
  step_poll rfl rfl (dq_bd (by omega)) (by decide) (by show (2 : Int) ≤ 2; omega)
/-! ### the five first steps -/
def O1 : OpD := ⟨1, 1, [35], [], false⟩
def O2 : OpD := ⟨3, 0, [97], [120], true⟩
def O3 : OpD := ⟨4, 1, [], [], false⟩
def O4 : OpD := ⟨1, 2, [35], [], false⟩
def O5 : OpD := ⟨4, 2, [], [], false⟩
def E0 : Md := Md.new 2 4
def E1 : Md := { E0 with t := T1 1, len := 1, nks := [1] }
def E2 : Md := { E1 with bks := [1], bqs := [([⟨[97], [120], false⟩], 0)], ks := [[97]], ys := [([120], 1)], ver := 1 }
def E3 : Md := { E2 with bqs := [([], 0)] }
def E4 : Md := { E3 with t := (T1 1).put [[35]] 2, len := 2, nks := [1, 2], bks := [1, 2], bqs := [([], 0), ([⟨[97], [120], true⟩], 0)] }
def E5 : Md := { E4 with bqs := [([], 0), ([], 0)] }
theorem e1 : E0.subscribe O1 = (E1, ⟨0, 0, 0, zeroMsg⟩) := by rfl
theorem e2 : E1.publish O2 = (E2, ⟨0, 1, 0, zeroMsg⟩) := by
  unfold Md.publish
  rw [if_pos (by decide +kernel), show E1.t = T1 1 from rfl, show O2.text = [97] from rfl, reach_all, if_pos (by decide +kernel)]
  rfl
theorem e3 : E2.poll 1 = (E3, ⟨0, 0, 0, ⟨[97], [120], false⟩⟩) := by rfl
theorem scan_e4 : (({ E3 with t := E3.t.put (spl 47 O4.text) O4.sub, len := E3.len + 1, nks := putK ltI E3.nks O4.sub } : Md).scan [35]) = [([97], ([120], 1))] := by
  unfold Md.scan
  have : matchB [35] [97] = true := by decide +kernel
  simp [E3, E2, this]
theorem e4 : E3.subscribe O4 = (E4, ⟨0, 1, 0, zeroMsg⟩) := by
  unfold Md.subscribe
  rw [show O4.text = [35] from rfl]
  have h := scan_e4
  rw [show O4.text = [35] from rfl] at h
  simp only [h]
  rfl
theorem e5 : E4.poll 2 = (E5, ⟨0, 0, 0, ⟨[97], [120], true⟩⟩) := by rfl
def stE (i : Nat) : Md := match i with | 0 => E0 | 1 => E1 | 2 => E2 | 3 => E3 | 4 => E4 | _ => E5
def anE (i : Nat) : AnsD := match i with | 0 => ⟨0, 0, 0, zeroMsg⟩ | 1 => ⟨0, 1, 0, zeroMsg⟩ | 2 => ⟨0, 0, 0, ⟨[97], [120], false⟩⟩ | 3 => ⟨0, 1, 0, zeroMsg⟩ | _ => ⟨0, 0, 0, ⟨[97], [120], true⟩⟩
theorem bd_one {d : Md} {k : List Int} {q : List (List MsgD × Int)} (h1 : d.bks = k) (h2 : d.bqs = q) (hs : Sorted ltI k) (hl : k.length ≤ 2) (hq : q.length = k.length) (hm : ∀ x ∈ q, x.1.length ≤ 1 ∧ x.2 = 0) : BdM 500 d := by
  subst h1; subst h2
  exact ⟨hs, by omega, hq, fun x hx => by have := hm x hx; omega⟩
theorem steps_e : ∀ (i : Nat) (x : OpD), [O1, O2, O3, O4, O5][i]? = some x → StepOK 20 (.agg x.enc.toArray) (stE i) (stE (i + 1), anE i) := by
  have hin1 : (T1 1).In [1, 2] := t1_in 1 (by decide)
  intro i x h
  match i, h with
  | 0, h => cases h; exact step_sub (m := 10) (n := 0) e1 rfl ⟨List.Pairwise.nil, by simp [stE, E0, Md.new], rfl, by simp [stE, E0, Md.new]⟩ (by decide) Tr.Ok.bare (by decide) (by decide) List.Pairwise.nil (by decide) (by decide) (by decide) (by decide) (by decide +kernel) (by decide +kernel) (by decide) (by decide) (by intro y hy; cases hy)
  | 1, h => cases h; exact step_pub (m := 10) (n := 1) e2 rfl ⟨List.Pairwise.nil, by simp [stE, E1, E0, Md.new], rfl, by simp [stE, E1, E0, Md.new]⟩ (by decide) (by decide) (t1_ok 1 10 (by decide)) (by decide) hin1 List.Pairwise.nil (by decide) (by decide)
  | 2, h => cases h; exact step_poll e3 rfl (bd_one (k := [1]) rfl rfl (List.pairwise_singleton _ _) (by decide) rfl (by simp [stE, E2])) (by decide) (by decide)
  | 3, h => cases h; exact step_sub (m := 10) (n := 1) e4 rfl (bd_one (k := [1]) rfl rfl (List.pairwise_singleton _ _) (by decide) rfl (by simp [stE, E3])) (by decide) (t1_ok 1 10 (by decide)) (by decide) (by decide) (List.pairwise_singleton _ _) (by decide) (by decide) (by decide) (by decide) (by decide +kernel) (by decide +kernel) (by decide) (by decide) (by intro y hy; simp [stE, E3, E2] at hy; subst hy; decide)
  | 4, h => cases h; exact step_poll e5 rfl (bd_one (k := [1, 2]) rfl rfl (by unfold Sorted; decide) (by decide) rfl (by simp [stE, E4])) (by decide) (by decide)
  | n + 5, h => simp at h
end Go.Proofs.YtaddeakfojpdoaaGreatDoorC

/- The model: the document's own example. -/
set_option linter.unusedVariables false
set_option linter.unusedSimpArgs false
set_option maxRecDepth 100000
namespace Go.Proofs.YtaddeakfojpdoaaGreatDoorC
open Go.RowKit
abbrev eOp (o : OpD) : List Value := o.enc
-- bellman/bellmanlaw18.awake
set_option maxHeartbeats 3200000 in
theorem awake18_ok (w : World)  : Fn Tryz.prog 18 #[] w fun u w' => u = .bool true := by
  have hX := Ext.refl Non w
  refine fn_of_W (args := []) Tryz.func18 rfl (by kernel_rfl) rfl ?_
  refine W_seq ?_
  refine W_region ?_
  refine wl_val (rn_assign (by conv => lhs; whnf)) ?_
  refine wl_nil ?_
  refine W_seq ?_
  refine W_region ?_
  refine wl_call e_19 rfl (mnew_ok w 2 4 (by decide) (by decide) (by decide) (by decide)) ?_; intro v4 w1 hE1 hR1
  replace hX := hX.tr hE1
  obtain ⟨cs4, rfl, hd⟩ := hR1
  obtain ⟨pz, z1, zl1, zc1, z2, zl2, zc2, z3, zl3, zc3, z4, zl4, zc4, z5, zl5, zc5, z6, zl6, zc6, nvz, bvz, rfl, _⟩ := id hd
  refine wl_val (rn_build' b_69 rfl rfl (cs := _) rfl) ?_
  refine wl_val (rn_build' b_69 rfl rfl (cs := _) rfl) ?_
  refine wl_val (rn_build' b_69 rfl rfl (cs := _) rfl) ?_
  refine wl_val (rn_build' b_69 rfl rfl (cs := _) rfl) ?_
  refine wl_val (rn_build' b_69 rfl rfl (cs := _) rfl) ?_
  refine wl_lit sl_79 (rows := ([O1, O2, O3, O4, O5] : List OpD).map eOp) rfl (by decide) (by decide) rfl rfl (by intro r hr; obtain ⟨x, _, rfl⟩ := List.mem_map.1 hr; rfl) (by intro p hp; simp at hp; rcases hp with rfl | rfl | rfl | rfl | rfl <;> exact ⟨rfl, Nat.le_of_ble_eq_true rfl⟩) rfl ?_; intro v10 w2 b10 hb10 hE2 hO10
  replace hX := hX.tr hE2
  replace hd := hd.ext hE2 (fun _ h => h)
  refine wl_call e_31 rfl (run_ok w2 ([O1, O2, O3, O4, O5] : List OpD) stE anE steps_e hd (hO10.sl (M := Non) id) (by decide)) ?_; intro v11 w3 hE3 hR3
  replace hX := hX.tr hE3
  replace hd := hd.ext hE3 (fun _ h => h)
  obtain ⟨cs11, v11, rfl, hd11, hA⟩ := hR3
  obtain ⟨pz, z1, zl1, zc1, z2, zl2, zc2, z3, zl3, zc3, z4, zl4, zc4, z5, zl5, zc5, z6, zl6, zc6, nvz, bvz, rfl, _⟩ := id hd11
  obtain ⟨a11, c11, hv11, _⟩ := id hA.len; change v11 = .slice a11 5 c11 at hv11; subst hv11
  obtain ⟨bb11, oo11, ea11⟩ := hA.base (by intro e; have := congrArg List.length e; simp at this); subst ea11
  obtain ⟨n11, hn11e⟩ : ∃ n, n = (World.heap w3).size := ⟨_, rfl⟩
  replace hA := hA.sub (M' := fun i => n11 ≤ i) (fun i h hlt => by omega)
  refine wl_val (rn_move (by conv => lhs; whnf)) ?_
  refine wl_val (rn_extract rfl rfl) ?_
  refine wl_val (rn_extract rfl rfl) ?_
  refine wl_alloc z_59 ?_; intro b1 w4 hb1 hE4 hB1
  have hq1 : w.heap.size ≤ b1 := Nat.le_trans hX.size hb1
  have hl1 : Mine Non w b1 := .inr hq1
  have hg1 : n11 ≤ b1 := by omega
  replace hX := hX.tr hE4
  replace hA := hA.ext hE4 (fun _ h => h.elim)
  have hBo := hB1
  refine wl_storeB s_59 rfl rfl rfl (elev1 rfl rfl rfl rfl rfl rfl rfl rfl rfl rfl rfl) hB1 rfl ?_; intro w5 hE5 hB1 hz5
  replace hX := hX.mine hE5 hl1
  replace hA := hA.ext hE5 (fun i e => by rw [e]; exact hg1)
  refine wl_val (rn_assign (by conv => lhs; whnf)) ?_
  refine wl_nil ?_
  refine W_seq ?_
  refine W_region ?_
  refine wl_val (rn_move (by conv => lhs; whnf)) ?_
  refine wl_val (rn_len sl_76 rfl) ?_
  refine wl_val (rn_eql rfl rfl) ?_
  refine wl_val (rn_move (by conv => lhs; whnf)) ?_
  refine wl_split (d := 17) rfl (fun hg17 => ?_) (fun hg17 => ?_)
  · refine wl_yes rfl (congrArg Value.bool hg17) ?_
    refine wl_val (rn_move (by conv => lhs; whnf)) ?_
    refine wl_yes rfl (congrArg Value.bool hg17) ?_
    refine wl_val (rn_indexAddr sl_76 rfl rfl (by decide)) ?_
    refine wl_yes rfl (congrArg Value.bool hg17) ?_
    refine wl_val (rn_fieldAddr f_64_3 (by decide) rfl) ?_
    refine wl_yes rfl (congrArg Value.bool hg17) ?_
    refine wl_val (rn_loadS s_62 (vs := (⟨[97], [120], false⟩ : MsgD).enc) rfl rfl (hA.part1 (map_at (i := 2) (x := 2) rfl) rfl (Nat.le_of_ble_eq_true rfl))) ?_
    refine wl_yes rfl (congrArg Value.bool hg17) ?_
    refine wl_val (rn_build' b_62 rfl rfl (cs := (⟨[97], [120], false⟩ : MsgD).enc) rfl) ?_
    refine wl_yes rfl (congrArg Value.bool hg17) ?_
    refine wl_val (rn_eqlS rfl rfl eg_62 (by decide) (msg_eqs _ _)) ?_
    refine wl_val (rn_pickT (congrArg Value.bool hg17) (by conv => lhs; whnf)) ?_
    refine wl_val (rn_move (by conv => lhs; whnf)) ?_
    refine wl_split (d := 25) rfl (fun hg25 => ?_) (fun hg25 => ?_)
    · refine wl_yes rfl (congrArg Value.bool hg25) ?_
      refine wl_val (rn_move (by conv => lhs; whnf)) ?_
      refine wl_yes rfl (congrArg Value.bool hg25) ?_
      refine wl_val (rn_indexAddr sl_76 rfl rfl (by decide)) ?_
      refine wl_yes rfl (congrArg Value.bool hg25) ?_
      refine wl_val (rn_fieldAddr f_64_1 (by decide) rfl) ?_
      refine wl_yes rfl (congrArg Value.bool hg25) ?_
      refine wl_val (rn_load p_3 rfl (hA.at1 (map_at (i := 3) (x := 3) rfl) rfl)) ?_
      refine wl_yes rfl (congrArg Value.bool hg25) ?_
      refine wl_val (rn_eql rfl rfl) ?_
      refine wl_val (rn_pickT (congrArg Value.bool hg25) (by conv => lhs; whnf)) ?_
      refine wl_val (rn_move (by conv => lhs; whnf)) ?_
      refine wl_split (d := 32) rfl (fun hg32 => ?_) (fun hg32 => ?_)
      · refine wl_yes rfl (congrArg Value.bool hg32) ?_
        refine wl_val (rn_move (by conv => lhs; whnf)) ?_
        refine wl_yes rfl (congrArg Value.bool hg32) ?_
        refine wl_val (rn_indexAddr sl_76 rfl rfl (by decide)) ?_
        refine wl_yes rfl (congrArg Value.bool hg32) ?_
        refine wl_val (rn_fieldAddr f_64_3 (by decide) rfl) ?_
        refine wl_yes rfl (congrArg Value.bool hg32) ?_
        refine wl_val (rn_loadS s_62 (vs := (⟨[97], [120], true⟩ : MsgD).enc) rfl rfl (hA.part1 (map_at (i := 4) (x := 4) rfl) rfl (Nat.le_of_ble_eq_true rfl))) ?_
        refine wl_yes rfl (congrArg Value.bool hg32) ?_
        refine wl_val (rn_build' b_62 rfl rfl (cs := (⟨[97], [120], true⟩ : MsgD).enc) rfl) ?_
        refine wl_yes rfl (congrArg Value.bool hg32) ?_
        refine wl_val (rn_eqlS rfl rfl eg_62 (by decide) (msg_eqs _ _)) ?_
        refine wl_val (rn_pickT (congrArg Value.bool hg32) (by conv => lhs; whnf)) ?_
        refine wl_val (rn_assign (by conv => lhs; whnf)) ?_
        refine wl_nil ?_
        refine W_ret ?_
        exact ⟨_, resR1 (res1_tmp rfl), hX, rfl⟩
      · exact absurd hg32 (by decide)
    · exact absurd hg25 (by decide)
  · exact absurd hg17 (by decide)
end Go.Proofs.YtaddeakfojpdoaaGreatDoorC
