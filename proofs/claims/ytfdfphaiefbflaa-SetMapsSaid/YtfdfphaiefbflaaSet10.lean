/- The law SetMaps. -/
import Derived.Test.YtfdfphaiefbflaaSet9
import Derived.Test.YtfdfphaiefbflaaSet6
set_option linter.unusedVariables false
set_option linter.unusedSimpArgs false
set_option maxRecDepth 100000
namespace Go.Proofs.YtfdfphaiefbflaaC
open Go.RowKit
/-- A map of numbers by texts, the program's and the document's, alike. -/
structure Mp (M : Nat → Prop) (w : World) (u1 u2 r1 r2 : Value) (ks : List Str) (ys : List Int) : Prop where
  m1 : Sl M w u1 1 (ks.map eS1)
  m2 : Sl M w u2 1 (ys.map eI1)
  x1 : Sl M w r1 1 (ks.map eS1)
  x2 : Sl M w r2 1 (ys.map eI1)
theorem Mp.ext {M M' : Nat → Prop} {w w' : World} {u1 u2 r1 r2 : Value} {ks : List Str} {ys : List Int} (h : Mp M w u1 u2 r1 r2 ks ys) (hE : Ext M' w w') (hm : ∀ i, M' i → M i) : Mp M w' u1 u2 r1 r2 ks ys := ⟨h.m1.ext hE hm, h.m2.ext hE hm, h.x1.ext hE hm, h.x2.ext hE hm⟩
theorem Mp.sub {M M' : Nat → Prop} {w : World} {u1 u2 r1 r2 : Value} {ks : List Str} {ys : List Int} (h : Mp M w u1 u2 r1 r2 ks ys) (hm : ∀ i, M' i → i < w.heap.size → M i) : Mp M' w u1 u2 r1 r2 ks ys := ⟨h.m1.sub hm, h.m2.sub hm, h.x1.sub hm, h.x2.sub hm⟩
theorem Mp.mp {M : Nat → Prop} {w : World} {u1 u2 r1 r2 : Value} {ks : List Str} {ys : List Int} (h : Mp M w u1 u2 r1 r2 ks ys) (hl : ys.length = ks.length) : MapR M w eS1 1 u1 u2 ks (ys.map eI1) := ⟨h.m1, h.m2, by simpa using hl⟩
theorem eI_rows (ys : List Int) : ∀ r ∈ ys.map eI1, ∀ u ∈ r, u.oneCell' = true := by
  intro r hr u hu; obtain ⟨x, _, rfl⟩ := List.mem_map.1 hr; simp only [eI1, List.mem_singleton] at hu; subst hu; rfl
theorem eI_each (ys : List Int) : ∀ r ∈ ys.map eI1, ∃ z : Int, r = [.int .i64 z] := by
  intro r hr; obtain ⟨x, _, rfl⟩ := List.mem_map.1 hr; exact ⟨x, rfl⟩
theorem zip_len {α β : Type} {l : List α} {m : List β} (h : m.length = l.length) : (l.zip m).length = l.length := by rw [List.length_zip]; omega
theorem zip_at {α β : Type} {l : List α} {m : List β} {pre post : List (α × β)} {x : α × β} (h : l.zip m = pre ++ x :: post) : l[pre.length]? = some x.1 ∧ m[pre.length]? = some x.2 := by
  have h0 : (l.zip m)[pre.length]? = some x := by rw [h]; simp
  rw [List.getElem?_zip_eq_some] at h0; exact h0
def eB1 (b : Bool) : List Value := [.bool b]
theorem eB_at {ks : List Bool} {i : Nat} {x : Bool} (h : ks[i]? = some x) : (ks.map eB1)[i]? = some [.bool x] := by simp [h, eB1]
theorem same_get {ks : List Str} {x : Str} {ys : List Int} {z1 z2 : Int} (h1 : isAt ltS ks x = true → (ys.map eI1)[lb ltS ks x]? = some [.int .i64 z1]) (h2 : isAt ltS ks x = false → z1 = 0) (h3 : isAt ltS ks x = true → ys[lb ltS ks x]? = some z2) (h4 : isAt ltS ks x = false → z2 = 0) : z2 = z1 := by
  cases h : isAt ltS ks x with
  | false => rw [h2 h, h4 h]
  | true =>
    have a := h1 h
    rw [List.getElem?_map, h3 h] at a
    simp [eI1] at a; exact a
theorem putV_putW {ks : List Str} {x : Str} {ys : List Int} {y : Int} : putV ltS ks x (ys.map eI1) [.int .i64 y] = (putW ltS ks x ys y).map eI1 := by
  rw [← putW_map eI1 ks x ys y]; rfl
-- bellman/bellmanlaw03.same
set_option maxHeartbeats 2000000 in
theorem same_ok (w : World) (ks : List Str) (ys : List Int) {u1 u2 r1 r2 : Value} (hle : ys.length = ks.length) (hn : ks.length ≤ 1000000) (hord : Sorted ltS ks) (hp : Mp Non w u1 u2 r1 r2 ks ys) : Fn Try.prog 37 #[.agg #[u1, u2], .agg #[r1, r2]] w fun u w' => u = .bool true := by
  obtain ⟨a1, c1, rfl, _⟩ := hp.m1.len; obtain ⟨a2, c2, rfl, _⟩ := hp.m2.len; obtain ⟨a3, c3, rfl, _⟩ := hp.x1.len; obtain ⟨a4, c4, rfl, _⟩ := hp.x2.len
  simp only [List.length_map] at hp ⊢
  have hX := Ext.refl Non w
  refine fn_of_W (args := [_, _]) Try.func37 rfl (by kernel_rfl) rfl ?_
  refine W_seq ?_
  refine W_region ?_
  refine wl_boxS rfl ?_; intro b2 w1 hb2 hE1 hB2
  have hq2 : w.heap.size ≤ b2 := Nat.le_trans hX.size hb2
  have hl2 : Mine Non w b2 := .inr hq2
  replace hX := hX.tr hE1
  refine wl_boxS rfl ?_; intro b3 w2 hb3 hE2 hB3
  have hn2_3 : b2 < b3 := Nat.lt_of_lt_of_le hB2.lt hb3
  have hq3 : w.heap.size ≤ b3 := Nat.le_trans hX.size hb3
  have hl3 : Mine Non w b3 := .inr hq3
  replace hX := hX.tr hE2
  replace hB2 := hB2.ext hE2 id
  refine wl_alloc z_4 ?_; intro b4 w3 hb4 hE3 hB4
  have hn2_4 : b2 < b4 := Nat.lt_of_lt_of_le hB2.lt hb4
  have hn3_4 : b3 < b4 := Nat.lt_of_lt_of_le hB3.lt hb4
  have hq4 : w.heap.size ≤ b4 := Nat.le_trans hX.size hb4
  have hl4 : Mine Non w b4 := .inr hq4
  replace hX := hX.tr hE3
  replace hB2 := hB2.ext hE3 id; replace hB3 := hB3.ext hE3 id
  refine wl_nil ?_
  refine W_seq ?_
  refine W_seq ?_
  refine W_drawE mixed ?_; intro w4 hE4
  replace hX := hX.tr hE4
  replace hB2 := hB2.ext hE4 id; replace hB3 := hB3.ext hE4 id; replace hB4 := hB4.ext hE4 id
  have hS := Ext.refl Non w4
  refine wd_take 0 _ _ rfl (by kernel_rfl) hS (yd_do fun A hA => rn_loadB s_55 rfl rfl (hB2.ext hA id)) ?_
  refine wd_take 2 _ _ rfl (by kernel_rfl) hS (yd_do fun A hA => rn_fieldAddr f_57_0 (by decide) rfl) ?_
  refine wd_take 3 _ _ rfl (by kernel_rfl) hS (yd_do fun A hA => rn_load1 p_52 rfl (hB3.ext hA id) rfl) ?_
  refine wd_take 4 _ _ rfl (by kernel_rfl) hS (yd_do fun A hA => rn_len sl_52 rfl) ?_
  refine wd_only 1 _ rfl (by kernel_rfl) ?_
  refine s1_do ?_
  refine wl_call e_82 rfl (mlen_si w4 ks (ys.map eI1) ((hp.mp hle).ext (hX.tr hS) (fun _ h => h)) hn) ?_; intro v10 w5 hE5 hR5
  replace hS := hS.tr hE5
  subst hR5
  refine wl_nil ⟨hS, ?_⟩
  refine wd_take 5 _ _ rfl (by kernel_rfl) hS (yd_do fun A hA => rn_neq rfl rfl) ?_
  refine wd_done (by kernel_rfl) ?_ _
  replace hX := hX.tr hS
  replace hB2 := hB2.ext hS id; replace hB3 := hB3.ext hS id; replace hB4 := hB4.ext hS id
  refine W_cond rfl (fun hc0 => ?_) (fun hc0 => ?_)
  · exact absurd (of_decide_eq_true hc0) (by simp)
  · refine W_skip ?_
    refine W_seq ?_
    refine W_region ?_
    refine wl_alloc z_3 ?_; intro b5 w6 hb5 hE6 hB5
    have hn2_5 : b2 < b5 := Nat.lt_of_lt_of_le hB2.lt hb5
    have hn3_5 : b3 < b5 := Nat.lt_of_lt_of_le hB3.lt hb5
    have hn4_5 : b4 < b5 := Nat.lt_of_lt_of_le hB4.lt hb5
    have hq5 : w.heap.size ≤ b5 := Nat.le_trans hX.size hb5
    have hl5 : Mine Non w b5 := .inr hq5
    replace hX := hX.tr hE6
    replace hB2 := hB2.ext hE6 id; replace hB3 := hB3.ext hE6 id; replace hB4 := hB4.ext hE6 id
    refine wl_store1 (b := b5) p_3 rfl (by conv => lhs; whnf) rfl rfl hB5 (Nat.le_of_ble_eq_true rfl) ?_; intro w7 hE7 hB5 hz7
    replace hX := hX.mine hE7 hl5
    replace hB2 := hB2.ext hE7 (fun h => by omega); replace hB3 := hB3.ext hE7 (fun h => by omega); replace hB4 := hB4.ext hE7 (fun h => by omega)
    refine wl_nil ?_
    refine W_seq ?_
    refine W_region ?_
    refine wl_val (rn_loadB s_55 rfl rfl hB2) ?_
    refine wl_call e_83 rfl (mall_si w7 ks ys (fun i => i = b5) (fun i e => by rw [e]; exact hB5.lt) ((hp.m1.sub (M' := fun i => i = b5) (fun i e h => by omega)).ext hX.of_non (fun _ h => h)) ((hp.m2.sub (M' := fun i => i = b5) (fun i e h => by omega)).ext hX.of_non (fun _ h => h)) hle) ?_; intro v16 w8 hE8 hR8
    replace hX := hX.tr hE8
    replace hB2 := hB2.ext hE8 id; replace hB3 := hB3.ext hE8 id; replace hB4 := hB4.ext hE8 id; replace hB5 := hB5.ext hE8 id
    have hIt := hR8; obtain ⟨fk, ck, hfk, _⟩ := id hIt; subst hfk
    obtain ⟨wa, hwa⟩ : ∃ x, x = w8 := ⟨_, rfl⟩
    have hW : Ext (fun i => i = b5) wa w8 := by rw [hwa]; exact Ext.refl _ _
    have hIt2 := hIt; rw [← hwa] at hIt2; have hz5 : b5 < wa.heap.size := by rw [hwa]; exact hB5.lt
    refine wl_val (rn_assign (by conv => lhs; whnf)) ?_
    refine wl_nil ?_
    refine W_seq ?_
    refine W_seq ?_
    refine W_region ?_
    refine wl_val (rn_move (by conv => lhs; whnf)) ?_
    refine wl_val (rn_func_eql uf_123 rfl rfl) ?_
    refine wl_nil ?_
    refine W_condF rfl ?_
    refine W_skip ?_
    refine W_seq ?_
    refine W_seq ?_
    refine W_region ?_
    refine wl_val (rn_move (by conv => lhs; whnf)) ?_
    refine wl_nil ?_
    refine W_block ?_   -- block 0
    have hszr := hX.size
    have hsz_hW := hW.size
    have ho3 : w.heap.size ≤ b3 := by rcases hl3 with h | h; exact h.elim; exact h
    have ho4 : w.heap.size ≤ b4 := by rcases hl4 with h | h; exact h.elim; exact h
    have ho5 : w.heap.size ≤ b5 := by rcases hl5 with h | h; exact h.elim; exact h
    refine W_rangeFunc (M := fun i => i = b5) (w0 := wa) (I := fun pre N A => Box N A b3 [.slice a3 ks.length c3, .slice a4 ys.length c4] ∧ Box N A b4 [.bool false] ∧ Box N A b5 [.int .i64 (pre.length : Nat)] ∧ Ext Non w A ∧ Ext (fun i => i = b5) wa A ∧ MkN w [] N A ∧ (True)) (X := fun c N A => False) (encs := fun p : Str × Int => [Sv p.1, .int .i64 p.2]) (xs := (ks.zip ys)) rfl (hIt2) (hW) (fun _ => rfl) (fun pre => (Stab.box _ _).and ((Stab.box _ _).and ((Stab.box _ _).and ((Stab.old hX.size).and ((Stab.oldM hW.size).and ((Stab.mk _ _).and ((Stab.pure _)))))))) (fun c => Stab.false) ⟨⟨hB3, id⟩, ⟨hB4, id⟩, ⟨hB5, id⟩, hX, hW, (Mk.nil : Mk w [] _).toN, trivial⟩ ?_ ?_ ?_
    · rintro l N pre x A hl hN hA hst ⟨hK3, hK4, hK5, hXo, hW, hDk, hIr⟩ ⟨post, hpre⟩
      have hB3 := hK3.1
      have hB4 := hK4.1
      have hB5 := hK5.1; have hl5 : Mine (Yc (fun i => i = b5) wa N) A b5 := .inl ⟨hK5.2, .inl rfl⟩
      have hX := Ext.refl (Yc (fun i => i = b5) wa N) A
      refine W_seq ?_
      refine W_region ?_
      refine wl_val (rn_assign (by conv => lhs; whnf)) ?_
      refine wl_nil ?_
      refine W_region ?_
      refine wl_val (rn_assign (by conv => lhs; whnf)) ?_
      refine wl_nil ?_
      refine ⟨rfl, hX, fun A2 hE2r hz2r hst2 => ?_⟩
      have hNl := (hN l hl).2
      replace hB3 := hB3.ext hE2r (fun e => hK3.2 (by rw [e]; exact hl))
      replace hB4 := hB4.ext hE2r (fun e => hK4.2 (by rw [e]; exact hl))
      replace hB5 := hB5.ext hE2r (fun e => hK5.2 (by rw [e]; exact hl))
      replace hXo := hXo.mine hE2r (.inr (Nat.le_trans hszr (hN l hl).1)); replace hDk := hDk.lp hE2r hl
      replace hW := hW.mine hE2r (.inr (Nat.le_trans hsz_hW (hN l hl).1))
      have hl5 : Mine (Yc (fun i => i = b5) wa N) A2 b5 := .inl ⟨hK5.2, .inl rfl⟩
      have hX := Ext.refl (Yc (fun i => i = b5) wa N) A2
      obtain ⟨hz1, hz2⟩ := zip_at hpre
      have hzl := (List.getElem?_eq_some_iff.1 hz1).1
      obtain ⟨bq, oq, eaq⟩ := hp.x1.base (by intro e; have := congrArg List.length e; simp only [List.length_map, List.length_nil] at this; omega)
      obtain ⟨bq2, oq2, eaq2⟩ := hp.x2.base (by intro e; have := congrArg List.length e; simp only [List.length_map, List.length_nil] at this; omega)
      refine W_block ?_   -- block 1
      refine W_seq ?_
      refine W_seq ?_
      refine W_region ?_
      refine wl_val (rn_load1 p_3 rfl hB5 rfl) ?_
      refine wl_val (rn_fieldAddr f_57_0 (by decide) rfl) ?_
      refine wl_val (rn_load1 p_52 rfl hB3 rfl) ?_
      refine wl_val (rn_len sl_52 rfl) ?_
      refine wl_val (rn_geq rfl rfl) ?_
      refine wl_val (rn_move (by conv => lhs; whnf)) ?_
      refine wl_split (d := 27) rfl (fun hg27 => ?_) (fun hg27 => ?_)
      · exact absurd (of_decide_eq_true hg27) (by omega)
      · refine wl_yes rfl (congrArg Value.bool hg27) ?_
        refine wl_val (rn_move (by conv => lhs; whnf)) ?_
        refine wl_yes rfl (congrArg Value.bool hg27) ?_
        refine wl_val (rn_fieldAddr f_57_0 (by decide) rfl) ?_
        refine wl_yes rfl (congrArg Value.bool hg27) ?_
        refine wl_val (rn_load1 p_52 rfl hB3 rfl) ?_
        refine wl_yes rfl (congrArg Value.bool hg27) ?_
        refine wl_val (rn_load1 p_3 rfl hB5 rfl) ?_
        refine wl_yes rfl (congrArg Value.bool hg27) ?_
        refine wl_val (rn_indexAddr sl_52 (a := ⟨bq, oq, none⟩) (n := ks.length) (c := c3) (by rw [← eaq]; rfl) rfl (by omega)) ?_
        refine wl_yes rfl (congrArg Value.bool hg27) ?_
        refine wl_val (rn_load p_9 rfl (((eaq ▸ hp.x1 : Sl Non w (.slice (some ⟨bq, oq, none⟩) ks.length c3) 1 (ks.map eS1)).ext hXo (fun _ h => h)).at0 (eS_at (i := ((pre.length : Nat) : Int).toNat) hz1) rfl)) ?_
        refine wl_yes rfl (congrArg Value.bool hg27) ?_
        refine wl_val (rn_sneq rfl rfl) ?_
        refine wl_val (rn_pickF (congrArg Value.bool hg27) (by conv => lhs; whnf)) ?_
        refine wl_val (rn_move (by conv => lhs; whnf)) ?_
        refine wl_split (d := 36) rfl (fun hg36 => ?_) (fun hg36 => ?_)
        · exact absurd (of_decide_eq_true hg36) (by simp)
        · refine wl_yes rfl (congrArg Value.bool hg36) ?_
          refine wl_val (rn_move (by conv => lhs; whnf)) ?_
          refine wl_yes rfl (congrArg Value.bool hg36) ?_
          refine wl_val (rn_fieldAddr f_57_1 (by decide) rfl) ?_
          refine wl_yes rfl (congrArg Value.bool hg36) ?_
          refine wl_val (rn_load1 p_36 rfl hB3 rfl) ?_
          refine wl_yes rfl (congrArg Value.bool hg36) ?_
          refine wl_val (rn_load1 p_3 rfl hB5 rfl) ?_
          refine wl_yes rfl (congrArg Value.bool hg36) ?_
          refine wl_val (rn_indexAddr sl_36 (a := ⟨bq2, oq2, none⟩) (n := ys.length) (c := c4) (by rw [← eaq2]; rfl) rfl (by omega)) ?_
          refine wl_yes rfl (congrArg Value.bool hg36) ?_
          refine wl_val (rn_load p_3 rfl (((eaq2 ▸ hp.x2 : Sl Non w (.slice (some ⟨bq2, oq2, none⟩) ys.length c4) 1 (ys.map eI1)).ext hXo (fun _ h => h)).at0 (eI_at (i := ((pre.length : Nat) : Int).toNat) hz2) rfl)) ?_
          refine wl_yes rfl (congrArg Value.bool hg36) ?_
          refine wl_val (rn_neq rfl rfl) ?_
          refine wl_val (rn_pickF (congrArg Value.bool hg36) (by conv => lhs; whnf)) ?_
          refine wl_nil ?_
          refine W_cond rfl (fun hc2 => ?_) (fun hc2 => ?_)
          · exact absurd (of_decide_eq_true hc2) (by simp)
          · refine W_skip ?_
            refine W_region ?_
            refine wl_val (rn_load1 p_3 rfl hB5 rfl) ?_
            refine wl_val (rn_add rfl rfl (by omega)) ?_
            have hBo := hB5
            refine wl_store1 (b := b5) p_3 rfl (by conv => lhs; whnf) rfl rfl hB5 (Nat.le_of_ble_eq_true rfl) ?_; intro w9 hE9 hB5 hz9
            replace hX := hX.mine hE9 hl5
            replace hB3 := hB3.ext hE9 (fun h => by omega); replace hB4 := hB4.ext hE9 (fun h => by omega)
            replace hXo := hXo.mine hE9 (.inr ho5)
            replace hDk := hDk.box hE9 hBo
            replace hW := hW.mine hE9 (.inl rfl)
            refine wl_nil ?_
            replace hB5 := hB5.cast (show [Value.int .i64 ((pre.length : Int) + 1)] = [.int .i64 ((pre ++ [x]).length : Nat)] by simp)
            exact ⟨hX, ⟨hB3, hK3.2⟩, ⟨hB4, hK4.2⟩, ⟨hB5, hK5.2⟩, hXo, hW, hDk, trivial⟩
    · rintro N rk w' ⟨hK3, hK4, hK5, hXo, hW, hDk, hIr⟩ hN hA hr hrd
      have hB3 := hK3.1
      have hB4 := hK4.1
      have hB5 := hK5.1
      have hX := hXo; have hD := hDk.add hrd (Nat.le_trans hszr (hN rk hr).1) hr
      refine W_seq ?_
      refine W_region ?_
      refine wl_val (rn_load1 p_3 rfl hB5 rfl) ?_
      refine wl_val (rn_fieldAddr f_57_0 (by decide) rfl) ?_
      refine wl_val (rn_load1 p_52 rfl hB3 rfl) ?_
      refine wl_val (rn_len sl_52 rfl) ?_
      refine wl_val (rn_eql rfl rfl) ?_
      have hBo := hB4
      refine wl_store1 (b := b4) p_4 rfl (by conv => lhs; whnf) rfl rfl hB4 (Nat.le_of_ble_eq_true rfl) ?_; intro w10 hE10 hB4 hz10
      replace hX := hX.mine hE10 hl4
      replace hB3 := hB3.ext hE10 (fun h => by omega); replace hB5 := hB5.ext hE10 (fun h => by omega)
      replace hD := hD.box hE10 hBo
      refine wl_nil ?_
      refine W_ret ?_
      refine hD.leave fun B hB => ?_
      have hB3 := hB3.ext hB (hD.ne hB3)
      have hB4 := hB4.ext hB (hD.ne hB4)
      have hB5 := hB5.ext hB (hD.ne hB5)
      have hX := hD.out hX hB
      exact ⟨_, resR1 (res1_cell p_4 rfl hB4), hX, by rw [zip_len hle]; exact congrArg Value.bool (decide_eq_true rfl)⟩
    · intro c N rk w' h; exact h.elim
-- bellman/bellmanlaw03.SetMaps
set_option maxHeartbeats 8000000 in
theorem setMaps_ok (w : World) (keys : List Str) (vals : List Int) (puts : List Bool) {v0 v1 v2 : Value} (h0 : Sl Non w v0 1 (keys.map eS1)) (h1 : Sl Non w v1 1 (vals.map eI1)) (h2 : Sl Non w v2 1 (puts.map eB1)) : Fn Try.prog 7 #[v0, v1, v2] w fun u w' => u = .bool true := by
  obtain ⟨a0, c0, rfl, hb0⟩ := h0.len; obtain ⟨a1, c1, rfl, hb1⟩ := h1.len; obtain ⟨a2, c2, rfl, hb2⟩ := h2.len
  simp only [List.length_map] at h0 h1 h2 hb0 hb1 hb2 ⊢
  have hbig2 : big = 9223372036854775807 := rfl
  have hX := Ext.refl Non w
  refine fn_of_W (args := [_, _, _]) Try.func7 rfl (by kernel_rfl) rfl ?_
  refine W_seq ?_
  refine W_region ?_
  refine wl_val (rn_assign (by conv => lhs; whnf)) ?_
  refine wl_nil ?_
  refine W_seq ?_
  refine W_seq ?_
  refine W_region ?_
  refine wl_call e_24 rfl (awake03_ok w) ?_; intro v16 w1 hE1 hR1
  replace hX := hX.tr hE1
  subst hR1
  refine wl_val (rn_not rfl) ?_
  refine wl_nil ?_
  refine W_cond rfl (fun hc0 => ?_) (fun hc0 => ?_)
  · exact absurd hc0 (by decide)
  · refine W_skip ?_
    refine W_seq ?_
    refine W_seq ?_
    refine W_region ?_
    refine wl_val (rn_move (by conv => lhs; whnf)) ?_
    refine wl_val (rn_len sl_52 rfl) ?_
    refine wl_val (rn_gtr rfl rfl) ?_
    refine wl_val (rn_move (by conv => lhs; whnf)) ?_
    refine wl_split (d := 21) rfl (fun hg21 => ?_) (fun hg21 => ?_)
    · refine wl_no rfl (congrArg Value.bool hg21) ?_
      refine wl_no rfl (congrArg Value.bool hg21) ?_
      refine wl_no rfl (congrArg Value.bool hg21) ?_
      refine wl_no rfl (congrArg Value.bool hg21) ?_
      refine wl_no rfl (congrArg Value.bool hg21) ?_
      refine wl_val (rn_pickT (congrArg Value.bool hg21) (by conv => lhs; whnf)) ?_
      refine wl_val (rn_move (by conv => lhs; whnf)) ?_
      refine wl_no rfl rfl ?_
      refine wl_no rfl rfl ?_
      refine wl_no rfl rfl ?_
      refine wl_no rfl rfl ?_
      refine wl_no rfl rfl ?_
      refine wl_val (rn_pickT rfl (by conv => lhs; whnf)) ?_
      refine wl_nil ?_
      refine W_condT rfl ?_
      refine W_seq ?_
      refine W_region ?_
      refine wl_val (rn_assign (by conv => lhs; whnf)) ?_
      refine wl_nil ?_
      refine W_ret ?_
      exact ⟨_, resR1 (res1_tmp rfl), hX, rfl⟩
    · have hkl3 : keys.length ≤ 300 := by have := of_decide_eq_false hg21; omega
      refine wl_yes rfl (congrArg Value.bool hg21) ?_
      refine wl_val (rn_move (by conv => lhs; whnf)) ?_
      refine wl_yes rfl (congrArg Value.bool hg21) ?_
      refine wl_val (rn_len sl_53 rfl) ?_
      refine wl_yes rfl (congrArg Value.bool hg21) ?_
      refine wl_val (rn_move (by conv => lhs; whnf)) ?_
      refine wl_yes rfl (congrArg Value.bool hg21) ?_
      refine wl_val (rn_len sl_52 rfl) ?_
      refine wl_yes rfl (congrArg Value.bool hg21) ?_
      refine wl_val (rn_lss rfl rfl) ?_
      refine wl_val (rn_pickF (congrArg Value.bool hg21) (by conv => lhs; whnf)) ?_
      refine wl_val (rn_move (by conv => lhs; whnf)) ?_
      refine wl_split (d := 28) rfl (fun hg28 => ?_) (fun hg28 => ?_)
      · refine wl_no rfl (congrArg Value.bool hg28) ?_
        refine wl_no rfl (congrArg Value.bool hg28) ?_
        refine wl_no rfl (congrArg Value.bool hg28) ?_
        refine wl_no rfl (congrArg Value.bool hg28) ?_
        refine wl_no rfl (congrArg Value.bool hg28) ?_
        refine wl_val (rn_pickT (congrArg Value.bool hg28) (by conv => lhs; whnf)) ?_
        refine wl_nil ?_
        refine W_condT rfl ?_
        refine W_seq ?_
        refine W_region ?_
        refine wl_val (rn_assign (by conv => lhs; whnf)) ?_
        refine wl_nil ?_
        refine W_ret ?_
        exact ⟨_, resR1 (res1_tmp rfl), hX, rfl⟩
      · have hpl : keys.length ≤ puts.length := by have := of_decide_eq_false hg28; omega
        refine wl_yes rfl (congrArg Value.bool hg28) ?_
        refine wl_val (rn_move (by conv => lhs; whnf)) ?_
        refine wl_yes rfl (congrArg Value.bool hg28) ?_
        refine wl_val (rn_len sl_36 rfl) ?_
        refine wl_yes rfl (congrArg Value.bool hg28) ?_
        refine wl_val (rn_move (by conv => lhs; whnf)) ?_
        refine wl_yes rfl (congrArg Value.bool hg28) ?_
        refine wl_val (rn_len sl_52 rfl) ?_
        refine wl_yes rfl (congrArg Value.bool hg28) ?_
        refine wl_val (rn_lss rfl rfl) ?_
        refine wl_val (rn_pickF (congrArg Value.bool hg28) (by conv => lhs; whnf)) ?_
        refine wl_nil ?_
        refine W_cond rfl (fun hc1 => ?_) (fun hc1 => ?_)
        · refine W_seq ?_
          refine W_region ?_
          refine wl_val (rn_assign (by conv => lhs; whnf)) ?_
          refine wl_nil ?_
          refine W_ret ?_
          exact ⟨_, resR1 (res1_tmp rfl), hX, rfl⟩
        · have hvl : keys.length ≤ vals.length := by have := of_decide_eq_false hc1; omega
          refine W_skip ?_
          refine W_seq ?_
          refine W_region ?_
          refine wl_alloc z_55 ?_; intro b7 w2 hb7 hE2 hB7
          have hq7 : w.heap.size ≤ b7 := Nat.le_trans hX.size hb7
          have hl7 : Mine Non w b7 := .inr hq7
          replace hX := hX.tr hE2
          refine wl_nil ?_
          refine W_seq ?_
          refine W_region ?_
          refine wl_val (rn_build' b_57 rfl rfl (cs := [.slice none 0 0, .slice none 0 0]) rfl) ?_
          refine wl_alloc z_57 ?_; intro b8 w3 hb8 hE3 hB8
          have hn7_8 : b7 < b8 := Nat.lt_of_lt_of_le hB7.lt hb8
          have hq8 : w.heap.size ≤ b8 := Nat.le_trans hX.size hb8
          have hl8 : Mine Non w b8 := .inr hq8
          replace hX := hX.tr hE3
          replace hB7 := hB7.ext hE3 id
          refine wl_storeB s_57 rfl rfl rfl (two1 rfl rfl) hB8 rfl ?_; intro w4 hE4 hB8 hz4
          replace hX := hX.mine hE4 hl8
          replace hB7 := hB7.ext hE4 (fun h => by omega)
          refine wl_nil ?_
          refine W_seq ?_
          refine W_seq ?_
          refine W_region ?_
          refine wl_val (rn_assign (by conv => lhs; whnf)) ?_
          refine wl_nil ?_
          refine W_block ?_   -- block 0
          refine W_loopS (S := Nat × List Str × List Int × Value × Value × Value × Value) [0, 1, 2, 7, 8, 9] (fun ⟨i, ks, ys, u1, u2, r1, r2⟩ => [.slice a0 keys.length c0, .slice a1 vals.length c1, .slice a2 puts.length c2, .pointer (some ⟨b7, 0, none⟩), .pointer (some ⟨b8, 0, none⟩), .int .i64 (i : Nat)]) (fun ⟨i, ks, ys, u1, u2, r1, r2⟩ A => (Ext Non w A) ∧ (IsBox A b7 [u1, u2]) ∧ (IsBox A b8 [r1, r2]) ∧ (Mine Non w b7) ∧ (Mine Non w b8) ∧ (b7 < b8) ∧ (i ≤ keys.length ∧ Mp (fun j => j = b7 ∨ j = b8) A u1 u2 r1 r2 ks ys ∧ ys.length = ks.length ∧ Sorted ltS ks ∧ ks.length ≤ i ∧ ∀ y ∈ ks, y.length ≤ 100)) (fun ⟨i, ks, ys, u1, u2, r1, r2⟩ => keys.length - i) (0, [], [], .slice none 0 0, .slice none 0 0, .slice none 0 0, .slice none 0 0) ⟨rfl, rfl, rfl, rfl, rfl, rfl, trivial⟩ ⟨hX, hB7, hB8, hl7, hl8, hn7_8, ⟨Nat.zero_le _, ⟨Sl.nil _ _ _, Sl.nil _ _ _, Sl.nil _ _ _, Sl.nil _ _ _⟩, rfl, List.Pairwise.nil, Nat.le_refl _, by simp⟩⟩ ?_
          rintro τ0 ⟨i, ks, ys, u1, u2, r1, r2⟩ A0 ⟨hX, hB7, hB8, hl7, hl8, hn7_8, hI0⟩
          obtain ⟨hik, hp, hle, hord, hnk, hkl⟩ := hI0
          obtain ⟨aq1, cq1, eq1, _⟩ := id hp.m1.len; subst eq1; obtain ⟨aq2, cq2, eq2, _⟩ := id hp.m2.len; subst eq2; obtain ⟨aq3, cq3, eq3, _⟩ := id hp.x1.len; subst eq3; obtain ⟨aq4, cq4, eq4, _⟩ := id hp.x2.len; subst eq4
          have hz7 := hB7.lt; have hz8 := hB8.lt
          have hp0 := hp.sub (M' := fun j => j = b7 ∨ j = b8 ∨ A0.heap.size ≤ j) (fun j h hlt => by rcases h with h | h | h; exact .inl h; exact .inr h; omega)
          have hzA : A0.heap.size ≤ A0.heap.size := Nat.le_refl _
          refine W_seq ?_
          refine W_seq ?_
          refine W_region ?_
          refine wl_val (rn_move (by conv => lhs; whnf)) ?_
          refine wl_val (rn_move (by conv => lhs; whnf)) ?_
          refine wl_val (rn_len sl_52 rfl) ?_
          refine wl_val (rn_lss rfl rfl) ?_
          refine wl_nil ?_
          refine W_cond rfl (fun hc2 => ?_) (fun hc2 => ?_)
          · have hlt := of_decide_eq_true hc2; simp only [Int.ofNat_lt] at hlt
            obtain ⟨k, hi⟩ : ∃ k, (keys)[i]? = some k := ⟨_, List.getElem?_eq_getElem hlt⟩
            obtain ⟨y, hj⟩ : ∃ y, vals[i]? = some y := ⟨_, List.getElem?_eq_getElem (by omega)⟩
            obtain ⟨pb, hpb⟩ : ∃ pb, puts[i]? = some pb := ⟨_, List.getElem?_eq_getElem (by omega)⟩
            obtain ⟨bb0, oo0, ea0⟩ := h0.base (by intro e; have := congrArg List.length e; simp only [List.length_map, List.length_nil] at this; omega); subst ea0
            obtain ⟨bb1, oo1, ea1⟩ := h1.base (by intro e; have := congrArg List.length e; simp only [List.length_map, List.length_nil] at this; omega); subst ea1
            obtain ⟨bb2, oo2, ea2⟩ := h2.base (by intro e; have := congrArg List.length e; simp only [List.length_map, List.length_nil] at this; omega); subst ea2
            refine W_skip ?_
            refine W_seq ?_
            refine W_block ?_   -- block 1
            refine W_seq ?_
            refine W_seq ?_
            refine W_region ?_
            refine wl_val (rn_move (by conv => lhs; whnf)) ?_
            refine wl_val (rn_move (by conv => lhs; whnf)) ?_
            refine wl_val (rn_indexAddr sl_52 rfl rfl (by omega)) ?_
            refine wl_val (rn_load p_9 rfl ((h0.ext hX (fun _ h => h)).at0 (eS_at hi) rfl)) ?_
            refine wl_val (rn_slen us_9 rfl) ?_
            refine wl_val (rn_gtr rfl rfl) ?_
            refine wl_nil ?_
            refine W_cond rfl (fun hc3 => ?_) (fun hc3 => ?_)
            · refine W_seq ?_
              refine W_region ?_
              refine wl_val (rn_assign (by conv => lhs; whnf)) ?_
              refine wl_nil ?_
              refine W_ret ?_
              exact ⟨_, resR1 (res1_tmp rfl), hX, rfl⟩
            · have hk100 : k.length ≤ 100 := by have := of_decide_eq_false hc3; omega
              refine W_skip ?_
              refine W_seq ?_
              refine W_drawX (fun j => false) mixed ?_; intro w5 hE5
              replace hX := hX.tr hE5
              replace hB7 := hB7.ext hE5 id; replace hB8 := hB8.ext hE5 id
              replace hp0 := hp0.ext hE5 (fun _ h => h.elim)
              replace hzA := Nat.le_trans hzA hE5.size
              have hS := Ext.refl Non w5
              refine wx_take 0 [4, 5] _ _ rfl (by kernel_rfl) hS (yd_do fun A hA => rn_loadB s_55 rfl rfl (hB7.ext hA id)) ?_
              refine wx_take 1 [5] _ _ rfl (by kernel_rfl) hS (yd_do fun A hA => rn_loadB s_57 rfl rfl (hB8.ext hA id)) ?_
              refine wx_two 2 3 _ _ rfl rfl (by kernel_rfl) ?_ ?_
              · refine s1_do ?_
                refine wl_alloc z_55 ?_; intro b10 w6 hb10 hE6 hB10
                have hn7_10 : b7 < b10 := Nat.lt_of_lt_of_le (Nat.lt_of_lt_of_le hB7.lt hS.size) hb10
                have hn8_10 : b8 < b10 := Nat.lt_of_lt_of_le (Nat.lt_of_lt_of_le hB8.lt hS.size) hb10
                have hq10 : w.heap.size ≤ b10 := Nat.le_trans (hX.tr hS).size hb10
                have hl10 : Mine Non w b10 := .inr hq10
                have hm10 : w5.heap.size ≤ b10 := Nat.le_trans hS.size hb10
                replace hS := hS.tr hE6
                refine wl_nil ⟨fun _ => hS, ?_⟩
                refine wx_only 3 _ rfl (by kernel_rfl) ?_
                refine s1_do ?_
                refine wl_alloc z_57 ?_; intro b11 w7 hb11 hE7 hB11
                have hn7_11 : b7 < b11 := Nat.lt_of_lt_of_le (Nat.lt_of_lt_of_le hB7.lt hS.size) hb11
                have hn8_11 : b8 < b11 := Nat.lt_of_lt_of_le (Nat.lt_of_lt_of_le hB8.lt hS.size) hb11
                have hn10_11 : b10 < b11 := Nat.lt_of_lt_of_le hB10.lt hb11
                have hq11 : w.heap.size ≤ b11 := Nat.le_trans (hX.tr hS).size hb11
                have hl11 : Mine Non w b11 := .inr hq11
                have hm11 : w5.heap.size ≤ b11 := Nat.le_trans hS.size hb11
                replace hB10 := hB10.ext hE7 id
                replace hS := hS.tr hE7
                refine wl_nil ⟨fun _ => hS, ?_⟩
                refine wx_only 4 _ rfl (by kernel_rfl) ?_
                refine s1_do ?_
                refine wl_storeB s_55 rfl rfl rfl (two1 rfl rfl) hB10 rfl ?_; intro w8 hE8 hB10 hz8
                replace hB11 := hB11.ext hE8 (fun h => by omega)
                replace hS := hS.mine hE8 (.inr (by omega))
                refine wl_nil ⟨fun _ => hS, ?_⟩
                refine wx_only 5 _ rfl (by kernel_rfl) ?_
                refine s1_do ?_
                refine wl_storeB s_57 rfl rfl rfl (two1 rfl rfl) hB11 rfl ?_; intro w9 hE9 hB11 hz9
                replace hB10 := hB10.ext hE9 (fun h => by omega)
                replace hS := hS.mine hE9 (.inr (by omega))
                refine wl_nil ⟨fun _ => hS, ?_⟩
                refine wx_done (by kernel_rfl) ?_ _
                replace hX := hX.tr hS
                replace hB7 := hB7.ext hS id; replace hB8 := hB8.ext hS id
                replace hp0 := hp0.ext hS (fun _ h => h.elim)
                replace hzA := Nat.le_trans hzA hS.size
                refine W_seq ?_
                refine W_seq ?_
                refine W_region ?_
                refine wl_val (rn_move (by conv => lhs; whnf)) ?_
                refine wl_val (rn_move (by conv => lhs; whnf)) ?_
                refine wl_val (rn_indexAddr sl_53 rfl rfl (by omega)) ?_
                refine wl_val (rn_load p_4 rfl ((h2.ext hX (fun _ h => h)).at0 (eB_at hpb) rfl)) ?_
                refine wl_nil ?_
                refine W_cond rfl (fun hc4 => ?_) (fun hc4 => ?_)
                · refine W_drawX (fun j => j == 20 || j == 21) mixed ?_; intro w10 hE10
                  replace hX := hX.tr hE10
                  replace hB7 := hB7.ext hE10 id; replace hB8 := hB8.ext hE10 id; replace hB10 := hB10.ext hE10 id; replace hB11 := hB11.ext hE10 id
                  replace hp0 := hp0.ext hE10 (fun _ h => h.elim)
                  replace hzA := Nat.le_trans hzA hE10.size
                  have hS := Ext.refl Non w10
                  refine wx_take 0 [9, 19, 20, 21] _ _ rfl (by kernel_rfl) hS (yd_do fun A hA => rn_loadB s_55 rfl rfl (hB7.ext hA id)) ?_
                  refine wx_take 1 [3, 4, 9, 19, 20, 21] _ _ rfl (by kernel_rfl) hS (yd_do fun A hA => rn_move (by conv => lhs; whnf)) ?_
                  refine wx_take 2 [3, 4, 9, 19, 20, 21] _ _ rfl (by kernel_rfl) hS (yd_do fun A hA => rn_move (by conv => lhs; whnf)) ?_
                  refine wx_take 3 [4, 9, 19, 20, 21] _ _ rfl (by kernel_rfl) hS (yd_do fun A hA => rn_indexAddr sl_52 rfl rfl (by omega)) ?_
                  refine wx_take 4 [9, 19, 20, 21] _ _ rfl (by kernel_rfl) hS (yd_do fun A hA => rn_load p_9 rfl (((h0.ext hX (fun _ h => h)).ext hA (fun _ h => h.elim)).at0 (eS_at hi) rfl)) ?_
                  refine wx_take 5 [7, 8, 9, 19, 20, 21] _ _ rfl (by kernel_rfl) hS (yd_do fun A hA => rn_move (by conv => lhs; whnf)) ?_
                  refine wx_take 6 [7, 8, 9, 19, 20, 21] _ _ rfl (by kernel_rfl) hS (yd_do fun A hA => rn_move (by conv => lhs; whnf)) ?_
                  refine wx_take 7 [8, 9, 19, 20, 21] _ _ rfl (by kernel_rfl) hS (yd_do fun A hA => rn_indexAddr sl_36 rfl rfl (by omega)) ?_
                  refine wx_take 8 [9, 19, 20, 21] _ _ rfl (by kernel_rfl) hS (yd_do fun A hA => rn_load p_3 rfl (((h1.ext hX (fun _ h => h)).ext hA (fun _ h => h.elim)).at0 (eI_at hj) rfl)) ?_
                  refine wx_take 10 [19, 20, 21] _ _ rfl (by kernel_rfl) hS (yd_do fun A hA => rn_loadB s_57 rfl rfl (hB8.ext hA id)) ?_
                  refine wx_take 11 [13, 14, 19, 20, 21] _ _ rfl (by kernel_rfl) hS (yd_do fun A hA => rn_move (by conv => lhs; whnf)) ?_
                  refine wx_take 12 [13, 14, 19, 20, 21] _ _ rfl (by kernel_rfl) hS (yd_do fun A hA => rn_move (by conv => lhs; whnf)) ?_
                  refine wx_take 13 [14, 19, 20, 21] _ _ rfl (by kernel_rfl) hS (yd_do fun A hA => rn_indexAddr sl_52 rfl rfl (by omega)) ?_
                  refine wx_take 14 [19, 20, 21] _ _ rfl (by kernel_rfl) hS (yd_do fun A hA => rn_load p_9 rfl (((h0.ext hX (fun _ h => h)).ext hA (fun _ h => h.elim)).at0 (eS_at hi) rfl)) ?_
                  refine wx_take 15 [17, 18, 19, 20, 21] _ _ rfl (by kernel_rfl) hS (yd_do fun A hA => rn_move (by conv => lhs; whnf)) ?_
                  refine wx_take 16 [17, 18, 19, 20, 21] _ _ rfl (by kernel_rfl) hS (yd_do fun A hA => rn_move (by conv => lhs; whnf)) ?_
                  refine wx_take 17 [18, 19, 20, 21] _ _ rfl (by kernel_rfl) hS (yd_do fun A hA => rn_indexAddr sl_36 rfl rfl (by omega)) ?_
                  refine wx_take 18 [19, 20, 21] _ _ rfl (by kernel_rfl) hS (yd_do fun A hA => rn_load p_3 rfl (((h1.ext hX (fun _ h => h)).ext hA (fun _ h => h.elim)).at0 (eI_at hj) rfl)) ?_
                  have hzc := Nat.le_trans hzA hS.size
                  refine wx_only 9 _ rfl (by kernel_rfl) ?_
                  refine s1_do ?_
                  refine wl_call e_31 rfl (mput_si w10 ks (ys.map eI1) k (MapR.mk ((hp0.m1.sub (M' := Non) (fun _ h _ => h.elim)).ext hS (fun _ h => h)) ((hp0.m2.sub (M' := Non) (fun _ h _ => h.elim)).ext hS (fun _ h => h)) (by simpa using hle)) hord (by omega) (eI_rows ys) y) ?_; intro v63 w11 hE11 hR11
                  replace hS := hS.tr hE11
                  obtain ⟨n1, n2, rfl, hM63⟩ := hR11
                  obtain ⟨e1, l1, g1, rfl⟩ := id hM63.keys.shape; obtain ⟨e2, l2, g2, rfl⟩ := id hM63.vals.shape
                  refine wl_nil ⟨fun _ => hS, ?_⟩
                  have hzd := Nat.le_trans hzA hS.size
                  refine wx_only 19 _ rfl (by kernel_rfl) ?_
                  refine s1_do ?_
                  refine wl_call e_32 rfl (rput_ok w11 ks ys k y ((hp0.x1.sub (M' := Non) (fun _ h _ => h.elim)).ext hS (fun _ h => h)) ((hp0.x2.sub (M' := Non) (fun _ h _ => h.elim)).ext hS (fun _ h => h)) hle hord (by omega) (fun z hz => by have := hkl z hz; omega) (by omega)) ?_; intro v73 w12 hE12 hR12
                  replace hS := hS.tr hE12
                  replace hM63 := hM63.ext hE12 (fun _ h => h.elim)
                  obtain ⟨n3, n4, rfl, hR1, hR2⟩ := hR12
                  obtain ⟨e3, l3, g3, rfl⟩ := id hR1.shape; obtain ⟨e4, l4, g4, rfl⟩ := id hR2.shape
                  have hq : Mp (fun j => j = b7 ∨ j = b8) w12 _ _ _ _ (putK ltS ks k) (putW ltS ks k ys y) := ⟨hM63.keys.sub (fun j hj _ => by show j < _; rcases hj with hj | hj <;> omega), by have h9 := hM63.vals.sub (M' := (fun j => j = b7 ∨ j = b8)) (fun j hj _ => by show j < _; rcases hj with hj | hj <;> omega); rw [putV_putW] at h9; exact h9, hR1.sub (fun j hj _ => by show j < _; rcases hj with hj | hj <;> omega), hR2.sub (fun j hj _ => by show j < _; rcases hj with hj | hj <;> omega)⟩
                  obtain ⟨ks2, hks2⟩ : ∃ x, x = putK ltS ks k := ⟨_, rfl⟩; obtain ⟨ys2, hys2⟩ : ∃ x, x = putW ltS ks k ys y := ⟨_, rfl⟩
                  rw [← hks2, ← hys2] at hq
                  have hle2 : ys2.length = ks2.length := by rw [hks2, hys2]; exact putW_len hle
                  have hord2 : Sorted ltS ks2 := by rw [hks2]; exact putK_sorted lo_str hord k
                  have hn2 : ks2.length ≤ i + 1 := by rw [hks2]; exact (by have := putK_len (lt := ltS) ks k; omega)
                  have hkl2 : ∀ y ∈ ks2, y.length ≤ 100 := by rw [hks2]; exact (fun z hz => by rcases (putK_mem lo_str hord k z).1 hz with rfl | h; exact hk100; exact hkl z h)
                  refine wl_nil ⟨fun _ => hS, ?_⟩
                  replace hX := hX.tr hS
                  replace hB7 := hB7.ext hS id; replace hB8 := hB8.ext hS id; replace hB10 := hB10.ext hS id; replace hB11 := hB11.ext hS id
                  replace hp0 := hp0.ext hS (fun _ h => h.elim)
                  replace hzA := Nat.le_trans hzA hS.size
                  refine wx_only 20 _ rfl (by kernel_rfl) ?_
                  refine s1_do ?_
                  have hBo := hB7
                  refine wl_storeB s_55 rfl rfl rfl (two1 rfl rfl) hB7 rfl ?_; intro w13 hE13 hB7 hz13
                  replace hX := hX.mine hE13 hl7
                  replace hB8 := hB8.ext hE13 (fun h => by omega); replace hB10 := hB10.ext hE13 (fun h => by omega); replace hB11 := hB11.ext hE13 (fun h => by omega)
                  replace hp0 := hp0.ext hE13 (fun i e => by first | exact .inl e | exact .inr (.inl e) | exact .inr (.inr (by omega)))
                  replace hzA := Nat.le_trans hzA hE13.size
                  replace hM63 := hM63.ext hE13 (fun i e => by show i < _; omega)
                  replace hq := hq.ext hE13 (fun i e => by first | exact .inl e | exact .inr e)
                  refine wl_nil ⟨fun h => absurd h (by decide), ?_⟩
                  refine wx_only 21 _ rfl (by kernel_rfl) ?_
                  refine s1_do ?_
                  have hBo := hB8
                  refine wl_storeB s_57 rfl rfl rfl (two1 rfl rfl) hB8 rfl ?_; intro w14 hE14 hB8 hz14
                  replace hX := hX.mine hE14 hl8
                  replace hB7 := hB7.ext hE14 (fun h => by omega); replace hB10 := hB10.ext hE14 (fun h => by omega); replace hB11 := hB11.ext hE14 (fun h => by omega)
                  replace hp0 := hp0.ext hE14 (fun i e => by first | exact .inl e | exact .inr (.inl e) | exact .inr (.inr (by omega)))
                  replace hzA := Nat.le_trans hzA hE14.size
                  replace hM63 := hM63.ext hE14 (fun i e => by show i < _; omega)
                  replace hq := hq.ext hE14 (fun i e => by first | exact .inl e | exact .inr e)
                  refine wl_nil ⟨fun h => absurd h (by decide), ?_⟩
                  refine wx_done (by kernel_rfl) ?_ _
                  refine W_seq ?_
                  refine W_drawE mixed ?_; intro w15 hE15
                  replace hX := hX.tr hE15
                  replace hB7 := hB7.ext hE15 id; replace hB8 := hB8.ext hE15 id; replace hB10 := hB10.ext hE15 id; replace hB11 := hB11.ext hE15 id
                  replace hp0 := hp0.ext hE15 (fun _ h => h.elim)
                  replace hzA := Nat.le_trans hzA hE15.size
                  replace hM63 := hM63.ext hE15 (fun _ h => h.elim)
                  replace hq := hq.ext hE15 (fun _ h => h.elim)
                  have hS := Ext.refl Non w15
                  refine wd_take 0 _ _ rfl (by kernel_rfl) hS (yd_do fun A hA => rn_loadB s_55 rfl rfl (hB7.ext hA id)) ?_
                  refine wd_take 1 _ _ rfl (by kernel_rfl) hS (yd_do fun A hA => rn_move (by conv => lhs; whnf)) ?_
                  refine wd_take 2 _ _ rfl (by kernel_rfl) hS (yd_do fun A hA => rn_move (by conv => lhs; whnf)) ?_
                  refine wd_take 3 _ _ rfl (by kernel_rfl) hS (yd_do fun A hA => rn_indexAddr sl_52 rfl rfl (by omega)) ?_
                  refine wd_take 4 _ _ rfl (by kernel_rfl) hS (yd_do fun A hA => rn_load p_9 rfl (((h0.ext hX (fun _ h => h)).ext hA (fun _ h => h.elim)).at0 (eS_at hi) rfl)) ?_
                  refine wd_only 5 _ rfl (by kernel_rfl) ?_
                  refine s1_do ?_
                  refine wl_call e_35 rfl (mget_si w15 ks2 (ys2.map eI1) k ((((hq.sub (M' := Non) (fun _ h _ => h.elim))).mp hle2).ext hS (fun _ h => h)) hord2 (by omega) (eI_each ys2)) ?_; intro v92 w16 hE16 hR16
                  replace hS := hS.tr hE16
                  obtain ⟨z1, rfl, hz1a, hz1b⟩ := hR16
                  refine wl_nil ⟨hS, ?_⟩
                  refine wd_take 6 _ _ rfl (by kernel_rfl) hS (yd_do fun A hA => rn_move (by conv => lhs; whnf)) ?_
                  refine wd_take 7 _ _ rfl (by kernel_rfl) hS (yd_do fun A hA => rn_extract rfl rfl) ?_
                  refine wd_take 8 _ _ rfl (by kernel_rfl) hS (yd_do fun A hA => rn_extract rfl rfl) ?_
                  refine wd_take 9 _ _ rfl (by kernel_rfl) hS (yd_do fun A hA => rn_assign (by conv => lhs; whnf)) ?_
                  refine wd_take 10 _ _ rfl (by kernel_rfl) hS (yd_do fun A hA => rn_assign (by conv => lhs; whnf)) ?_
                  refine wd_done (by kernel_rfl) ?_ _
                  replace hX := hX.tr hS
                  replace hB7 := hB7.ext hS id; replace hB8 := hB8.ext hS id; replace hB10 := hB10.ext hS id; replace hB11 := hB11.ext hS id
                  replace hp0 := hp0.ext hS (fun _ h => h.elim)
                  replace hzA := Nat.le_trans hzA hS.size
                  replace hM63 := hM63.ext hS (fun _ h => h.elim)
                  replace hq := hq.ext hS (fun _ h => h.elim)
                  refine W_seq ?_
                  refine W_drawE mixed ?_; intro w17 hE17
                  replace hX := hX.tr hE17
                  replace hB7 := hB7.ext hE17 id; replace hB8 := hB8.ext hE17 id; replace hB10 := hB10.ext hE17 id; replace hB11 := hB11.ext hE17 id
                  replace hp0 := hp0.ext hE17 (fun _ h => h.elim)
                  replace hzA := Nat.le_trans hzA hE17.size
                  replace hM63 := hM63.ext hE17 (fun _ h => h.elim)
                  replace hq := hq.ext hE17 (fun _ h => h.elim)
                  have hS := Ext.refl Non w17
                  refine wd_take 0 _ _ rfl (by kernel_rfl) hS (yd_do fun A hA => rn_loadB s_57 rfl rfl (hB8.ext hA id)) ?_
                  refine wd_take 1 _ _ rfl (by kernel_rfl) hS (yd_do fun A hA => rn_move (by conv => lhs; whnf)) ?_
                  refine wd_take 2 _ _ rfl (by kernel_rfl) hS (yd_do fun A hA => rn_move (by conv => lhs; whnf)) ?_
                  refine wd_take 3 _ _ rfl (by kernel_rfl) hS (yd_do fun A hA => rn_indexAddr sl_52 rfl rfl (by omega)) ?_
                  refine wd_take 4 _ _ rfl (by kernel_rfl) hS (yd_do fun A hA => rn_load p_9 rfl (((h0.ext hX (fun _ h => h)).ext hA (fun _ h => h.elim)).at0 (eS_at hi) rfl)) ?_
                  refine wd_only 5 _ rfl (by kernel_rfl) ?_
                  refine s1_do ?_
                  refine wl_call e_36 rfl (rget_ok w17 ks2 ys2 k (((hq.sub (M' := Non) (fun _ h _ => h.elim))).x1.ext hS (fun _ h => h)) (((hq.sub (M' := Non) (fun _ h _ => h.elim))).x2.ext hS (fun _ h => h)) hle2 hord2 (by omega)) ?_; intro v101 w18 hE18 hR18
                  replace hS := hS.tr hE18
                  obtain ⟨z2, rfl, hz2a, hz2b⟩ := hR18
                  obtain rfl := same_get hz1a hz1b hz2a hz2b
                  refine wl_nil ⟨hS, ?_⟩
                  refine wd_take 6 _ _ rfl (by kernel_rfl) hS (yd_do fun A hA => rn_move (by conv => lhs; whnf)) ?_
                  refine wd_take 7 _ _ rfl (by kernel_rfl) hS (yd_do fun A hA => rn_extract rfl rfl) ?_
                  refine wd_take 8 _ _ rfl (by kernel_rfl) hS (yd_do fun A hA => rn_extract rfl rfl) ?_
                  refine wd_take 9 _ _ rfl (by kernel_rfl) hS (yd_do fun A hA => rn_assign (by conv => lhs; whnf)) ?_
                  refine wd_take 10 _ _ rfl (by kernel_rfl) hS (yd_do fun A hA => rn_assign (by conv => lhs; whnf)) ?_
                  refine wd_done (by kernel_rfl) ?_ _
                  replace hX := hX.tr hS
                  replace hB7 := hB7.ext hS id; replace hB8 := hB8.ext hS id; replace hB10 := hB10.ext hS id; replace hB11 := hB11.ext hS id
                  replace hp0 := hp0.ext hS (fun _ h => h.elim)
                  replace hzA := Nat.le_trans hzA hS.size
                  replace hM63 := hM63.ext hS (fun _ h => h.elim)
                  replace hq := hq.ext hS (fun _ h => h.elim)
                  refine W_seq ?_
                  refine W_region ?_
                  refine wl_val (rn_loadB s_55 rfl rfl hB7) ?_
                  refine wl_val (rn_loadB s_57 rfl rfl hB8) ?_
                  refine wl_call e_37 rfl (same_ok w18 ks2 ys2 hle2 (by omega) hord2 (hq.sub (M' := Non) (fun _ h _ => h.elim))) ?_; intro v106 w19 hE19 hR19
                  replace hX := hX.tr hE19
                  replace hB7 := hB7.ext hE19 id; replace hB8 := hB8.ext hE19 id; replace hB10 := hB10.ext hE19 id; replace hB11 := hB11.ext hE19 id
                  replace hp0 := hp0.ext hE19 (fun _ h => h.elim)
                  replace hzA := Nat.le_trans hzA hE19.size
                  replace hM63 := hM63.ext hE19 (fun _ h => h.elim)
                  replace hq := hq.ext hE19 (fun _ h => h.elim)
                  subst hR19
                  refine wl_val (rn_not rfl) ?_
                  refine wl_val (rn_move (by conv => lhs; whnf)) ?_
                  refine wl_split (d := 108) rfl (fun hg108 => ?_) (fun hg108 => ?_)
                  · exact absurd hg108 (by decide)
                  · refine wl_yes rfl (congrArg Value.bool hg108) ?_
                    refine wl_val (rn_loadB s_55 rfl rfl hB10) ?_
                    refine wl_yes rfl (congrArg Value.bool hg108) ?_
                    refine wl_val (rn_loadB s_57 rfl rfl hB11) ?_
                    refine wl_yes rfl (congrArg Value.bool hg108) ?_
                    refine wl_call e_37 rfl (same_ok w19 ks ys hle (by omega) hord (hp0.sub (M' := Non) (fun _ h _ => h.elim))) ?_; intro v111 w20 hE20 hR20
                    replace hX := hX.tr hE20
                    replace hB7 := hB7.ext hE20 id; replace hB8 := hB8.ext hE20 id; replace hB10 := hB10.ext hE20 id; replace hB11 := hB11.ext hE20 id
                    replace hp0 := hp0.ext hE20 (fun _ h => h.elim)
                    replace hzA := Nat.le_trans hzA hE20.size
                    replace hM63 := hM63.ext hE20 (fun _ h => h.elim)
                    replace hq := hq.ext hE20 (fun _ h => h.elim)
                    subst hR20
                    refine wl_yes rfl (congrArg Value.bool hg108) ?_
                    refine wl_val (rn_not rfl) ?_
                    refine wl_val (rn_pickF (congrArg Value.bool hg108) (by conv => lhs; whnf)) ?_
                    refine wl_val (rn_move (by conv => lhs; whnf)) ?_
                    refine wl_split (d := 114) rfl (fun hg114 => ?_) (fun hg114 => ?_)
                    · exact absurd hg114 (by decide)
                    · refine wl_yes rfl (congrArg Value.bool hg114) ?_
                      refine wl_val (rn_move (by conv => lhs; whnf)) ?_
                      refine wl_yes rfl (congrArg Value.bool hg114) ?_
                      refine wl_val (rn_move (by conv => lhs; whnf)) ?_
                      refine wl_yes rfl (congrArg Value.bool hg114) ?_
                      refine wl_val (rn_neq rfl rfl) ?_
                      refine wl_val (rn_pickF (congrArg Value.bool hg114) (by conv => lhs; whnf)) ?_
                      refine wl_val (rn_move (by conv => lhs; whnf)) ?_
                      refine wl_split (d := 119) rfl (fun hg119 => ?_) (fun hg119 => ?_)
                      · exact absurd (of_decide_eq_true hg119) (by simp)
                      · refine wl_yes rfl (congrArg Value.bool hg119) ?_
                        refine wl_val (rn_move (by conv => lhs; whnf)) ?_
                        refine wl_yes rfl (congrArg Value.bool hg119) ?_
                        refine wl_val (rn_move (by conv => lhs; whnf)) ?_
                        refine wl_yes rfl (congrArg Value.bool hg119) ?_
                        refine wl_val (rn_bneq ub_4 rfl rfl) ?_
                        refine wl_val (rn_pickF (congrArg Value.bool hg119) (by conv => lhs; whnf)) ?_
                        refine wl_nil ?_
                        refine W_cond rfl (fun hc5 => ?_) (fun hc5 => ?_)
                        · exact absurd (of_decide_eq_true hc5) (by simp)
                        · refine W_skip ?_
                          refine W_region ?_
                          refine wl_val (rn_move (by conv => lhs; whnf)) ?_
                          refine wl_val (rn_add rfl rfl (by omega)) ?_
                          refine wl_val (rn_assign (by conv => lhs; whnf)) ?_
                          refine wl_nil ?_
                          exact ⟨rfl, (i + 1, ks2, ys2, _, _, _, _), ⟨rfl, rfl, rfl, rfl, rfl, rfl, trivial⟩, ⟨hX, hB7, hB8, hl7, hl8, hn7_8, ⟨hlt, hq, hle2, hord2, hn2, hkl2⟩⟩, by show keys.length - (i + 1) < keys.length - i; omega⟩
                · refine W_drawX (fun j => j == 12 || j == 13) mixed ?_; intro w21 hE21
                  replace hX := hX.tr hE21
                  replace hB7 := hB7.ext hE21 id; replace hB8 := hB8.ext hE21 id; replace hB10 := hB10.ext hE21 id; replace hB11 := hB11.ext hE21 id
                  replace hp0 := hp0.ext hE21 (fun _ h => h.elim)
                  replace hzA := Nat.le_trans hzA hE21.size
                  have hS := Ext.refl Non w21
                  refine wx_take 0 [5, 11, 12, 13] _ _ rfl (by kernel_rfl) hS (yd_do fun A hA => rn_loadB s_55 rfl rfl (hB7.ext hA id)) ?_
                  refine wx_take 1 [3, 4, 5, 11, 12, 13] _ _ rfl (by kernel_rfl) hS (yd_do fun A hA => rn_move (by conv => lhs; whnf)) ?_
                  refine wx_take 2 [3, 4, 5, 11, 12, 13] _ _ rfl (by kernel_rfl) hS (yd_do fun A hA => rn_move (by conv => lhs; whnf)) ?_
                  refine wx_take 3 [4, 5, 11, 12, 13] _ _ rfl (by kernel_rfl) hS (yd_do fun A hA => rn_indexAddr sl_52 rfl rfl (by omega)) ?_
                  refine wx_take 4 [5, 11, 12, 13] _ _ rfl (by kernel_rfl) hS (yd_do fun A hA => rn_load p_9 rfl (((h0.ext hX (fun _ h => h)).ext hA (fun _ h => h.elim)).at0 (eS_at hi) rfl)) ?_
                  refine wx_take 6 [11, 12, 13] _ _ rfl (by kernel_rfl) hS (yd_do fun A hA => rn_loadB s_57 rfl rfl (hB8.ext hA id)) ?_
                  refine wx_take 7 [9, 10, 11, 12, 13] _ _ rfl (by kernel_rfl) hS (yd_do fun A hA => rn_move (by conv => lhs; whnf)) ?_
                  refine wx_take 8 [9, 10, 11, 12, 13] _ _ rfl (by kernel_rfl) hS (yd_do fun A hA => rn_move (by conv => lhs; whnf)) ?_
                  refine wx_take 9 [10, 11, 12, 13] _ _ rfl (by kernel_rfl) hS (yd_do fun A hA => rn_indexAddr sl_52 rfl rfl (by omega)) ?_
                  refine wx_take 10 [11, 12, 13] _ _ rfl (by kernel_rfl) hS (yd_do fun A hA => rn_load p_9 rfl (((h0.ext hX (fun _ h => h)).ext hA (fun _ h => h.elim)).at0 (eS_at hi) rfl)) ?_
                  have hzc := Nat.le_trans hzA hS.size
                  refine wx_only 5 _ rfl (by kernel_rfl) ?_
                  refine s1_do ?_
                  refine wl_call e_33 rfl (mdrop_si w21 (fun j => j = b7 ∨ j = b8) (fun j hj => by rcases hj with hj | hj <;> omega) ks (ys.map eI1) k (MapR.mk ((hp0.m1.sub (fun j h _ => by rcases h with h | h; exact .inl h; exact .inr (.inl h))).ext hS (fun _ h => h.elim)) ((hp0.m2.sub (fun j h _ => by rcases h with h | h; exact .inl h; exact .inr (.inl h))).ext hS (fun _ h => h.elim)) (by simpa using hle)) hord (by omega) (eI_rows ys)) ?_; intro v79 w22 hE22 hR22
                  replace hS := hS.tr hE22
                  obtain ⟨n1, n2, rfl, hM79⟩ := hR22
                  obtain ⟨e1, l1, g1, rfl⟩ := id hM79.keys.shape; obtain ⟨e2, l2, g2, rfl⟩ := id hM79.vals.shape
                  refine wl_nil ⟨fun _ => hS, ?_⟩
                  have hzd := Nat.le_trans hzA hS.size
                  refine wx_only 11 _ rfl (by kernel_rfl) ?_
                  refine s1_do ?_
                  refine wl_call e_34 rfl (rdrop_ok w22 ks ys k ((hp0.x1.sub (M' := Non) (fun _ h _ => h.elim)).ext hS (fun _ h => h)) ((hp0.x2.sub (M' := Non) (fun _ h _ => h.elim)).ext hS (fun _ h => h)) hle hord (by omega)) ?_; intro v85 w23 hE23 hR23
                  replace hS := hS.tr hE23
                  replace hM79 := hM79.ext hE23 (fun _ h => h.elim)
                  obtain ⟨n3, n4, rfl, hR1, hR2⟩ := hR23
                  obtain ⟨e3, l3, g3, rfl⟩ := id hR1.shape; obtain ⟨e4, l4, g4, rfl⟩ := id hR2.shape
                  have hq : Mp (fun j => j = b7 ∨ j = b8) w23 _ _ _ _ (dropK ltS ks k) (dropV ltS ks k ys) := ⟨hM79.keys, by have h9 := hM79.vals; rw [dropV_map] at h9; exact h9, hR1.sub (fun j hj _ => by show j < _; rcases hj with hj | hj <;> omega), hR2.sub (fun j hj _ => by show j < _; rcases hj with hj | hj <;> omega)⟩
                  obtain ⟨ks2, hks2⟩ : ∃ x, x = dropK ltS ks k := ⟨_, rfl⟩; obtain ⟨ys2, hys2⟩ : ∃ x, x = dropV ltS ks k ys := ⟨_, rfl⟩
                  rw [← hks2, ← hys2] at hq
                  have hle2 : ys2.length = ks2.length := by rw [hks2, hys2]; exact dropV_len hle
                  have hord2 : Sorted ltS ks2 := by rw [hks2]; exact dropK_sorted hord k
                  have hn2 : ks2.length ≤ i + 1 := by rw [hks2]; exact (by have := dropK_len (lt := ltS) ks k; omega)
                  have hkl2 : ∀ y ∈ ks2, y.length ≤ 100 := by rw [hks2]; exact (fun z hz => hkl z ((dropK_sub ks k).subset hz))
                  refine wl_nil ⟨fun _ => hS, ?_⟩
                  replace hX := hX.tr hS
                  replace hB7 := hB7.ext hS id; replace hB8 := hB8.ext hS id; replace hB10 := hB10.ext hS id; replace hB11 := hB11.ext hS id
                  replace hp0 := hp0.ext hS (fun _ h => h.elim)
                  replace hzA := Nat.le_trans hzA hS.size
                  refine wx_only 12 _ rfl (by kernel_rfl) ?_
                  refine s1_do ?_
                  have hBo := hB7
                  refine wl_storeB s_55 rfl rfl rfl (two1 rfl rfl) hB7 rfl ?_; intro w24 hE24 hB7 hz24
                  replace hX := hX.mine hE24 hl7
                  replace hB8 := hB8.ext hE24 (fun h => by omega); replace hB10 := hB10.ext hE24 (fun h => by omega); replace hB11 := hB11.ext hE24 (fun h => by omega)
                  replace hp0 := hp0.ext hE24 (fun i e => by first | exact .inl e | exact .inr (.inl e) | exact .inr (.inr (by omega)))
                  replace hzA := Nat.le_trans hzA hE24.size
                  replace hM79 := hM79.ext hE24 (fun i e => by first | exact .inl e | exact .inr e)
                  replace hq := hq.ext hE24 (fun i e => by first | exact .inl e | exact .inr e)
                  refine wl_nil ⟨fun h => absurd h (by decide), ?_⟩
                  refine wx_only 13 _ rfl (by kernel_rfl) ?_
                  refine s1_do ?_
                  have hBo := hB8
                  refine wl_storeB s_57 rfl rfl rfl (two1 rfl rfl) hB8 rfl ?_; intro w25 hE25 hB8 hz25
                  replace hX := hX.mine hE25 hl8
                  replace hB7 := hB7.ext hE25 (fun h => by omega); replace hB10 := hB10.ext hE25 (fun h => by omega); replace hB11 := hB11.ext hE25 (fun h => by omega)
                  replace hp0 := hp0.ext hE25 (fun i e => by first | exact .inl e | exact .inr (.inl e) | exact .inr (.inr (by omega)))
                  replace hzA := Nat.le_trans hzA hE25.size
                  replace hM79 := hM79.ext hE25 (fun i e => by first | exact .inl e | exact .inr e)
                  replace hq := hq.ext hE25 (fun i e => by first | exact .inl e | exact .inr e)
                  refine wl_nil ⟨fun h => absurd h (by decide), ?_⟩
                  refine wx_done (by kernel_rfl) ?_ _
                  refine W_seq ?_
                  refine W_drawE mixed ?_; intro w26 hE26
                  replace hX := hX.tr hE26
                  replace hB7 := hB7.ext hE26 id; replace hB8 := hB8.ext hE26 id; replace hB10 := hB10.ext hE26 id; replace hB11 := hB11.ext hE26 id
                  replace hp0 := hp0.ext hE26 (fun _ h => h.elim)
                  replace hzA := Nat.le_trans hzA hE26.size
                  replace hM79 := hM79.ext hE26 (fun _ h => h.elim)
                  replace hq := hq.ext hE26 (fun _ h => h.elim)
                  have hS := Ext.refl Non w26
                  refine wd_take 0 _ _ rfl (by kernel_rfl) hS (yd_do fun A hA => rn_loadB s_55 rfl rfl (hB7.ext hA id)) ?_
                  refine wd_take 1 _ _ rfl (by kernel_rfl) hS (yd_do fun A hA => rn_move (by conv => lhs; whnf)) ?_
                  refine wd_take 2 _ _ rfl (by kernel_rfl) hS (yd_do fun A hA => rn_move (by conv => lhs; whnf)) ?_
                  refine wd_take 3 _ _ rfl (by kernel_rfl) hS (yd_do fun A hA => rn_indexAddr sl_52 rfl rfl (by omega)) ?_
                  refine wd_take 4 _ _ rfl (by kernel_rfl) hS (yd_do fun A hA => rn_load p_9 rfl (((h0.ext hX (fun _ h => h)).ext hA (fun _ h => h.elim)).at0 (eS_at hi) rfl)) ?_
                  refine wd_only 5 _ rfl (by kernel_rfl) ?_
                  refine s1_do ?_
                  refine wl_call e_35 rfl (mget_si w26 ks2 (ys2.map eI1) k ((((hq.sub (M' := Non) (fun _ h _ => h.elim))).mp hle2).ext hS (fun _ h => h)) hord2 (by omega) (eI_each ys2)) ?_; intro v92 w27 hE27 hR27
                  replace hS := hS.tr hE27
                  obtain ⟨z1, rfl, hz1a, hz1b⟩ := hR27
                  refine wl_nil ⟨hS, ?_⟩
                  refine wd_take 6 _ _ rfl (by kernel_rfl) hS (yd_do fun A hA => rn_move (by conv => lhs; whnf)) ?_
                  refine wd_take 7 _ _ rfl (by kernel_rfl) hS (yd_do fun A hA => rn_extract rfl rfl) ?_
                  refine wd_take 8 _ _ rfl (by kernel_rfl) hS (yd_do fun A hA => rn_extract rfl rfl) ?_
                  refine wd_take 9 _ _ rfl (by kernel_rfl) hS (yd_do fun A hA => rn_assign (by conv => lhs; whnf)) ?_
                  refine wd_take 10 _ _ rfl (by kernel_rfl) hS (yd_do fun A hA => rn_assign (by conv => lhs; whnf)) ?_
                  refine wd_done (by kernel_rfl) ?_ _
                  replace hX := hX.tr hS
                  replace hB7 := hB7.ext hS id; replace hB8 := hB8.ext hS id; replace hB10 := hB10.ext hS id; replace hB11 := hB11.ext hS id
                  replace hp0 := hp0.ext hS (fun _ h => h.elim)
                  replace hzA := Nat.le_trans hzA hS.size
                  replace hM79 := hM79.ext hS (fun _ h => h.elim)
                  replace hq := hq.ext hS (fun _ h => h.elim)
                  refine W_seq ?_
                  refine W_drawE mixed ?_; intro w28 hE28
                  replace hX := hX.tr hE28
                  replace hB7 := hB7.ext hE28 id; replace hB8 := hB8.ext hE28 id; replace hB10 := hB10.ext hE28 id; replace hB11 := hB11.ext hE28 id
                  replace hp0 := hp0.ext hE28 (fun _ h => h.elim)
                  replace hzA := Nat.le_trans hzA hE28.size
                  replace hM79 := hM79.ext hE28 (fun _ h => h.elim)
                  replace hq := hq.ext hE28 (fun _ h => h.elim)
                  have hS := Ext.refl Non w28
                  refine wd_take 0 _ _ rfl (by kernel_rfl) hS (yd_do fun A hA => rn_loadB s_57 rfl rfl (hB8.ext hA id)) ?_
                  refine wd_take 1 _ _ rfl (by kernel_rfl) hS (yd_do fun A hA => rn_move (by conv => lhs; whnf)) ?_
                  refine wd_take 2 _ _ rfl (by kernel_rfl) hS (yd_do fun A hA => rn_move (by conv => lhs; whnf)) ?_
                  refine wd_take 3 _ _ rfl (by kernel_rfl) hS (yd_do fun A hA => rn_indexAddr sl_52 rfl rfl (by omega)) ?_
                  refine wd_take 4 _ _ rfl (by kernel_rfl) hS (yd_do fun A hA => rn_load p_9 rfl (((h0.ext hX (fun _ h => h)).ext hA (fun _ h => h.elim)).at0 (eS_at hi) rfl)) ?_
                  refine wd_only 5 _ rfl (by kernel_rfl) ?_
                  refine s1_do ?_
                  refine wl_call e_36 rfl (rget_ok w28 ks2 ys2 k (((hq.sub (M' := Non) (fun _ h _ => h.elim))).x1.ext hS (fun _ h => h)) (((hq.sub (M' := Non) (fun _ h _ => h.elim))).x2.ext hS (fun _ h => h)) hle2 hord2 (by omega)) ?_; intro v101 w29 hE29 hR29
                  replace hS := hS.tr hE29
                  obtain ⟨z2, rfl, hz2a, hz2b⟩ := hR29
                  obtain rfl := same_get hz1a hz1b hz2a hz2b
                  refine wl_nil ⟨hS, ?_⟩
                  refine wd_take 6 _ _ rfl (by kernel_rfl) hS (yd_do fun A hA => rn_move (by conv => lhs; whnf)) ?_
                  refine wd_take 7 _ _ rfl (by kernel_rfl) hS (yd_do fun A hA => rn_extract rfl rfl) ?_
                  refine wd_take 8 _ _ rfl (by kernel_rfl) hS (yd_do fun A hA => rn_extract rfl rfl) ?_
                  refine wd_take 9 _ _ rfl (by kernel_rfl) hS (yd_do fun A hA => rn_assign (by conv => lhs; whnf)) ?_
                  refine wd_take 10 _ _ rfl (by kernel_rfl) hS (yd_do fun A hA => rn_assign (by conv => lhs; whnf)) ?_
                  refine wd_done (by kernel_rfl) ?_ _
                  replace hX := hX.tr hS
                  replace hB7 := hB7.ext hS id; replace hB8 := hB8.ext hS id; replace hB10 := hB10.ext hS id; replace hB11 := hB11.ext hS id
                  replace hp0 := hp0.ext hS (fun _ h => h.elim)
                  replace hzA := Nat.le_trans hzA hS.size
                  replace hM79 := hM79.ext hS (fun _ h => h.elim)
                  replace hq := hq.ext hS (fun _ h => h.elim)
                  refine W_seq ?_
                  refine W_region ?_
                  refine wl_val (rn_loadB s_55 rfl rfl hB7) ?_
                  refine wl_val (rn_loadB s_57 rfl rfl hB8) ?_
                  refine wl_call e_37 rfl (same_ok w29 ks2 ys2 hle2 (by omega) hord2 (hq.sub (M' := Non) (fun _ h _ => h.elim))) ?_; intro v106 w30 hE30 hR30
                  replace hX := hX.tr hE30
                  replace hB7 := hB7.ext hE30 id; replace hB8 := hB8.ext hE30 id; replace hB10 := hB10.ext hE30 id; replace hB11 := hB11.ext hE30 id
                  replace hp0 := hp0.ext hE30 (fun _ h => h.elim)
                  replace hzA := Nat.le_trans hzA hE30.size
                  replace hM79 := hM79.ext hE30 (fun _ h => h.elim)
                  replace hq := hq.ext hE30 (fun _ h => h.elim)
                  subst hR30
                  refine wl_val (rn_not rfl) ?_
                  refine wl_val (rn_move (by conv => lhs; whnf)) ?_
                  refine wl_split (d := 108) rfl (fun hg108 => ?_) (fun hg108 => ?_)
                  · exact absurd hg108 (by decide)
                  · refine wl_yes rfl (congrArg Value.bool hg108) ?_
                    refine wl_val (rn_loadB s_55 rfl rfl hB10) ?_
                    refine wl_yes rfl (congrArg Value.bool hg108) ?_
                    refine wl_val (rn_loadB s_57 rfl rfl hB11) ?_
                    refine wl_yes rfl (congrArg Value.bool hg108) ?_
                    refine wl_call e_37 rfl (same_ok w30 ks ys hle (by omega) hord (hp0.sub (M' := Non) (fun _ h _ => h.elim))) ?_; intro v111 w31 hE31 hR31
                    replace hX := hX.tr hE31
                    replace hB7 := hB7.ext hE31 id; replace hB8 := hB8.ext hE31 id; replace hB10 := hB10.ext hE31 id; replace hB11 := hB11.ext hE31 id
                    replace hp0 := hp0.ext hE31 (fun _ h => h.elim)
                    replace hzA := Nat.le_trans hzA hE31.size
                    replace hM79 := hM79.ext hE31 (fun _ h => h.elim)
                    replace hq := hq.ext hE31 (fun _ h => h.elim)
                    subst hR31
                    refine wl_yes rfl (congrArg Value.bool hg108) ?_
                    refine wl_val (rn_not rfl) ?_
                    refine wl_val (rn_pickF (congrArg Value.bool hg108) (by conv => lhs; whnf)) ?_
                    refine wl_val (rn_move (by conv => lhs; whnf)) ?_
                    refine wl_split (d := 114) rfl (fun hg114 => ?_) (fun hg114 => ?_)
                    · exact absurd hg114 (by decide)
                    · refine wl_yes rfl (congrArg Value.bool hg114) ?_
                      refine wl_val (rn_move (by conv => lhs; whnf)) ?_
                      refine wl_yes rfl (congrArg Value.bool hg114) ?_
                      refine wl_val (rn_move (by conv => lhs; whnf)) ?_
                      refine wl_yes rfl (congrArg Value.bool hg114) ?_
                      refine wl_val (rn_neq rfl rfl) ?_
                      refine wl_val (rn_pickF (congrArg Value.bool hg114) (by conv => lhs; whnf)) ?_
                      refine wl_val (rn_move (by conv => lhs; whnf)) ?_
                      refine wl_split (d := 119) rfl (fun hg119 => ?_) (fun hg119 => ?_)
                      · exact absurd (of_decide_eq_true hg119) (by simp)
                      · refine wl_yes rfl (congrArg Value.bool hg119) ?_
                        refine wl_val (rn_move (by conv => lhs; whnf)) ?_
                        refine wl_yes rfl (congrArg Value.bool hg119) ?_
                        refine wl_val (rn_move (by conv => lhs; whnf)) ?_
                        refine wl_yes rfl (congrArg Value.bool hg119) ?_
                        refine wl_val (rn_bneq ub_4 rfl rfl) ?_
                        refine wl_val (rn_pickF (congrArg Value.bool hg119) (by conv => lhs; whnf)) ?_
                        refine wl_nil ?_
                        refine W_cond rfl (fun hc5 => ?_) (fun hc5 => ?_)
                        · exact absurd (of_decide_eq_true hc5) (by simp)
                        · refine W_skip ?_
                          refine W_region ?_
                          refine wl_val (rn_move (by conv => lhs; whnf)) ?_
                          refine wl_val (rn_add rfl rfl (by omega)) ?_
                          refine wl_val (rn_assign (by conv => lhs; whnf)) ?_
                          refine wl_nil ?_
                          exact ⟨rfl, (i + 1, ks2, ys2, _, _, _, _), ⟨rfl, rfl, rfl, rfl, rfl, rfl, trivial⟩, ⟨hX, hB7, hB8, hl7, hl8, hn7_8, ⟨hlt, hq, hle2, hord2, hn2, hkl2⟩⟩, by show keys.length - (i + 1) < keys.length - i; omega⟩
              · refine s1_do ?_
                refine wl_alloc z_57 ?_; intro b11 w32 hb11 hE32 hB11
                have hn7_11 : b7 < b11 := Nat.lt_of_lt_of_le (Nat.lt_of_lt_of_le hB7.lt hS.size) hb11
                have hn8_11 : b8 < b11 := Nat.lt_of_lt_of_le (Nat.lt_of_lt_of_le hB8.lt hS.size) hb11
                have hq11 : w.heap.size ≤ b11 := Nat.le_trans (hX.tr hS).size hb11
                have hl11 : Mine Non w b11 := .inr hq11
                have hm11 : w5.heap.size ≤ b11 := Nat.le_trans hS.size hb11
                replace hS := hS.tr hE32
                refine wl_nil ⟨fun _ => hS, ?_⟩
                refine wx_only 2 _ rfl (by kernel_rfl) ?_
                refine s1_do ?_
                refine wl_alloc z_55 ?_; intro b10 w33 hb10 hE33 hB10
                have hn7_10 : b7 < b10 := Nat.lt_of_lt_of_le (Nat.lt_of_lt_of_le hB7.lt hS.size) hb10
                have hn8_10 : b8 < b10 := Nat.lt_of_lt_of_le (Nat.lt_of_lt_of_le hB8.lt hS.size) hb10
                have hn11_10 : b11 < b10 := Nat.lt_of_lt_of_le hB11.lt hb10
                have hq10 : w.heap.size ≤ b10 := Nat.le_trans (hX.tr hS).size hb10
                have hl10 : Mine Non w b10 := .inr hq10
                have hm10 : w5.heap.size ≤ b10 := Nat.le_trans hS.size hb10
                replace hB11 := hB11.ext hE33 id
                replace hS := hS.tr hE33
                refine wl_nil ⟨fun _ => hS, ?_⟩
                refine wx_only 4 _ rfl (by kernel_rfl) ?_
                refine s1_do ?_
                refine wl_storeB s_55 rfl rfl rfl (two1 rfl rfl) hB10 rfl ?_; intro w34 hE34 hB10 hz34
                replace hB11 := hB11.ext hE34 (fun h => by omega)
                replace hS := hS.mine hE34 (.inr (by omega))
                refine wl_nil ⟨fun _ => hS, ?_⟩
                refine wx_only 5 _ rfl (by kernel_rfl) ?_
                refine s1_do ?_
                refine wl_storeB s_57 rfl rfl rfl (two1 rfl rfl) hB11 rfl ?_; intro w35 hE35 hB11 hz35
                replace hB10 := hB10.ext hE35 (fun h => by omega)
                replace hS := hS.mine hE35 (.inr (by omega))
                refine wl_nil ⟨fun _ => hS, ?_⟩
                refine wx_done (by kernel_rfl) ?_ _
                replace hX := hX.tr hS
                replace hB7 := hB7.ext hS id; replace hB8 := hB8.ext hS id
                replace hp0 := hp0.ext hS (fun _ h => h.elim)
                replace hzA := Nat.le_trans hzA hS.size
                refine W_seq ?_
                refine W_seq ?_
                refine W_region ?_
                refine wl_val (rn_move (by conv => lhs; whnf)) ?_
                refine wl_val (rn_move (by conv => lhs; whnf)) ?_
                refine wl_val (rn_indexAddr sl_53 rfl rfl (by omega)) ?_
                refine wl_val (rn_load p_4 rfl ((h2.ext hX (fun _ h => h)).at0 (eB_at hpb) rfl)) ?_
                refine wl_nil ?_
                refine W_cond rfl (fun hc4 => ?_) (fun hc4 => ?_)
                · refine W_drawX (fun j => j == 20 || j == 21) mixed ?_; intro w36 hE36
                  replace hX := hX.tr hE36
                  replace hB7 := hB7.ext hE36 id; replace hB8 := hB8.ext hE36 id; replace hB11 := hB11.ext hE36 id; replace hB10 := hB10.ext hE36 id
                  replace hp0 := hp0.ext hE36 (fun _ h => h.elim)
                  replace hzA := Nat.le_trans hzA hE36.size
                  have hS := Ext.refl Non w36
                  refine wx_take 0 [9, 19, 20, 21] _ _ rfl (by kernel_rfl) hS (yd_do fun A hA => rn_loadB s_55 rfl rfl (hB7.ext hA id)) ?_
                  refine wx_take 1 [3, 4, 9, 19, 20, 21] _ _ rfl (by kernel_rfl) hS (yd_do fun A hA => rn_move (by conv => lhs; whnf)) ?_
                  refine wx_take 2 [3, 4, 9, 19, 20, 21] _ _ rfl (by kernel_rfl) hS (yd_do fun A hA => rn_move (by conv => lhs; whnf)) ?_
                  refine wx_take 3 [4, 9, 19, 20, 21] _ _ rfl (by kernel_rfl) hS (yd_do fun A hA => rn_indexAddr sl_52 rfl rfl (by omega)) ?_
                  refine wx_take 4 [9, 19, 20, 21] _ _ rfl (by kernel_rfl) hS (yd_do fun A hA => rn_load p_9 rfl (((h0.ext hX (fun _ h => h)).ext hA (fun _ h => h.elim)).at0 (eS_at hi) rfl)) ?_
                  refine wx_take 5 [7, 8, 9, 19, 20, 21] _ _ rfl (by kernel_rfl) hS (yd_do fun A hA => rn_move (by conv => lhs; whnf)) ?_
                  refine wx_take 6 [7, 8, 9, 19, 20, 21] _ _ rfl (by kernel_rfl) hS (yd_do fun A hA => rn_move (by conv => lhs; whnf)) ?_
                  refine wx_take 7 [8, 9, 19, 20, 21] _ _ rfl (by kernel_rfl) hS (yd_do fun A hA => rn_indexAddr sl_36 rfl rfl (by omega)) ?_
                  refine wx_take 8 [9, 19, 20, 21] _ _ rfl (by kernel_rfl) hS (yd_do fun A hA => rn_load p_3 rfl (((h1.ext hX (fun _ h => h)).ext hA (fun _ h => h.elim)).at0 (eI_at hj) rfl)) ?_
                  refine wx_take 10 [19, 20, 21] _ _ rfl (by kernel_rfl) hS (yd_do fun A hA => rn_loadB s_57 rfl rfl (hB8.ext hA id)) ?_
                  refine wx_take 11 [13, 14, 19, 20, 21] _ _ rfl (by kernel_rfl) hS (yd_do fun A hA => rn_move (by conv => lhs; whnf)) ?_
                  refine wx_take 12 [13, 14, 19, 20, 21] _ _ rfl (by kernel_rfl) hS (yd_do fun A hA => rn_move (by conv => lhs; whnf)) ?_
                  refine wx_take 13 [14, 19, 20, 21] _ _ rfl (by kernel_rfl) hS (yd_do fun A hA => rn_indexAddr sl_52 rfl rfl (by omega)) ?_
                  refine wx_take 14 [19, 20, 21] _ _ rfl (by kernel_rfl) hS (yd_do fun A hA => rn_load p_9 rfl (((h0.ext hX (fun _ h => h)).ext hA (fun _ h => h.elim)).at0 (eS_at hi) rfl)) ?_
                  refine wx_take 15 [17, 18, 19, 20, 21] _ _ rfl (by kernel_rfl) hS (yd_do fun A hA => rn_move (by conv => lhs; whnf)) ?_
                  refine wx_take 16 [17, 18, 19, 20, 21] _ _ rfl (by kernel_rfl) hS (yd_do fun A hA => rn_move (by conv => lhs; whnf)) ?_
                  refine wx_take 17 [18, 19, 20, 21] _ _ rfl (by kernel_rfl) hS (yd_do fun A hA => rn_indexAddr sl_36 rfl rfl (by omega)) ?_
                  refine wx_take 18 [19, 20, 21] _ _ rfl (by kernel_rfl) hS (yd_do fun A hA => rn_load p_3 rfl (((h1.ext hX (fun _ h => h)).ext hA (fun _ h => h.elim)).at0 (eI_at hj) rfl)) ?_
                  have hzc := Nat.le_trans hzA hS.size
                  refine wx_only 9 _ rfl (by kernel_rfl) ?_
                  refine s1_do ?_
                  refine wl_call e_31 rfl (mput_si w36 ks (ys.map eI1) k (MapR.mk ((hp0.m1.sub (M' := Non) (fun _ h _ => h.elim)).ext hS (fun _ h => h)) ((hp0.m2.sub (M' := Non) (fun _ h _ => h.elim)).ext hS (fun _ h => h)) (by simpa using hle)) hord (by omega) (eI_rows ys) y) ?_; intro v63 w37 hE37 hR37
                  replace hS := hS.tr hE37
                  obtain ⟨n1, n2, rfl, hM63⟩ := hR37
                  obtain ⟨e1, l1, g1, rfl⟩ := id hM63.keys.shape; obtain ⟨e2, l2, g2, rfl⟩ := id hM63.vals.shape
                  refine wl_nil ⟨fun _ => hS, ?_⟩
                  have hzd := Nat.le_trans hzA hS.size
                  refine wx_only 19 _ rfl (by kernel_rfl) ?_
                  refine s1_do ?_
                  refine wl_call e_32 rfl (rput_ok w37 ks ys k y ((hp0.x1.sub (M' := Non) (fun _ h _ => h.elim)).ext hS (fun _ h => h)) ((hp0.x2.sub (M' := Non) (fun _ h _ => h.elim)).ext hS (fun _ h => h)) hle hord (by omega) (fun z hz => by have := hkl z hz; omega) (by omega)) ?_; intro v73 w38 hE38 hR38
                  replace hS := hS.tr hE38
                  replace hM63 := hM63.ext hE38 (fun _ h => h.elim)
                  obtain ⟨n3, n4, rfl, hR1, hR2⟩ := hR38
                  obtain ⟨e3, l3, g3, rfl⟩ := id hR1.shape; obtain ⟨e4, l4, g4, rfl⟩ := id hR2.shape
                  have hq : Mp (fun j => j = b7 ∨ j = b8) w38 _ _ _ _ (putK ltS ks k) (putW ltS ks k ys y) := ⟨hM63.keys.sub (fun j hj _ => by show j < _; rcases hj with hj | hj <;> omega), by have h9 := hM63.vals.sub (M' := (fun j => j = b7 ∨ j = b8)) (fun j hj _ => by show j < _; rcases hj with hj | hj <;> omega); rw [putV_putW] at h9; exact h9, hR1.sub (fun j hj _ => by show j < _; rcases hj with hj | hj <;> omega), hR2.sub (fun j hj _ => by show j < _; rcases hj with hj | hj <;> omega)⟩
                  obtain ⟨ks2, hks2⟩ : ∃ x, x = putK ltS ks k := ⟨_, rfl⟩; obtain ⟨ys2, hys2⟩ : ∃ x, x = putW ltS ks k ys y := ⟨_, rfl⟩
                  rw [← hks2, ← hys2] at hq
                  have hle2 : ys2.length = ks2.length := by rw [hks2, hys2]; exact putW_len hle
                  have hord2 : Sorted ltS ks2 := by rw [hks2]; exact putK_sorted lo_str hord k
                  have hn2 : ks2.length ≤ i + 1 := by rw [hks2]; exact (by have := putK_len (lt := ltS) ks k; omega)
                  have hkl2 : ∀ y ∈ ks2, y.length ≤ 100 := by rw [hks2]; exact (fun z hz => by rcases (putK_mem lo_str hord k z).1 hz with rfl | h; exact hk100; exact hkl z h)
                  refine wl_nil ⟨fun _ => hS, ?_⟩
                  replace hX := hX.tr hS
                  replace hB7 := hB7.ext hS id; replace hB8 := hB8.ext hS id; replace hB11 := hB11.ext hS id; replace hB10 := hB10.ext hS id
                  replace hp0 := hp0.ext hS (fun _ h => h.elim)
                  replace hzA := Nat.le_trans hzA hS.size
                  refine wx_only 20 _ rfl (by kernel_rfl) ?_
                  refine s1_do ?_
                  have hBo := hB7
                  refine wl_storeB s_55 rfl rfl rfl (two1 rfl rfl) hB7 rfl ?_; intro w39 hE39 hB7 hz39
                  replace hX := hX.mine hE39 hl7
                  replace hB8 := hB8.ext hE39 (fun h => by omega); replace hB11 := hB11.ext hE39 (fun h => by omega); replace hB10 := hB10.ext hE39 (fun h => by omega)
                  replace hp0 := hp0.ext hE39 (fun i e => by first | exact .inl e | exact .inr (.inl e) | exact .inr (.inr (by omega)))
                  replace hzA := Nat.le_trans hzA hE39.size
                  replace hM63 := hM63.ext hE39 (fun i e => by show i < _; omega)
                  replace hq := hq.ext hE39 (fun i e => by first | exact .inl e | exact .inr e)
                  refine wl_nil ⟨fun h => absurd h (by decide), ?_⟩
                  refine wx_only 21 _ rfl (by kernel_rfl) ?_
                  refine s1_do ?_
                  have hBo := hB8
                  refine wl_storeB s_57 rfl rfl rfl (two1 rfl rfl) hB8 rfl ?_; intro w40 hE40 hB8 hz40
                  replace hX := hX.mine hE40 hl8
                  replace hB7 := hB7.ext hE40 (fun h => by omega); replace hB11 := hB11.ext hE40 (fun h => by omega); replace hB10 := hB10.ext hE40 (fun h => by omega)
                  replace hp0 := hp0.ext hE40 (fun i e => by first | exact .inl e | exact .inr (.inl e) | exact .inr (.inr (by omega)))
                  replace hzA := Nat.le_trans hzA hE40.size
                  replace hM63 := hM63.ext hE40 (fun i e => by show i < _; omega)
                  replace hq := hq.ext hE40 (fun i e => by first | exact .inl e | exact .inr e)
                  refine wl_nil ⟨fun h => absurd h (by decide), ?_⟩
                  refine wx_done (by kernel_rfl) ?_ _
                  refine W_seq ?_
                  refine W_drawE mixed ?_; intro w41 hE41
                  replace hX := hX.tr hE41
                  replace hB7 := hB7.ext hE41 id; replace hB8 := hB8.ext hE41 id; replace hB11 := hB11.ext hE41 id; replace hB10 := hB10.ext hE41 id
                  replace hp0 := hp0.ext hE41 (fun _ h => h.elim)
                  replace hzA := Nat.le_trans hzA hE41.size
                  replace hM63 := hM63.ext hE41 (fun _ h => h.elim)
                  replace hq := hq.ext hE41 (fun _ h => h.elim)
                  have hS := Ext.refl Non w41
                  refine wd_take 0 _ _ rfl (by kernel_rfl) hS (yd_do fun A hA => rn_loadB s_55 rfl rfl (hB7.ext hA id)) ?_
                  refine wd_take 1 _ _ rfl (by kernel_rfl) hS (yd_do fun A hA => rn_move (by conv => lhs; whnf)) ?_
                  refine wd_take 2 _ _ rfl (by kernel_rfl) hS (yd_do fun A hA => rn_move (by conv => lhs; whnf)) ?_
                  refine wd_take 3 _ _ rfl (by kernel_rfl) hS (yd_do fun A hA => rn_indexAddr sl_52 rfl rfl (by omega)) ?_
                  refine wd_take 4 _ _ rfl (by kernel_rfl) hS (yd_do fun A hA => rn_load p_9 rfl (((h0.ext hX (fun _ h => h)).ext hA (fun _ h => h.elim)).at0 (eS_at hi) rfl)) ?_
                  refine wd_only 5 _ rfl (by kernel_rfl) ?_
                  refine s1_do ?_
                  refine wl_call e_35 rfl (mget_si w41 ks2 (ys2.map eI1) k ((((hq.sub (M' := Non) (fun _ h _ => h.elim))).mp hle2).ext hS (fun _ h => h)) hord2 (by omega) (eI_each ys2)) ?_; intro v92 w42 hE42 hR42
                  replace hS := hS.tr hE42
                  obtain ⟨z1, rfl, hz1a, hz1b⟩ := hR42
                  refine wl_nil ⟨hS, ?_⟩
                  refine wd_take 6 _ _ rfl (by kernel_rfl) hS (yd_do fun A hA => rn_move (by conv => lhs; whnf)) ?_
                  refine wd_take 7 _ _ rfl (by kernel_rfl) hS (yd_do fun A hA => rn_extract rfl rfl) ?_
                  refine wd_take 8 _ _ rfl (by kernel_rfl) hS (yd_do fun A hA => rn_extract rfl rfl) ?_
                  refine wd_take 9 _ _ rfl (by kernel_rfl) hS (yd_do fun A hA => rn_assign (by conv => lhs; whnf)) ?_
                  refine wd_take 10 _ _ rfl (by kernel_rfl) hS (yd_do fun A hA => rn_assign (by conv => lhs; whnf)) ?_
                  refine wd_done (by kernel_rfl) ?_ _
                  replace hX := hX.tr hS
                  replace hB7 := hB7.ext hS id; replace hB8 := hB8.ext hS id; replace hB11 := hB11.ext hS id; replace hB10 := hB10.ext hS id
                  replace hp0 := hp0.ext hS (fun _ h => h.elim)
                  replace hzA := Nat.le_trans hzA hS.size
                  replace hM63 := hM63.ext hS (fun _ h => h.elim)
                  replace hq := hq.ext hS (fun _ h => h.elim)
                  refine W_seq ?_
                  refine W_drawE mixed ?_; intro w43 hE43
                  replace hX := hX.tr hE43
                  replace hB7 := hB7.ext hE43 id; replace hB8 := hB8.ext hE43 id; replace hB11 := hB11.ext hE43 id; replace hB10 := hB10.ext hE43 id
                  replace hp0 := hp0.ext hE43 (fun _ h => h.elim)
                  replace hzA := Nat.le_trans hzA hE43.size
                  replace hM63 := hM63.ext hE43 (fun _ h => h.elim)
                  replace hq := hq.ext hE43 (fun _ h => h.elim)
                  have hS := Ext.refl Non w43
                  refine wd_take 0 _ _ rfl (by kernel_rfl) hS (yd_do fun A hA => rn_loadB s_57 rfl rfl (hB8.ext hA id)) ?_
                  refine wd_take 1 _ _ rfl (by kernel_rfl) hS (yd_do fun A hA => rn_move (by conv => lhs; whnf)) ?_
                  refine wd_take 2 _ _ rfl (by kernel_rfl) hS (yd_do fun A hA => rn_move (by conv => lhs; whnf)) ?_
                  refine wd_take 3 _ _ rfl (by kernel_rfl) hS (yd_do fun A hA => rn_indexAddr sl_52 rfl rfl (by omega)) ?_
                  refine wd_take 4 _ _ rfl (by kernel_rfl) hS (yd_do fun A hA => rn_load p_9 rfl (((h0.ext hX (fun _ h => h)).ext hA (fun _ h => h.elim)).at0 (eS_at hi) rfl)) ?_
                  refine wd_only 5 _ rfl (by kernel_rfl) ?_
                  refine s1_do ?_
                  refine wl_call e_36 rfl (rget_ok w43 ks2 ys2 k (((hq.sub (M' := Non) (fun _ h _ => h.elim))).x1.ext hS (fun _ h => h)) (((hq.sub (M' := Non) (fun _ h _ => h.elim))).x2.ext hS (fun _ h => h)) hle2 hord2 (by omega)) ?_; intro v101 w44 hE44 hR44
                  replace hS := hS.tr hE44
                  obtain ⟨z2, rfl, hz2a, hz2b⟩ := hR44
                  obtain rfl := same_get hz1a hz1b hz2a hz2b
                  refine wl_nil ⟨hS, ?_⟩
                  refine wd_take 6 _ _ rfl (by kernel_rfl) hS (yd_do fun A hA => rn_move (by conv => lhs; whnf)) ?_
                  refine wd_take 7 _ _ rfl (by kernel_rfl) hS (yd_do fun A hA => rn_extract rfl rfl) ?_
                  refine wd_take 8 _ _ rfl (by kernel_rfl) hS (yd_do fun A hA => rn_extract rfl rfl) ?_
                  refine wd_take 9 _ _ rfl (by kernel_rfl) hS (yd_do fun A hA => rn_assign (by conv => lhs; whnf)) ?_
                  refine wd_take 10 _ _ rfl (by kernel_rfl) hS (yd_do fun A hA => rn_assign (by conv => lhs; whnf)) ?_
                  refine wd_done (by kernel_rfl) ?_ _
                  replace hX := hX.tr hS
                  replace hB7 := hB7.ext hS id; replace hB8 := hB8.ext hS id; replace hB11 := hB11.ext hS id; replace hB10 := hB10.ext hS id
                  replace hp0 := hp0.ext hS (fun _ h => h.elim)
                  replace hzA := Nat.le_trans hzA hS.size
                  replace hM63 := hM63.ext hS (fun _ h => h.elim)
                  replace hq := hq.ext hS (fun _ h => h.elim)
                  refine W_seq ?_
                  refine W_region ?_
                  refine wl_val (rn_loadB s_55 rfl rfl hB7) ?_
                  refine wl_val (rn_loadB s_57 rfl rfl hB8) ?_
                  refine wl_call e_37 rfl (same_ok w44 ks2 ys2 hle2 (by omega) hord2 (hq.sub (M' := Non) (fun _ h _ => h.elim))) ?_; intro v106 w45 hE45 hR45
                  replace hX := hX.tr hE45
                  replace hB7 := hB7.ext hE45 id; replace hB8 := hB8.ext hE45 id; replace hB11 := hB11.ext hE45 id; replace hB10 := hB10.ext hE45 id
                  replace hp0 := hp0.ext hE45 (fun _ h => h.elim)
                  replace hzA := Nat.le_trans hzA hE45.size
                  replace hM63 := hM63.ext hE45 (fun _ h => h.elim)
                  replace hq := hq.ext hE45 (fun _ h => h.elim)
                  subst hR45
                  refine wl_val (rn_not rfl) ?_
                  refine wl_val (rn_move (by conv => lhs; whnf)) ?_
                  refine wl_split (d := 108) rfl (fun hg108 => ?_) (fun hg108 => ?_)
                  · exact absurd hg108 (by decide)
                  · refine wl_yes rfl (congrArg Value.bool hg108) ?_
                    refine wl_val (rn_loadB s_55 rfl rfl hB10) ?_
                    refine wl_yes rfl (congrArg Value.bool hg108) ?_
                    refine wl_val (rn_loadB s_57 rfl rfl hB11) ?_
                    refine wl_yes rfl (congrArg Value.bool hg108) ?_
                    refine wl_call e_37 rfl (same_ok w45 ks ys hle (by omega) hord (hp0.sub (M' := Non) (fun _ h _ => h.elim))) ?_; intro v111 w46 hE46 hR46
                    replace hX := hX.tr hE46
                    replace hB7 := hB7.ext hE46 id; replace hB8 := hB8.ext hE46 id; replace hB11 := hB11.ext hE46 id; replace hB10 := hB10.ext hE46 id
                    replace hp0 := hp0.ext hE46 (fun _ h => h.elim)
                    replace hzA := Nat.le_trans hzA hE46.size
                    replace hM63 := hM63.ext hE46 (fun _ h => h.elim)
                    replace hq := hq.ext hE46 (fun _ h => h.elim)
                    subst hR46
                    refine wl_yes rfl (congrArg Value.bool hg108) ?_
                    refine wl_val (rn_not rfl) ?_
                    refine wl_val (rn_pickF (congrArg Value.bool hg108) (by conv => lhs; whnf)) ?_
                    refine wl_val (rn_move (by conv => lhs; whnf)) ?_
                    refine wl_split (d := 114) rfl (fun hg114 => ?_) (fun hg114 => ?_)
                    · exact absurd hg114 (by decide)
                    · refine wl_yes rfl (congrArg Value.bool hg114) ?_
                      refine wl_val (rn_move (by conv => lhs; whnf)) ?_
                      refine wl_yes rfl (congrArg Value.bool hg114) ?_
                      refine wl_val (rn_move (by conv => lhs; whnf)) ?_
                      refine wl_yes rfl (congrArg Value.bool hg114) ?_
                      refine wl_val (rn_neq rfl rfl) ?_
                      refine wl_val (rn_pickF (congrArg Value.bool hg114) (by conv => lhs; whnf)) ?_
                      refine wl_val (rn_move (by conv => lhs; whnf)) ?_
                      refine wl_split (d := 119) rfl (fun hg119 => ?_) (fun hg119 => ?_)
                      · exact absurd (of_decide_eq_true hg119) (by simp)
                      · refine wl_yes rfl (congrArg Value.bool hg119) ?_
                        refine wl_val (rn_move (by conv => lhs; whnf)) ?_
                        refine wl_yes rfl (congrArg Value.bool hg119) ?_
                        refine wl_val (rn_move (by conv => lhs; whnf)) ?_
                        refine wl_yes rfl (congrArg Value.bool hg119) ?_
                        refine wl_val (rn_bneq ub_4 rfl rfl) ?_
                        refine wl_val (rn_pickF (congrArg Value.bool hg119) (by conv => lhs; whnf)) ?_
                        refine wl_nil ?_
                        refine W_cond rfl (fun hc5 => ?_) (fun hc5 => ?_)
                        · exact absurd (of_decide_eq_true hc5) (by simp)
                        · refine W_skip ?_
                          refine W_region ?_
                          refine wl_val (rn_move (by conv => lhs; whnf)) ?_
                          refine wl_val (rn_add rfl rfl (by omega)) ?_
                          refine wl_val (rn_assign (by conv => lhs; whnf)) ?_
                          refine wl_nil ?_
                          exact ⟨rfl, (i + 1, ks2, ys2, _, _, _, _), ⟨rfl, rfl, rfl, rfl, rfl, rfl, trivial⟩, ⟨hX, hB7, hB8, hl7, hl8, hn7_8, ⟨hlt, hq, hle2, hord2, hn2, hkl2⟩⟩, by show keys.length - (i + 1) < keys.length - i; omega⟩
                · refine W_drawX (fun j => j == 12 || j == 13) mixed ?_; intro w47 hE47
                  replace hX := hX.tr hE47
                  replace hB7 := hB7.ext hE47 id; replace hB8 := hB8.ext hE47 id; replace hB11 := hB11.ext hE47 id; replace hB10 := hB10.ext hE47 id
                  replace hp0 := hp0.ext hE47 (fun _ h => h.elim)
                  replace hzA := Nat.le_trans hzA hE47.size
                  have hS := Ext.refl Non w47
                  refine wx_take 0 [5, 11, 12, 13] _ _ rfl (by kernel_rfl) hS (yd_do fun A hA => rn_loadB s_55 rfl rfl (hB7.ext hA id)) ?_
                  refine wx_take 1 [3, 4, 5, 11, 12, 13] _ _ rfl (by kernel_rfl) hS (yd_do fun A hA => rn_move (by conv => lhs; whnf)) ?_
                  refine wx_take 2 [3, 4, 5, 11, 12, 13] _ _ rfl (by kernel_rfl) hS (yd_do fun A hA => rn_move (by conv => lhs; whnf)) ?_
                  refine wx_take 3 [4, 5, 11, 12, 13] _ _ rfl (by kernel_rfl) hS (yd_do fun A hA => rn_indexAddr sl_52 rfl rfl (by omega)) ?_
                  refine wx_take 4 [5, 11, 12, 13] _ _ rfl (by kernel_rfl) hS (yd_do fun A hA => rn_load p_9 rfl (((h0.ext hX (fun _ h => h)).ext hA (fun _ h => h.elim)).at0 (eS_at hi) rfl)) ?_
                  refine wx_take 6 [11, 12, 13] _ _ rfl (by kernel_rfl) hS (yd_do fun A hA => rn_loadB s_57 rfl rfl (hB8.ext hA id)) ?_
                  refine wx_take 7 [9, 10, 11, 12, 13] _ _ rfl (by kernel_rfl) hS (yd_do fun A hA => rn_move (by conv => lhs; whnf)) ?_
                  refine wx_take 8 [9, 10, 11, 12, 13] _ _ rfl (by kernel_rfl) hS (yd_do fun A hA => rn_move (by conv => lhs; whnf)) ?_
                  refine wx_take 9 [10, 11, 12, 13] _ _ rfl (by kernel_rfl) hS (yd_do fun A hA => rn_indexAddr sl_52 rfl rfl (by omega)) ?_
                  refine wx_take 10 [11, 12, 13] _ _ rfl (by kernel_rfl) hS (yd_do fun A hA => rn_load p_9 rfl (((h0.ext hX (fun _ h => h)).ext hA (fun _ h => h.elim)).at0 (eS_at hi) rfl)) ?_
                  have hzc := Nat.le_trans hzA hS.size
                  refine wx_only 5 _ rfl (by kernel_rfl) ?_
                  refine s1_do ?_
                  refine wl_call e_33 rfl (mdrop_si w47 (fun j => j = b7 ∨ j = b8) (fun j hj => by rcases hj with hj | hj <;> omega) ks (ys.map eI1) k (MapR.mk ((hp0.m1.sub (fun j h _ => by rcases h with h | h; exact .inl h; exact .inr (.inl h))).ext hS (fun _ h => h.elim)) ((hp0.m2.sub (fun j h _ => by rcases h with h | h; exact .inl h; exact .inr (.inl h))).ext hS (fun _ h => h.elim)) (by simpa using hle)) hord (by omega) (eI_rows ys)) ?_; intro v79 w48 hE48 hR48
                  replace hS := hS.tr hE48
                  obtain ⟨n1, n2, rfl, hM79⟩ := hR48
                  obtain ⟨e1, l1, g1, rfl⟩ := id hM79.keys.shape; obtain ⟨e2, l2, g2, rfl⟩ := id hM79.vals.shape
                  refine wl_nil ⟨fun _ => hS, ?_⟩
                  have hzd := Nat.le_trans hzA hS.size
                  refine wx_only 11 _ rfl (by kernel_rfl) ?_
                  refine s1_do ?_
                  refine wl_call e_34 rfl (rdrop_ok w48 ks ys k ((hp0.x1.sub (M' := Non) (fun _ h _ => h.elim)).ext hS (fun _ h => h)) ((hp0.x2.sub (M' := Non) (fun _ h _ => h.elim)).ext hS (fun _ h => h)) hle hord (by omega)) ?_; intro v85 w49 hE49 hR49
                  replace hS := hS.tr hE49
                  replace hM79 := hM79.ext hE49 (fun _ h => h.elim)
                  obtain ⟨n3, n4, rfl, hR1, hR2⟩ := hR49
                  obtain ⟨e3, l3, g3, rfl⟩ := id hR1.shape; obtain ⟨e4, l4, g4, rfl⟩ := id hR2.shape
                  have hq : Mp (fun j => j = b7 ∨ j = b8) w49 _ _ _ _ (dropK ltS ks k) (dropV ltS ks k ys) := ⟨hM79.keys, by have h9 := hM79.vals; rw [dropV_map] at h9; exact h9, hR1.sub (fun j hj _ => by show j < _; rcases hj with hj | hj <;> omega), hR2.sub (fun j hj _ => by show j < _; rcases hj with hj | hj <;> omega)⟩
                  obtain ⟨ks2, hks2⟩ : ∃ x, x = dropK ltS ks k := ⟨_, rfl⟩; obtain ⟨ys2, hys2⟩ : ∃ x, x = dropV ltS ks k ys := ⟨_, rfl⟩
                  rw [← hks2, ← hys2] at hq
                  have hle2 : ys2.length = ks2.length := by rw [hks2, hys2]; exact dropV_len hle
                  have hord2 : Sorted ltS ks2 := by rw [hks2]; exact dropK_sorted hord k
                  have hn2 : ks2.length ≤ i + 1 := by rw [hks2]; exact (by have := dropK_len (lt := ltS) ks k; omega)
                  have hkl2 : ∀ y ∈ ks2, y.length ≤ 100 := by rw [hks2]; exact (fun z hz => hkl z ((dropK_sub ks k).subset hz))
                  refine wl_nil ⟨fun _ => hS, ?_⟩
                  replace hX := hX.tr hS
                  replace hB7 := hB7.ext hS id; replace hB8 := hB8.ext hS id; replace hB11 := hB11.ext hS id; replace hB10 := hB10.ext hS id
                  replace hp0 := hp0.ext hS (fun _ h => h.elim)
                  replace hzA := Nat.le_trans hzA hS.size
                  refine wx_only 12 _ rfl (by kernel_rfl) ?_
                  refine s1_do ?_
                  have hBo := hB7
                  refine wl_storeB s_55 rfl rfl rfl (two1 rfl rfl) hB7 rfl ?_; intro w50 hE50 hB7 hz50
                  replace hX := hX.mine hE50 hl7
                  replace hB8 := hB8.ext hE50 (fun h => by omega); replace hB11 := hB11.ext hE50 (fun h => by omega); replace hB10 := hB10.ext hE50 (fun h => by omega)
                  replace hp0 := hp0.ext hE50 (fun i e => by first | exact .inl e | exact .inr (.inl e) | exact .inr (.inr (by omega)))
                  replace hzA := Nat.le_trans hzA hE50.size
                  replace hM79 := hM79.ext hE50 (fun i e => by first | exact .inl e | exact .inr e)
                  replace hq := hq.ext hE50 (fun i e => by first | exact .inl e | exact .inr e)
                  refine wl_nil ⟨fun h => absurd h (by decide), ?_⟩
                  refine wx_only 13 _ rfl (by kernel_rfl) ?_
                  refine s1_do ?_
                  have hBo := hB8
                  refine wl_storeB s_57 rfl rfl rfl (two1 rfl rfl) hB8 rfl ?_; intro w51 hE51 hB8 hz51
                  replace hX := hX.mine hE51 hl8
                  replace hB7 := hB7.ext hE51 (fun h => by omega); replace hB11 := hB11.ext hE51 (fun h => by omega); replace hB10 := hB10.ext hE51 (fun h => by omega)
                  replace hp0 := hp0.ext hE51 (fun i e => by first | exact .inl e | exact .inr (.inl e) | exact .inr (.inr (by omega)))
                  replace hzA := Nat.le_trans hzA hE51.size
                  replace hM79 := hM79.ext hE51 (fun i e => by first | exact .inl e | exact .inr e)
                  replace hq := hq.ext hE51 (fun i e => by first | exact .inl e | exact .inr e)
                  refine wl_nil ⟨fun h => absurd h (by decide), ?_⟩
                  refine wx_done (by kernel_rfl) ?_ _
                  refine W_seq ?_
                  refine W_drawE mixed ?_; intro w52 hE52
                  replace hX := hX.tr hE52
                  replace hB7 := hB7.ext hE52 id; replace hB8 := hB8.ext hE52 id; replace hB11 := hB11.ext hE52 id; replace hB10 := hB10.ext hE52 id
                  replace hp0 := hp0.ext hE52 (fun _ h => h.elim)
                  replace hzA := Nat.le_trans hzA hE52.size
                  replace hM79 := hM79.ext hE52 (fun _ h => h.elim)
                  replace hq := hq.ext hE52 (fun _ h => h.elim)
                  have hS := Ext.refl Non w52
                  refine wd_take 0 _ _ rfl (by kernel_rfl) hS (yd_do fun A hA => rn_loadB s_55 rfl rfl (hB7.ext hA id)) ?_
                  refine wd_take 1 _ _ rfl (by kernel_rfl) hS (yd_do fun A hA => rn_move (by conv => lhs; whnf)) ?_
                  refine wd_take 2 _ _ rfl (by kernel_rfl) hS (yd_do fun A hA => rn_move (by conv => lhs; whnf)) ?_
                  refine wd_take 3 _ _ rfl (by kernel_rfl) hS (yd_do fun A hA => rn_indexAddr sl_52 rfl rfl (by omega)) ?_
                  refine wd_take 4 _ _ rfl (by kernel_rfl) hS (yd_do fun A hA => rn_load p_9 rfl (((h0.ext hX (fun _ h => h)).ext hA (fun _ h => h.elim)).at0 (eS_at hi) rfl)) ?_
                  refine wd_only 5 _ rfl (by kernel_rfl) ?_
                  refine s1_do ?_
                  refine wl_call e_35 rfl (mget_si w52 ks2 (ys2.map eI1) k ((((hq.sub (M' := Non) (fun _ h _ => h.elim))).mp hle2).ext hS (fun _ h => h)) hord2 (by omega) (eI_each ys2)) ?_; intro v92 w53 hE53 hR53
                  replace hS := hS.tr hE53
                  obtain ⟨z1, rfl, hz1a, hz1b⟩ := hR53
                  refine wl_nil ⟨hS, ?_⟩
                  refine wd_take 6 _ _ rfl (by kernel_rfl) hS (yd_do fun A hA => rn_move (by conv => lhs; whnf)) ?_
                  refine wd_take 7 _ _ rfl (by kernel_rfl) hS (yd_do fun A hA => rn_extract rfl rfl) ?_
                  refine wd_take 8 _ _ rfl (by kernel_rfl) hS (yd_do fun A hA => rn_extract rfl rfl) ?_
                  refine wd_take 9 _ _ rfl (by kernel_rfl) hS (yd_do fun A hA => rn_assign (by conv => lhs; whnf)) ?_
                  refine wd_take 10 _ _ rfl (by kernel_rfl) hS (yd_do fun A hA => rn_assign (by conv => lhs; whnf)) ?_
                  refine wd_done (by kernel_rfl) ?_ _
                  replace hX := hX.tr hS
                  replace hB7 := hB7.ext hS id; replace hB8 := hB8.ext hS id; replace hB11 := hB11.ext hS id; replace hB10 := hB10.ext hS id
                  replace hp0 := hp0.ext hS (fun _ h => h.elim)
                  replace hzA := Nat.le_trans hzA hS.size
                  replace hM79 := hM79.ext hS (fun _ h => h.elim)
                  replace hq := hq.ext hS (fun _ h => h.elim)
                  refine W_seq ?_
                  refine W_drawE mixed ?_; intro w54 hE54
                  replace hX := hX.tr hE54
                  replace hB7 := hB7.ext hE54 id; replace hB8 := hB8.ext hE54 id; replace hB11 := hB11.ext hE54 id; replace hB10 := hB10.ext hE54 id
                  replace hp0 := hp0.ext hE54 (fun _ h => h.elim)
                  replace hzA := Nat.le_trans hzA hE54.size
                  replace hM79 := hM79.ext hE54 (fun _ h => h.elim)
                  replace hq := hq.ext hE54 (fun _ h => h.elim)
                  have hS := Ext.refl Non w54
                  refine wd_take 0 _ _ rfl (by kernel_rfl) hS (yd_do fun A hA => rn_loadB s_57 rfl rfl (hB8.ext hA id)) ?_
                  refine wd_take 1 _ _ rfl (by kernel_rfl) hS (yd_do fun A hA => rn_move (by conv => lhs; whnf)) ?_
                  refine wd_take 2 _ _ rfl (by kernel_rfl) hS (yd_do fun A hA => rn_move (by conv => lhs; whnf)) ?_
                  refine wd_take 3 _ _ rfl (by kernel_rfl) hS (yd_do fun A hA => rn_indexAddr sl_52 rfl rfl (by omega)) ?_
                  refine wd_take 4 _ _ rfl (by kernel_rfl) hS (yd_do fun A hA => rn_load p_9 rfl (((h0.ext hX (fun _ h => h)).ext hA (fun _ h => h.elim)).at0 (eS_at hi) rfl)) ?_
                  refine wd_only 5 _ rfl (by kernel_rfl) ?_
                  refine s1_do ?_
                  refine wl_call e_36 rfl (rget_ok w54 ks2 ys2 k (((hq.sub (M' := Non) (fun _ h _ => h.elim))).x1.ext hS (fun _ h => h)) (((hq.sub (M' := Non) (fun _ h _ => h.elim))).x2.ext hS (fun _ h => h)) hle2 hord2 (by omega)) ?_; intro v101 w55 hE55 hR55
                  replace hS := hS.tr hE55
                  obtain ⟨z2, rfl, hz2a, hz2b⟩ := hR55
                  obtain rfl := same_get hz1a hz1b hz2a hz2b
                  refine wl_nil ⟨hS, ?_⟩
                  refine wd_take 6 _ _ rfl (by kernel_rfl) hS (yd_do fun A hA => rn_move (by conv => lhs; whnf)) ?_
                  refine wd_take 7 _ _ rfl (by kernel_rfl) hS (yd_do fun A hA => rn_extract rfl rfl) ?_
                  refine wd_take 8 _ _ rfl (by kernel_rfl) hS (yd_do fun A hA => rn_extract rfl rfl) ?_
                  refine wd_take 9 _ _ rfl (by kernel_rfl) hS (yd_do fun A hA => rn_assign (by conv => lhs; whnf)) ?_
                  refine wd_take 10 _ _ rfl (by kernel_rfl) hS (yd_do fun A hA => rn_assign (by conv => lhs; whnf)) ?_
                  refine wd_done (by kernel_rfl) ?_ _
                  replace hX := hX.tr hS
                  replace hB7 := hB7.ext hS id; replace hB8 := hB8.ext hS id; replace hB11 := hB11.ext hS id; replace hB10 := hB10.ext hS id
                  replace hp0 := hp0.ext hS (fun _ h => h.elim)
                  replace hzA := Nat.le_trans hzA hS.size
                  replace hM79 := hM79.ext hS (fun _ h => h.elim)
                  replace hq := hq.ext hS (fun _ h => h.elim)
                  refine W_seq ?_
                  refine W_region ?_
                  refine wl_val (rn_loadB s_55 rfl rfl hB7) ?_
                  refine wl_val (rn_loadB s_57 rfl rfl hB8) ?_
                  refine wl_call e_37 rfl (same_ok w55 ks2 ys2 hle2 (by omega) hord2 (hq.sub (M' := Non) (fun _ h _ => h.elim))) ?_; intro v106 w56 hE56 hR56
                  replace hX := hX.tr hE56
                  replace hB7 := hB7.ext hE56 id; replace hB8 := hB8.ext hE56 id; replace hB11 := hB11.ext hE56 id; replace hB10 := hB10.ext hE56 id
                  replace hp0 := hp0.ext hE56 (fun _ h => h.elim)
                  replace hzA := Nat.le_trans hzA hE56.size
                  replace hM79 := hM79.ext hE56 (fun _ h => h.elim)
                  replace hq := hq.ext hE56 (fun _ h => h.elim)
                  subst hR56
                  refine wl_val (rn_not rfl) ?_
                  refine wl_val (rn_move (by conv => lhs; whnf)) ?_
                  refine wl_split (d := 108) rfl (fun hg108 => ?_) (fun hg108 => ?_)
                  · exact absurd hg108 (by decide)
                  · refine wl_yes rfl (congrArg Value.bool hg108) ?_
                    refine wl_val (rn_loadB s_55 rfl rfl hB10) ?_
                    refine wl_yes rfl (congrArg Value.bool hg108) ?_
                    refine wl_val (rn_loadB s_57 rfl rfl hB11) ?_
                    refine wl_yes rfl (congrArg Value.bool hg108) ?_
                    refine wl_call e_37 rfl (same_ok w56 ks ys hle (by omega) hord (hp0.sub (M' := Non) (fun _ h _ => h.elim))) ?_; intro v111 w57 hE57 hR57
                    replace hX := hX.tr hE57
                    replace hB7 := hB7.ext hE57 id; replace hB8 := hB8.ext hE57 id; replace hB11 := hB11.ext hE57 id; replace hB10 := hB10.ext hE57 id
                    replace hp0 := hp0.ext hE57 (fun _ h => h.elim)
                    replace hzA := Nat.le_trans hzA hE57.size
                    replace hM79 := hM79.ext hE57 (fun _ h => h.elim)
                    replace hq := hq.ext hE57 (fun _ h => h.elim)
                    subst hR57
                    refine wl_yes rfl (congrArg Value.bool hg108) ?_
                    refine wl_val (rn_not rfl) ?_
                    refine wl_val (rn_pickF (congrArg Value.bool hg108) (by conv => lhs; whnf)) ?_
                    refine wl_val (rn_move (by conv => lhs; whnf)) ?_
                    refine wl_split (d := 114) rfl (fun hg114 => ?_) (fun hg114 => ?_)
                    · exact absurd hg114 (by decide)
                    · refine wl_yes rfl (congrArg Value.bool hg114) ?_
                      refine wl_val (rn_move (by conv => lhs; whnf)) ?_
                      refine wl_yes rfl (congrArg Value.bool hg114) ?_
                      refine wl_val (rn_move (by conv => lhs; whnf)) ?_
                      refine wl_yes rfl (congrArg Value.bool hg114) ?_
                      refine wl_val (rn_neq rfl rfl) ?_
                      refine wl_val (rn_pickF (congrArg Value.bool hg114) (by conv => lhs; whnf)) ?_
                      refine wl_val (rn_move (by conv => lhs; whnf)) ?_
                      refine wl_split (d := 119) rfl (fun hg119 => ?_) (fun hg119 => ?_)
                      · exact absurd (of_decide_eq_true hg119) (by simp)
                      · refine wl_yes rfl (congrArg Value.bool hg119) ?_
                        refine wl_val (rn_move (by conv => lhs; whnf)) ?_
                        refine wl_yes rfl (congrArg Value.bool hg119) ?_
                        refine wl_val (rn_move (by conv => lhs; whnf)) ?_
                        refine wl_yes rfl (congrArg Value.bool hg119) ?_
                        refine wl_val (rn_bneq ub_4 rfl rfl) ?_
                        refine wl_val (rn_pickF (congrArg Value.bool hg119) (by conv => lhs; whnf)) ?_
                        refine wl_nil ?_
                        refine W_cond rfl (fun hc5 => ?_) (fun hc5 => ?_)
                        · exact absurd (of_decide_eq_true hc5) (by simp)
                        · refine W_skip ?_
                          refine W_region ?_
                          refine wl_val (rn_move (by conv => lhs; whnf)) ?_
                          refine wl_val (rn_add rfl rfl (by omega)) ?_
                          refine wl_val (rn_assign (by conv => lhs; whnf)) ?_
                          refine wl_nil ?_
                          exact ⟨rfl, (i + 1, ks2, ys2, _, _, _, _), ⟨rfl, rfl, rfl, rfl, rfl, rfl, trivial⟩, ⟨hX, hB7, hB8, hl7, hl8, hn7_8, ⟨hlt, hq, hle2, hord2, hn2, hkl2⟩⟩, by show keys.length - (i + 1) < keys.length - i; omega⟩
          · refine W_exit ?_   -- exit 0
            refine W_seq ?_
            refine W_region ?_
            refine wl_val (rn_assign (by conv => lhs; whnf)) ?_
            refine wl_nil ?_
            refine W_ret ?_
            exact ⟨_, resR1 (res1_tmp rfl), hX, rfl⟩
end Go.Proofs.YtfdfphaiefbflaaC
