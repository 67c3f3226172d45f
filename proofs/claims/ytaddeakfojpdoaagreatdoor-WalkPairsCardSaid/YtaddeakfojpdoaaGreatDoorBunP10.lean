/- Tries: what a node tells, as two lists. -/
import Derived.Test.YtaddeakfojpdoaaGreatDoorBunP8
import Derived.Test.YtaddeakfojpdoaaGreatDoorBunP9
import Derived.Test.YtaddeakfojpdoaaGreatDoorBunP5
set_option linter.unusedVariables false
set_option linter.unusedSimpArgs false
set_option maxRecDepth 100000
namespace Go.Proofs.YtaddeakfojpdoaaGreatDoorC
open Go.RowKit
/-- What is told: all, or what a filter covers. -/
def toldU (un : Bool) (f : Str) (t : Tr) : List (Str × Int) := if un = true then (t.told []).filter fun q => coversB f q.1 else t.told []
def eT1 (q : Str × Int) : List Value := [Sv q.1]
def eU1 (q : Str × Int) : List Value := [.int .i64 q.2]
theorem eT_map (l : List (Str × Int)) : l.map eT1 = (l.map Prod.fst).map eS1 := by rw [List.map_map]; rfl
theorem eU_map (l : List (Str × Int)) : l.map eU1 = (l.map Prod.snd).map eI1 := by rw [List.map_map]; rfl
-- bellman/bellmanlaw14.of
theorem lof_ok (w : World) (ks : List Str) (ys : List Int) {v1 v2 : Value} (hk : Sl Non w v1 1 (ks.map eS1)) (hv : Sl Non w v2 1 (ys.map eI1)) (hkl : ∀ k ∈ ks, k.length ≤ 200) (hn : ks.length ≤ 1000) : Fn Tryz.prog 8 #[v1, v2] w fun u w' => TrM Non w' (ofT (ks.zip ys)) u := by
  obtain ⟨a1, n1, c1, rfl⟩ := hk.shape; obtain ⟨a2, n2, c2, rfl⟩ := hv.shape
  have hX := Ext.refl Non w
  refine fn_of_W (args := [_, _]) Tryz.func8 rfl (by kernel_rfl) rfl ?_
  refine W_seq ?_
  refine W_region ?_
  refine wl_box1 (by conv => lhs; whnf) rfl ?_; intro b2 w1 hb2 hE1 hB2
  have hq2 : w.heap.size ≤ b2 := Nat.le_trans hX.size hb2
  have hl2 : Mine Non w b2 := .inr hq2
  replace hX := hX.tr hE1
  refine wl_box1 (by conv => lhs; whnf) rfl ?_; intro b3 w2 hb3 hE2 hB3
  have hn2_3 : b2 < b3 := Nat.lt_of_lt_of_le hB2.lt hb3
  have hq3 : w.heap.size ≤ b3 := Nat.le_trans hX.size hb3
  have hl3 : Mine Non w b3 := .inr hq3
  replace hX := hX.tr hE2
  replace hB2 := hB2.ext hE2 id
  refine wl_val (rn_assign (by conv => lhs; whnf)) ?_
  refine wl_nil ?_
  refine W_seq ?_
  refine W_region ?_
  refine wl_val (rn_makeFunc rfl) ?_
  refine wl_call e_11 rfl (wof_ok w2 (ks.zip ys) (of_iter ks ys Non w2 b2 b3 (hk.ext hX (fun _ h => h)) (hv.ext hX (fun _ h => h)) hB2 hB3 id id) (m := 1000) (fun q hq => by have := hkl _ (List.of_mem_zip (show (q.1, q.2) ∈ ks.zip ys from hq)).1; omega) (by omega) (by rw [List.length_zip]; omega)) ?_; intro v6 w3 hE3 hR3
  replace hX := hX.tr hE3
  replace hB2 := hB2.ext hE3 id; replace hB3 := hB3.ext hE3 id
  have hR6 := hR3
  refine wl_val (rn_assign (by conv => lhs; whnf)) ?_
  refine wl_nil ?_
  refine W_ret ?_
  exact ⟨_, resR1 (res1_tmp rfl), hX, hR6⟩
-- bellman/bellmanlaw14.pairs
set_option maxHeartbeats 3200000 in
theorem lpairs_ok (w : World) (t : Tr) {v : Value} {n m : Nat} (hok : t.Ok n m) (hm : m ≤ 1000000) (f : Str) (hnf : f.length ≤ 1000000) (hkl : ∀ q ∈ t.told [], q.1.length ≤ 1000000) (un : Bool) (hn : (t.told []).length ≤ 500) (ht : TrM Non w t v) : Fn Tryz.prog 9 #[v, Sv f, .bool un] w fun u w' => ∃ va vb, u = .tuple #[va, vb, .bool true] ∧ Sl Non w' va 1 (((toldU un f t).map Prod.fst).map eS1) ∧ Sl Non w' vb 1 (((toldU un f t).map Prod.snd).map eI1) := by
  obtain ⟨pa, rfl⟩ := ht.ptr
  have hnU : (toldU un f t).length ≤ 500 := by unfold toldU; split; exact Nat.le_trans (List.length_filter_le _ _) hn; exact hn
  have hX := Ext.refl Non w
  refine fn_of_W (args := [_, _, _]) Tryz.func9 rfl (by kernel_rfl) rfl ?_
  refine W_seq ?_
  refine W_region ?_
  refine wl_alloc z_22 ?_; intro b6 w1 hb6 hE1 hB6
  have hq6 : w.heap.size ≤ b6 := Nat.le_trans hX.size hb6
  have hl6 : Mine Non w b6 := .inr hq6
  replace hX := hX.tr hE1
  refine wl_alloc z_23 ?_; intro b7 w2 hb7 hE2 hB7
  have hn6_7 : b6 < b7 := Nat.lt_of_lt_of_le hB6.lt hb7
  have hq7 : w.heap.size ≤ b7 := Nat.le_trans hX.size hb7
  have hl7 : Mine Non w b7 := .inr hq7
  replace hX := hX.tr hE2
  replace hB6 := hB6.ext hE2 id
  refine wl_alloc z_4 ?_; intro b8 w3 hb8 hE3 hB8
  have hn6_8 : b6 < b8 := Nat.lt_of_lt_of_le hB6.lt hb8
  have hn7_8 : b7 < b8 := Nat.lt_of_lt_of_le hB7.lt hb8
  have hq8 : w.heap.size ≤ b8 := Nat.le_trans hX.size hb8
  have hl8 : Mine Non w b8 := .inr hq8
  replace hX := hX.tr hE3
  replace hB6 := hB6.ext hE3 id; replace hB7 := hB7.ext hE3 id
  refine wl_nil ?_
  refine W_seq ?_
  refine W_region ?_
  refine wl_alloc z_22 ?_; intro b9 w4 hb9 hE4 hB9
  have hn6_9 : b6 < b9 := Nat.lt_of_lt_of_le hB6.lt hb9
  have hn7_9 : b7 < b9 := Nat.lt_of_lt_of_le hB7.lt hb9
  have hn8_9 : b8 < b9 := Nat.lt_of_lt_of_le hB8.lt hb9
  have hq9 : w.heap.size ≤ b9 := Nat.le_trans hX.size hb9
  have hl9 : Mine Non w b9 := .inr hq9
  replace hX := hX.tr hE4
  replace hB6 := hB6.ext hE4 id; replace hB7 := hB7.ext hE4 id; replace hB8 := hB8.ext hE4 id
  refine wl_nil ?_
  refine W_seq ?_
  refine W_region ?_
  refine wl_alloc z_23 ?_; intro b10 w5 hb10 hE5 hB10
  have hn6_10 : b6 < b10 := Nat.lt_of_lt_of_le hB6.lt hb10
  have hn7_10 : b7 < b10 := Nat.lt_of_lt_of_le hB7.lt hb10
  have hn8_10 : b8 < b10 := Nat.lt_of_lt_of_le hB8.lt hb10
  have hn9_10 : b9 < b10 := Nat.lt_of_lt_of_le hB9.lt hb10
  have hq10 : w.heap.size ≤ b10 := Nat.le_trans hX.size hb10
  have hl10 : Mine Non w b10 := .inr hq10
  replace hX := hX.tr hE5
  replace hB6 := hB6.ext hE5 id; replace hB7 := hB7.ext hE5 id; replace hB8 := hB8.ext hE5 id; replace hB9 := hB9.ext hE5 id
  refine wl_nil ?_
  refine W_seq ?_
  refine W_region ?_
  refine wl_val (rn_move (by conv => lhs; whnf)) ?_
  refine wl_call e_10 rfl (pairs_ok w5 t hok hm (fun i => i = b9 ∨ i = b10) (fun i h => by rcases h with h | h; rw [h]; exact hB9.lt; rw [h]; exact hB10.lt) ((ht.sub (M' := fun i => i = b9 ∨ i = b10) (fun i e hlt => by omega)).ext hX (fun _ h => h.elim))) ?_; intro v15 w6 hE6 hR6
  replace hX := hX.tr hE6
  replace hB6 := hB6.ext hE6 id; replace hB7 := hB7.ext hE6 id; replace hB8 := hB8.ext hE6 id; replace hB9 := hB9.ext hE6 id; replace hB10 := hB10.ext hE6 id
  have hItP := (hR6).1; obtain ⟨fkp, ckp, hfkp, _⟩ := id hItP; subst hfkp
  refine wl_val (rn_assign (by conv => lhs; whnf)) ?_
  refine wl_nil ?_
  refine W_seq ?_
  refine W_seq ?_
  refine W_region ?_
  refine wl_val (rn_move (by conv => lhs; whnf)) ?_
  refine wl_nil ?_
  refine W_cond rfl (fun hc0 => ?_) (fun hc0 => ?_)
  · refine W_region ?_
    refine wl_val (rn_move (by conv => lhs; whnf)) ?_
    refine wl_val (rn_move (by conv => lhs; whnf)) ?_
    refine wl_call e_22 rfl (under_ok w6 t hok hm f hnf hkl (fun i => i = b9 ∨ i = b10) (fun i h => by rcases h with h | h; rw [h]; exact hB9.lt; rw [h]; exact hB10.lt) ((ht.sub (M' := fun i => i = b9 ∨ i = b10) (fun i e hlt => by omega)).ext hX (fun _ h => h.elim))) ?_; intro v19 w7 hE7 hR7
    replace hX := hX.tr hE7
    replace hB6 := hB6.ext hE7 id; replace hB7 := hB7.ext hE7 id; replace hB8 := hB8.ext hE7 id; replace hB9 := hB9.ext hE7 id; replace hB10 := hB10.ext hE7 id
    have hIt := hR7; obtain ⟨fk, ck, hfk, _⟩ := id hIt; subst hfk
    rw [show ((t.told []).filter fun q => coversB f q.1) = toldU un f t by unfold toldU; rw [if_pos hc0]] at hIt
    obtain ⟨wz, hwz⟩ : ∃ x, x = w7 := ⟨_, rfl⟩
    have hW := Ext.refl (fun i => i = b9 ∨ i = b10) w7; have hz6 := hB6.lt; have hz7 := hB7.lt; have hz8 := hB8.lt; have hz9 := hB9.lt; have hz10 := hB10.lt
    have hszz : w.heap.size ≤ wz.heap.size := by rw [hwz]; exact hX.size
    rw [← hwz] at hIt hz6 hz7 hz8 hz9 hz10
    conv at hW => arg 2; rw [← hwz]
    refine wl_val (rn_assign (by conv => lhs; whnf)) ?_
    refine wl_nil ?_
    refine W_seq ?_
    refine W_seq ?_
    refine W_region ?_
    refine wl_val (rn_move (by conv => lhs; whnf)) ?_
    refine wl_val (rn_func_eql uf_31 rfl rfl) ?_
    refine wl_nil ?_
    refine W_cond rfl (fun hc1 => ?_) (fun hc1 => ?_)
    · exact absurd hc1 (by simp)
    · refine W_skip ?_
      refine W_seq ?_
      refine W_seq ?_
      refine W_region ?_
      refine wl_val (rn_move (by conv => lhs; whnf)) ?_
      refine wl_nil ?_
      refine W_block ?_   -- block 0
      have hszr := hX.size
      have hsz_hW := hW.size
      have ho6 : w.heap.size ≤ b6 := by rcases hl6 with h | h; exact h.elim; exact h
      have ho7 : w.heap.size ≤ b7 := by rcases hl7 with h | h; exact h.elim; exact h
      have ho8 : w.heap.size ≤ b8 := by rcases hl8 with h | h; exact h.elim; exact h
      have ho9 : w.heap.size ≤ b9 := by rcases hl9 with h | h; exact h.elim; exact h
      have ho10 : w.heap.size ≤ b10 := by rcases hl10 with h | h; exact h.elim; exact h
      refine W_rangeFunc (M := fun i => i = b9 ∨ i = b10) (w0 := wz) (I := fun pre N A => ∃ v9 : Value, ∃ o0 : Option Nat, ∃ v10 : Value, ∃ p0 : Option Nat, Box N A b6 [.slice none 0 0] ∧ Box N A b7 [.slice none 0 0] ∧ Box N A b8 [.bool false] ∧ Box N A b9 [v9] ∧ Box N A b10 [v10] ∧ Ext Non w A ∧ Ext (fun i => i = b9 ∨ i = b10) wz A ∧ MkN w [] N A ∧ (OwX wz.heap.size N A v9 o0 1 (pre.map eT1)) ∧ (OwX wz.heap.size N A v10 p0 1 (pre.map eU1)) ∧ (∀ j, o0 = some j → p0 ≠ some j)) (X := fun c N A => False) (encs := fun q : Str × Int => [Sv q.1, .int .i64 q.2]) (xs := toldU un f t) rfl (hIt) (hW) (fun _ => rfl) (fun pre => Stab.ex fun v9 => Stab.ex fun o0 => Stab.ex fun v10 => Stab.ex fun p0 => (Stab.box _ _).and ((Stab.box _ _).and ((Stab.box _ _).and ((Stab.box _ _).and ((Stab.box _ _).and ((Stab.old hX.size).and ((Stab.oldM hW.size).and ((Stab.mk _ _).and ((Stab.owx _ _ _ _ _).and ((Stab.owx _ _ _ _ _).and ((Stab.pure _)))))))))))) (fun c => Stab.false) ⟨.slice none 0 0, none, .slice none 0 0, none, ⟨hB6, id⟩, ⟨hB7, id⟩, ⟨hB8, id⟩, ⟨hB9, id⟩, ⟨hB10, id⟩, hX, hW, (Mk.nil : Mk w [] _).toN, ⟨OwO.nil, by simp⟩, ⟨OwO.nil, by simp⟩, by simp⟩ ?_ ?_ ?_
      · rintro l N pre x A hl hN hA hst ⟨v9, o0, v10, p0, hK6, hK7, hK8, hK9, hK10, hXo, hW, hDk, hO, hU, hIq⟩ ⟨post, hpre⟩
        have hB6 := hK6.1
        have hB7 := hK7.1
        have hB8 := hK8.1
        have hB9 := hK9.1; have hl9 : Mine (Yc (fun i => i = b9 ∨ i = b10) wz N) A b9 := .inl ⟨hK9.2, .inl (.inl rfl)⟩
        have hB10 := hK10.1; have hl10 : Mine (Yc (fun i => i = b9 ∨ i = b10) wz N) A b10 := .inl ⟨hK10.2, .inl (.inr rfl)⟩
        have hX := Ext.refl (Yc (fun i => i = b9 ∨ i = b10) wz N) A
        have hdj := hIq
        obtain ⟨a9, c9, hv9⟩ := id hO.1.len; subst hv9; obtain ⟨a10, c10, hv10⟩ := id hU.1.len; subst hv10
        refine W_seq ?_
        refine W_region ?_
        refine wl_val (rn_assign (by conv => lhs; whnf)) ?_
        refine wl_nil ?_
        refine W_region ?_
        refine wl_val (rn_assign (by conv => lhs; whnf)) ?_
        refine wl_nil ?_
        refine ⟨rfl, hX, fun A2 hE2r hz2r hst2 => ?_⟩
        have hNl := (hN l hl).2
        replace hB6 := hB6.ext hE2r (fun e => hK6.2 (by rw [e]; exact hl))
        replace hB7 := hB7.ext hE2r (fun e => hK7.2 (by rw [e]; exact hl))
        replace hB8 := hB8.ext hE2r (fun e => hK8.2 (by rw [e]; exact hl))
        replace hB9 := hB9.ext hE2r (fun e => hK9.2 (by rw [e]; exact hl))
        replace hB10 := hB10.ext hE2r (fun e => hK10.2 (by rw [e]; exact hl))
        replace hXo := hXo.mine hE2r (.inr (Nat.le_trans hszr (hN l hl).1)); replace hDk := hDk.lp hE2r hl
        replace hW := hW.mine hE2r (.inr (Nat.le_trans hsz_hW (hN l hl).1))
        replace hO := hO.ext hE2r (fun i hi e => (hO.2 i hi).1 (by rw [e]; exact hl))
        replace hU := hU.ext hE2r (fun i hi e => (hU.2 i hi).1 (by rw [e]; exact hl))
        have hl9 : Mine (Yc (fun i => i = b9 ∨ i = b10) wz N) A2 b9 := .inl ⟨hK9.2, .inl (.inl rfl)⟩
        have hl10 : Mine (Yc (fun i => i = b9 ∨ i = b10) wz N) A2 b10 := .inl ⟨hK10.2, .inl (.inr rfl)⟩
        have hX := Ext.refl (Yc (fun i => i = b9 ∨ i = b10) wz N) A2
        refine W_block ?_   -- block 1
        refine W_seq ?_
        refine W_drawXF (fun i => o0 = some i) (fun j => j == 7 || j == 8 || j == 9) mixed ?_; intro w8 hE8
        replace hX := hX.tr hE8
        replace hB6 := hB6.ext hE8 id; replace hB7 := hB7.ext hE8 id; replace hB8 := hB8.ext hE8 id; replace hB9 := hB9.ext hE8 id; replace hB10 := hB10.ext hE8 id
        replace hXo := hXo.tr hE8
        replace hDk := hDk.non hE8
        replace hW := hW.tr hE8
        replace hO := hO.ext hE8 (fun _ _ h => h)
        replace hU := hU.ext hE8 (fun _ _ h => h)
        have hS := Ext.refl (fun i => o0 = some i) w8
        have hoN := hO.2
        have hoL : ∀ i, o0 = some i → i < (World.heap w8).size := fun i hi => hO.1.lt hi
        have hpL : ∀ i, p0 = some i → i < (World.heap w8).size := fun i hi => hU.1.lt hi
        have hpl : pre.length + 1 ≤ 500 := by have := congrArg List.length hpre; simp only [List.length_append, List.length_cons] at this; omega
        have hF6 : ¬ o0 = some b6 := fun e => by have := (hoN _ e).2; omega
        have hF7 : ¬ o0 = some b7 := fun e => by have := (hoN _ e).2; omega
        have hF8 : ¬ o0 = some b8 := fun e => by have := (hoN _ e).2; omega
        have hF9 : ¬ o0 = some b9 := fun e => by have := (hoN _ e).2; omega
        have hF10 : ¬ o0 = some b10 := fun e => by have := (hoN _ e).2; omega
        refine wx_take 0 [3, 7, 8, 9] _ _ rfl (by kernel_rfl) hS (yd_do fun A hA => rn_load1 p_22 rfl (hB9.ext hA hF9) rfl) ?_
        refine wx_take 1 [2, 3, 7, 8, 9] _ _ rfl (by kernel_rfl) hS (yd_do fun A hA => rn_move (by conv => lhs; whnf)) ?_
        refine wx_take 4 [7, 8, 9] _ _ rfl (by kernel_rfl) hS (yd_do fun A hA => rn_load1 p_23 rfl (hB10.ext hA hF10) rfl) ?_
        refine wx_take 5 [6, 7, 8, 9] _ _ rfl (by kernel_rfl) hS (yd_do fun A hA => rn_move (by conv => lhs; whnf)) ?_
        refine wx_two 2 6 _ _ rfl rfl (by kernel_rfl) ?_ ?_
        · refine s1_do ?_
          refine wl_lit1 (r := eT1 x) sl_22 rfl rfl rfl rfl (by decide) ?_; intro v27 w9 b27 hb27 hE9 hO27
          have hm27 := Nat.le_trans hS.size hb27
          replace hS := hS.tr hE9
          replace hO := hO.ext hE9 (fun _ _ h => h)
          refine wl_nil ⟨fun _ => hS, ?_⟩
          refine wx_two 3 6 _ _ rfl rfl (by kernel_rfl) ?_ ?_
          · refine s1_do ?_
            have hsS := hS.size; have hsX := hX.size; have hsW := hW.size
            refine wl_app sl_22 rfl rfl rfl hO.1 (hO27.sl (M := Non) id) (fun r hr => by simp only [List.mem_singleton] at hr; subst hr; exact one1 rfl) (by simp only [List.length_map, List.length_cons, List.length_nil]; omega) (by simp only [List.length_map, List.length_cons, List.length_nil, big]; omega) ?_; intro v28 w10 o28 hE10 hO28 hf28
            obtain ⟨a28, c28, hv28⟩ := id hO28.len; subst hv28
            replace hS := hS.mineF hE10 (fun i hi => .inl hi)
            try replace hO31 := hO31.ext hE10 (fun e => by have := hoL _ e; omega)
            have hOn : OwX wz.heap.size N w10 _ o28 1 ((pre ++ [x]).map eT1) := ⟨by rw [List.map_append]; exact hO28, fun i hi => by rcases hf28 i hi with h | h; exact hoN i h; exact ⟨fun hNi => by have := (hN i hNi).2; omega, by omega⟩⟩
            have hdj28 : ∀ j, o28 = some j → p0 ≠ some j := fun j hj e => by rcases hf28 j hj with h | h; exact hdj j h e; have := hpL j e; omega
            refine wl_nil ⟨fun _ => hS, ?_⟩
            refine wx_only 6 _ rfl (by kernel_rfl) ?_
            refine s1_do ?_
            refine wl_lit1 (r := eU1 x) sl_23 rfl rfl rfl rfl (by decide) ?_; intro v31 w11 b31 hb31 hE11 hO31
            have hm31 := Nat.le_trans hS.size hb31
            replace hS := hS.tr hE11
            replace hOn := hOn.ext hE11 (fun _ _ h => h)
            refine wl_nil ⟨fun _ => hS, ?_⟩
            replace hX := hX.mineF hS (fun i hi => .inl ⟨(hoN i hi).1, .inr (hoN i hi).2⟩)
            replace hXo := hXo.mineF hS (fun i hi => .inr (Nat.le_trans hszz (hoN i hi).2))
            replace hW := hW.mineF hS (fun i hi => .inr (hoN i hi).2)
            replace hDk : MkN w [] N w11 := ⟨Mk.nil, fun r h => by cases h⟩
            replace hU := hU.ext hS (fun i hi e => hdj i e hi)
            replace hB6 := hB6.ext hS hF6; replace hB7 := hB7.ext hS hF7; replace hB8 := hB8.ext hS hF8; replace hB9 := hB9.ext hS hF9; replace hB10 := hB10.ext hS hF10
            refine wx_only 7 _ rfl (by kernel_rfl) ?_
            refine s1_do ?_
            have hsX2 := hX.size; have hsW2 := hW.size; have hOL : ∀ i, o28 = some i → i < (World.heap w11).size := fun i hi => hOn.1.lt hi
            refine wl_app sl_23 rfl rfl rfl hU.1 (hO31.sl (M := Non) id) (fun r hr => by simp only [List.mem_singleton] at hr; subst hr; exact one1 rfl) (by simp only [List.length_map, List.length_cons, List.length_nil]; omega) (by simp only [List.length_map, List.length_cons, List.length_nil, big]; omega) ?_; intro v32 w12 o32 hE12 hO32 hf32
            obtain ⟨a32, c32, hv32⟩ := id hO32.len; subst hv32
            replace hX := hX.mineO hE12 (fun i hi => .inl ⟨(hU.2 i hi).1, .inr (hU.2 i hi).2⟩); replace hXo := hXo.mineO hE12 (fun i hi => .inr (Nat.le_trans hszz (hU.2 i hi).2)); replace hW := hW.mineO hE12 (fun i hi => .inr (hU.2 i hi).2); replace hDk : MkN w [] N w12 := ⟨Mk.nil, fun r h => by cases h⟩
            replace hB6 := hB6.ext hE12 (fun e => by have := (hU.2 _ e).2; omega); replace hB7 := hB7.ext hE12 (fun e => by have := (hU.2 _ e).2; omega); replace hB8 := hB8.ext hE12 (fun e => by have := (hU.2 _ e).2; omega); replace hB9 := hB9.ext hE12 (fun e => by have := (hU.2 _ e).2; omega); replace hB10 := hB10.ext hE12 (fun e => by have := (hU.2 _ e).2; omega)
            have hUn : OwX wz.heap.size N w12 _ o32 1 ((pre ++ [x]).map eU1) := ⟨by rw [List.map_append]; exact hO32, fun i hi => by rcases hf32 i hi with h | h; exact hU.2 i h; exact ⟨fun hNi => by have := (hN i hNi).2; omega, by omega⟩⟩
            replace hOn := hOn.ext hE12 (fun i hi e => hdj28 i hi e)
            have hdjn : ∀ j, o28 = some j → o32 ≠ some j := fun j hj e => by rcases hf32 j e with h | h; exact hdj28 j hj h; have := hOL j hj; omega
            refine wl_nil ⟨fun h => absurd h (by decide), ?_⟩
            refine wx_only 8 _ rfl (by kernel_rfl) ?_
            refine s1_do ?_
            have hBo := hB9
            refine wl_store1 (b := b9) p_22 rfl (by conv => lhs; whnf) rfl rfl hB9 (Nat.le_of_ble_eq_true rfl) ?_; intro w13 hE13 hB9 hz13
            replace hX := hX.mine hE13 hl9
            replace hB6 := hB6.ext hE13 (fun h => by omega); replace hB7 := hB7.ext hE13 (fun h => by omega); replace hB8 := hB8.ext hE13 (fun h => by omega); replace hB10 := hB10.ext hE13 (fun h => by omega)
            replace hXo := hXo.mine hE13 (.inr ho9)
            replace hDk := hDk.box hE13 hBo
            replace hW := hW.mine hE13 (by first | exact .inl (.inl rfl) | exact .inl (.inr rfl))
            replace hOn := hOn.ext hE13 (fun i hi e => by have := (hOn.2 i hi).2; omega)
            replace hUn := hUn.ext hE13 (fun i hi e => by have := (hUn.2 i hi).2; omega)
            refine wl_nil ⟨fun h => absurd h (by decide), ?_⟩
            refine wx_only 9 _ rfl (by kernel_rfl) ?_
            refine s1_do ?_
            have hBo := hB10
            refine wl_store1 (b := b10) p_23 rfl (by conv => lhs; whnf) rfl rfl hB10 (Nat.le_of_ble_eq_true rfl) ?_; intro w14 hE14 hB10 hz14
            replace hX := hX.mine hE14 hl10
            replace hB6 := hB6.ext hE14 (fun h => by omega); replace hB7 := hB7.ext hE14 (fun h => by omega); replace hB8 := hB8.ext hE14 (fun h => by omega); replace hB9 := hB9.ext hE14 (fun h => by omega)
            replace hXo := hXo.mine hE14 (.inr ho10)
            replace hDk := hDk.box hE14 hBo
            replace hW := hW.mine hE14 (by first | exact .inl (.inl rfl) | exact .inl (.inr rfl))
            replace hOn := hOn.ext hE14 (fun i hi e => by have := (hOn.2 i hi).2; omega)
            replace hUn := hUn.ext hE14 (fun i hi e => by have := (hUn.2 i hi).2; omega)
            refine wl_nil ⟨fun h => absurd h (by decide), ?_⟩
            refine wx_done (by kernel_rfl) ?_ _
            refine W_seq ?_
            refine W_region ?_
            have hpl : pre.length + 1 ≤ 500 := by have := congrArg List.length hpre; simp only [List.length_append, List.length_cons] at this; omega
            refine wl_val (rn_load1 p_22 rfl hB9 rfl) ?_
            refine wl_val (rn_len sl_22 rfl) ?_
            refine wl_val (rn_gtr rfl rfl) ?_
            refine wl_nil ?_
            refine W_cond rfl (fun hc2 => ?_) (fun hc2 => ?_)
            · exact absurd (of_decide_eq_true hc2) (by simp only [List.length_map, List.length_append, List.length_cons, List.length_nil]; omega)
            · refine W_skip ?_
              exact ⟨hX, .slice a28 _ c28, o28, .slice a32 _ c32, o32, ⟨hB6, hK6.2⟩, ⟨hB7, hK7.2⟩, ⟨hB8, hK8.2⟩, ⟨hB9, hK9.2⟩, ⟨hB10, hK10.2⟩, hXo, hW, hDk, hOn, hUn, hdjn⟩
          · refine s1_do ?_
            refine wl_lit1 (r := eU1 x) sl_23 rfl rfl rfl rfl (by decide) ?_; intro v31 w15 b31 hb31 hE15 hO31
            have hm31 := Nat.le_trans hS.size hb31
            replace hS := hS.tr hE15
            replace hO := hO.ext hE15 (fun _ _ h => h)
            replace hO27 := hO27.ext hE15 id
            refine wl_nil ⟨fun _ => hS, ?_⟩
            refine wx_only 3 _ rfl (by kernel_rfl) ?_
            refine s1_do ?_
            have hsS := hS.size; have hsX := hX.size; have hsW := hW.size
            refine wl_app sl_22 rfl rfl rfl hO.1 (hO27.sl (M := Non) id) (fun r hr => by simp only [List.mem_singleton] at hr; subst hr; exact one1 rfl) (by simp only [List.length_map, List.length_cons, List.length_nil]; omega) (by simp only [List.length_map, List.length_cons, List.length_nil, big]; omega) ?_; intro v28 w16 o28 hE16 hO28 hf28
            obtain ⟨a28, c28, hv28⟩ := id hO28.len; subst hv28
            replace hS := hS.mineF hE16 (fun i hi => .inl hi)
            try replace hO31 := hO31.ext hE16 (fun e => by have := hoL _ e; omega)
            have hOn : OwX wz.heap.size N w16 _ o28 1 ((pre ++ [x]).map eT1) := ⟨by rw [List.map_append]; exact hO28, fun i hi => by rcases hf28 i hi with h | h; exact hoN i h; exact ⟨fun hNi => by have := (hN i hNi).2; omega, by omega⟩⟩
            have hdj28 : ∀ j, o28 = some j → p0 ≠ some j := fun j hj e => by rcases hf28 j hj with h | h; exact hdj j h e; have := hpL j e; omega
            refine wl_nil ⟨fun _ => hS, ?_⟩
            replace hX := hX.mineF hS (fun i hi => .inl ⟨(hoN i hi).1, .inr (hoN i hi).2⟩)
            replace hXo := hXo.mineF hS (fun i hi => .inr (Nat.le_trans hszz (hoN i hi).2))
            replace hW := hW.mineF hS (fun i hi => .inr (hoN i hi).2)
            replace hDk : MkN w [] N w16 := ⟨Mk.nil, fun r h => by cases h⟩
            replace hU := hU.ext hS (fun i hi e => hdj i e hi)
            replace hB6 := hB6.ext hS hF6; replace hB7 := hB7.ext hS hF7; replace hB8 := hB8.ext hS hF8; replace hB9 := hB9.ext hS hF9; replace hB10 := hB10.ext hS hF10
            refine wx_only 7 _ rfl (by kernel_rfl) ?_
            refine s1_do ?_
            have hsX2 := hX.size; have hsW2 := hW.size; have hOL : ∀ i, o28 = some i → i < (World.heap w16).size := fun i hi => hOn.1.lt hi
            refine wl_app sl_23 rfl rfl rfl hU.1 (hO31.sl (M := Non) id) (fun r hr => by simp only [List.mem_singleton] at hr; subst hr; exact one1 rfl) (by simp only [List.length_map, List.length_cons, List.length_nil]; omega) (by simp only [List.length_map, List.length_cons, List.length_nil, big]; omega) ?_; intro v32 w17 o32 hE17 hO32 hf32
            obtain ⟨a32, c32, hv32⟩ := id hO32.len; subst hv32
            replace hX := hX.mineO hE17 (fun i hi => .inl ⟨(hU.2 i hi).1, .inr (hU.2 i hi).2⟩); replace hXo := hXo.mineO hE17 (fun i hi => .inr (Nat.le_trans hszz (hU.2 i hi).2)); replace hW := hW.mineO hE17 (fun i hi => .inr (hU.2 i hi).2); replace hDk : MkN w [] N w17 := ⟨Mk.nil, fun r h => by cases h⟩
            replace hB6 := hB6.ext hE17 (fun e => by have := (hU.2 _ e).2; omega); replace hB7 := hB7.ext hE17 (fun e => by have := (hU.2 _ e).2; omega); replace hB8 := hB8.ext hE17 (fun e => by have := (hU.2 _ e).2; omega); replace hB9 := hB9.ext hE17 (fun e => by have := (hU.2 _ e).2; omega); replace hB10 := hB10.ext hE17 (fun e => by have := (hU.2 _ e).2; omega)
            have hUn : OwX wz.heap.size N w17 _ o32 1 ((pre ++ [x]).map eU1) := ⟨by rw [List.map_append]; exact hO32, fun i hi => by rcases hf32 i hi with h | h; exact hU.2 i h; exact ⟨fun hNi => by have := (hN i hNi).2; omega, by omega⟩⟩
            replace hOn := hOn.ext hE17 (fun i hi e => hdj28 i hi e)
            have hdjn : ∀ j, o28 = some j → o32 ≠ some j := fun j hj e => by rcases hf32 j e with h | h; exact hdj28 j hj h; have := hOL j hj; omega
            refine wl_nil ⟨fun h => absurd h (by decide), ?_⟩
            refine wx_only 8 _ rfl (by kernel_rfl) ?_
            refine s1_do ?_
            have hBo := hB9
            refine wl_store1 (b := b9) p_22 rfl (by conv => lhs; whnf) rfl rfl hB9 (Nat.le_of_ble_eq_true rfl) ?_; intro w18 hE18 hB9 hz18
            replace hX := hX.mine hE18 hl9
            replace hB6 := hB6.ext hE18 (fun h => by omega); replace hB7 := hB7.ext hE18 (fun h => by omega); replace hB8 := hB8.ext hE18 (fun h => by omega); replace hB10 := hB10.ext hE18 (fun h => by omega)
            replace hXo := hXo.mine hE18 (.inr ho9)
            replace hDk := hDk.box hE18 hBo
            replace hW := hW.mine hE18 (by first | exact .inl (.inl rfl) | exact .inl (.inr rfl))
            replace hOn := hOn.ext hE18 (fun i hi e => by have := (hOn.2 i hi).2; omega)
            replace hUn := hUn.ext hE18 (fun i hi e => by have := (hUn.2 i hi).2; omega)
            refine wl_nil ⟨fun h => absurd h (by decide), ?_⟩
            refine wx_only 9 _ rfl (by kernel_rfl) ?_
            refine s1_do ?_
            have hBo := hB10
            refine wl_store1 (b := b10) p_23 rfl (by conv => lhs; whnf) rfl rfl hB10 (Nat.le_of_ble_eq_true rfl) ?_; intro w19 hE19 hB10 hz19
            replace hX := hX.mine hE19 hl10
            replace hB6 := hB6.ext hE19 (fun h => by omega); replace hB7 := hB7.ext hE19 (fun h => by omega); replace hB8 := hB8.ext hE19 (fun h => by omega); replace hB9 := hB9.ext hE19 (fun h => by omega)
            replace hXo := hXo.mine hE19 (.inr ho10)
            replace hDk := hDk.box hE19 hBo
            replace hW := hW.mine hE19 (by first | exact .inl (.inl rfl) | exact .inl (.inr rfl))
            replace hOn := hOn.ext hE19 (fun i hi e => by have := (hOn.2 i hi).2; omega)
            replace hUn := hUn.ext hE19 (fun i hi e => by have := (hUn.2 i hi).2; omega)
            refine wl_nil ⟨fun h => absurd h (by decide), ?_⟩
            refine wx_done (by kernel_rfl) ?_ _
            refine W_seq ?_
            refine W_region ?_
            have hpl : pre.length + 1 ≤ 500 := by have := congrArg List.length hpre; simp only [List.length_append, List.length_cons] at this; omega
            refine wl_val (rn_load1 p_22 rfl hB9 rfl) ?_
            refine wl_val (rn_len sl_22 rfl) ?_
            refine wl_val (rn_gtr rfl rfl) ?_
            refine wl_nil ?_
            refine W_cond rfl (fun hc2 => ?_) (fun hc2 => ?_)
            · exact absurd (of_decide_eq_true hc2) (by simp only [List.length_map, List.length_append, List.length_cons, List.length_nil]; omega)
            · refine W_skip ?_
              exact ⟨hX, .slice a28 _ c28, o28, .slice a32 _ c32, o32, ⟨hB6, hK6.2⟩, ⟨hB7, hK7.2⟩, ⟨hB8, hK8.2⟩, ⟨hB9, hK9.2⟩, ⟨hB10, hK10.2⟩, hXo, hW, hDk, hOn, hUn, hdjn⟩
        · refine s1_do ?_
          refine wl_lit1 (r := eU1 x) sl_23 rfl rfl rfl rfl (by decide) ?_; intro v31 w20 b31 hb31 hE20 hO31
          have hm31 := Nat.le_trans hS.size hb31
          replace hS := hS.tr hE20
          replace hO := hO.ext hE20 (fun _ _ h => h)
          refine wl_nil ⟨fun _ => hS, ?_⟩
          refine wx_only 2 _ rfl (by kernel_rfl) ?_
          refine s1_do ?_
          refine wl_lit1 (r := eT1 x) sl_22 rfl rfl rfl rfl (by decide) ?_; intro v27 w21 b27 hb27 hE21 hO27
          have hm27 := Nat.le_trans hS.size hb27
          replace hS := hS.tr hE21
          replace hO := hO.ext hE21 (fun _ _ h => h)
          replace hO31 := hO31.ext hE21 id
          refine wl_nil ⟨fun _ => hS, ?_⟩
          refine wx_only 3 _ rfl (by kernel_rfl) ?_
          refine s1_do ?_
          have hsS := hS.size; have hsX := hX.size; have hsW := hW.size
          refine wl_app sl_22 rfl rfl rfl hO.1 (hO27.sl (M := Non) id) (fun r hr => by simp only [List.mem_singleton] at hr; subst hr; exact one1 rfl) (by simp only [List.length_map, List.length_cons, List.length_nil]; omega) (by simp only [List.length_map, List.length_cons, List.length_nil, big]; omega) ?_; intro v28 w22 o28 hE22 hO28 hf28
          obtain ⟨a28, c28, hv28⟩ := id hO28.len; subst hv28
          replace hS := hS.mineF hE22 (fun i hi => .inl hi)
          try replace hO31 := hO31.ext hE22 (fun e => by have := hoL _ e; omega)
          have hOn : OwX wz.heap.size N w22 _ o28 1 ((pre ++ [x]).map eT1) := ⟨by rw [List.map_append]; exact hO28, fun i hi => by rcases hf28 i hi with h | h; exact hoN i h; exact ⟨fun hNi => by have := (hN i hNi).2; omega, by omega⟩⟩
          have hdj28 : ∀ j, o28 = some j → p0 ≠ some j := fun j hj e => by rcases hf28 j hj with h | h; exact hdj j h e; have := hpL j e; omega
          refine wl_nil ⟨fun _ => hS, ?_⟩
          replace hX := hX.mineF hS (fun i hi => .inl ⟨(hoN i hi).1, .inr (hoN i hi).2⟩)
          replace hXo := hXo.mineF hS (fun i hi => .inr (Nat.le_trans hszz (hoN i hi).2))
          replace hW := hW.mineF hS (fun i hi => .inr (hoN i hi).2)
          replace hDk : MkN w [] N w22 := ⟨Mk.nil, fun r h => by cases h⟩
          replace hU := hU.ext hS (fun i hi e => hdj i e hi)
          replace hB6 := hB6.ext hS hF6; replace hB7 := hB7.ext hS hF7; replace hB8 := hB8.ext hS hF8; replace hB9 := hB9.ext hS hF9; replace hB10 := hB10.ext hS hF10
          refine wx_only 7 _ rfl (by kernel_rfl) ?_
          refine s1_do ?_
          have hsX2 := hX.size; have hsW2 := hW.size; have hOL : ∀ i, o28 = some i → i < (World.heap w22).size := fun i hi => hOn.1.lt hi
          refine wl_app sl_23 rfl rfl rfl hU.1 (hO31.sl (M := Non) id) (fun r hr => by simp only [List.mem_singleton] at hr; subst hr; exact one1 rfl) (by simp only [List.length_map, List.length_cons, List.length_nil]; omega) (by simp only [List.length_map, List.length_cons, List.length_nil, big]; omega) ?_; intro v32 w23 o32 hE23 hO32 hf32
          obtain ⟨a32, c32, hv32⟩ := id hO32.len; subst hv32
          replace hX := hX.mineO hE23 (fun i hi => .inl ⟨(hU.2 i hi).1, .inr (hU.2 i hi).2⟩); replace hXo := hXo.mineO hE23 (fun i hi => .inr (Nat.le_trans hszz (hU.2 i hi).2)); replace hW := hW.mineO hE23 (fun i hi => .inr (hU.2 i hi).2); replace hDk : MkN w [] N w23 := ⟨Mk.nil, fun r h => by cases h⟩
          replace hB6 := hB6.ext hE23 (fun e => by have := (hU.2 _ e).2; omega); replace hB7 := hB7.ext hE23 (fun e => by have := (hU.2 _ e).2; omega); replace hB8 := hB8.ext hE23 (fun e => by have := (hU.2 _ e).2; omega); replace hB9 := hB9.ext hE23 (fun e => by have := (hU.2 _ e).2; omega); replace hB10 := hB10.ext hE23 (fun e => by have := (hU.2 _ e).2; omega)
          have hUn : OwX wz.heap.size N w23 _ o32 1 ((pre ++ [x]).map eU1) := ⟨by rw [List.map_append]; exact hO32, fun i hi => by rcases hf32 i hi with h | h; exact hU.2 i h; exact ⟨fun hNi => by have := (hN i hNi).2; omega, by omega⟩⟩
          replace hOn := hOn.ext hE23 (fun i hi e => hdj28 i hi e)
          have hdjn : ∀ j, o28 = some j → o32 ≠ some j := fun j hj e => by rcases hf32 j e with h | h; exact hdj28 j hj h; have := hOL j hj; omega
          refine wl_nil ⟨fun h => absurd h (by decide), ?_⟩
          refine wx_only 8 _ rfl (by kernel_rfl) ?_
          refine s1_do ?_
          have hBo := hB9
          refine wl_store1 (b := b9) p_22 rfl (by conv => lhs; whnf) rfl rfl hB9 (Nat.le_of_ble_eq_true rfl) ?_; intro w24 hE24 hB9 hz24
          replace hX := hX.mine hE24 hl9
          replace hB6 := hB6.ext hE24 (fun h => by omega); replace hB7 := hB7.ext hE24 (fun h => by omega); replace hB8 := hB8.ext hE24 (fun h => by omega); replace hB10 := hB10.ext hE24 (fun h => by omega)
          replace hXo := hXo.mine hE24 (.inr ho9)
          replace hDk := hDk.box hE24 hBo
          replace hW := hW.mine hE24 (by first | exact .inl (.inl rfl) | exact .inl (.inr rfl))
          replace hOn := hOn.ext hE24 (fun i hi e => by have := (hOn.2 i hi).2; omega)
          replace hUn := hUn.ext hE24 (fun i hi e => by have := (hUn.2 i hi).2; omega)
          refine wl_nil ⟨fun h => absurd h (by decide), ?_⟩
          refine wx_only 9 _ rfl (by kernel_rfl) ?_
          refine s1_do ?_
          have hBo := hB10
          refine wl_store1 (b := b10) p_23 rfl (by conv => lhs; whnf) rfl rfl hB10 (Nat.le_of_ble_eq_true rfl) ?_; intro w25 hE25 hB10 hz25
          replace hX := hX.mine hE25 hl10
          replace hB6 := hB6.ext hE25 (fun h => by omega); replace hB7 := hB7.ext hE25 (fun h => by omega); replace hB8 := hB8.ext hE25 (fun h => by omega); replace hB9 := hB9.ext hE25 (fun h => by omega)
          replace hXo := hXo.mine hE25 (.inr ho10)
          replace hDk := hDk.box hE25 hBo
          replace hW := hW.mine hE25 (by first | exact .inl (.inl rfl) | exact .inl (.inr rfl))
          replace hOn := hOn.ext hE25 (fun i hi e => by have := (hOn.2 i hi).2; omega)
          replace hUn := hUn.ext hE25 (fun i hi e => by have := (hUn.2 i hi).2; omega)
          refine wl_nil ⟨fun h => absurd h (by decide), ?_⟩
          refine wx_done (by kernel_rfl) ?_ _
          refine W_seq ?_
          refine W_region ?_
          have hpl : pre.length + 1 ≤ 500 := by have := congrArg List.length hpre; simp only [List.length_append, List.length_cons] at this; omega
          refine wl_val (rn_load1 p_22 rfl hB9 rfl) ?_
          refine wl_val (rn_len sl_22 rfl) ?_
          refine wl_val (rn_gtr rfl rfl) ?_
          refine wl_nil ?_
          refine W_cond rfl (fun hc2 => ?_) (fun hc2 => ?_)
          · exact absurd (of_decide_eq_true hc2) (by simp only [List.length_map, List.length_append, List.length_cons, List.length_nil]; omega)
          · refine W_skip ?_
            exact ⟨hX, .slice a28 _ c28, o28, .slice a32 _ c32, o32, ⟨hB6, hK6.2⟩, ⟨hB7, hK7.2⟩, ⟨hB8, hK8.2⟩, ⟨hB9, hK9.2⟩, ⟨hB10, hK10.2⟩, hXo, hW, hDk, hOn, hUn, hdjn⟩
      · rintro N rk w' ⟨v9, o0, v10, p0, hK6, hK7, hK8, hK9, hK10, hXo, hW, hDk, hO, hU, hIq⟩ hN hA hr hrd
        have hB6 := hK6.1
        have hB7 := hK7.1
        have hB8 := hK8.1
        have hB9 := hK9.1
        have hB10 := hK10.1
        have hX := hXo; have hD := hDk.add hrd (Nat.le_trans hszr (hN rk hr).1) hr
        obtain ⟨a9, c9, hv9⟩ := id hO.1.len; subst hv9; obtain ⟨a10, c10, hv10⟩ := id hU.1.len; subst hv10
        refine W_seq ?_
        refine W_drawF (fun i => (i = b6 ∨ i = b7) ∨ i = b8) mixed ?_; intro w26 hE26
        replace hX := hX.tr hE26
        replace hB6 := hB6.ext hE26 id; replace hB7 := hB7.ext hE26 id; replace hB8 := hB8.ext hE26 id; replace hB9 := hB9.ext hE26 id; replace hB10 := hB10.ext hE26 id
        replace hD := hD.non hE26
        replace hO := hO.ext hE26 (fun _ _ h => h)
        replace hU := hU.ext hE26 (fun _ _ h => h)
        have hS := Ext.refl (fun i => (i = b6 ∨ i = b7) ∨ i = b8) w26
        have hzd6 := hB6.lt; have hzd7 := hB7.lt; have hzd8 := hB8.lt
        refine wd_take 0 _ _ rfl (by kernel_rfl) hS (yd_do fun A hA => rn_load1 p_22 rfl (hB9.ext hA (fun e => by omega)) rfl) ?_
        refine wd_take 1 _ _ rfl (by kernel_rfl) hS (yd_do fun A hA => rn_load1 p_23 rfl (hB10.ext hA (fun e => by omega)) rfl) ?_
        refine wd_only 2 _ rfl (by kernel_rfl) ?_
        refine s1_do ?_
        refine wl_store1 (b := b6) p_22 rfl (by conv => lhs; whnf) rfl rfl hB6 (Nat.le_of_ble_eq_true rfl) ?_; intro w27 hE27 hB6 hz27
        replace hB7 := hB7.ext hE27 (fun h => by omega)
        replace hB8 := hB8.ext hE27 (fun h => by omega)
        replace hS := hS.mine hE27 (by first | exact .inl rfl | exact .inl (.inl rfl) | exact .inl (.inr rfl) | exact .inl (.inr (.inr rfl)) | exact .inl (.inr (.inl rfl)) | exact .inl (.inl (.inl rfl)) | exact .inl (.inl (.inr rfl)))
        refine wl_nil ⟨hS, ?_⟩
        refine wd_only 3 _ rfl (by kernel_rfl) ?_
        refine s1_do ?_
        refine wl_store1 (b := b7) p_23 rfl (by conv => lhs; whnf) rfl rfl hB7 (Nat.le_of_ble_eq_true rfl) ?_; intro w28 hE28 hB7 hz28
        replace hB6 := hB6.ext hE28 (fun h => by omega)
        replace hB8 := hB8.ext hE28 (fun h => by omega)
        replace hS := hS.mine hE28 (by first | exact .inl rfl | exact .inl (.inl rfl) | exact .inl (.inr rfl) | exact .inl (.inr (.inr rfl)) | exact .inl (.inr (.inl rfl)) | exact .inl (.inl (.inl rfl)) | exact .inl (.inl (.inr rfl)))
        refine wl_nil ⟨hS, ?_⟩
        refine wd_only 4 _ rfl (by kernel_rfl) ?_
        refine s1_do ?_
        refine wl_store1 (b := b8) p_4 rfl (by conv => lhs; whnf) rfl rfl hB8 (Nat.le_of_ble_eq_true rfl) ?_; intro w29 hE29 hB8 hz29
        replace hB6 := hB6.ext hE29 (fun h => by omega)
        replace hB7 := hB7.ext hE29 (fun h => by omega)
        replace hS := hS.mine hE29 (by first | exact .inl rfl | exact .inl (.inl rfl) | exact .inl (.inr rfl) | exact .inl (.inr (.inr rfl)) | exact .inl (.inr (.inl rfl)) | exact .inl (.inl (.inl rfl)) | exact .inl (.inl (.inr rfl)))
        refine wl_nil ⟨hS, ?_⟩
        refine wd_done (by kernel_rfl) ?_ _
        replace hX := hX.mineF hS (fun i h => .inr (by rcases h with (h | h) | h; rw [h]; exact hq6; rw [h]; exact hq7; rw [h]; exact hq8))
        replace hD := hD.ext hS (fun r hm e => by simp only [List.mem_singleton] at hm; have := mark_inj hm; subst this; rcases e with (e | e) | e; exact hK6.2 (e ▸ hr); exact hK7.2 (e ▸ hr); exact hK8.2 (e ▸ hr))
        replace hO := hO.ext hS (fun i hi e => by have := (hO.2 i hi).2; omega)
        replace hU := hU.ext hS (fun i hi e => by have := (hU.2 i hi).2; omega)
        replace hB9 := hB9.ext hS (fun e => by omega); replace hB10 := hB10.ext hS (fun e => by omega)
        refine W_ret ?_
        refine hD.leave fun B hB => ?_
        have hB6 := hB6.ext hB (hD.ne hB6)
        have hB7 := hB7.ext hB (hD.ne hB7)
        have hB8 := hB8.ext hB (hD.ne hB8)
        have hB9 := hB9.ext hB (hD.ne hB9)
        have hB10 := hB10.ext hB (hD.ne hB10)
        have hX := hD.out hX hB
        exact ⟨_, resR3 (res1_cell p_22 rfl hB6) (res1_cell p_23 rfl hB7) (res1_cell p_4 rfl hB8), hX, ⟨_, _, rfl, by rw [← eT_map]; exact (hO.ext hB (fun i hi h => (hO.2 i hi).1 (by simp only [List.mem_singleton] at h; rw [mark_inj h]; exact hr))).1.sl (fun i hi => id), by rw [← eU_map]; exact (hU.ext hB (fun i hi h => (hU.2 i hi).1 (by simp only [List.mem_singleton] at h; rw [mark_inj h]; exact hr))).1.sl (fun i hi => id)⟩⟩
      · intro c N rk w' h; exact h.elim
  · have hIt := hItP
    rw [show t.told [] = toldU un f t by unfold toldU; rw [if_neg (by rw [hc0]; simp)]] at hIt
    obtain ⟨wz, hwz⟩ : ∃ x, x = w6 := ⟨_, rfl⟩
    have hW := Ext.refl (fun i => i = b9 ∨ i = b10) w6; have hz6 := hB6.lt; have hz7 := hB7.lt; have hz8 := hB8.lt; have hz9 := hB9.lt; have hz10 := hB10.lt
    have hszz : w.heap.size ≤ wz.heap.size := by rw [hwz]; exact hX.size
    rw [← hwz] at hIt hz6 hz7 hz8 hz9 hz10
    conv at hW => arg 2; rw [← hwz]
    refine W_skip ?_
    refine W_seq ?_
    refine W_seq ?_
    refine W_region ?_
    refine wl_val (rn_move (by conv => lhs; whnf)) ?_
    refine wl_val (rn_func_eql uf_31 rfl rfl) ?_
    refine wl_nil ?_
    refine W_cond rfl (fun hc1 => ?_) (fun hc1 => ?_)
    · exact absurd hc1 (by simp)
    · refine W_skip ?_
      refine W_seq ?_
      refine W_seq ?_
      refine W_region ?_
      refine wl_val (rn_move (by conv => lhs; whnf)) ?_
      refine wl_nil ?_
      refine W_block ?_   -- block 0
      have hszr := hX.size
      have hsz_hW := hW.size
      have ho6 : w.heap.size ≤ b6 := by rcases hl6 with h | h; exact h.elim; exact h
      have ho7 : w.heap.size ≤ b7 := by rcases hl7 with h | h; exact h.elim; exact h
      have ho8 : w.heap.size ≤ b8 := by rcases hl8 with h | h; exact h.elim; exact h
      have ho9 : w.heap.size ≤ b9 := by rcases hl9 with h | h; exact h.elim; exact h
      have ho10 : w.heap.size ≤ b10 := by rcases hl10 with h | h; exact h.elim; exact h
      refine W_rangeFunc (M := fun i => i = b9 ∨ i = b10) (w0 := wz) (I := fun pre N A => ∃ v9 : Value, ∃ o0 : Option Nat, ∃ v10 : Value, ∃ p0 : Option Nat, Box N A b6 [.slice none 0 0] ∧ Box N A b7 [.slice none 0 0] ∧ Box N A b8 [.bool false] ∧ Box N A b9 [v9] ∧ Box N A b10 [v10] ∧ Ext Non w A ∧ Ext (fun i => i = b9 ∨ i = b10) wz A ∧ MkN w [] N A ∧ (OwX wz.heap.size N A v9 o0 1 (pre.map eT1)) ∧ (OwX wz.heap.size N A v10 p0 1 (pre.map eU1)) ∧ (∀ j, o0 = some j → p0 ≠ some j)) (X := fun c N A => False) (encs := fun q : Str × Int => [Sv q.1, .int .i64 q.2]) (xs := toldU un f t) rfl (hIt) (hW) (fun _ => rfl) (fun pre => Stab.ex fun v9 => Stab.ex fun o0 => Stab.ex fun v10 => Stab.ex fun p0 => (Stab.box _ _).and ((Stab.box _ _).and ((Stab.box _ _).and ((Stab.box _ _).and ((Stab.box _ _).and ((Stab.old hX.size).and ((Stab.oldM hW.size).and ((Stab.mk _ _).and ((Stab.owx _ _ _ _ _).and ((Stab.owx _ _ _ _ _).and ((Stab.pure _)))))))))))) (fun c => Stab.false) ⟨.slice none 0 0, none, .slice none 0 0, none, ⟨hB6, id⟩, ⟨hB7, id⟩, ⟨hB8, id⟩, ⟨hB9, id⟩, ⟨hB10, id⟩, hX, hW, (Mk.nil : Mk w [] _).toN, ⟨OwO.nil, by simp⟩, ⟨OwO.nil, by simp⟩, by simp⟩ ?_ ?_ ?_
      · rintro l N pre x A hl hN hA hst ⟨v9, o0, v10, p0, hK6, hK7, hK8, hK9, hK10, hXo, hW, hDk, hO, hU, hIq⟩ ⟨post, hpre⟩
        have hB6 := hK6.1
        have hB7 := hK7.1
        have hB8 := hK8.1
        have hB9 := hK9.1; have hl9 : Mine (Yc (fun i => i = b9 ∨ i = b10) wz N) A b9 := .inl ⟨hK9.2, .inl (.inl rfl)⟩
        have hB10 := hK10.1; have hl10 : Mine (Yc (fun i => i = b9 ∨ i = b10) wz N) A b10 := .inl ⟨hK10.2, .inl (.inr rfl)⟩
        have hX := Ext.refl (Yc (fun i => i = b9 ∨ i = b10) wz N) A
        have hdj := hIq
        obtain ⟨a9, c9, hv9⟩ := id hO.1.len; subst hv9; obtain ⟨a10, c10, hv10⟩ := id hU.1.len; subst hv10
        refine W_seq ?_
        refine W_region ?_
        refine wl_val (rn_assign (by conv => lhs; whnf)) ?_
        refine wl_nil ?_
        refine W_region ?_
        refine wl_val (rn_assign (by conv => lhs; whnf)) ?_
        refine wl_nil ?_
        refine ⟨rfl, hX, fun A2 hE2r hz2r hst2 => ?_⟩
        have hNl := (hN l hl).2
        replace hB6 := hB6.ext hE2r (fun e => hK6.2 (by rw [e]; exact hl))
        replace hB7 := hB7.ext hE2r (fun e => hK7.2 (by rw [e]; exact hl))
        replace hB8 := hB8.ext hE2r (fun e => hK8.2 (by rw [e]; exact hl))
        replace hB9 := hB9.ext hE2r (fun e => hK9.2 (by rw [e]; exact hl))
        replace hB10 := hB10.ext hE2r (fun e => hK10.2 (by rw [e]; exact hl))
        replace hXo := hXo.mine hE2r (.inr (Nat.le_trans hszr (hN l hl).1)); replace hDk := hDk.lp hE2r hl
        replace hW := hW.mine hE2r (.inr (Nat.le_trans hsz_hW (hN l hl).1))
        replace hO := hO.ext hE2r (fun i hi e => (hO.2 i hi).1 (by rw [e]; exact hl))
        replace hU := hU.ext hE2r (fun i hi e => (hU.2 i hi).1 (by rw [e]; exact hl))
        have hl9 : Mine (Yc (fun i => i = b9 ∨ i = b10) wz N) A2 b9 := .inl ⟨hK9.2, .inl (.inl rfl)⟩
        have hl10 : Mine (Yc (fun i => i = b9 ∨ i = b10) wz N) A2 b10 := .inl ⟨hK10.2, .inl (.inr rfl)⟩
        have hX := Ext.refl (Yc (fun i => i = b9 ∨ i = b10) wz N) A2
        refine W_block ?_   -- block 1
        refine W_seq ?_
        refine W_drawXF (fun i => o0 = some i) (fun j => j == 7 || j == 8 || j == 9) mixed ?_; intro w30 hE30
        replace hX := hX.tr hE30
        replace hB6 := hB6.ext hE30 id; replace hB7 := hB7.ext hE30 id; replace hB8 := hB8.ext hE30 id; replace hB9 := hB9.ext hE30 id; replace hB10 := hB10.ext hE30 id
        replace hXo := hXo.tr hE30
        replace hDk := hDk.non hE30
        replace hW := hW.tr hE30
        replace hO := hO.ext hE30 (fun _ _ h => h)
        replace hU := hU.ext hE30 (fun _ _ h => h)
        have hS := Ext.refl (fun i => o0 = some i) w30
        have hoN := hO.2
        have hoL : ∀ i, o0 = some i → i < (World.heap w30).size := fun i hi => hO.1.lt hi
        have hpL : ∀ i, p0 = some i → i < (World.heap w30).size := fun i hi => hU.1.lt hi
        have hpl : pre.length + 1 ≤ 500 := by have := congrArg List.length hpre; simp only [List.length_append, List.length_cons] at this; omega
        have hF6 : ¬ o0 = some b6 := fun e => by have := (hoN _ e).2; omega
        have hF7 : ¬ o0 = some b7 := fun e => by have := (hoN _ e).2; omega
        have hF8 : ¬ o0 = some b8 := fun e => by have := (hoN _ e).2; omega
        have hF9 : ¬ o0 = some b9 := fun e => by have := (hoN _ e).2; omega
        have hF10 : ¬ o0 = some b10 := fun e => by have := (hoN _ e).2; omega
        refine wx_take 0 [3, 7, 8, 9] _ _ rfl (by kernel_rfl) hS (yd_do fun A hA => rn_load1 p_22 rfl (hB9.ext hA hF9) rfl) ?_
        refine wx_take 1 [2, 3, 7, 8, 9] _ _ rfl (by kernel_rfl) hS (yd_do fun A hA => rn_move (by conv => lhs; whnf)) ?_
        refine wx_take 4 [7, 8, 9] _ _ rfl (by kernel_rfl) hS (yd_do fun A hA => rn_load1 p_23 rfl (hB10.ext hA hF10) rfl) ?_
        refine wx_take 5 [6, 7, 8, 9] _ _ rfl (by kernel_rfl) hS (yd_do fun A hA => rn_move (by conv => lhs; whnf)) ?_
        refine wx_two 2 6 _ _ rfl rfl (by kernel_rfl) ?_ ?_
        · refine s1_do ?_
          refine wl_lit1 (r := eT1 x) sl_22 rfl rfl rfl rfl (by decide) ?_; intro v27 w31 b27 hb27 hE31 hO27
          have hm27 := Nat.le_trans hS.size hb27
          replace hS := hS.tr hE31
          replace hO := hO.ext hE31 (fun _ _ h => h)
          refine wl_nil ⟨fun _ => hS, ?_⟩
          refine wx_two 3 6 _ _ rfl rfl (by kernel_rfl) ?_ ?_
          · refine s1_do ?_
            have hsS := hS.size; have hsX := hX.size; have hsW := hW.size
            refine wl_app sl_22 rfl rfl rfl hO.1 (hO27.sl (M := Non) id) (fun r hr => by simp only [List.mem_singleton] at hr; subst hr; exact one1 rfl) (by simp only [List.length_map, List.length_cons, List.length_nil]; omega) (by simp only [List.length_map, List.length_cons, List.length_nil, big]; omega) ?_; intro v28 w32 o28 hE32 hO28 hf28
            obtain ⟨a28, c28, hv28⟩ := id hO28.len; subst hv28
            replace hS := hS.mineF hE32 (fun i hi => .inl hi)
            try replace hO31 := hO31.ext hE32 (fun e => by have := hoL _ e; omega)
            have hOn : OwX wz.heap.size N w32 _ o28 1 ((pre ++ [x]).map eT1) := ⟨by rw [List.map_append]; exact hO28, fun i hi => by rcases hf28 i hi with h | h; exact hoN i h; exact ⟨fun hNi => by have := (hN i hNi).2; omega, by omega⟩⟩
            have hdj28 : ∀ j, o28 = some j → p0 ≠ some j := fun j hj e => by rcases hf28 j hj with h | h; exact hdj j h e; have := hpL j e; omega
            refine wl_nil ⟨fun _ => hS, ?_⟩
            refine wx_only 6 _ rfl (by kernel_rfl) ?_
            refine s1_do ?_
            refine wl_lit1 (r := eU1 x) sl_23 rfl rfl rfl rfl (by decide) ?_; intro v31 w33 b31 hb31 hE33 hO31
            have hm31 := Nat.le_trans hS.size hb31
            replace hS := hS.tr hE33
            replace hOn := hOn.ext hE33 (fun _ _ h => h)
            refine wl_nil ⟨fun _ => hS, ?_⟩
            replace hX := hX.mineF hS (fun i hi => .inl ⟨(hoN i hi).1, .inr (hoN i hi).2⟩)
            replace hXo := hXo.mineF hS (fun i hi => .inr (Nat.le_trans hszz (hoN i hi).2))
            replace hW := hW.mineF hS (fun i hi => .inr (hoN i hi).2)
            replace hDk : MkN w [] N w33 := ⟨Mk.nil, fun r h => by cases h⟩
            replace hU := hU.ext hS (fun i hi e => hdj i e hi)
            replace hB6 := hB6.ext hS hF6; replace hB7 := hB7.ext hS hF7; replace hB8 := hB8.ext hS hF8; replace hB9 := hB9.ext hS hF9; replace hB10 := hB10.ext hS hF10
            refine wx_only 7 _ rfl (by kernel_rfl) ?_
            refine s1_do ?_
            have hsX2 := hX.size; have hsW2 := hW.size; have hOL : ∀ i, o28 = some i → i < (World.heap w33).size := fun i hi => hOn.1.lt hi
            refine wl_app sl_23 rfl rfl rfl hU.1 (hO31.sl (M := Non) id) (fun r hr => by simp only [List.mem_singleton] at hr; subst hr; exact one1 rfl) (by simp only [List.length_map, List.length_cons, List.length_nil]; omega) (by simp only [List.length_map, List.length_cons, List.length_nil, big]; omega) ?_; intro v32 w34 o32 hE34 hO32 hf32
            obtain ⟨a32, c32, hv32⟩ := id hO32.len; subst hv32
            replace hX := hX.mineO hE34 (fun i hi => .inl ⟨(hU.2 i hi).1, .inr (hU.2 i hi).2⟩); replace hXo := hXo.mineO hE34 (fun i hi => .inr (Nat.le_trans hszz (hU.2 i hi).2)); replace hW := hW.mineO hE34 (fun i hi => .inr (hU.2 i hi).2); replace hDk : MkN w [] N w34 := ⟨Mk.nil, fun r h => by cases h⟩
            replace hB6 := hB6.ext hE34 (fun e => by have := (hU.2 _ e).2; omega); replace hB7 := hB7.ext hE34 (fun e => by have := (hU.2 _ e).2; omega); replace hB8 := hB8.ext hE34 (fun e => by have := (hU.2 _ e).2; omega); replace hB9 := hB9.ext hE34 (fun e => by have := (hU.2 _ e).2; omega); replace hB10 := hB10.ext hE34 (fun e => by have := (hU.2 _ e).2; omega)
            have hUn : OwX wz.heap.size N w34 _ o32 1 ((pre ++ [x]).map eU1) := ⟨by rw [List.map_append]; exact hO32, fun i hi => by rcases hf32 i hi with h | h; exact hU.2 i h; exact ⟨fun hNi => by have := (hN i hNi).2; omega, by omega⟩⟩
            replace hOn := hOn.ext hE34 (fun i hi e => hdj28 i hi e)
            have hdjn : ∀ j, o28 = some j → o32 ≠ some j := fun j hj e => by rcases hf32 j e with h | h; exact hdj28 j hj h; have := hOL j hj; omega
            refine wl_nil ⟨fun h => absurd h (by decide), ?_⟩
            refine wx_only 8 _ rfl (by kernel_rfl) ?_
            refine s1_do ?_
            have hBo := hB9
            refine wl_store1 (b := b9) p_22 rfl (by conv => lhs; whnf) rfl rfl hB9 (Nat.le_of_ble_eq_true rfl) ?_; intro w35 hE35 hB9 hz35
            replace hX := hX.mine hE35 hl9
            replace hB6 := hB6.ext hE35 (fun h => by omega); replace hB7 := hB7.ext hE35 (fun h => by omega); replace hB8 := hB8.ext hE35 (fun h => by omega); replace hB10 := hB10.ext hE35 (fun h => by omega)
            replace hXo := hXo.mine hE35 (.inr ho9)
            replace hDk := hDk.box hE35 hBo
            replace hW := hW.mine hE35 (by first | exact .inl (.inl rfl) | exact .inl (.inr rfl))
            replace hOn := hOn.ext hE35 (fun i hi e => by have := (hOn.2 i hi).2; omega)
            replace hUn := hUn.ext hE35 (fun i hi e => by have := (hUn.2 i hi).2; omega)
            refine wl_nil ⟨fun h => absurd h (by decide), ?_⟩
            refine wx_only 9 _ rfl (by kernel_rfl) ?_
            refine s1_do ?_
            have hBo := hB10
            refine wl_store1 (b := b10) p_23 rfl (by conv => lhs; whnf) rfl rfl hB10 (Nat.le_of_ble_eq_true rfl) ?_; intro w36 hE36 hB10 hz36
            replace hX := hX.mine hE36 hl10
            replace hB6 := hB6.ext hE36 (fun h => by omega); replace hB7 := hB7.ext hE36 (fun h => by omega); replace hB8 := hB8.ext hE36 (fun h => by omega); replace hB9 := hB9.ext hE36 (fun h => by omega)
            replace hXo := hXo.mine hE36 (.inr ho10)
            replace hDk := hDk.box hE36 hBo
            replace hW := hW.mine hE36 (by first | exact .inl (.inl rfl) | exact .inl (.inr rfl))
            replace hOn := hOn.ext hE36 (fun i hi e => by have := (hOn.2 i hi).2; omega)
            replace hUn := hUn.ext hE36 (fun i hi e => by have := (hUn.2 i hi).2; omega)
            refine wl_nil ⟨fun h => absurd h (by decide), ?_⟩
            refine wx_done (by kernel_rfl) ?_ _
            refine W_seq ?_
            refine W_region ?_
            have hpl : pre.length + 1 ≤ 500 := by have := congrArg List.length hpre; simp only [List.length_append, List.length_cons] at this; omega
            refine wl_val (rn_load1 p_22 rfl hB9 rfl) ?_
            refine wl_val (rn_len sl_22 rfl) ?_
            refine wl_val (rn_gtr rfl rfl) ?_
            refine wl_nil ?_
            refine W_cond rfl (fun hc2 => ?_) (fun hc2 => ?_)
            · exact absurd (of_decide_eq_true hc2) (by simp only [List.length_map, List.length_append, List.length_cons, List.length_nil]; omega)
            · refine W_skip ?_
              exact ⟨hX, .slice a28 _ c28, o28, .slice a32 _ c32, o32, ⟨hB6, hK6.2⟩, ⟨hB7, hK7.2⟩, ⟨hB8, hK8.2⟩, ⟨hB9, hK9.2⟩, ⟨hB10, hK10.2⟩, hXo, hW, hDk, hOn, hUn, hdjn⟩
          · refine s1_do ?_
            refine wl_lit1 (r := eU1 x) sl_23 rfl rfl rfl rfl (by decide) ?_; intro v31 w37 b31 hb31 hE37 hO31
            have hm31 := Nat.le_trans hS.size hb31
            replace hS := hS.tr hE37
            replace hO := hO.ext hE37 (fun _ _ h => h)
            replace hO27 := hO27.ext hE37 id
            refine wl_nil ⟨fun _ => hS, ?_⟩
            refine wx_only 3 _ rfl (by kernel_rfl) ?_
            refine s1_do ?_
            have hsS := hS.size; have hsX := hX.size; have hsW := hW.size
            refine wl_app sl_22 rfl rfl rfl hO.1 (hO27.sl (M := Non) id) (fun r hr => by simp only [List.mem_singleton] at hr; subst hr; exact one1 rfl) (by simp only [List.length_map, List.length_cons, List.length_nil]; omega) (by simp only [List.length_map, List.length_cons, List.length_nil, big]; omega) ?_; intro v28 w38 o28 hE38 hO28 hf28
            obtain ⟨a28, c28, hv28⟩ := id hO28.len; subst hv28
            replace hS := hS.mineF hE38 (fun i hi => .inl hi)
            try replace hO31 := hO31.ext hE38 (fun e => by have := hoL _ e; omega)
            have hOn : OwX wz.heap.size N w38 _ o28 1 ((pre ++ [x]).map eT1) := ⟨by rw [List.map_append]; exact hO28, fun i hi => by rcases hf28 i hi with h | h; exact hoN i h; exact ⟨fun hNi => by have := (hN i hNi).2; omega, by omega⟩⟩
            have hdj28 : ∀ j, o28 = some j → p0 ≠ some j := fun j hj e => by rcases hf28 j hj with h | h; exact hdj j h e; have := hpL j e; omega
            refine wl_nil ⟨fun _ => hS, ?_⟩
            replace hX := hX.mineF hS (fun i hi => .inl ⟨(hoN i hi).1, .inr (hoN i hi).2⟩)
            replace hXo := hXo.mineF hS (fun i hi => .inr (Nat.le_trans hszz (hoN i hi).2))
            replace hW := hW.mineF hS (fun i hi => .inr (hoN i hi).2)
            replace hDk : MkN w [] N w38 := ⟨Mk.nil, fun r h => by cases h⟩
            replace hU := hU.ext hS (fun i hi e => hdj i e hi)
            replace hB6 := hB6.ext hS hF6; replace hB7 := hB7.ext hS hF7; replace hB8 := hB8.ext hS hF8; replace hB9 := hB9.ext hS hF9; replace hB10 := hB10.ext hS hF10
            refine wx_only 7 _ rfl (by kernel_rfl) ?_
            refine s1_do ?_
            have hsX2 := hX.size; have hsW2 := hW.size; have hOL : ∀ i, o28 = some i → i < (World.heap w38).size := fun i hi => hOn.1.lt hi
            refine wl_app sl_23 rfl rfl rfl hU.1 (hO31.sl (M := Non) id) (fun r hr => by simp only [List.mem_singleton] at hr; subst hr; exact one1 rfl) (by simp only [List.length_map, List.length_cons, List.length_nil]; omega) (by simp only [List.length_map, List.length_cons, List.length_nil, big]; omega) ?_; intro v32 w39 o32 hE39 hO32 hf32
            obtain ⟨a32, c32, hv32⟩ := id hO32.len; subst hv32
            replace hX := hX.mineO hE39 (fun i hi => .inl ⟨(hU.2 i hi).1, .inr (hU.2 i hi).2⟩); replace hXo := hXo.mineO hE39 (fun i hi => .inr (Nat.le_trans hszz (hU.2 i hi).2)); replace hW := hW.mineO hE39 (fun i hi => .inr (hU.2 i hi).2); replace hDk : MkN w [] N w39 := ⟨Mk.nil, fun r h => by cases h⟩
            replace hB6 := hB6.ext hE39 (fun e => by have := (hU.2 _ e).2; omega); replace hB7 := hB7.ext hE39 (fun e => by have := (hU.2 _ e).2; omega); replace hB8 := hB8.ext hE39 (fun e => by have := (hU.2 _ e).2; omega); replace hB9 := hB9.ext hE39 (fun e => by have := (hU.2 _ e).2; omega); replace hB10 := hB10.ext hE39 (fun e => by have := (hU.2 _ e).2; omega)
            have hUn : OwX wz.heap.size N w39 _ o32 1 ((pre ++ [x]).map eU1) := ⟨by rw [List.map_append]; exact hO32, fun i hi => by rcases hf32 i hi with h | h; exact hU.2 i h; exact ⟨fun hNi => by have := (hN i hNi).2; omega, by omega⟩⟩
            replace hOn := hOn.ext hE39 (fun i hi e => hdj28 i hi e)
            have hdjn : ∀ j, o28 = some j → o32 ≠ some j := fun j hj e => by rcases hf32 j e with h | h; exact hdj28 j hj h; have := hOL j hj; omega
            refine wl_nil ⟨fun h => absurd h (by decide), ?_⟩
            refine wx_only 8 _ rfl (by kernel_rfl) ?_
            refine s1_do ?_
            have hBo := hB9
            refine wl_store1 (b := b9) p_22 rfl (by conv => lhs; whnf) rfl rfl hB9 (Nat.le_of_ble_eq_true rfl) ?_; intro w40 hE40 hB9 hz40
            replace hX := hX.mine hE40 hl9
            replace hB6 := hB6.ext hE40 (fun h => by omega); replace hB7 := hB7.ext hE40 (fun h => by omega); replace hB8 := hB8.ext hE40 (fun h => by omega); replace hB10 := hB10.ext hE40 (fun h => by omega)
            replace hXo := hXo.mine hE40 (.inr ho9)
            replace hDk := hDk.box hE40 hBo
            replace hW := hW.mine hE40 (by first | exact .inl (.inl rfl) | exact .inl (.inr rfl))
            replace hOn := hOn.ext hE40 (fun i hi e => by have := (hOn.2 i hi).2; omega)
            replace hUn := hUn.ext hE40 (fun i hi e => by have := (hUn.2 i hi).2; omega)
            refine wl_nil ⟨fun h => absurd h (by decide), ?_⟩
            refine wx_only 9 _ rfl (by kernel_rfl) ?_
            refine s1_do ?_
            have hBo := hB10
            refine wl_store1 (b := b10) p_23 rfl (by conv => lhs; whnf) rfl rfl hB10 (Nat.le_of_ble_eq_true rfl) ?_; intro w41 hE41 hB10 hz41
            replace hX := hX.mine hE41 hl10
            replace hB6 := hB6.ext hE41 (fun h => by omega); replace hB7 := hB7.ext hE41 (fun h => by omega); replace hB8 := hB8.ext hE41 (fun h => by omega); replace hB9 := hB9.ext hE41 (fun h => by omega)
            replace hXo := hXo.mine hE41 (.inr ho10)
            replace hDk := hDk.box hE41 hBo
            replace hW := hW.mine hE41 (by first | exact .inl (.inl rfl) | exact .inl (.inr rfl))
            replace hOn := hOn.ext hE41 (fun i hi e => by have := (hOn.2 i hi).2; omega)
            replace hUn := hUn.ext hE41 (fun i hi e => by have := (hUn.2 i hi).2; omega)
            refine wl_nil ⟨fun h => absurd h (by decide), ?_⟩
            refine wx_done (by kernel_rfl) ?_ _
            refine W_seq ?_
            refine W_region ?_
            have hpl : pre.length + 1 ≤ 500 := by have := congrArg List.length hpre; simp only [List.length_append, List.length_cons] at this; omega
            refine wl_val (rn_load1 p_22 rfl hB9 rfl) ?_
            refine wl_val (rn_len sl_22 rfl) ?_
            refine wl_val (rn_gtr rfl rfl) ?_
            refine wl_nil ?_
            refine W_cond rfl (fun hc2 => ?_) (fun hc2 => ?_)
            · exact absurd (of_decide_eq_true hc2) (by simp only [List.length_map, List.length_append, List.length_cons, List.length_nil]; omega)
            · refine W_skip ?_
              exact ⟨hX, .slice a28 _ c28, o28, .slice a32 _ c32, o32, ⟨hB6, hK6.2⟩, ⟨hB7, hK7.2⟩, ⟨hB8, hK8.2⟩, ⟨hB9, hK9.2⟩, ⟨hB10, hK10.2⟩, hXo, hW, hDk, hOn, hUn, hdjn⟩
        · refine s1_do ?_
          refine wl_lit1 (r := eU1 x) sl_23 rfl rfl rfl rfl (by decide) ?_; intro v31 w42 b31 hb31 hE42 hO31
          have hm31 := Nat.le_trans hS.size hb31
          replace hS := hS.tr hE42
          replace hO := hO.ext hE42 (fun _ _ h => h)
          refine wl_nil ⟨fun _ => hS, ?_⟩
          refine wx_only 2 _ rfl (by kernel_rfl) ?_
          refine s1_do ?_
          refine wl_lit1 (r := eT1 x) sl_22 rfl rfl rfl rfl (by decide) ?_; intro v27 w43 b27 hb27 hE43 hO27
          have hm27 := Nat.le_trans hS.size hb27
          replace hS := hS.tr hE43
          replace hO := hO.ext hE43 (fun _ _ h => h)
          replace hO31 := hO31.ext hE43 id
          refine wl_nil ⟨fun _ => hS, ?_⟩
          refine wx_only 3 _ rfl (by kernel_rfl) ?_
          refine s1_do ?_
          have hsS := hS.size; have hsX := hX.size; have hsW := hW.size
          refine wl_app sl_22 rfl rfl rfl hO.1 (hO27.sl (M := Non) id) (fun r hr => by simp only [List.mem_singleton] at hr; subst hr; exact one1 rfl) (by simp only [List.length_map, List.length_cons, List.length_nil]; omega) (by simp only [List.length_map, List.length_cons, List.length_nil, big]; omega) ?_; intro v28 w44 o28 hE44 hO28 hf28
          obtain ⟨a28, c28, hv28⟩ := id hO28.len; subst hv28
          replace hS := hS.mineF hE44 (fun i hi => .inl hi)
          try replace hO31 := hO31.ext hE44 (fun e => by have := hoL _ e; omega)
          have hOn : OwX wz.heap.size N w44 _ o28 1 ((pre ++ [x]).map eT1) := ⟨by rw [List.map_append]; exact hO28, fun i hi => by rcases hf28 i hi with h | h; exact hoN i h; exact ⟨fun hNi => by have := (hN i hNi).2; omega, by omega⟩⟩
          have hdj28 : ∀ j, o28 = some j → p0 ≠ some j := fun j hj e => by rcases hf28 j hj with h | h; exact hdj j h e; have := hpL j e; omega
          refine wl_nil ⟨fun _ => hS, ?_⟩
          replace hX := hX.mineF hS (fun i hi => .inl ⟨(hoN i hi).1, .inr (hoN i hi).2⟩)
          replace hXo := hXo.mineF hS (fun i hi => .inr (Nat.le_trans hszz (hoN i hi).2))
          replace hW := hW.mineF hS (fun i hi => .inr (hoN i hi).2)
          replace hDk : MkN w [] N w44 := ⟨Mk.nil, fun r h => by cases h⟩
          replace hU := hU.ext hS (fun i hi e => hdj i e hi)
          replace hB6 := hB6.ext hS hF6; replace hB7 := hB7.ext hS hF7; replace hB8 := hB8.ext hS hF8; replace hB9 := hB9.ext hS hF9; replace hB10 := hB10.ext hS hF10
          refine wx_only 7 _ rfl (by kernel_rfl) ?_
          refine s1_do ?_
          have hsX2 := hX.size; have hsW2 := hW.size; have hOL : ∀ i, o28 = some i → i < (World.heap w44).size := fun i hi => hOn.1.lt hi
          refine wl_app sl_23 rfl rfl rfl hU.1 (hO31.sl (M := Non) id) (fun r hr => by simp only [List.mem_singleton] at hr; subst hr; exact one1 rfl) (by simp only [List.length_map, List.length_cons, List.length_nil]; omega) (by simp only [List.length_map, List.length_cons, List.length_nil, big]; omega) ?_; intro v32 w45 o32 hE45 hO32 hf32
          obtain ⟨a32, c32, hv32⟩ := id hO32.len; subst hv32
          replace hX := hX.mineO hE45 (fun i hi => .inl ⟨(hU.2 i hi).1, .inr (hU.2 i hi).2⟩); replace hXo := hXo.mineO hE45 (fun i hi => .inr (Nat.le_trans hszz (hU.2 i hi).2)); replace hW := hW.mineO hE45 (fun i hi => .inr (hU.2 i hi).2); replace hDk : MkN w [] N w45 := ⟨Mk.nil, fun r h => by cases h⟩
          replace hB6 := hB6.ext hE45 (fun e => by have := (hU.2 _ e).2; omega); replace hB7 := hB7.ext hE45 (fun e => by have := (hU.2 _ e).2; omega); replace hB8 := hB8.ext hE45 (fun e => by have := (hU.2 _ e).2; omega); replace hB9 := hB9.ext hE45 (fun e => by have := (hU.2 _ e).2; omega); replace hB10 := hB10.ext hE45 (fun e => by have := (hU.2 _ e).2; omega)
          have hUn : OwX wz.heap.size N w45 _ o32 1 ((pre ++ [x]).map eU1) := ⟨by rw [List.map_append]; exact hO32, fun i hi => by rcases hf32 i hi with h | h; exact hU.2 i h; exact ⟨fun hNi => by have := (hN i hNi).2; omega, by omega⟩⟩
          replace hOn := hOn.ext hE45 (fun i hi e => hdj28 i hi e)
          have hdjn : ∀ j, o28 = some j → o32 ≠ some j := fun j hj e => by rcases hf32 j e with h | h; exact hdj28 j hj h; have := hOL j hj; omega
          refine wl_nil ⟨fun h => absurd h (by decide), ?_⟩
          refine wx_only 8 _ rfl (by kernel_rfl) ?_
          refine s1_do ?_
          have hBo := hB9
          refine wl_store1 (b := b9) p_22 rfl (by conv => lhs; whnf) rfl rfl hB9 (Nat.le_of_ble_eq_true rfl) ?_; intro w46 hE46 hB9 hz46
          replace hX := hX.mine hE46 hl9
          replace hB6 := hB6.ext hE46 (fun h => by omega); replace hB7 := hB7.ext hE46 (fun h => by omega); replace hB8 := hB8.ext hE46 (fun h => by omega); replace hB10 := hB10.ext hE46 (fun h => by omega)
          replace hXo := hXo.mine hE46 (.inr ho9)
          replace hDk := hDk.box hE46 hBo
          replace hW := hW.mine hE46 (by first | exact .inl (.inl rfl) | exact .inl (.inr rfl))
          replace hOn := hOn.ext hE46 (fun i hi e => by have := (hOn.2 i hi).2; omega)
          replace hUn := hUn.ext hE46 (fun i hi e => by have := (hUn.2 i hi).2; omega)
          refine wl_nil ⟨fun h => absurd h (by decide), ?_⟩
          refine wx_only 9 _ rfl (by kernel_rfl) ?_
          refine s1_do ?_
          have hBo := hB10
          refine wl_store1 (b := b10) p_23 rfl (by conv => lhs; whnf) rfl rfl hB10 (Nat.le_of_ble_eq_true rfl) ?_; intro w47 hE47 hB10 hz47
          replace hX := hX.mine hE47 hl10
          replace hB6 := hB6.ext hE47 (fun h => by omega); replace hB7 := hB7.ext hE47 (fun h => by omega); replace hB8 := hB8.ext hE47 (fun h => by omega); replace hB9 := hB9.ext hE47 (fun h => by omega)
          replace hXo := hXo.mine hE47 (.inr ho10)
          replace hDk := hDk.box hE47 hBo
          replace hW := hW.mine hE47 (by first | exact .inl (.inl rfl) | exact .inl (.inr rfl))
          replace hOn := hOn.ext hE47 (fun i hi e => by have := (hOn.2 i hi).2; omega)
          replace hUn := hUn.ext hE47 (fun i hi e => by have := (hUn.2 i hi).2; omega)
          refine wl_nil ⟨fun h => absurd h (by decide), ?_⟩
          refine wx_done (by kernel_rfl) ?_ _
          refine W_seq ?_
          refine W_region ?_
          have hpl : pre.length + 1 ≤ 500 := by have := congrArg List.length hpre; simp only [List.length_append, List.length_cons] at this; omega
          refine wl_val (rn_load1 p_22 rfl hB9 rfl) ?_
          refine wl_val (rn_len sl_22 rfl) ?_
          refine wl_val (rn_gtr rfl rfl) ?_
          refine wl_nil ?_
          refine W_cond rfl (fun hc2 => ?_) (fun hc2 => ?_)
          · exact absurd (of_decide_eq_true hc2) (by simp only [List.length_map, List.length_append, List.length_cons, List.length_nil]; omega)
          · refine W_skip ?_
            exact ⟨hX, .slice a28 _ c28, o28, .slice a32 _ c32, o32, ⟨hB6, hK6.2⟩, ⟨hB7, hK7.2⟩, ⟨hB8, hK8.2⟩, ⟨hB9, hK9.2⟩, ⟨hB10, hK10.2⟩, hXo, hW, hDk, hOn, hUn, hdjn⟩
      · rintro N rk w' ⟨v9, o0, v10, p0, hK6, hK7, hK8, hK9, hK10, hXo, hW, hDk, hO, hU, hIq⟩ hN hA hr hrd
        have hB6 := hK6.1
        have hB7 := hK7.1
        have hB8 := hK8.1
        have hB9 := hK9.1
        have hB10 := hK10.1
        have hX := hXo; have hD := hDk.add hrd (Nat.le_trans hszr (hN rk hr).1) hr
        obtain ⟨a9, c9, hv9⟩ := id hO.1.len; subst hv9; obtain ⟨a10, c10, hv10⟩ := id hU.1.len; subst hv10
        refine W_seq ?_
        refine W_drawF (fun i => (i = b6 ∨ i = b7) ∨ i = b8) mixed ?_; intro w48 hE48
        replace hX := hX.tr hE48
        replace hB6 := hB6.ext hE48 id; replace hB7 := hB7.ext hE48 id; replace hB8 := hB8.ext hE48 id; replace hB9 := hB9.ext hE48 id; replace hB10 := hB10.ext hE48 id
        replace hD := hD.non hE48
        replace hO := hO.ext hE48 (fun _ _ h => h)
        replace hU := hU.ext hE48 (fun _ _ h => h)
        have hS := Ext.refl (fun i => (i = b6 ∨ i = b7) ∨ i = b8) w48
        have hzd6 := hB6.lt; have hzd7 := hB7.lt; have hzd8 := hB8.lt
        refine wd_take 0 _ _ rfl (by kernel_rfl) hS (yd_do fun A hA => rn_load1 p_22 rfl (hB9.ext hA (fun e => by omega)) rfl) ?_
        refine wd_take 1 _ _ rfl (by kernel_rfl) hS (yd_do fun A hA => rn_load1 p_23 rfl (hB10.ext hA (fun e => by omega)) rfl) ?_
        refine wd_only 2 _ rfl (by kernel_rfl) ?_
        refine s1_do ?_
        refine wl_store1 (b := b6) p_22 rfl (by conv => lhs; whnf) rfl rfl hB6 (Nat.le_of_ble_eq_true rfl) ?_; intro w49 hE49 hB6 hz49
        replace hB7 := hB7.ext hE49 (fun h => by omega)
        replace hB8 := hB8.ext hE49 (fun h => by omega)
        replace hS := hS.mine hE49 (by first | exact .inl rfl | exact .inl (.inl rfl) | exact .inl (.inr rfl) | exact .inl (.inr (.inr rfl)) | exact .inl (.inr (.inl rfl)) | exact .inl (.inl (.inl rfl)) | exact .inl (.inl (.inr rfl)))
        refine wl_nil ⟨hS, ?_⟩
        refine wd_only 3 _ rfl (by kernel_rfl) ?_
        refine s1_do ?_
        refine wl_store1 (b := b7) p_23 rfl (by conv => lhs; whnf) rfl rfl hB7 (Nat.le_of_ble_eq_true rfl) ?_; intro w50 hE50 hB7 hz50
        replace hB6 := hB6.ext hE50 (fun h => by omega)
        replace hB8 := hB8.ext hE50 (fun h => by omega)
        replace hS := hS.mine hE50 (by first | exact .inl rfl | exact .inl (.inl rfl) | exact .inl (.inr rfl) | exact .inl (.inr (.inr rfl)) | exact .inl (.inr (.inl rfl)) | exact .inl (.inl (.inl rfl)) | exact .inl (.inl (.inr rfl)))
        refine wl_nil ⟨hS, ?_⟩
        refine wd_only 4 _ rfl (by kernel_rfl) ?_
        refine s1_do ?_
        refine wl_store1 (b := b8) p_4 rfl (by conv => lhs; whnf) rfl rfl hB8 (Nat.le_of_ble_eq_true rfl) ?_; intro w51 hE51 hB8 hz51
        replace hB6 := hB6.ext hE51 (fun h => by omega)
        replace hB7 := hB7.ext hE51 (fun h => by omega)
        replace hS := hS.mine hE51 (by first | exact .inl rfl | exact .inl (.inl rfl) | exact .inl (.inr rfl) | exact .inl (.inr (.inr rfl)) | exact .inl (.inr (.inl rfl)) | exact .inl (.inl (.inl rfl)) | exact .inl (.inl (.inr rfl)))
        refine wl_nil ⟨hS, ?_⟩
        refine wd_done (by kernel_rfl) ?_ _
        replace hX := hX.mineF hS (fun i h => .inr (by rcases h with (h | h) | h; rw [h]; exact hq6; rw [h]; exact hq7; rw [h]; exact hq8))
        replace hD := hD.ext hS (fun r hm e => by simp only [List.mem_singleton] at hm; have := mark_inj hm; subst this; rcases e with (e | e) | e; exact hK6.2 (e ▸ hr); exact hK7.2 (e ▸ hr); exact hK8.2 (e ▸ hr))
        replace hO := hO.ext hS (fun i hi e => by have := (hO.2 i hi).2; omega)
        replace hU := hU.ext hS (fun i hi e => by have := (hU.2 i hi).2; omega)
        replace hB9 := hB9.ext hS (fun e => by omega); replace hB10 := hB10.ext hS (fun e => by omega)
        refine W_ret ?_
        refine hD.leave fun B hB => ?_
        have hB6 := hB6.ext hB (hD.ne hB6)
        have hB7 := hB7.ext hB (hD.ne hB7)
        have hB8 := hB8.ext hB (hD.ne hB8)
        have hB9 := hB9.ext hB (hD.ne hB9)
        have hB10 := hB10.ext hB (hD.ne hB10)
        have hX := hD.out hX hB
        exact ⟨_, resR3 (res1_cell p_22 rfl hB6) (res1_cell p_23 rfl hB7) (res1_cell p_4 rfl hB8), hX, ⟨_, _, rfl, by rw [← eT_map]; exact (hO.ext hB (fun i hi h => (hO.2 i hi).1 (by simp only [List.mem_singleton] at h; rw [mark_inj h]; exact hr))).1.sl (fun i hi => id), by rw [← eU_map]; exact (hU.ext hB (fun i hi h => (hU.2 i hi).1 (by simp only [List.mem_singleton] at h; rw [mark_inj h]; exact hr))).1.sl (fun i hi => id)⟩⟩
      · intro c N rk w' h; exact h.elim
end Go.Proofs.YtaddeakfojpdoaaGreatDoorC

/- Tries: what the pairs of a tree are; plain. -/
set_option linter.unusedVariables false
set_option linter.unusedSimpArgs false
namespace Go.Proofs.YtaddeakfojpdoaaGreatDoorC
open Go.RowKit
/-- The pairs of a tree of pairs, by their levels. -/
def qsOf (xs : List (Str × Int)) : List (List Str × Int) := xs.foldl (fun l q => if q.1 = [] then l else putK ltQ l (spl 47 q.1, q.2)) []
theorem qsOf_snoc (xs : List (Str × Int)) (x : Str × Int) : qsOf (xs ++ [x]) = if x.1 = [] then qsOf xs else putK ltQ (qsOf xs) (spl 47 x.1, x.2) := by simp [qsOf]
theorem snoc_ind {α : Type} {p : List α → Prop} (h0 : p []) (h : ∀ l x, p l → p (l ++ [x])) : ∀ l, p l := by
  intro l
  have : ∀ r : List α, p r.reverse := by
    intro r
    induction r with
    | nil => exact h0
    | cons x r ih => rw [List.reverse_cons]; exact h _ _ ih
  simpa using this l.reverse
theorem toldP_ofT {m : Nat} : ∀ xs : List (Str × Int), (∀ q ∈ xs, q.1.length + 1 ≤ m) → (ofT xs).toldP = qsOf xs := by
  refine snoc_ind ?_ ?_
  · intro _; show Tr.bare.toldP = []; rw [toldP_eq]; rfl
  · intro xs x ih hl
    have h1 := ih fun q hq => hl q (by simp [hq])
    have hok := ofT_ok xs fun q hq => hl q (by simp [hq])
    rw [ofT_snoc, qsOf_snoc]
    by_cases hx : x.1 = []
    · rw [if_pos hx, if_pos hx]; exact h1
    · rw [if_neg hx, if_neg hx, toldP_put hok (spl_ne 47 x.1) (by rw [wgt_spl]; exact hl x (by simp)), h1]
theorem qsOf_sorted : ∀ xs : List (Str × Int), Sorted ltQ (qsOf xs) := by
  refine snoc_ind List.Pairwise.nil ?_
  intro xs x ih
  rw [qsOf_snoc]; split
  · exact ih
  · exact putK_sorted lo_Q ih _
theorem qsOf_len : ∀ xs : List (Str × Int), (qsOf xs).length ≤ xs.length := by
  refine snoc_ind (Nat.le_refl _) ?_
  intro xs x ih
  rw [qsOf_snoc, List.length_append, List.length_singleton]; split
  · omega
  · exact Nat.le_trans (putK_len _ _) (by omega)
theorem qsOf_mem (p : List Str) (s : Int) : ∀ xs : List (Str × Int), (p, s) ∈ qsOf xs ↔ ∃ q ∈ xs, q.1 ≠ [] ∧ p = spl 47 q.1 ∧ s = q.2 := by
  refine snoc_ind ?_ ?_
  · simp [qsOf]
  · intro xs x ih
    rw [qsOf_snoc]
    by_cases hx : x.1 = []
    · rw [if_pos hx, ih]
      constructor
      · rintro ⟨q, h1, h2⟩; exact ⟨q, by simp [h1], h2⟩
      · rintro ⟨q, h1, h2⟩
        rcases List.mem_append.1 h1 with h1 | h1
        · exact ⟨q, h1, h2⟩
        · simp only [List.mem_singleton] at h1; subst h1; exact absurd hx h2.1
    · rw [if_neg hx, putK_mem lo_Q (qsOf_sorted xs), ih]
      constructor
      · rintro (h | ⟨q, h1, h2⟩)
        · cases h; exact ⟨x, by simp, hx, rfl, rfl⟩
        · exact ⟨q, by simp [h1], h2⟩
      · rintro ⟨q, h1, h2⟩
        rcases List.mem_append.1 h1 with h1 | h1
        · exact .inr ⟨q, h1, h2⟩
        · simp only [List.mem_singleton] at h1; subst h1; exact .inl (by rw [h2.2.1, h2.2.2])
/-- The same, as texts. -/
def tsOf (xs : List (Str × Int)) : List (Str × Int) := (qsOf xs).map fun q => (joinB 47 q.1, q.2)
theorem told_ofT {m : Nat} {xs : List (Str × Int)} (h : ∀ q ∈ xs, q.1.length + 1 ≤ m) : (ofT xs).told [] = tsOf xs := by unfold Tr.told tsOf; rw [toldP_ofT xs h]; simp
theorem tsOf_len (xs : List (Str × Int)) : (tsOf xs).length ≤ xs.length := by unfold tsOf; rw [List.length_map]; exact qsOf_len xs
theorem tsOf_mem (xs : List (Str × Int)) (q : Str × Int) : q ∈ tsOf xs ↔ q ∈ xs ∧ q.1 ≠ [] := by
  unfold tsOf
  constructor
  · intro h
    obtain ⟨⟨p, s⟩, h1, rfl⟩ := List.mem_map.1 h
    obtain ⟨x, hx, hne, rfl, rfl⟩ := (qsOf_mem p s xs).1 h1
    rw [join_spl]; exact ⟨hx, hne⟩
  · rintro ⟨h1, h2⟩
    exact List.mem_map.2 ⟨(spl 47 q.1, q.2), (qsOf_mem _ _ xs).2 ⟨q, h1, h2, rfl, rfl⟩, by rw [join_spl]⟩
theorem awake_ts : tsOf (([[97], [97, 47, 98], [97]] : List Str).zip [2, 1, 1]) = [([97], 1), ([97], 2), ([97, 47, 98], 1)] := by decide
end Go.Proofs.YtaddeakfojpdoaaGreatDoorC

/- Tries: pairs may be gone through as far as one likes, and begin anew. -/
set_option linter.unusedVariables false
set_option linter.unusedSimpArgs false
set_option maxRecDepth 100000
namespace Go.Proofs.YtaddeakfojpdoaaGreatDoorC
open Go.RowKit
def great14 (ks : List Str) : Bool := (ks.any fun t => decide (t.length > 100)) || decide (ks.length > 100)
theorem great14_no {ks : List Str} (h : great14 ks = false) : (∀ k ∈ ks, k.length ≤ 100) ∧ ks.length ≤ 100 := by
  unfold great14 at h
  rw [Bool.or_eq_false_iff] at h
  refine ⟨fun k hk => ?_, by have := of_decide_eq_false h.2; omega⟩
  have h1 := h.1
  rw [List.any_eq_false] at h1
  have := h1 k hk
  simp only [decide_eq_true_eq] at this; omega
/-- What the pairs of a tree of pairs lean on. -/
structure Mild (xs : List (Str × Int)) : Prop where
  txt : ∀ q ∈ xs, q.1.length ≤ 100
  len : xs.length ≤ 100
theorem Mild.ok {xs : List (Str × Int)} (h : Mild xs) : (ofT xs).Ok xs.length 101 := ofT_ok xs fun q hq => by have := h.txt q hq; omega
theorem Mild.told {xs : List (Str × Int)} (h : Mild xs) : (ofT xs).told [] = tsOf xs := told_ofT (m := 101) fun q hq => by have := h.txt q hq; omega
theorem Mild.again {xs : List (Str × Int)} (h : Mild xs) : Mild (tsOf xs) := ⟨fun q hq => h.txt q ((tsOf_mem xs q).1 hq).1, Nat.le_trans (tsOf_len xs) h.len⟩
theorem Mild.zip {ks : List Str} {ys : List Int} (h1 : ∀ k ∈ ks, k.length ≤ 100) (h2 : ks.length ≤ 100) : Mild (ks.zip ys) := ⟨fun q hq => h1 _ (List.of_mem_zip (show (q.1, q.2) ∈ ks.zip ys from hq)).1, by rw [List.length_zip]; omega⟩
theorem Mild.all {xs : List (Str × Int)} (h : Mild xs) (f : Str) : toldU false f (ofT xs) = tsOf xs := by unfold toldU; rw [if_neg (by simp)]; exact h.told
section
variable {P : Program} {σ : Env} {w : World} {dst : Option Nat} {ty : TypeId} {pos : String} {g}
end
-- bellman/bellmanlaw14.great
theorem great14_ok (w : World) (ks : List Str) {v : Value} (hs : Sl Non w v 1 (ks.map eS1)) : Fn Tryz.prog 7 #[v] w fun u w' => u = .bool (great14 ks) := by
  obtain ⟨a, c, rfl, hbg⟩ := hs.len
  simp only [List.length_map] at hs hbg ⊢
  have hbig2 : big = 9223372036854775807 := rfl
  have hX := Ext.refl Non w
  refine fn_of_W (args := [_]) Tryz.func7 rfl (by kernel_rfl) rfl ?_
  refine W_seq ?_
  refine W_region ?_
  refine wl_val (rn_assign (by conv => lhs; whnf)) ?_
  refine wl_nil ?_
  refine W_seq ?_
  refine W_seq ?_
  refine W_region ?_
  refine wl_val (rn_assign (by conv => lhs; whnf)) ?_
  refine wl_nil ?_
  refine W_block ?_   -- block 0
  refine W_loopS (S := Nat) [0, 3] (fun i => [.slice a ks.length c, .int .i64 (i : Nat)]) (fun i A => (Ext Non w A) ∧ (i ≤ ks.length ∧ ((ks.take i).any fun t => decide (t.length > 100)) = false)) (fun i => ks.length - i) 0 ⟨rfl, rfl, trivial⟩ ⟨hX, ⟨Nat.zero_le _, by simp⟩⟩ ?_
  rintro τ0 i A0 ⟨hX, hI0⟩
  obtain ⟨hil, hno⟩ := hI0
  refine W_seq ?_
  refine W_seq ?_
  refine W_region ?_
  refine wl_val (rn_move (by conv => lhs; whnf)) ?_
  refine wl_val (rn_move (by conv => lhs; whnf)) ?_
  refine wl_val (rn_len sl_22 rfl) ?_
  refine wl_val (rn_lss rfl rfl) ?_
  refine wl_nil ?_
  refine W_cond rfl (fun hc0 => ?_) (fun hc0 => ?_)
  · have hlt := of_decide_eq_true hc0; simp only [Int.ofNat_lt] at hlt
    obtain ⟨x, hi⟩ : ∃ x, (ks)[i]? = some x := ⟨_, List.getElem?_eq_getElem hlt⟩
    obtain ⟨bb, oo, ea⟩ := hs.base (by intro e; have := congrArg List.length e; simp only [List.length_map, List.length_nil] at this; omega); subst ea
    refine W_skip ?_
    refine W_seq ?_
    refine W_block ?_   -- block 1
    refine W_seq ?_
    refine W_region ?_
    refine wl_val (rn_move (by conv => lhs; whnf)) ?_
    refine wl_val (rn_move (by conv => lhs; whnf)) ?_
    refine wl_val (rn_indexAddr sl_22 rfl rfl (by omega)) ?_
    refine wl_val (rn_load p_9 rfl ((hs.ext hX (fun _ h => h)).at0 (eS_at hi) rfl)) ?_
    refine wl_val (rn_slen us_9 rfl) ?_
    refine wl_val (rn_gtr rfl rfl) ?_
    refine wl_nil ?_
    refine W_cond rfl (fun hc1 => ?_) (fun hc1 => ?_)
    · have hR : great14 ks = true := by unfold great14; rw [List.any_eq_true.2 ⟨x, List.mem_of_getElem? hi, decide_eq_true (by have := of_decide_eq_true hc1; omega)⟩]; rfl
      refine W_seq ?_
      refine W_region ?_
      refine wl_val (rn_assign (by conv => lhs; whnf)) ?_
      refine wl_nil ?_
      refine W_ret ?_
      exact ⟨_, resR1 (res1_tmp rfl), hX, by rw [hR]; rfl⟩
    · refine W_skip ?_
      refine W_region ?_
      refine wl_val (rn_move (by conv => lhs; whnf)) ?_
      refine wl_val (rn_add rfl rfl (by omega)) ?_
      refine wl_val (rn_assign (by conv => lhs; whnf)) ?_
      refine wl_nil ?_
      exact ⟨rfl, i + 1, ⟨rfl, rfl, trivial⟩, ⟨hX, ⟨hlt, by rw [List.take_add_one, hi]; simp only [Option.toList_some, List.any_append, List.any_cons, List.any_nil, Bool.or_false, hno, Bool.false_or]; have := of_decide_eq_false hc1; exact decide_eq_false (by omega)⟩⟩, by omega⟩
  · have hge := of_decide_eq_false hc0; simp only [Int.ofNat_lt, Nat.not_lt] at hge
    rw [List.take_of_length_le hge] at hno
    refine W_exit ?_   -- exit 0
    refine W_seq ?_
    refine W_region ?_
    refine wl_val (rn_move (by conv => lhs; whnf)) ?_
    refine wl_val (rn_len sl_22 rfl) ?_
    refine wl_val (rn_gtr rfl rfl) ?_
    refine wl_val (rn_assign (by conv => lhs; whnf)) ?_
    refine wl_nil ?_
    refine W_ret ?_
    exact ⟨_, resR1 (res1_tmp rfl), hX, (by unfold great14; rw [hno, Bool.false_or]; exact congrArg Value.bool (decide_eq_decide.2 (by omega)))⟩
theorem awake_mild : Mild (([[97], [97, 47, 98], [97]] : List Str).zip ([2, 1, 1] : List Int)) := Mild.zip (by decide) (by decide)
theorem awake_ts2 : toldU false [] (ofT (([[97], [97, 47, 98], [97]] : List Str).zip ([2, 1, 1] : List Int))) = ([([97], 1), ([97], 2), ([97, 47, 98], 1)] : List (Str × Int)) := by rw [awake_mild.all, awake_ts]
-- bellman/bellmanlaw14.awake
theorem awake14_ok (w : World)  : Fn Tryz.prog 6 #[] w fun u w' => u = .bool true := by
  have hX := Ext.refl Non w
  refine fn_of_W (args := []) Tryz.func6 rfl (by kernel_rfl) rfl ?_
  refine W_seq ?_
  refine W_region ?_
  refine wl_val (rn_assign (by conv => lhs; whnf)) ?_
  refine wl_nil ?_
  refine W_seq ?_
  refine W_region ?_
  refine wl_lit sl_22 (rows := ([[97], [97, 47, 98], [97]] : List Str).map eS1) rfl (by decide) (by decide) rfl rfl (by intro r hr; obtain ⟨x, _, rfl⟩ := List.mem_map.1 hr; rfl) (by intro p hp; simp at hp; rcases hp with rfl | rfl | rfl <;> exact ⟨rfl, Nat.le_of_ble_eq_true rfl⟩) rfl ?_; intro v5 w1 b5 hb5 hE1 hO5
  replace hX := hX.tr hE1
  refine wl_lit sl_23 (rows := ([2, 1, 1] : List Int).map eI1) rfl (by decide) (by decide) rfl rfl (by intro r hr; obtain ⟨x, _, rfl⟩ := List.mem_map.1 hr; rfl) (by intro p hp; simp at hp; rcases hp with rfl | rfl | rfl <;> exact ⟨rfl, Nat.le_of_ble_eq_true rfl⟩) rfl ?_; intro v6 w2 b6 hb6 hE2 hO6
  replace hX := hX.tr hE2
  replace hO5 := hO5.ext hE2 id
  refine wl_call e_8 rfl (lof_ok w2 ([[97], [97, 47, 98], [97]] : List Str) ([2, 1, 1] : List Int) (hO5.sl (M := Non) id) (hO6.sl (M := Non) id) (by decide) (by decide)) ?_; intro v7 w3 hE3 hR3
  replace hX := hX.tr hE3
  replace hO5 := hO5.ext hE3 id
  replace hO6 := hO6.ext hE3 id
  have hT7 := hR3
  refine wl_call e_9 rfl (lpairs_ok w3 _ awake_mild.ok (by decide) [] (by decide) (fun q hq => by rw [awake_mild.told] at hq; have := awake_mild.again.txt q hq; omega) false (by rw [awake_mild.told]; have := awake_mild.again.len; omega) hT7) ?_; intro v8 w4 hE4 hR4
  replace hX := hX.tr hE4
  replace hO5 := hO5.ext hE4 id
  replace hO6 := hO6.ext hE4 id
  obtain ⟨va, vb, rfl, hSa, hSb⟩ := hR4
  rw [awake_ts2] at hSa hSb
  refine wl_val (rn_move (by conv => lhs; whnf)) ?_
  refine wl_val (rn_extract rfl rfl) ?_
  refine wl_val (rn_extract rfl rfl) ?_
  refine wl_val (rn_extract rfl rfl) ?_
  refine wl_val (rn_assign (by conv => lhs; whnf)) ?_
  refine wl_val (rn_assign (by conv => lhs; whnf)) ?_
  refine wl_val (rn_assign (by conv => lhs; whnf)) ?_
  refine wl_nil ?_
  refine W_seq ?_
  refine W_region ?_
  refine wl_val (rn_move (by conv => lhs; whnf)) ?_
  refine wl_lit sl_22 (rows := ([[97], [97], [97, 47, 98]] : List Str).map eS1) rfl (by decide) (by decide) rfl rfl (by intro r hr; obtain ⟨x, _, rfl⟩ := List.mem_map.1 hr; rfl) (by intro p hp; simp at hp; rcases hp with rfl | rfl | rfl <;> exact ⟨rfl, Nat.le_of_ble_eq_true rfl⟩) rfl ?_; intro v13 w5 b13 hb13 hE5 hO13
  replace hX := hX.tr hE5
  replace hO5 := hO5.ext hE5 id
  replace hO6 := hO6.ext hE5 id
  replace hSa := hSa.ext hE5 (fun _ h => h)
  replace hSb := hSb.ext hE5 (fun _ h => h)
  refine wl_call e_12 rfl (texts_ok w5 ([[97], [97], [97, 47, 98]] : List Str) ([[97], [97], [97, 47, 98]] : List Str) hSa (hO13.sl (M := Non) id) (by decide)) ?_; intro v14 w6 hE6 hR6
  replace hX := hX.tr hE6
  replace hO5 := hO5.ext hE6 id
  replace hO6 := hO6.ext hE6 id
  replace hSa := hSa.ext hE6 (fun _ h => h)
  replace hSb := hSb.ext hE6 (fun _ h => h)
  replace hO13 := hO13.ext hE6 id
  subst hR6
  refine wl_val (rn_move (by conv => lhs; whnf)) ?_
  refine wl_yes rfl (congrArg Value.bool (decide_eq_true rfl)) ?_
  refine wl_val (rn_move (by conv => lhs; whnf)) ?_
  refine wl_yes rfl (congrArg Value.bool (decide_eq_true rfl)) ?_
  refine wl_lit sl_23 (rows := ([1, 2, 1] : List Int).map eI1) rfl (by decide) (by decide) rfl rfl (by intro r hr; obtain ⟨x, _, rfl⟩ := List.mem_map.1 hr; rfl) (by intro p hp; simp at hp; rcases hp with rfl | rfl | rfl <;> exact ⟨rfl, Nat.le_of_ble_eq_true rfl⟩) rfl ?_; intro v17 w7 b17 hb17 hE7 hO17
  replace hX := hX.tr hE7
  replace hO5 := hO5.ext hE7 id
  replace hO6 := hO6.ext hE7 id
  replace hSa := hSa.ext hE7 (fun _ h => h)
  replace hSb := hSb.ext hE7 (fun _ h => h)
  replace hO13 := hO13.ext hE7 id
  refine wl_yes rfl (congrArg Value.bool (decide_eq_true rfl)) ?_
  refine wl_call e_13 rfl (ints_ok w7 ([1, 2, 1] : List Int) ([1, 2, 1] : List Int) hSb (hO17.sl (M := Non) id) (by decide)) ?_; intro v18 w8 hE8 hR8
  replace hX := hX.tr hE8
  replace hO5 := hO5.ext hE8 id
  replace hO6 := hO6.ext hE8 id
  replace hSa := hSa.ext hE8 (fun _ h => h)
  replace hSb := hSb.ext hE8 (fun _ h => h)
  replace hO13 := hO13.ext hE8 id
  replace hO17 := hO17.ext hE8 id
  subst hR8
  refine wl_val (rn_pickT (congrArg Value.bool (decide_eq_true rfl)) (by conv => lhs; whnf)) ?_
  refine wl_val (rn_assign (by conv => lhs; whnf)) ?_
  refine wl_nil ?_
  refine W_ret ?_
  exact ⟨_, resR1 (res1_tmp rfl), hX, congrArg Value.bool (decide_eq_true rfl)⟩
end Go.Proofs.YtaddeakfojpdoaaGreatDoorC
