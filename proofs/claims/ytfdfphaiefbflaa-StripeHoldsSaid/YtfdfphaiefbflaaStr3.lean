/- Collecting what an iterator tells; the example of layer 16. -/
import Derived.Test.YtfdfphaiefbflaaStr2
import Derived.Test.YtfdfphaiefbflaaSet5
set_option linter.unusedVariables false
set_option linter.unusedSimpArgs false
set_option maxRecDepth 100000
namespace Go.Proofs.YtfdfphaiefbflaaC
open Go.RowKit
-- bellman/bellmanlaw16.awake
theorem awake16_ok (w : World)  : Fn Try.prog 19 #[] w fun u w' => u = .bool true := by
  have hX := Ext.refl Non w
  refine fn_of_W (args := []) Try.func19 rfl (by kernel_rfl) rfl ?_
  refine W_seq ?_
  refine W_region ?_
  refine wl_val (rn_assign (by conv => lhs; whnf)) ?_
  refine wl_nil ?_
  refine W_seq ?_
  refine W_region ?_
  refine wl_call e_22 rfl (forFilter_ok w [43, 47, 97] (by decide)) ?_; intro v1 w1 hE1 hR1
  replace hX := hX.tr hE1
  have hL := hR1; rw [if_pos (by decide)] at hL
  refine wl_lit sl_36 (rows := [0, 1, 2, 3].map eI1) rfl (by decide) (by decide) rfl rfl (by intro r hr; obtain ⟨x, _, rfl⟩ := List.mem_map.1 hr; rfl) (by intro p hp; simp at hp; rcases hp with rfl | rfl | rfl | rfl <;> exact ⟨rfl, Nat.le_of_ble_eq_true rfl⟩) rfl ?_; intro v2 w2 b2 hb2 hE2 hO2
  replace hX := hX.tr hE2
  replace hL := hL.ext hE2 (fun _ h => h)
  refine wl_call e_30 rfl (ints_ok w2 [0, 1, 2, 3] [0, 1, 2, 3] hL (hO2.sl (M := Non) id) (by decide)) ?_; intro v3 w3 hE3 hR3
  replace hX := hX.tr hE3
  replace hL := hL.ext hE3 (fun _ h => h)
  subst hR3
  refine wl_val (rn_assign (by conv => lhs; whnf)) ?_
  refine wl_nil ?_
  refine W_ret ?_
  exact ⟨_, resR1 (res1_tmp rfl), hX, by show Value.bool (decide (_ = _)) = _; rw [decide_eq_true rfl]⟩
-- slices.AppendSeq[[]int,int]
theorem appendSeq_ok (w : World) (xs : List Int) {fv : Value} (hit : Iter Try.prog Non w fv (fun x : Int => #[.int .i64 x]) xs) (hn : xs.length ≤ 100000) : Fn Try.prog 113 #[.slice none 0 0, fv] w fun u w' => Sl Non w' u 1 (xs.map eI1) := by
  have hX := Ext.refl Non w
  refine fn_of_W (args := [_, _]) Try.func113 rfl (by kernel_rfl) rfl ?_
  refine W_seq ?_
  refine W_region ?_
  refine wl_box1 (by conv => lhs; whnf) rfl ?_; intro b2 w1 hb2 hE1 hB2
  have hq2 : w.heap.size ≤ b2 := Nat.le_trans hX.size hb2
  have hl2 : Mine Non w b2 := .inr hq2
  replace hX := hX.tr hE1
  refine wl_val (rn_assign (by conv => lhs; whnf)) ?_
  refine wl_nil ?_
  refine W_seq ?_
  refine W_seq ?_
  refine W_region ?_
  refine wl_val (rn_move (by conv => lhs; whnf)) ?_
  refine wl_nil ?_
  refine W_block ?_   -- block 0
  have hszr := hX.size
  have ho2 : w.heap.size ≤ b2 := by rcases hl2 with h | h; exact h.elim; exact h
  refine W_rangeFunc (M := Non) (w0 := w) (I := fun pre N A => ∃ v3 : Value, ∃ oo : Option Nat, Box N A b2 [v3] ∧ Ext Non w A ∧ MkN w [] N A ∧ (OwX (b2 + 1) N A v3 oo 1 (pre.map eI1)) ∧ (True)) (X := fun c N A => False) (encs := fun x : Int => [.int .i64 x]) (xs := xs) rfl (hit) (hX) (fun _ => rfl) (fun pre => Stab.ex fun v3 => Stab.ex fun oo => (Stab.box _ _).and ((Stab.old hX.size).and ((Stab.mk _ _).and ((Stab.owx _ _ _ _ _).and ((Stab.pure _)))))) (fun c => Stab.false) ⟨.slice none 0 0, none, ⟨hB2, id⟩, hX, (Mk.nil : Mk w [] _).toN, ⟨OwO.nil, by simp⟩, trivial⟩ ?_ ?_ ?_
  · rintro l N pre x A hl hN hA hst ⟨v3, oo, hK2, hXo, hDk, hO, hIr⟩ ⟨post, hpre⟩
    have hB2 := hK2.1; have hl2 : Mine (Yc (Non) w N) A b2 := .inl ⟨hK2.2, .inr hq2⟩
    have hX := Ext.refl (Yc (Non) w N) A
    refine W_region ?_
    refine wl_val (rn_assign (by conv => lhs; whnf)) ?_
    refine wl_nil ?_
    refine ⟨rfl, hX, fun A2 hE2r hz2r hst2 => ?_⟩
    have hNl := (hN l hl).2
    replace hB2 := hB2.ext hE2r (fun e => hK2.2 (by rw [e]; exact hl))
    replace hXo := hXo.mine hE2r (.inr (Nat.le_trans hszr (hN l hl).1)); replace hDk := hDk.lp hE2r hl
    replace hO := hO.ext hE2r (fun i hi e => (hO.2 i hi).1 (by rw [e]; exact hl))
    have hl2 : Mine (Yc (Non) w N) A2 b2 := .inl ⟨hK2.2, .inr hq2⟩
    have hX := Ext.refl (Yc (Non) w N) A2
    refine W_block ?_   -- block 1
    refine W_region ?_
    have hpl : xs.length = pre.length + (post.length + 1) := by rw [hpre]; simp
    refine wl_val (rn_load1 p_36 rfl hB2 rfl) ?_
    refine wl_val (rn_move (by conv => lhs; whnf)) ?_
    refine wl_lit1 (r := [.int .i64 x]) sl_36 rfl rfl rfl rfl (by decide) ?_; intro v10 w2 b10 hb10 hE2 hO10
    have hz2 := hB2.lt
    replace hX := hX.tr hE2
    replace hB2 := hB2.ext hE2 id
    replace hXo := hXo.tr hE2
    replace hDk := hDk.non hE2
    replace hO := hO.ext hE2 (fun _ _ h => h)
    refine wl_app sl_36 rfl rfl rfl hO.1 (hO10.sl (M := Non) id) (fun r hr => by simp only [List.mem_singleton] at hr; subst hr; exact one1 rfl) (by simp only [List.length_map, List.length_cons, List.length_nil]; omega) (by simp only [List.length_map, List.length_cons, List.length_nil, big]; omega) ?_; intro v11 w3 o11 hE3 hO11 hf11
    obtain ⟨a11, c11, hv11⟩ := id hO11.len; subst hv11
    have hsx := hX.size; have hsw := hXo.size
    replace hX := hX.mineO hE3 (fun i hi => .inl ⟨(hO.2 i hi).1, .inr (Nat.le_of_succ_le (Nat.lt_of_le_of_lt hq2 (hO.2 i hi).2))⟩); replace hXo := hXo.mineO hE3 (fun i hi => .inr (Nat.le_of_succ_le (Nat.lt_of_le_of_lt hq2 (hO.2 i hi).2))); replace hDk : MkN w [] N w3 := ⟨Mk.nil, fun r h => by cases h⟩
    replace hB2 := hB2.ext hE3 (fun e => by have := (hO.2 _ e).2; omega)
    have hOn : OwX (b2 + 1) N w3 _ o11 1 ((pre ++ [x]).map eI1) := ⟨by rw [List.map_append]; exact hO11, fun i hi => by rcases hf11 i hi with h | h; exact hO.2 i h; exact ⟨fun hNi => by have := (hN i hNi).2; omega, by omega⟩⟩
    have hBo := hB2
    refine wl_store1 p_36 rfl (by conv => lhs; whnf) rfl rfl hB2 (Nat.le_of_ble_eq_true rfl) ?_; intro w4 hE4 hB2 hz4
    replace hX := hX.mine hE4 hl2
    replace hXo := hXo.mine hE4 (.inr ho2)
    replace hDk := hDk.box hE4 hBo
    replace hOn := hOn.ext hE4 (fun i hi e => by have := (hOn.2 i hi).1; have := (hOn.2 i hi).2; omega)
    refine wl_nil ?_
    exact ⟨hX, .slice a11 _ c11, o11, ⟨hB2, hK2.2⟩, hXo, hDk, hOn, trivial⟩
  · rintro N rk w' ⟨v3, oo, hK2, hXo, hDk, hO, hIr⟩ hN hA hr hrd
    have hB2 := hK2.1
    have hX := hXo; have hD := hDk.add hrd (Nat.le_trans hszr (hN rk hr).1) hr
    refine W_seq ?_
    refine W_region ?_
    refine wl_val (rn_load1 p_36 rfl hB2 rfl) ?_
    refine wl_val (rn_assign (by conv => lhs; whnf)) ?_
    refine wl_nil ?_
    refine W_ret ?_
    refine hD.leave fun B hB => ?_
    have hB2 := hB2.ext hB (hD.ne hB2)
    have hX := hD.out hX hB
    exact ⟨_, resR1 (res1_tmp rfl), hX, (hO.ext hB (fun i hi h => (hO.2 i hi).1 (by simp only [List.mem_singleton] at h; rw [mark_inj h]; exact hr))).1.sl (fun i hi => id)⟩
  · intro c N rk w' h; exact h.elim
-- slices.Collect[int]
theorem collect_ok (w : World) (xs : List Int) {fv : Value} (hit : Iter Try.prog Non w fv (fun x : Int => #[.int .i64 x]) xs) (hn : xs.length ≤ 100000) : Fn Try.prog 95 #[fv] w fun u w' => Sl Non w' u 1 (xs.map eI1) := by
  have hX := Ext.refl Non w
  refine fn_of_W (args := [_]) Try.func95 rfl (by kernel_rfl) rfl ?_
  refine W_seq ?_
  refine W_region ?_
  refine wl_val (rn_assign (by conv => lhs; whnf)) ?_
  refine wl_nil ?_
  refine W_seq ?_
  refine W_region ?_
  refine wl_val (rn_move (by conv => lhs; whnf)) ?_
  refine wl_call e_113 rfl (appendSeq_ok w xs (hit.ext hX (fun _ h _ => h)) hn) ?_; intro v4 w1 hE1 hR1
  replace hX := hX.tr hE1
  have hS4 := hR1
  refine wl_val (rn_assign (by conv => lhs; whnf)) ?_
  refine wl_nil ?_
  refine W_ret ?_
  exact ⟨_, resR1 (res1_tmp rfl), hX, hS4⟩
end Go.Proofs.YtfdfphaiefbflaaC
