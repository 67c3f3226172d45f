/- A script out of a text: the program's. -/
import Derived.Test.YthcclgoidchkdaaGreatDoorBunZ9
import Derived.Test.YthcclgoidchkdaaGreatDoorBunZ8
set_option linter.unusedVariables false
set_option linter.unusedSimpArgs false
set_option maxRecDepth 100000
namespace Go.Proofs.YthcclgoidchkdaaGreatDoorC
open Go.RowKit
theorem runs_step {cs : List Cmd} {i : Nat} {c : Cmd} (h : cs[i]? = some c) : runs ssZ (cs.take (i + 1)) = c.app (runs ssZ (cs.take i)) := by
  rw [List.take_add_one, h, runs_app]; rfl
theorem ok_at {cs : List Cmd} (hr : Runs ssZ cs) {i : Nat} {c : Cmd} (h : cs[i]? = some c) : c.ok (runs ssZ (cs.take i)) := by
  have h2 := hr.take (i + 1)
  rw [List.take_add_one, h, Runs_app] at h2
  exact h2.2.1
theorem text_le {cs : List Cmd} {c : Cmd} (h : c ∈ cs) : c.text.length ≤ (linesC cs).length := by
  induction cs with
  | nil => cases h
  | cons d cs ih =>
    have e : linesC (d :: cs) = (d.text ++ [10]) ++ linesC cs := by simp [linesC]
    rw [e]
    rcases List.mem_cons.1 h with rfl | h
    · simp only [List.length_append]; omega
    · have := ih h; simp only [List.length_append]; omega
-- bellman/script.Parse
set_option maxHeartbeats 3200000 in
theorem sparse_ok (w : World) (cs : List Cmd) (hrs : Runs ssZ cs) (h2 : 2 ≤ cs.length) (hcl : cs.length ≤ 1000) (hn : (linesC cs).length ≤ 10000000) (hTb : Tab w) (hR : ErrS w) : Fn Tryz.prog 30 #[Sv (linesC cs)] w fun u w' => ∃ q : List Value, u = .tuple #[.agg q.toArray, .int .i64 0, .int .i64 0] ∧ ScM Non w' q (runs ssZ cs).s := by
  have hG := hTb.gl (Nat.le_refl w.heap.size); have hTw := hR.two
  have hX := Ext.refl Non w
  refine fn_of_W (args := [_]) Tryz.func30 rfl (by kernel_rfl) rfl ?_
  refine W_seq ?_
  refine W_region ?_
  refine wl_alloc z_72 ?_; intro b2 w1 hb2 hE1 hB2
  have hq2 : w.heap.size ≤ b2 := Nat.le_trans hX.size hb2
  have hl2 : Mine Non w b2 := .inr hq2
  replace hX := hX.tr hE1
  refine wl_alloc z_3 ?_; intro b3 w2 hb3 hE2 hB3
  have hn2_3 : b2 < b3 := Nat.lt_of_lt_of_le hB2.lt hb3
  have hq3 : w.heap.size ≤ b3 := Nat.le_trans hX.size hb3
  have hl3 : Mine Non w b3 := .inr hq3
  replace hX := hX.tr hE2
  replace hB2 := hB2.ext hE2 id
  refine wl_alloc z_60 ?_; intro b4 w3 hb4 hE3 hB4
  have hn2_4 : b2 < b4 := Nat.lt_of_lt_of_le hB2.lt hb4
  have hn3_4 : b3 < b4 := Nat.lt_of_lt_of_le hB3.lt hb4
  have hq4 : w.heap.size ≤ b4 := Nat.le_trans hX.size hb4
  have hl4 : Mine Non w b4 := .inr hq4
  replace hX := hX.tr hE3
  replace hB2 := hB2.ext hE3 id; replace hB3 := hB3.ext hE3 id
  refine wl_nil ?_
  refine W_seq ?_
  refine W_region ?_
  refine wl_val (rn_build' b_112 rfl rfl (cs := [.int .i64 0, .int .i64 0, .slice none 0 0, .slice none 0 0, .int .i64 0, .bool false]) rfl) ?_
  refine wl_boxS rfl ?_; intro b11 w4 hb11 hE4 hB11
  have hn2_11 : b2 < b11 := Nat.lt_of_lt_of_le hB2.lt hb11
  have hn3_11 : b3 < b11 := Nat.lt_of_lt_of_le hB3.lt hb11
  have hn4_11 : b4 < b11 := Nat.lt_of_lt_of_le hB4.lt hb11
  have hq11 : w.heap.size ≤ b11 := Nat.le_trans hX.size hb11
  have hl11 : Mine Non w b11 := .inr hq11
  replace hX := hX.tr hE4
  replace hB2 := hB2.ext hE4 id; replace hB3 := hB3.ext hE4 id; replace hB4 := hB4.ext hE4 id
  refine wl_alloc z_110 ?_; intro b5 w5 hb5 hE5 hB5
  have hn2_5 : b2 < b5 := Nat.lt_of_lt_of_le hB2.lt hb5
  have hn3_5 : b3 < b5 := Nat.lt_of_lt_of_le hB3.lt hb5
  have hn4_5 : b4 < b5 := Nat.lt_of_lt_of_le hB4.lt hb5
  have hn11_5 : b11 < b5 := Nat.lt_of_lt_of_le hB11.lt hb5
  have hq5 : w.heap.size ≤ b5 := Nat.le_trans hX.size hb5
  have hl5 : Mine Non w b5 := .inr hq5
  replace hX := hX.tr hE5
  replace hB2 := hB2.ext hE5 id; replace hB3 := hB3.ext hE5 id; replace hB4 := hB4.ext hE5 id; replace hB11 := hB11.ext hE5 id
  refine wl_store1 (b := b5) p_110 rfl (by conv => lhs; whnf) rfl rfl hB5 (Nat.le_of_ble_eq_true rfl) ?_; intro w6 hE6 hB5 hz6
  replace hX := hX.mine hE6 hl5
  replace hB2 := hB2.ext hE6 (fun h => by omega); replace hB3 := hB3.ext hE6 (fun h => by omega); replace hB4 := hB4.ext hE6 (fun h => by omega); replace hB11 := hB11.ext hE6 (fun h => by omega)
  refine wl_nil ?_
  refine W_seq ?_
  refine W_seq ?_
  refine W_region ?_
  refine wl_val (rn_move (by conv => lhs; whnf)) ?_
  have hXp := hX
  have hz2 := hB2.lt; have hz3 := hB3.lt; have hz4 := hB4.lt; have hz5 := hB5.lt; have hz11 := hB11.lt
  refine wl_call e_62 rfl (splitAfter_ok w6 (linesC cs) (fun i => i < w6.heap.size) (fun i h => h) hn) ?_; intro v13 w7 hE7 hR7
  replace hX := hX.tr hE7
  replace hB2 := hB2.ext hE7 id; replace hB3 := hB3.ext hE7 id; replace hB4 := hB4.ext hE7 id; replace hB11 := hB11.ext hE7 id; replace hB5 := hB5.ext hE7 id
  obtain ⟨bs, hIt, hbs, hbsl⟩ := hR7; obtain ⟨fk, ck, hfk, _⟩ := id hIt; subst hfk
  have hRd0 : RdN (fun i => i = bs ∨ (i < w7.heap.size ∧ i ≠ b11)) w7 b11 ssZ w7.heap.size (fun i => i = b11) := ⟨.slice none 0 0, .slice none 0 0, none, none, none, [], none, ⟨hB11, rfl, OwO.nil, OwO.nil, fun p hp => (by cases hp), fun p hp => (by cases hp), fun _ => ⟨rfl, rfl⟩, fun j hj => (by cases hj), fun j hj => (by cases hj), fun j hj => (by cases hj), fun i hi hx => by rcases hi with hi | hi | hi | hi; (subst hi; rcases hx with hx | hx; omega; exact hx.2 rfl); cases hi; cases hi; cases hi⟩, fun i hi => by rcases hi with hi | hi | hi | hi; exact .inl hi; cases hi; cases hi; cases hi⟩
  refine wl_nil ?_
  refine W_block ?_   -- block 0
  have hszr := hXp.size
  have ho2 : w.heap.size ≤ b2 := by rcases hl2 with h | h; exact h.elim; exact h
  have ho3 : w.heap.size ≤ b3 := by rcases hl3 with h | h; exact h.elim; exact h
  have ho4 : w.heap.size ≤ b4 := by rcases hl4 with h | h; exact h.elim; exact h
  have ho5 : w.heap.size ≤ b5 := by rcases hl5 with h | h; exact h.elim; exact h
  refine W_rangeFuncE w6.heap.size (fun i => i = bs) (M := fun i => i < w6.heap.size) (w0 := w7) (I := fun pre N A => Box N A b2 [.int .i64 0, .int .i64 0, .slice none 0 0, .slice none 0 0] ∧ Box N A b3 [.int .i64 0] ∧ Box N A b4 [.int .i64 0] ∧ Box N A b5 [.pointer (some ⟨b11, 0, none⟩)] ∧ Ext Non w A ∧ MkN w [] N A ∧ (RdN (fun i => N i ∨ (i < w7.heap.size ∧ i ≠ b11)) A b11 (runs ssZ (cs.take pre.length)) w7.heap.size (fun i => i = b11)) ∧ (True)) (X := fun c N A => c = .exit 0 ∧ Box N A b2 [.int .i64 0, .int .i64 0, .slice none 0 0, .slice none 0 0] ∧ Box N A b3 [.int .i64 0] ∧ Box N A b4 [.int .i64 0] ∧ Box N A b5 [.pointer (some ⟨b11, 0, none⟩)] ∧ Ext Non w A ∧ MkN w [] N A ∧ (RdN (fun i => N i ∨ (i < w7.heap.size ∧ i ≠ b11)) A b11 (runs ssZ cs) w7.heap.size (fun i => i = b11)) ∧ (True)) (encs := fun x : Str => [Sv x]) (xs := splA (linesC cs)) rfl (hIt) (Ext.refl _ w7) (hE7.size) (fun i hi => by rw [hi]; exact ⟨hbs, hbsl⟩) (fun _ => rfl) (fun pre => (Stab.box _ _).and ((Stab.box _ _).and ((Stab.box _ _).and ((Stab.box _ _).and ((Stab.oldM hXp.size).and ((Stab.mk _ _).and ((Stab.rdN _ _ _ _ _).and ((Stab.pure _))))))))) (fun c => (Stab.pure _).and ((Stab.box _ _).and ((Stab.box _ _).and ((Stab.box _ _).and ((Stab.box _ _).and ((Stab.oldM hXp.size).and ((Stab.mk _ _).and ((Stab.rdN _ _ _ _ _).and ((Stab.pure _)))))))))) ⟨⟨hB2, fun e => by omega⟩, ⟨hB3, fun e => by omega⟩, ⟨hB4, fun e => by omega⟩, ⟨hB5, fun e => by omega⟩, hX, ⟨Mk.nil, fun r h => by cases h⟩, hRd0, trivial⟩ ?_ ?_ ?_
  · rintro l N pre x A hl hN hA hst ⟨hK2, hK3, hK4, hK5, hXo, hDk, hRd, hIr⟩ ⟨post, hpre⟩
    have hB2 := hK2.1
    have hB3 := hK3.1
    have hB4 := hK4.1
    have hB5 := hK5.1
    have hX := Ext.refl (Yc (fun i => i < w6.heap.size) w7 N) A
    refine W_region ?_
    refine wl_val (rn_assign (by conv => lhs; whnf)) ?_
    refine wl_nil ?_
    refine ⟨rfl, hX, fun A2 hE2r hz2r hst2 => ?_⟩
    have hNl := (hN l hl).2
    replace hB2 := hB2.ext hE2r (fun e => hK2.2 (by rw [e]; exact hl))
    replace hB3 := hB3.ext hE2r (fun e => hK3.2 (by rw [e]; exact hl))
    replace hB4 := hB4.ext hE2r (fun e => hK4.2 (by rw [e]; exact hl))
    replace hB5 := hB5.ext hE2r (fun e => hK5.2 (by rw [e]; exact hl))
    replace hXo := hXo.mine hE2r (.inr (Nat.le_trans hszr (hN l hl).1)); replace hDk := hDk.lp hE2r hl
    replace hRd := hRd.extX hE2r (fun i e => .inl (by rw [e]; exact hl))
    have hX := Ext.refl (Yc (fun i => i < w6.heap.size) w7 N) A2
    have hxi : (splA (linesC cs))[pre.length]? = some x := by rw [hpre]; simp
    have hszA := hE2r.size
    refine W_block ?_   -- block 1
    refine W_seq ?_
    refine W_seq ?_
    refine W_region ?_
    refine wl_val (rn_move (by conv => lhs; whnf)) ?_
    refine wl_val (rn_seql rfl rfl) ?_
    refine wl_nil ?_
    refine W_cond rfl (fun hc0 => ?_) (fun hc0 => ?_)
    · have hxe : x = [] := of_decide_eq_true hc0
      have hpl : pre.length = cs.length := by rcases piece_at hxi with h | ⟨c, _, h⟩; exact h.2; rw [hxe] at h; simp at h
      rw [hpl, List.take_length] at hRd
      refine W_exit ?_   -- exit 0
      exact ⟨hX, rfl, ⟨hB2, hK2.2⟩, ⟨hB3, hK3.2⟩, ⟨hB4, hK4.2⟩, ⟨hB5, hK5.2⟩, hXo, hDk, hRd, trivial⟩
    · have hxe : ¬ x = [] := of_decide_eq_false hc0
      obtain ⟨c, hcc, rfl⟩ : ∃ c, cs[pre.length]? = some c ∧ x = c.text ++ [10] := by rcases piece_at hxi with h | h; exact absurd h.1 hxe; exact h
      have hct := text_le (List.mem_of_getElem? hcc)
      have hst := runs_step hcc
      refine W_skip ?_
      refine W_seq ?_
      refine W_region ?_
      refine wl_val (rn_move (by conv => lhs; whnf)) ?_
      refine wl_call e_63 rfl (cutSuffix_ok A2 c.text (by omega)) ?_; intro v19 w8 hE8 hR8
      replace hX := hX.tr hE8
      replace hB2 := hB2.ext hE8 id; replace hB3 := hB3.ext hE8 id; replace hB4 := hB4.ext hE8 id; replace hB5 := hB5.ext hE8 id
      replace hXo := hXo.tr hE8
      replace hDk := hDk.non hE8
      replace hRd := hRd.non hE8
      subst hR8
      refine wl_val (rn_move (by conv => lhs; whnf)) ?_
      refine wl_val (rn_extract rfl rfl) ?_
      refine wl_val (rn_extract rfl rfl) ?_
      refine wl_val (rn_assign (by conv => lhs; whnf)) ?_
      refine wl_val (rn_assign (by conv => lhs; whnf)) ?_
      refine wl_nil ?_
      refine W_seq ?_
      refine W_region ?_
      refine wl_val (rn_load1 p_110 rfl hB5 rfl) ?_
      refine wl_val (rn_move (by conv => lhs; whnf)) ?_
      have hXb := hX.size
      obtain ⟨vT, vP, oT, oP, oL, ini, lst, hRP, hDy⟩ := hRd
      have hBD : ∀ i, Dy b11 oT oP oL i → w.heap.size ≤ i := fun i hi => by rcases hDy i hi with e | e; (subst e; exact hq11); (have h1 := hXp.size; have h2 := hE7.size; omega)
      refine wl_callM e_64 rfl (line_ok1 w8 _ b11 _ hRP (fun i hi => by rcases hi with hi | hi; (have h1 := (hN i hi).2; omega); (have h1 := hi.1; omega)) (by rw [at_runs, List.length_take]; show 0 + _ + 1 ≤ _; omega) c (ok_at hrs hcc) (okS_runs _ _ okZ (hrs.take _)).th w.heap.size hBD hG hTw (hTb.non hXo) (hR.non hXo)) ?_; rintro v24 w9 hE9 ⟨rfl, hRd⟩
      replace hX := hX.trans (hE9.mono (fun i hi => ⟨fun hn => hRP.nx i hi (.inl hn), by rcases hDy i hi with e | e; (left; subst e; exact hz11); exact .inr e⟩))
      replace hXo := hXo.own2 hE9 (fun i hi => .inr (hBD i hi))
      replace hB2 := hB2.ext hE9 (fun hi => by rcases hDy _ hi with e | e; omega; (have h2 := hE7.size; omega))
      replace hB3 := hB3.ext hE9 (fun hi => by rcases hDy _ hi with e | e; omega; (have h2 := hE7.size; omega))
      replace hB4 := hB4.ext hE9 (fun hi => by rcases hDy _ hi with e | e; omega; (have h2 := hE7.size; omega))
      replace hB5 := hB5.ext hE9 (fun hi => by rcases hDy _ hi with e | e; omega; (have h2 := hE7.size; omega))
      replace hDk : MkN w [] N w9 := ⟨Mk.nil, fun r h => by cases h⟩
      replace hRd := hRd.weaken (D' := fun i => i = b11) (m := w7.heap.size) (fun i hi => hDy i hi) (by omega)
      refine wl_val (rn_assign (by conv => lhs; whnf)) ?_
      refine wl_nil ?_
      refine W_seq ?_
      refine W_seq ?_
      refine W_region ?_
      refine wl_val (rn_move (by conv => lhs; whnf)) ?_
      refine wl_val (rn_eql rfl rfl) ?_
      refine wl_val (rn_move (by conv => lhs; whnf)) ?_
      refine wl_yes rfl rfl ?_
      refine wl_val (rn_move (by conv => lhs; whnf)) ?_
      refine wl_yes rfl rfl ?_
      refine wl_val (rn_not rfl) ?_
      refine wl_val (rn_pickT rfl (by conv => lhs; whnf)) ?_
      refine wl_nil ?_
      refine W_cond rfl (fun hc1 => ?_) (fun hc1 => ?_)
      · exact absurd hc1 (by decide)
      · refine W_skip ?_
        refine W_seq ?_
        refine W_region ?_
        refine wl_val (rn_move (by conv => lhs; whnf)) ?_
        refine wl_val (rn_neq rfl rfl) ?_
        refine wl_nil ?_
        refine W_cond rfl (fun hc2 => ?_) (fun hc2 => ?_)
        · exact absurd (of_decide_eq_true hc2) (by simp)
        · refine W_skip ?_
          exact ⟨hX, ⟨hB2, hK2.2⟩, ⟨hB3, hK3.2⟩, ⟨hB4, hK4.2⟩, ⟨hB5, hK5.2⟩, hXo, hDk, (by rw [List.length_append, List.length_singleton, hst]; exact hRd), trivial⟩
  · rintro N rk w' ⟨hK2, hK3, hK4, hK5, hXo, hDk, hRd, hIr⟩ hN hA hr hrd
    have hB2 := hK2.1
    have hB3 := hK3.1
    have hB4 := hK4.1
    have hB5 := hK5.1
    have hX := hXo; have hD := hDk.add hrd (Nat.le_trans hszr (hN rk hr).1) hr
    have hpl2 : cs.take (splA (linesC cs)).length = cs := List.take_of_length_le (by rw [splA_lines]; simp)
    rw [hpl2] at hRd
    obtain ⟨vT, vP, oT, oP, oL, ini, lst, hRP, _⟩ := hRd
    obtain ⟨aT, cT, hvT⟩ := id hRP.own.len; subst hvT
    obtain ⟨aP, cP, hvP⟩ := id hRP.pk.len; subst hvP
    have hB11 := hRP.box
    have hSc := hRP.scmX
    refine W_seq ?_
    refine W_seq ?_
    refine W_region ?_
    refine wl_val (rn_load1 p_110 rfl hB5 rfl) ?_
    refine wl_val (rn_nilCheck rfl) ?_
    refine wl_val (rn_fieldAddr f_112_1 (by decide) rfl) ?_
    refine wl_val (rn_load1 p_3 rfl hB11 rfl) ?_
    refine wl_val (rn_lss rfl rfl) ?_
    refine wl_nil ?_
    refine W_cond rfl (fun hc3 => ?_) (fun hc3 => ?_)
    · exact absurd (of_decide_eq_true hc3) (by rw [at_runs]; show ¬ ((0 + cs.length : Nat) : Int) < 2; omega)
    · refine W_skip ?_
      refine W_seq ?_
      refine W_region ?_
      refine wl_val (rn_load1 p_110 rfl hB5 rfl) ?_
      refine wl_val (rn_nilCheck rfl) ?_
      refine wl_val (rn_fieldAddr f_112_0 (by decide) rfl) ?_
      refine wl_val (rn_loadS s_72 (vs := [.int .i64 (runs ssZ cs).s.subs, .int .i64 (runs ssZ cs).s.cap, _, _]) rfl rfl (hB11.part rfl (Nat.le_of_ble_eq_true rfl))) ?_
      have hBo := hB2
      refine wl_storeB s_72 rfl rfl rfl (fun v hv => by have hv2 : v ∈ [Value.int .i64 _, Value.int .i64 _, Value.slice _ _ _, Value.slice _ _ _] := hv; simp only [List.mem_cons, List.not_mem_nil, or_false] at hv2; rcases hv2 with rfl | rfl | rfl | rfl <;> rfl) hB2 rfl ?_; intro w10 hE10 hB2 hz10
      replace hX := hX.mine hE10 hl2
      replace hB3 := hB3.ext hE10 (fun h => by omega); replace hB4 := hB4.ext hE10 (fun h => by omega); replace hB5 := hB5.ext hE10 (fun h => by omega)
      replace hD := hD.box hE10 hBo
      replace hSc := hSc.ext hE10 (fun i e => .inr ⟨by subst e; have h1 := hE7.size; omega, by subst e; omega⟩)
      have hBo := hB3
      refine wl_store1 (b := b3) p_3 rfl (by conv => lhs; whnf) rfl rfl hB3 (Nat.le_of_ble_eq_true rfl) ?_; intro w11 hE11 hB3 hz11
      replace hX := hX.mine hE11 hl3
      replace hB2 := hB2.ext hE11 (fun h => by omega); replace hB4 := hB4.ext hE11 (fun h => by omega); replace hB5 := hB5.ext hE11 (fun h => by omega)
      replace hD := hD.box hE11 hBo
      replace hSc := hSc.ext hE11 (fun i e => .inr ⟨by subst e; have h1 := hE7.size; omega, by subst e; omega⟩)
      have hBo := hB4
      refine wl_store1 (b := b4) p_60 rfl (by conv => lhs; whnf) rfl rfl hB4 (Nat.le_of_ble_eq_true rfl) ?_; intro w12 hE12 hB4 hz12
      replace hX := hX.mine hE12 hl4
      replace hB2 := hB2.ext hE12 (fun h => by omega); replace hB3 := hB3.ext hE12 (fun h => by omega); replace hB5 := hB5.ext hE12 (fun h => by omega)
      replace hD := hD.box hE12 hBo
      replace hSc := hSc.ext hE12 (fun i e => .inr ⟨by subst e; have h1 := hE7.size; omega, by subst e; omega⟩)
      refine wl_nil ?_
      refine W_ret ?_
      refine hD.leave fun B hB => ?_
      have hB2 := hB2.ext hB (hD.ne hB2)
      have hB3 := hB3.ext hB (hD.ne hB3)
      have hB4 := hB4.ext hB (hD.ne hB4)
      have hB5 := hB5.ext hB (hD.ne hB5)
      have hX := hD.out hX hB
      exact ⟨_, resR3 (res1_box s_72 rfl hB2 rfl) (res1_cell p_3 rfl hB3) (res1_cell p_60 rfl hB4), hX, ⟨_, rfl, (hSc.ext hB (fun i hi => .inl (by simp only [List.mem_singleton] at hi; rw [mark_inj hi]; exact hr))).sub (fun i hi _ => hi.elim)⟩⟩
  · rintro c N rk w' ⟨rfl, hK2, hK3, hK4, hK5, hXo, hDk, hRd, hIr⟩ hN hA hr hrd
    have hB2 := hK2.1
    have hB3 := hK3.1
    have hB4 := hK4.1
    have hB5 := hK5.1
    have hX := hXo; have hD := hDk.add hrd (Nat.le_trans hszr (hN rk hr).1) hr
    obtain ⟨vT, vP, oT, oP, oL, ini, lst, hRP, _⟩ := hRd
    obtain ⟨aT, cT, hvT⟩ := id hRP.own.len; subst hvT
    obtain ⟨aP, cP, hvP⟩ := id hRP.pk.len; subst hvP
    have hB11 := hRP.box
    have hSc := hRP.scmX
    refine W_exit ?_   -- exit 0
    refine W_seq ?_
    refine W_seq ?_
    refine W_region ?_
    refine wl_val (rn_load1 p_110 rfl hB5 rfl) ?_
    refine wl_val (rn_nilCheck rfl) ?_
    refine wl_val (rn_fieldAddr f_112_1 (by decide) rfl) ?_
    refine wl_val (rn_load1 p_3 rfl hB11 rfl) ?_
    refine wl_val (rn_lss rfl rfl) ?_
    refine wl_nil ?_
    refine W_cond rfl (fun hc3 => ?_) (fun hc3 => ?_)
    · exact absurd (of_decide_eq_true hc3) (by rw [at_runs]; show ¬ ((0 + cs.length : Nat) : Int) < 2; omega)
    · refine W_skip ?_
      refine W_seq ?_
      refine W_region ?_
      refine wl_val (rn_load1 p_110 rfl hB5 rfl) ?_
      refine wl_val (rn_nilCheck rfl) ?_
      refine wl_val (rn_fieldAddr f_112_0 (by decide) rfl) ?_
      refine wl_val (rn_loadS s_72 (vs := [.int .i64 (runs ssZ cs).s.subs, .int .i64 (runs ssZ cs).s.cap, _, _]) rfl rfl (hB11.part rfl (Nat.le_of_ble_eq_true rfl))) ?_
      have hBo := hB2
      refine wl_storeB s_72 rfl rfl rfl (fun v hv => by have hv2 : v ∈ [Value.int .i64 _, Value.int .i64 _, Value.slice _ _ _, Value.slice _ _ _] := hv; simp only [List.mem_cons, List.not_mem_nil, or_false] at hv2; rcases hv2 with rfl | rfl | rfl | rfl <;> rfl) hB2 rfl ?_; intro w13 hE13 hB2 hz13
      replace hX := hX.mine hE13 hl2
      replace hB3 := hB3.ext hE13 (fun h => by omega); replace hB4 := hB4.ext hE13 (fun h => by omega); replace hB5 := hB5.ext hE13 (fun h => by omega)
      replace hD := hD.box hE13 hBo
      replace hSc := hSc.ext hE13 (fun i e => .inr ⟨by subst e; have h1 := hE7.size; omega, by subst e; omega⟩)
      have hBo := hB3
      refine wl_store1 (b := b3) p_3 rfl (by conv => lhs; whnf) rfl rfl hB3 (Nat.le_of_ble_eq_true rfl) ?_; intro w14 hE14 hB3 hz14
      replace hX := hX.mine hE14 hl3
      replace hB2 := hB2.ext hE14 (fun h => by omega); replace hB4 := hB4.ext hE14 (fun h => by omega); replace hB5 := hB5.ext hE14 (fun h => by omega)
      replace hD := hD.box hE14 hBo
      replace hSc := hSc.ext hE14 (fun i e => .inr ⟨by subst e; have h1 := hE7.size; omega, by subst e; omega⟩)
      have hBo := hB4
      refine wl_store1 (b := b4) p_60 rfl (by conv => lhs; whnf) rfl rfl hB4 (Nat.le_of_ble_eq_true rfl) ?_; intro w15 hE15 hB4 hz15
      replace hX := hX.mine hE15 hl4
      replace hB2 := hB2.ext hE15 (fun h => by omega); replace hB3 := hB3.ext hE15 (fun h => by omega); replace hB5 := hB5.ext hE15 (fun h => by omega)
      replace hD := hD.box hE15 hBo
      replace hSc := hSc.ext hE15 (fun i e => .inr ⟨by subst e; have h1 := hE7.size; omega, by subst e; omega⟩)
      refine wl_nil ?_
      refine W_ret ?_
      refine hD.leave fun B hB => ?_
      have hB2 := hB2.ext hB (hD.ne hB2)
      have hB3 := hB3.ext hB (hD.ne hB3)
      have hB4 := hB4.ext hB (hD.ne hB4)
      have hB5 := hB5.ext hB (hD.ne hB5)
      have hX := hD.out hX hB
      exact ⟨_, resR3 (res1_box s_72 rfl hB2 rfl) (res1_cell p_3 rfl hB3) (res1_cell p_60 rfl hB4), hX, ⟨_, rfl, (hSc.ext hB (fun i hi => .inl (by simp only [List.mem_singleton] at hi; rw [mark_inj hi]; exact hr))).sub (fun i hi _ => hi.elim)⟩⟩
end Go.Proofs.YthcclgoidchkdaaGreatDoorC

/- Layer 27: the laws of answers and rows. -/
set_option linter.unusedVariables false
set_option linter.unusedSimpArgs false
set_option maxRecDepth 100000
namespace Go.Proofs.YthcclgoidchkdaaGreatDoorC
open Go.RowKit
theorem itoa1 {n : Nat} (h : n < 10) : Lib.itoa (n : Int) = [UInt8.ofNat (48 + n)] := by rw [itoa_nat, Lib.decDigits_one h]
/-- A call's numbers are such. -/
structure CallI (c : CallD) : Prop where
  th : I64 c.thread
  pl : I64 c.place
  fr : I64 c.from_
  to : I64 c.to_
  e : I64 c.ans.err
  x : I64 c.ans.a
  y : I64 c.ans.b
structure CallS (c : CallD) : Prop where
  t : c.op.text.length ≤ 300
  p : c.op.payload.length ≤ 300
  mt : c.ans.msg.topic.length ≤ 300
  mp : c.ans.msg.payload.length ≤ 300
theorem CallI.ok {c : CallD} (h : CallI c) (hs : CallS c) : CallOk c := ⟨h.th, h.pl, h.fr, h.to, by have := hs.t; omega, by have := hs.p; omega, ⟨h.e, h.x, h.y, by have := hs.mt; omega, by have := hs.mp; omega⟩⟩
end Go.Proofs.YthcclgoidchkdaaGreatDoorC

/- Layer 20: a script's text, cut. -/
set_option linter.unusedVariables false
set_option linter.unusedSimpArgs false
set_option maxRecDepth 100000
namespace Go.Proofs.YthcclgoidchkdaaGreatDoorC
open Go.RowKit
theorem thr_at {s : ScD} {ps : List (Value × List OpD)} (h : s.threads = ps.map (·.2)) {i : Nat} {p : Value × List OpD} (hi : ps[i]? = some p) : s.threads[i]? = some p.2 := by rw [h, List.getElem?_map, hi]; rfl
abbrev xAw : OpD := ⟨4, 1, [], [], false⟩
abbrev awC : List Cmd := [.subs 1, .cap 2, .thread, .op xAw]
theorem aw_lines : linesC awC = [115, 117, 98, 115, 32, 49, 10, 99, 97, 112, 32, 50, 10, 116, 104, 114, 101, 97, 100, 10, 112, 111, 108, 108, 32, 49, 10] := by
  have h1 : Lib.itoa 1 = [49] := itoa1 (n := 1) (by decide)
  have h2 : Lib.itoa 2 = [50] := itoa1 (n := 2) (by decide)
  have h3 : Lib.decDigits 1 = [49] := Lib.decDigits_one (by decide)
  have h4 := line4 1 [] []
  rw [h3] at h4
  have h5 : lineR xAw = [112, 111, 108, 108, 32, 49] := h4
  simp only [linesC, awC, List.map_cons, List.map_nil, Cmd.text, h1, h2, h5]
  rfl
theorem aw_runs : Runs ssZ awC := ⟨⟨rfl, rfl, by decide, by decide⟩, ⟨rfl, rfl, by decide, by decide⟩, ⟨rfl, by decide, by decide⟩, ⟨rfl, by decide, by decide, by decide, by decide +kernel, by decide, by decide⟩, trivial⟩
theorem aw_parse (w : World) (hTb : Tab w) (hR : ErrS w) : Fn Tryz.prog 30 #[Sv [115, 117, 98, 115, 32, 49, 10, 99, 97, 112, 32, 50, 10, 116, 104, 114, 101, 97, 100, 10, 112, 111, 108, 108, 32, 49, 10]] w fun u w' => ∃ q : List Value, u = .tuple #[.agg q.toArray, .int .i64 0, .int .i64 0] ∧ ScM Non w' q ⟨1, 2, [[xAw]], []⟩ := by
  have h := sparse_ok w awC aw_runs (by decide) (by decide) (by rw [aw_lines]; decide) hTb hR
  rw [aw_lines] at h
  exact h
theorem cmds_len {s : ScD} (h : SmallP s) : (cmdsOf s).length ≤ 200 ∧ 2 ≤ (cmdsOf s).length := by
  have e : ((s.threads.map thrC).flatten).length = s.threads.length + s.ops.length := by
    unfold ScD.ops
    induction s.threads with
    | nil => rfl
    | cons t ts ih => simp only [List.map_cons, List.flatten_cons, List.length_append, List.length_cons, thrC, List.length_map] at ih ⊢; omega
  have h1 := h.th; have h2 := h.ops
  unfold cmdsOf
  by_cases hp : s.picks = []
  · rw [if_pos hp]; simp only [List.length_append, List.length_cons, List.length_nil, e]; omega
  · rw [if_neg hp]; simp only [List.length_append, List.length_cons, List.length_nil, e]; omega
-- bellman/bellmanref20.Same
set_option maxHeartbeats 3200000 in
theorem same_ok (w : World) (s : ScD) {cs ds : List Value} (hsc : ScM Non w cs s) (hsd : ScM Non w ds s) : Fn Tryz.prog 31 #[.agg cs.toArray, .agg ds.toArray] w fun u w' => u = .bool true := by
  obtain ⟨vT, vP, ps, rfl, hts, ⟨hT, hin⟩, hP⟩ := hsc
  obtain ⟨vU, vQ, qs, rfl, htu, ⟨hU, hiu⟩, hQ⟩ := hsd
  have hsl := sc_len hts; have hsu := sc_len htu
  obtain ⟨aT, cT, rfl, hbgT⟩ := id hT.len
  obtain ⟨aP, cP, rfl, hbgP⟩ := id hP.len
  obtain ⟨aU, cU, rfl, _⟩ := id hU.len
  obtain ⟨aQ, cQ, rfl, _⟩ := id hQ.len
  simp only [List.length_map] at hT hP hU hQ hbgT hbgP ⊢
  have hbg2 : big = 9223372036854775807 := rfl
  have hX := Ext.refl Non w
  refine fn_of_W (args := [_, _]) Tryz.func31 rfl (by kernel_rfl) rfl ?_
  refine W_seq ?_
  refine W_region ?_
  refine wl_boxS rfl ?_; intro b2 w1 hb2 hE1 hB2
  have hq2 : w.heap.size ≤ b2 := Nat.le_trans hX.size hb2
  have hl2 : Mine Non w b2 := .inr hq2
  replace hX := hX.tr hE1
  refine wl_boxS rfl ?_; intro b3 w2 hb3 hE2 hB3
  have hn2_3 : b2 < b3 := Nat.lt_of_lt_of_le hB2.lt hb3
  have hq3 : w.heap.size ≤ b3 := Nat.le_trans hX.size hb3
  have hl3 : Mine Non w b3 := .inr hq3
  replace hX := hX.tr hE2
  replace hB2 := hB2.ext hE2 id
  refine wl_val (rn_assign (by conv => lhs; whnf)) ?_
  refine wl_nil ?_
  refine W_seq ?_
  refine W_seq ?_
  refine W_region ?_
  refine wl_val (rn_fieldAddr f_72_0 (by decide) rfl) ?_
  refine wl_val (rn_load1 p_3 rfl hB2 rfl) ?_
  refine wl_val (rn_fieldAddr f_72_0 (by decide) rfl) ?_
  refine wl_val (rn_load1 p_3 rfl hB3 rfl) ?_
  refine wl_val (rn_neq rfl rfl) ?_
  refine wl_val (rn_move (by conv => lhs; whnf)) ?_
  refine wl_split (d := 13) rfl (fun hg13 => ?_) (fun hg13 => ?_)
  · exact absurd hg13 (by simp)
  · refine wl_yes rfl (congrArg Value.bool hg13) ?_
    refine wl_val (rn_fieldAddr f_72_1 (by decide) rfl) ?_
    refine wl_yes rfl (congrArg Value.bool hg13) ?_
    refine wl_val (rn_load1 p_3 rfl hB2 rfl) ?_
    refine wl_yes rfl (congrArg Value.bool hg13) ?_
    refine wl_val (rn_fieldAddr f_72_1 (by decide) rfl) ?_
    refine wl_yes rfl (congrArg Value.bool hg13) ?_
    refine wl_val (rn_load1 p_3 rfl hB3 rfl) ?_
    refine wl_yes rfl (congrArg Value.bool hg13) ?_
    refine wl_val (rn_neq rfl rfl) ?_
    refine wl_val (rn_pickF (congrArg Value.bool hg13) (by conv => lhs; whnf)) ?_
    refine wl_val (rn_move (by conv => lhs; whnf)) ?_
    refine wl_split (d := 20) rfl (fun hg20 => ?_) (fun hg20 => ?_)
    · exact absurd hg20 (by simp)
    · refine wl_yes rfl (congrArg Value.bool hg20) ?_
      refine wl_val (rn_fieldAddr f_72_2 (by decide) rfl) ?_
      refine wl_yes rfl (congrArg Value.bool hg20) ?_
      refine wl_val (rn_load1 p_70 rfl hB2 rfl) ?_
      refine wl_yes rfl (congrArg Value.bool hg20) ?_
      refine wl_val (rn_len sl_70 rfl) ?_
      refine wl_yes rfl (congrArg Value.bool hg20) ?_
      refine wl_val (rn_fieldAddr f_72_2 (by decide) rfl) ?_
      refine wl_yes rfl (congrArg Value.bool hg20) ?_
      refine wl_val (rn_load1 p_70 rfl hB3 rfl) ?_
      refine wl_yes rfl (congrArg Value.bool hg20) ?_
      refine wl_val (rn_len sl_70 rfl) ?_
      refine wl_yes rfl (congrArg Value.bool hg20) ?_
      refine wl_val (rn_neq rfl rfl) ?_
      refine wl_val (rn_pickF (congrArg Value.bool hg20) (by conv => lhs; whnf)) ?_
      refine wl_val (rn_move (by conv => lhs; whnf)) ?_
      refine wl_split (d := 29) rfl (fun hg29 => ?_) (fun hg29 => ?_)
      · exact absurd (of_decide_eq_true hg29) (by omega)
      · refine wl_yes rfl (congrArg Value.bool hg29) ?_
        refine wl_val (rn_fieldAddr f_72_3 (by decide) rfl) ?_
        refine wl_yes rfl (congrArg Value.bool hg29) ?_
        refine wl_val (rn_load1 p_23 rfl hB2 rfl) ?_
        refine wl_yes rfl (congrArg Value.bool hg29) ?_
        refine wl_val (rn_len sl_23 rfl) ?_
        refine wl_yes rfl (congrArg Value.bool hg29) ?_
        refine wl_val (rn_fieldAddr f_72_3 (by decide) rfl) ?_
        refine wl_yes rfl (congrArg Value.bool hg29) ?_
        refine wl_val (rn_load1 p_23 rfl hB3 rfl) ?_
        refine wl_yes rfl (congrArg Value.bool hg29) ?_
        refine wl_val (rn_len sl_23 rfl) ?_
        refine wl_yes rfl (congrArg Value.bool hg29) ?_
        refine wl_val (rn_neq rfl rfl) ?_
        refine wl_val (rn_pickF (congrArg Value.bool hg29) (by conv => lhs; whnf)) ?_
        refine wl_nil ?_
        refine W_cond rfl (fun hc0 => ?_) (fun hc0 => ?_)
        · exact absurd hc0 (by simp)
        · refine W_skip ?_
          refine W_seq ?_
          refine W_seq ?_
          refine W_region ?_
          refine wl_val (rn_assign (by conv => lhs; whnf)) ?_
          refine wl_nil ?_
          refine W_block ?_   -- block 0
          refine W_loopS (S := Nat) [2, 3, 5] (fun i => [.pointer (some ⟨b2, 0, none⟩), .pointer (some ⟨b3, 0, none⟩), .int .i64 (i : Nat)]) (fun i A => (Ext Non w A) ∧ (IsBox A b2 [.int .i64 s.subs, .int .i64 s.cap, .slice aT ps.length cT, .slice aP s.picks.length cP]) ∧ (IsBox A b3 [.int .i64 s.subs, .int .i64 s.cap, .slice aU qs.length cU, .slice aQ s.picks.length cQ]) ∧ (Mine Non w b2) ∧ (Mine Non w b3) ∧ (b2 < b3) ∧ (i ≤ s.picks.length)) (fun i => s.picks.length - i) 0 ⟨rfl, rfl, rfl, trivial⟩ ⟨hX, hB2, hB3, hl2, hl3, hn2_3, Nat.zero_le _⟩ ?_
          rintro τ0 i A0 ⟨hX, hB2, hB3, hl2, hl3, hn2_3, hI0⟩
          refine W_seq ?_
          refine W_seq ?_
          refine W_region ?_
          refine wl_val (rn_move (by conv => lhs; whnf)) ?_
          refine wl_val (rn_fieldAddr f_72_3 (by decide) rfl) ?_
          refine wl_val (rn_load1 p_23 rfl hB2 rfl) ?_
          refine wl_val (rn_len sl_23 rfl) ?_
          refine wl_val (rn_lss rfl rfl) ?_
          refine wl_nil ?_
          refine W_cond rfl (fun hc1 => ?_) (fun hc1 => ?_)
          · have hlt := of_decide_eq_true hc1; simp only [Int.ofNat_lt] at hlt
            obtain ⟨p, hp⟩ : ∃ p, s.picks[i]? = some p := ⟨_, List.getElem?_eq_getElem hlt⟩
            obtain ⟨bP, oP, ea⟩ := hP.base (by intro e; have := congrArg List.length e; simp only [List.length_map, List.length_nil] at this; omega); subst ea
            obtain ⟨bQ, oQ, ea⟩ := hQ.base (by intro e; have := congrArg List.length e; simp only [List.length_map, List.length_nil] at this; omega); subst ea
            refine W_skip ?_
            refine W_seq ?_
            refine W_block ?_   -- block 1
            refine W_seq ?_
            refine W_drawE mixed ?_; intro w3 hE3
            replace hX := hX.tr hE3
            replace hB2 := hB2.ext hE3 id; replace hB3 := hB3.ext hE3 id
            have hS := Ext.refl Non w3
            refine wd_take 0 _ _ rfl (by kernel_rfl) hS (yd_do fun A hA => rn_fieldAddr f_72_3 (by decide) rfl) ?_
            refine wd_take 1 _ _ rfl (by kernel_rfl) hS (yd_do fun A hA => rn_load1 p_23 rfl (hB2.ext hA id) rfl) ?_
            refine wd_take 2 _ _ rfl (by kernel_rfl) hS (yd_do fun A hA => rn_move (by conv => lhs; whnf)) ?_
            refine wd_take 3 _ _ rfl (by kernel_rfl) hS (yd_do fun A hA => rn_indexAddr sl_23 rfl rfl (by omega)) ?_
            refine wd_take 4 _ _ rfl (by kernel_rfl) hS (yd_do fun A hA => rn_load p_3 rfl (((hP.ext hX (fun _ h => h)).ext hA (fun _ h => h.elim)).at0 (map_at hp) rfl)) ?_
            refine wd_take 5 _ _ rfl (by kernel_rfl) hS (yd_do fun A hA => rn_fieldAddr f_72_3 (by decide) rfl) ?_
            refine wd_take 6 _ _ rfl (by kernel_rfl) hS (yd_do fun A hA => rn_load1 p_23 rfl (hB3.ext hA id) rfl) ?_
            refine wd_take 7 _ _ rfl (by kernel_rfl) hS (yd_do fun A hA => rn_move (by conv => lhs; whnf)) ?_
            refine wd_take 8 _ _ rfl (by kernel_rfl) hS (yd_do fun A hA => rn_indexAddr sl_23 rfl rfl (by omega)) ?_
            refine wd_take 9 _ _ rfl (by kernel_rfl) hS (yd_do fun A hA => rn_load p_3 rfl (((hQ.ext hX (fun _ h => h)).ext hA (fun _ h => h.elim)).at0 (map_at hp) rfl)) ?_
            refine wd_take 10 _ _ rfl (by kernel_rfl) hS (yd_do fun A hA => rn_neq rfl rfl) ?_
            refine wd_done (by kernel_rfl) ?_ _
            replace hX := hX.tr hS
            replace hB2 := hB2.ext hS id; replace hB3 := hB3.ext hS id
            refine W_cond rfl (fun hc2 => ?_) (fun hc2 => ?_)
            · exact absurd hc2 (by simp)
            · refine W_skip ?_
              refine W_region ?_
              refine wl_val (rn_move (by conv => lhs; whnf)) ?_
              refine wl_val (rn_add rfl rfl (by omega)) ?_
              refine wl_val (rn_assign (by conv => lhs; whnf)) ?_
              refine wl_nil ?_
              exact ⟨rfl, i + 1, ⟨rfl, rfl, rfl, trivial⟩, ⟨hX, hB2, hB3, hl2, hl3, hn2_3, hlt⟩, by show s.picks.length - (i + 1) < s.picks.length - i; omega⟩
          · refine W_exit ?_   -- exit 0
            refine W_seq ?_
            refine W_seq ?_
            refine W_region ?_
            refine wl_val (rn_assign (by conv => lhs; whnf)) ?_
            refine wl_nil ?_
            refine W_block ?_   -- block 2
            refine W_loopS (S := Nat) [2, 3, 6] (fun j => [.pointer (some ⟨b2, 0, none⟩), .pointer (some ⟨b3, 0, none⟩), .int .i64 (j : Nat)]) (fun j A => (Ext Non w A) ∧ (IsBox A b2 [.int .i64 s.subs, .int .i64 s.cap, .slice aT ps.length cT, .slice aP s.picks.length cP]) ∧ (IsBox A b3 [.int .i64 s.subs, .int .i64 s.cap, .slice aU qs.length cU, .slice aQ s.picks.length cQ]) ∧ (Mine Non w b2) ∧ (Mine Non w b3) ∧ (b2 < b3) ∧ (j ≤ ps.length)) (fun j => ps.length - j) 0 ⟨rfl, rfl, rfl, trivial⟩ ⟨hX, hB2, hB3, hl2, hl3, hn2_3, Nat.zero_le _⟩ ?_
            rintro τ1 j A1 ⟨hX, hB2, hB3, hl2, hl3, hn2_3, hI1⟩
            refine W_seq ?_
            refine W_seq ?_
            refine W_region ?_
            refine wl_val (rn_move (by conv => lhs; whnf)) ?_
            refine wl_val (rn_fieldAddr f_72_2 (by decide) rfl) ?_
            refine wl_val (rn_load1 p_70 rfl hB2 rfl) ?_
            refine wl_val (rn_len sl_70 rfl) ?_
            refine wl_val (rn_lss rfl rfl) ?_
            refine wl_nil ?_
            refine W_cond rfl (fun hc3 => ?_) (fun hc3 => ?_)
            · have hlt3 := of_decide_eq_true hc3; simp only [Int.ofNat_lt] at hlt3
              obtain ⟨⟨pv, pt⟩, hi⟩ : ∃ p, ps[j]? = some p := ⟨_, List.getElem?_eq_getElem hlt3⟩
              obtain ⟨⟨qv, qt⟩, hj⟩ : ∃ p, qs[j]? = some p := ⟨_, List.getElem?_eq_getElem (by omega)⟩
              obtain rfl : pt = qt := by have h1 := thr_at hts hi; have h2 := thr_at htu hj; rw [h1] at h2; injection h2
              have hpt := hin _ (List.mem_of_getElem? hi); have hqt := hiu _ (List.mem_of_getElem? hj)
              obtain ⟨ai, ci, hpv, _⟩ := id hpt.len
              simp only [List.length_map] at hpv
              subst hpv
              obtain ⟨aj, cj, hqv, hqb⟩ := id hqt.len
              simp only [List.length_map] at hqv hqb
              subst hqv
              simp only at hpt hqt hqb
              obtain ⟨bT, oT, ea⟩ := hT.base (by intro e; have := congrArg List.length e; simp only [List.length_map, List.length_nil] at this; omega); subst ea
              obtain ⟨bU, oU, ea⟩ := hU.base (by intro e; have := congrArg List.length e; simp only [List.length_map, List.length_nil] at this; omega); subst ea
              refine W_skip ?_
              refine W_seq ?_
              refine W_block ?_   -- block 3
              refine W_seq ?_
              refine W_seq ?_
              refine W_drawE mixed ?_; intro w4 hE4
              replace hX := hX.tr hE4
              replace hB2 := hB2.ext hE4 id; replace hB3 := hB3.ext hE4 id
              have hS := Ext.refl Non w4
              refine wd_take 0 _ _ rfl (by kernel_rfl) hS (yd_do fun A hA => rn_fieldAddr f_72_2 (by decide) rfl) ?_
              refine wd_take 1 _ _ rfl (by kernel_rfl) hS (yd_do fun A hA => rn_load1 p_70 rfl (hB2.ext hA id) rfl) ?_
              refine wd_take 2 _ _ rfl (by kernel_rfl) hS (yd_do fun A hA => rn_move (by conv => lhs; whnf)) ?_
              refine wd_take 3 _ _ rfl (by kernel_rfl) hS (yd_do fun A hA => rn_indexAddr sl_70 rfl rfl (by omega)) ?_
              refine wd_take 4 _ _ rfl (by kernel_rfl) hS (yd_do fun A hA => rn_load p_78 rfl (((hT.ext hX (fun _ h => h)).ext hA (fun _ h => h.elim)).at0 (map_at hi) rfl)) ?_
              refine wd_take 5 _ _ rfl (by kernel_rfl) hS (yd_do fun A hA => rn_len sl_78 rfl) ?_
              refine wd_take 6 _ _ rfl (by kernel_rfl) hS (yd_do fun A hA => rn_fieldAddr f_72_2 (by decide) rfl) ?_
              refine wd_take 7 _ _ rfl (by kernel_rfl) hS (yd_do fun A hA => rn_load1 p_70 rfl (hB3.ext hA id) rfl) ?_
              refine wd_take 8 _ _ rfl (by kernel_rfl) hS (yd_do fun A hA => rn_move (by conv => lhs; whnf)) ?_
              refine wd_take 9 _ _ rfl (by kernel_rfl) hS (yd_do fun A hA => rn_indexAddr sl_70 rfl rfl (by omega)) ?_
              refine wd_take 10 _ _ rfl (by kernel_rfl) hS (yd_do fun A hA => rn_load p_78 rfl (((hU.ext hX (fun _ h => h)).ext hA (fun _ h => h.elim)).at0 (map_at hj) rfl)) ?_
              refine wd_take 11 _ _ rfl (by kernel_rfl) hS (yd_do fun A hA => rn_len sl_78 rfl) ?_
              refine wd_take 12 _ _ rfl (by kernel_rfl) hS (yd_do fun A hA => rn_neq rfl rfl) ?_
              refine wd_done (by kernel_rfl) ?_ _
              replace hX := hX.tr hS
              replace hB2 := hB2.ext hS id; replace hB3 := hB3.ext hS id
              refine W_cond rfl (fun hc4 => ?_) (fun hc4 => ?_)
              · exact absurd hc4 (by simp)
              · refine W_skip ?_
                refine W_seq ?_
                refine W_region ?_
                refine wl_val (rn_assign (by conv => lhs; whnf)) ?_
                refine wl_nil ?_
                refine W_block ?_   -- block 4
                refine W_loopS (S := Nat) [2, 3, 6, 7] (fun k => [.pointer (some ⟨b2, 0, none⟩), .pointer (some ⟨b3, 0, none⟩), .int .i64 (j : Nat), .int .i64 (k : Nat)]) (fun k A => (Ext Non w A) ∧ (IsBox A b2 [.int .i64 s.subs, .int .i64 s.cap, .slice (some ⟨bT, oT, none⟩) ps.length cT, .slice aP s.picks.length cP]) ∧ (IsBox A b3 [.int .i64 s.subs, .int .i64 s.cap, .slice (some ⟨bU, oU, none⟩) qs.length cU, .slice aQ s.picks.length cQ]) ∧ (Mine Non w b2) ∧ (Mine Non w b3) ∧ (b2 < b3) ∧ (k ≤ pt.length)) (fun k => pt.length - k) 0 ⟨rfl, rfl, rfl, rfl, trivial⟩ ⟨hX, hB2, hB3, hl2, hl3, hn2_3, Nat.zero_le _⟩ ?_
                rintro τ2 k A2 ⟨hX, hB2, hB3, hl2, hl3, hn2_3, hI2⟩
                refine W_seq ?_
                refine W_seq ?_
                refine W_region ?_
                refine wl_val (rn_move (by conv => lhs; whnf)) ?_
                refine wl_val (rn_fieldAddr f_72_2 (by decide) rfl) ?_
                refine wl_val (rn_load1 p_70 rfl hB2 rfl) ?_
                refine wl_val (rn_move (by conv => lhs; whnf)) ?_
                refine wl_val (rn_indexAddr sl_70 rfl rfl (by omega)) ?_
                refine wl_val (rn_load p_78 rfl ((hT.ext hX (fun _ h => h)).at0 (map_at hi) rfl)) ?_
                refine wl_val (rn_len sl_78 rfl) ?_
                refine wl_val (rn_lss rfl rfl) ?_
                refine wl_nil ?_
                refine W_cond rfl (fun hc5 => ?_) (fun hc5 => ?_)
                · have hlt5 := of_decide_eq_true hc5; simp only [Int.ofNat_lt] at hlt5
                  obtain ⟨x, hx⟩ : ∃ x, pt[k]? = some x := ⟨_, List.getElem?_eq_getElem hlt5⟩
                  obtain ⟨bi, oi, ea⟩ := hpt.base (by intro e; have := congrArg List.length e; simp only [List.length_map, List.length_nil] at this; omega); subst ea
                  obtain ⟨bj, oj, ea⟩ := hqt.base (by intro e; have := congrArg List.length e; simp only [List.length_map, List.length_nil] at this; omega); subst ea
                  refine W_skip ?_
                  refine W_seq ?_
                  refine W_block ?_   -- block 5
                  refine W_seq ?_
                  refine W_drawE mixed ?_; intro w5 hE5
                  replace hX := hX.tr hE5
                  replace hB2 := hB2.ext hE5 id; replace hB3 := hB3.ext hE5 id
                  have hS := Ext.refl Non w5
                  refine wd_take 0 _ _ rfl (by kernel_rfl) hS (yd_do fun A hA => rn_fieldAddr f_72_2 (by decide) rfl) ?_
                  refine wd_take 1 _ _ rfl (by kernel_rfl) hS (yd_do fun A hA => rn_load1 p_70 rfl (hB2.ext hA id) rfl) ?_
                  refine wd_take 2 _ _ rfl (by kernel_rfl) hS (yd_do fun A hA => rn_move (by conv => lhs; whnf)) ?_
                  refine wd_take 3 _ _ rfl (by kernel_rfl) hS (yd_do fun A hA => rn_indexAddr sl_70 rfl rfl (by omega)) ?_
                  refine wd_take 4 _ _ rfl (by kernel_rfl) hS (yd_do fun A hA => rn_load p_78 rfl (((hT.ext hX (fun _ h => h)).ext hA (fun _ h => h.elim)).at0 (map_at hi) rfl)) ?_
                  refine wd_take 5 _ _ rfl (by kernel_rfl) hS (yd_do fun A hA => rn_move (by conv => lhs; whnf)) ?_
                  refine wd_take 6 _ _ rfl (by kernel_rfl) hS (yd_do fun A hA => rn_indexAddr sl_78 rfl rfl (by omega)) ?_
                  refine wd_take 7 _ _ rfl (by kernel_rfl) hS (yd_do fun A hA => rn_loadS s_69 rfl rfl (((hpt.ext hX (fun _ h => h)).ext hA (fun _ h => h.elim)).all0 (map_at hx))) ?_
                  refine wd_take 8 _ _ rfl (by kernel_rfl) hS (yd_do fun A hA => rn_fieldAddr f_72_2 (by decide) rfl) ?_
                  refine wd_take 9 _ _ rfl (by kernel_rfl) hS (yd_do fun A hA => rn_load1 p_70 rfl (hB3.ext hA id) rfl) ?_
                  refine wd_take 10 _ _ rfl (by kernel_rfl) hS (yd_do fun A hA => rn_move (by conv => lhs; whnf)) ?_
                  refine wd_take 11 _ _ rfl (by kernel_rfl) hS (yd_do fun A hA => rn_indexAddr sl_70 rfl rfl (by omega)) ?_
                  refine wd_take 12 _ _ rfl (by kernel_rfl) hS (yd_do fun A hA => rn_load p_78 rfl (((hU.ext hX (fun _ h => h)).ext hA (fun _ h => h.elim)).at0 (map_at hj) rfl)) ?_
                  refine wd_take 13 _ _ rfl (by kernel_rfl) hS (yd_do fun A hA => rn_move (by conv => lhs; whnf)) ?_
                  refine wd_take 14 _ _ rfl (by kernel_rfl) hS (yd_do fun A hA => rn_indexAddr sl_78 rfl rfl (by omega)) ?_
                  refine wd_take 15 _ _ rfl (by kernel_rfl) hS (yd_do fun A hA => rn_loadS s_69 rfl rfl (((hqt.ext hX (fun _ h => h)).ext hA (fun _ h => h.elim)).all0 (map_at hx))) ?_
                  refine wd_take 16 _ _ rfl (by kernel_rfl) hS (yd_do fun A hA => rn_neqS rfl rfl eg_69 (by decide) (op_eqs _ _)) ?_
                  refine wd_done (by kernel_rfl) ?_ _
                  replace hX := hX.tr hS
                  replace hB2 := hB2.ext hS id; replace hB3 := hB3.ext hS id
                  refine W_cond rfl (fun hc6 => ?_) (fun hc6 => ?_)
                  · exact absurd hc6 (by simp)
                  · refine W_skip ?_
                    refine W_region ?_
                    refine wl_val (rn_move (by conv => lhs; whnf)) ?_
                    refine wl_val (rn_add rfl rfl (by omega)) ?_
                    refine wl_val (rn_assign (by conv => lhs; whnf)) ?_
                    refine wl_nil ?_
                    exact ⟨rfl, k + 1, ⟨rfl, rfl, rfl, rfl, trivial⟩, ⟨hX, hB2, hB3, hl2, hl3, hn2_3, hlt5⟩, by show pt.length - (k + 1) < pt.length - k; omega⟩
                · refine W_exit ?_   -- exit 4
                  refine W_region ?_
                  refine wl_val (rn_move (by conv => lhs; whnf)) ?_
                  refine wl_val (rn_add rfl rfl (by omega)) ?_
                  refine wl_val (rn_assign (by conv => lhs; whnf)) ?_
                  refine wl_nil ?_
                  exact ⟨rfl, j + 1, ⟨rfl, rfl, rfl, trivial⟩, ⟨hX, hB2, hB3, hl2, hl3, hn2_3, hlt3⟩, by show ps.length - (j + 1) < ps.length - j; omega⟩
            · refine W_exit ?_   -- exit 2
              refine W_seq ?_
              refine W_region ?_
              refine wl_val (rn_assign (by conv => lhs; whnf)) ?_
              refine wl_nil ?_
              refine W_ret ?_
              exact ⟨_, resR1 (res1_tmp rfl), hX, rfl⟩
-- bellman/bellmanlaw20.awake
set_option maxHeartbeats 1600000 in
theorem awake20_ok (w : World) (hTb : Tab w) (hR : ErrS w) : Fn Tryz.prog 22 #[] w fun u w' => u = .bool true := by
  have hX := Ext.refl Non w
  refine fn_of_W (args := []) Tryz.func22 rfl (by kernel_rfl) rfl ?_
  refine W_seq ?_
  refine W_region ?_
  refine wl_val (rn_assign (by conv => lhs; whnf)) ?_
  refine wl_nil ?_
  refine W_seq ?_
  refine W_region ?_
  refine wl_call e_30 rfl (aw_parse w hTb hR) ?_; intro v5 w1 hE1 hR1
  replace hX := hX.tr hE1
  obtain ⟨q, rfl, hq⟩ := hR1
  obtain ⟨vT2, vP2, ps2, rfl, hts2, hTh2, hP2⟩ := id hq
  obtain ⟨aT2, cT2, rfl, _⟩ := id hTh2.1.len; obtain ⟨aP2, cP2, rfl, _⟩ := id hP2.len
  obtain ⟨nq, hnq⟩ : ∃ n, n = (World.heap w1).size := ⟨_, rfl⟩
  replace hq := hq.sub (M' := fun i => nq ≤ i) (fun i hi hlt => by have hi : nq ≤ i := hi; omega)
  have hzq : nq ≤ (World.heap w1).size := Nat.le_of_eq hnq
  refine wl_val (rn_move (by conv => lhs; whnf)) ?_
  refine wl_val (rn_extract rfl rfl) ?_
  refine wl_val (rn_extract rfl rfl) ?_
  refine wl_val (rn_extract rfl rfl) ?_
  refine wl_alloc z_72 ?_; intro b1 w2 hb1 hE2 hB1
  have hq1 : w.heap.size ≤ b1 := Nat.le_trans hX.size hb1
  have hl1 : Mine Non w b1 := .inr hq1
  have hnb1 : nq ≤ b1 := Nat.le_trans hzq hb1
  replace hX := hX.tr hE2
  replace hq := hq.ext hE2 (fun _ h => h.elim)
  replace hzq := Nat.le_trans hzq hE2.size
  have hBo := hB1
  refine wl_storeB s_72 rfl rfl rfl (fun v hv => by have hv2 : v ∈ [Value.int .i64 _, Value.int .i64 _, Value.slice _ _ _, Value.slice _ _ _] := hv; simp only [List.mem_cons, List.not_mem_nil, or_false] at hv2; rcases hv2 with rfl | rfl | rfl | rfl <;> rfl) hB1 rfl ?_; intro w3 hE3 hB1 hz3
  replace hX := hX.mine hE3 hl1
  replace hq := hq.ext hE3 (fun i e => by subst e; exact hnb1)
  replace hzq := Nat.le_trans hzq hE3.size
  refine wl_val (rn_assign (by conv => lhs; whnf)) ?_
  refine wl_val (rn_assign (by conv => lhs; whnf)) ?_
  refine wl_nil ?_
  refine W_seq ?_
  refine W_region ?_
  refine wl_val (rn_move (by conv => lhs; whnf)) ?_
  refine wl_val (rn_eql rfl rfl) ?_
  refine wl_val (rn_move (by conv => lhs; whnf)) ?_
  refine wl_yes rfl rfl ?_
  refine wl_val (rn_move (by conv => lhs; whnf)) ?_
  refine wl_yes rfl rfl ?_
  refine wl_val (rn_eql rfl rfl) ?_
  refine wl_val (rn_pickT rfl (by conv => lhs; whnf)) ?_
  refine wl_val (rn_move (by conv => lhs; whnf)) ?_
  refine wl_yes rfl rfl ?_
  refine wl_val (rn_loadB s_72 rfl rfl hB1) ?_
  refine wl_yes rfl rfl ?_
  refine wl_val (rn_build' b_69 rfl rfl (cs := xAw.enc) rfl) ?_
  refine wl_yes rfl rfl ?_
  refine wl_lit1 (r := xAw.enc) sl_78 rfl rfl rfl rfl (by decide) ?_; intro v18 w4 b18 hb18 hE4 hO18
  obtain ⟨a18, c18, hv18⟩ : ∃ a c, v18 = .slice a 1 c := by obtain ⟨c, h, _⟩ := hO18.val; exact ⟨_, c, h⟩
  subst hv18
  replace hX := hX.tr hE4
  replace hB1 := hB1.ext hE4 id
  replace hq := hq.ext hE4 (fun _ h => h.elim)
  replace hzq := Nat.le_trans hzq hE4.size
  refine wl_yes rfl rfl ?_
  refine wl_lit1 (r := [.slice a18 1 c18]) sl_70 rfl rfl rfl rfl (by decide) ?_; intro v19 w5 b19 hb19 hE5 hO19
  obtain ⟨a19, c19, hv19⟩ : ∃ a c, v19 = .slice a 1 c := by obtain ⟨c, h, _⟩ := hO19.val; exact ⟨_, c, h⟩
  subst hv19
  replace hX := hX.tr hE5
  replace hB1 := hB1.ext hE5 id
  replace hq := hq.ext hE5 (fun _ h => h.elim)
  replace hzq := Nat.le_trans hzq hE5.size
  replace hO18 := hO18.ext hE5 id
  refine wl_yes rfl rfl ?_
  refine wl_val (rn_build' b_72 rfl rfl (cs := [.int .i64 1, .int .i64 2, (.slice a19 1 c19), .slice none 0 0]) rfl) ?_
  refine wl_yes rfl rfl ?_
  refine wl_call e_31 rfl (same_ok w5 ⟨1, 2, [[xAw]], []⟩ (hq.sub (fun i hi _ => hi.elim)) ⟨(.slice a19 1 c19), .slice none 0 0, [((.slice a18 1 c18), [xAw])], rfl, rfl, ⟨hO19.sl (M := Non) id, fun p hp => by simp only [List.mem_singleton] at hp; subst hp; exact (hO18.sl (M := Non) id)⟩, Sl.nil _ _ _⟩) ?_; intro v21 w6 hE6 hR6
  replace hX := hX.tr hE6
  replace hB1 := hB1.ext hE6 id
  replace hq := hq.ext hE6 (fun _ h => h.elim)
  replace hzq := Nat.le_trans hzq hE6.size
  replace hO18 := hO18.ext hE6 id
  replace hO19 := hO19.ext hE6 id
  subst hR6
  refine wl_val (rn_pickT rfl (by conv => lhs; whnf)) ?_
  refine wl_val (rn_assign (by conv => lhs; whnf)) ?_
  refine wl_nil ?_
  refine W_ret ?_
  exact ⟨_, resR1 (res1_tmp rfl), hX, rfl⟩
end Go.Proofs.YthcclgoidchkdaaGreatDoorC
