/- The plan of locks. -/
import Derived.Test.YtfdfphaiefbflaaStr3
set_option linter.unusedVariables false
set_option linter.unusedSimpArgs false
set_option maxRecDepth 100000
namespace Go.Proofs.YtfdfphaiefbflaaC
open Go.RowKit
theorem Sl.avoid {M M' : Nat → Prop} {A : World} {v : Value} {k : Nat} {rows : List (List Value)} (h : Sl M A v k rows) (hk : 0 < k) (hM : ∀ i, M' i → ¬ ∃ c T f, A.heap[i]? = Option.some (.cells c T f)) : Sl (fun i => M i ∨ M' i) A v k rows := by
  obtain ⟨⟨a, c, h1, h2, h3, h4⟩, h5⟩ := h
  refine ⟨⟨a, c, h1, h2, h3, ?_⟩, h5⟩
  rcases h4 with h4 | ⟨b, o, ha, hb, hn, hc⟩
  · exact .inl h4
  · by_cases he : rows = []
    · exact .inl he
    · refine .inr ⟨b, o, ha, hb, fun h' => ?_, hc⟩
      rcases h' with h' | h'
      · exact hn h'
      · have hlen : 0 < rows.flatten.length := by rw [flat_len h5]; exact Nat.mul_pos (List.length_pos_iff.2 he) hk
        have h6 := hc 0 hlen
        rw [List.getElem?_eq_getElem hlen] at h6
        unfold World.cell? at h6
        split at h6
        · rename_i c' T f hcc; exact hM b h' ⟨_, _, _, hcc⟩
        · cases h6
theorem Mk.cells {w A : World} {D : List Deferred} (h : Mk w D A) {i : Nat} (hi : mark i ∈ D) : ¬ ∃ c T f, A.heap[i]? = some (.cells c T f) := by
  rintro ⟨c, T, f, hc⟩
  obtain ⟨r, h1, h2, _⟩ := h.each _ hi
  cases mark_inj h1
  rw [h2] at hc; cases hc
/-- The stripes that a plan asks for, so far as they are any. -/
def filt (l : List Int) : List Int := l.filter fun x => decide (0 ≤ x) && decide (x < 4)
def qf (l : List Int) : List Int := (l.map queueOf).filter fun q => decide (0 ≤ q)
def planOf (st ks : List Int) : List Int := (qf ks).foldl (putK ltI) (ofL (filt st))
theorem filt_len (l : List Int) : (filt l).length ≤ l.length := List.length_filter_le _ _
theorem qf_len (l : List Int) : (qf l).length ≤ l.length := by unfold qf; exact Nat.le_trans (List.length_filter_le _ _) (by simp)
theorem filt_yes {l : List Int} {i : Nat} {x : Int} (h : l[i]? = some x) (h0 : 0 ≤ x) (h1 : x < 4) : ofL (filt (l.take (i + 1))) = putK ltI (ofL (filt (l.take i))) x := by
  rw [List.take_add_one, h, show filt (l.take i ++ (some x).toList) = filt (l.take i) ++ [x] from by simp [filt, h0, h1], ofL_snoc]
theorem filt_no {l : List Int} {i : Nat} {x : Int} (h : l[i]? = some x) (h0 : ¬ (0 ≤ x ∧ x < 4)) : filt (l.take (i + 1)) = filt (l.take i) := by
  rw [List.take_add_one, h]
  have : (decide (0 ≤ x) && decide (x < 4)) = false := by rw [Bool.and_eq_false_iff]; by_cases h1 : 0 ≤ x; right; simp; omega; left; simp; omega
  simp [filt, this]
theorem qf_yes (l : List Int) (x : Int) (h : 0 ≤ queueOf x) : qf (l ++ [x]) = qf l ++ [queueOf x] := by simp [qf, h]
theorem qf_no (l : List Int) (x : Int) (h : ¬ 0 ≤ queueOf x) : qf (l ++ [x]) = qf l := by simp [qf]; omega
-- bellman/stripe.Plan
set_option maxHeartbeats 1000000 in
theorem plan_ok (w : World) (st ks : List Int) {v vo : Value} (hs : Sl Non w v 1 (st.map eI1)) (ho : SetR Non w vo ks) (hk : Sorted ltI ks) (hn : st.length ≤ 1000) (hnk : ks.length ≤ 1000) : Fn Try.prog 57 #[v, vo] w fun u w' => Sl Non w' u 1 ((planOf st ks).map eI1) := by
  obtain ⟨a, c, rfl, _⟩ := hs.len
  simp only [List.length_map] at hs ⊢
  obtain ⟨o1, o2, vso, rfl, hmo⟩ := ho
  obtain ⟨p1, m1, d1, rfl⟩ := hmo.keys.shape; obtain ⟨p2, m2, d2, rfl⟩ := hmo.vals.shape
  have hX := Ext.refl Non w
  refine fn_of_W (args := [_, _]) Try.func57 rfl (by kernel_rfl) rfl ?_
  refine W_seq ?_
  refine W_region ?_
  refine wl_boxS rfl ?_; intro b3 w1 hb3 hE1 hB3
  have hq3 : w.heap.size ≤ b3 := Nat.le_trans hX.size hb3
  have hl3 : Mine Non w b3 := .inr hq3
  replace hX := hX.tr hE1
  refine wl_val (rn_assign (by conv => lhs; whnf)) ?_
  refine wl_nil ?_
  refine W_seq ?_
  refine W_region ?_
  refine wl_alloc z_43 ?_; intro b5 w2 hb5 hE2 hB5
  have hn3_5 : b3 < b5 := Nat.lt_of_lt_of_le hB3.lt hb5
  have hq5 : w.heap.size ≤ b5 := Nat.le_trans hX.size hb5
  have hl5 : Mine Non w b5 := .inr hq5
  replace hX := hX.tr hE2
  replace hB3 := hB3.ext hE2 id
  refine wl_nil ?_
  refine W_seq ?_
  refine W_seq ?_
  refine W_region ?_
  refine wl_val (rn_move (by conv => lhs; whnf)) ?_
  refine wl_val (rn_len sl_36 rfl) ?_
  refine wl_val (rn_move (by conv => lhs; whnf)) ?_
  refine wl_nil ?_
  refine W_block ?_   -- block 0
  refine W_loopS (S := Nat × Value × Value) [3, 5, 10, 11, 12] (fun ⟨i, u1, u2⟩ => [.pointer (some ⟨b3, 0, none⟩), .pointer (some ⟨b5, 0, none⟩), .slice a st.length c, .int .i64 (st.length : Nat), .int .i64 (i : Nat)]) (fun ⟨i, u1, u2⟩ A => (Ext Non w A) ∧ (IsBox A b3 [.slice p1 m1 d1, .slice p2 m2 d2]) ∧ (IsBox A b5 [u1, u2]) ∧ (Mine Non w b3) ∧ (Mine Non w b5) ∧ (b3 < b5) ∧ (i ≤ st.length ∧ (∃ vs, MapR (fun j => j < w.heap.size ∨ j = b3 ∨ j = b5) A eI1 0 u1 u2 (ofL (filt (st.take i))) vs) ∧ (∃ q n c, u1 = .slice q n c) ∧ (∃ q n c, u2 = .slice q n c))) (fun ⟨i, u1, u2⟩ => st.length - i) (0, .slice none 0 0, .slice none 0 0) ⟨rfl, rfl, rfl, rfl, rfl, trivial⟩ ⟨hX, hB3, hB5, hl3, hl5, hn3_5, ⟨Nat.zero_le _, ⟨[], Sl.nil _ _ _, Sl.nil _ _ _, rfl⟩, ⟨_, _, _, rfl⟩, ⟨_, _, _, rfl⟩⟩⟩ ?_
  rintro τ0 ⟨i, u1, u2⟩ A0 ⟨hX, hB3, hB5, hl3, hl5, hn3_5, hI0⟩
  obtain ⟨hil, ⟨vs, hm⟩, ⟨q1, n1, c1, hu1⟩, ⟨q2, n2, c2, hu2⟩⟩ := hI0
  refine W_seq ?_
  refine W_region ?_
  refine wl_val (rn_lss rfl rfl) ?_
  refine wl_nil ?_
  refine W_seq ?_
  refine W_cond rfl (fun hc0 => ?_) (fun hc0 => ?_)
  · have hlt := of_decide_eq_true hc0; simp only [Int.ofNat_lt] at hlt
    obtain ⟨x, hi⟩ : ∃ x, st[i]? = some x := ⟨_, List.getElem?_eq_getElem hlt⟩
    obtain ⟨b, o, ea⟩ := hs.base (by intro e; simp at e; subst e; simp at hlt); subst ea
    have hol := ofL_len (filt (st.take i)); have hfl := filt_len (st.take i)
    have hzl : (st.take i).length ≤ st.length := by rw [List.length_take]; omega
    have hz3 := hB3.lt; have hz5 := hB5.lt; have hXc := hX
    refine W_skip ?_
    refine W_seq ?_
    refine W_block ?_   -- block 1
    refine W_seq ?_
    refine W_region ?_
    refine wl_val (rn_indexAddr sl_36 rfl rfl (by omega)) ?_
    refine wl_val (rn_load p_3 rfl ((hs.ext hX (fun _ h => h)).at0 (eI_at hi) rfl)) ?_
    refine wl_val (rn_assign (by conv => lhs; whnf)) ?_
    refine wl_nil ?_
    refine W_seq ?_
    refine W_region ?_
    refine wl_val (rn_move (by conv => lhs; whnf)) ?_
    refine wl_val (rn_geq rfl rfl) ?_
    refine wl_val (rn_move (by conv => lhs; whnf)) ?_
    refine wl_split (d := 18) rfl (fun hg18 => ?_) (fun hg18 => ?_)
    · refine wl_yes rfl (congrArg Value.bool hg18) ?_
      refine wl_val (rn_move (by conv => lhs; whnf)) ?_
      refine wl_yes rfl (congrArg Value.bool hg18) ?_
      refine wl_val (rn_lss rfl rfl) ?_
      refine wl_val (rn_pickT (congrArg Value.bool hg18) (by conv => lhs; whnf)) ?_
      refine wl_nil ?_
      refine W_cond rfl (fun hc1 => ?_) (fun hc1 => ?_)
      · refine W_region ?_
        refine wl_val (rn_loadB s_43 rfl rfl hB5) ?_
        refine wl_val (rn_move (by conv => lhs; whnf)) ?_
        refine wl_call e_38 rfl (with_ok A0 (ofL (filt (st.take i))) ⟨_, _, vs, rfl, hm.sub (M' := Non) (fun _ h _ => h.elim)⟩ x (ofL_sorted _) (by omega)) ?_; intro v24 w3 hE3 hR3
        replace hX := hX.tr hE3
        replace hB3 := hB3.ext hE3 id; replace hB5 := hB5.ext hE3 id
        replace hm := hm.ext hE3 (fun _ h => h.elim)
        obtain ⟨u1n, u2n, vsn, rfl, hMn⟩ := hR3
        obtain ⟨a1, l1, c1, rfl⟩ := id hMn.keys.shape; obtain ⟨a2, l2, c2, rfl⟩ := id hMn.vals.shape
        replace hMn := hMn.sub (M' := fun j => j < w.heap.size ∨ j = b3 ∨ j = b5) (fun j h _ => by unfold Old; have := hXc.size; rcases h with h | h | h <;> omega)
        have hBo := hB5
        refine wl_storeB s_43 rfl rfl rfl (two1 rfl rfl) hB5 rfl ?_; intro w4 hE4 hB5 hz4
        replace hX := hX.mine hE4 hl5
        replace hB3 := hB3.ext hE4 (fun h => by omega)
        replace hMn := hMn.ext hE4 (fun j e => by omega)
        refine wl_nil ?_
        refine W_region ?_
        refine wl_val (rn_add rfl rfl (by omega)) ?_
        refine wl_val (rn_move (by conv => lhs; whnf)) ?_
        refine wl_nil ?_
        have hx0 := of_decide_eq_true hg18; have hx4 := of_decide_eq_true hc1
        exact ⟨rfl, (i + 1, .slice a1 l1 c1, .slice a2 l2 c2), ⟨rfl, rfl, rfl, rfl, rfl, trivial⟩, ⟨hX, hB3, hB5, hl3, hl5, hn3_5, ⟨hlt, ⟨_, by rw [filt_yes hi hx0 hx4]; exact hMn⟩, ⟨_, _, _, rfl⟩, ⟨_, _, _, rfl⟩⟩⟩, by show st.length - (i + 1) < st.length - i; omega⟩
      · refine W_skip ?_
        refine W_region ?_
        refine wl_val (rn_add rfl rfl (by omega)) ?_
        refine wl_val (rn_move (by conv => lhs; whnf)) ?_
        refine wl_nil ?_
        have hxn : ¬ (0 ≤ x ∧ x < 4) := fun h => of_decide_eq_false hc1 h.2
        exact ⟨rfl, (i + 1, u1, u2), ⟨rfl, rfl, rfl, rfl, rfl, trivial⟩, ⟨hX, hB3, hB5, hl3, hl5, hn3_5, ⟨hlt, ⟨_, by rw [filt_no hi hxn]; exact hm⟩, ⟨_, _, _, hu1⟩, ⟨_, _, _, hu2⟩⟩⟩, by show st.length - (i + 1) < st.length - i; omega⟩
    · refine wl_no rfl (congrArg Value.bool hg18) ?_
      refine wl_no rfl (congrArg Value.bool hg18) ?_
      refine wl_val (rn_pickF (congrArg Value.bool hg18) (by conv => lhs; whnf)) ?_
      refine wl_nil ?_
      refine W_condF rfl ?_
      refine W_skip ?_
      refine W_region ?_
      refine wl_val (rn_add rfl rfl (by omega)) ?_
      refine wl_val (rn_move (by conv => lhs; whnf)) ?_
      refine wl_nil ?_
      have hxn : ¬ (0 ≤ x ∧ x < 4) := fun h => of_decide_eq_false hg18 h.1
      exact ⟨rfl, (i + 1, u1, u2), ⟨rfl, rfl, rfl, rfl, rfl, trivial⟩, ⟨hX, hB3, hB5, hl3, hl5, hn3_5, ⟨hlt, ⟨_, by rw [filt_no hi hxn]; exact hm⟩, ⟨_, _, _, hu1⟩, ⟨_, _, _, hu2⟩⟩⟩, by show st.length - (i + 1) < st.length - i; omega⟩
  · have hge := of_decide_eq_false hc0; simp only [Int.ofNat_lt, Nat.not_lt] at hge
    have hie : i = st.length := by omega
    subst hie
    rw [List.take_length] at hm
    have hol := ofL_len (filt st); have hfl := filt_len st
    refine W_exit ?_   -- exit 0
    refine W_seq ?_
    refine W_seq ?_
    refine W_region ?_
    refine wl_val (rn_loadB s_43 rfl rfl hB3) ?_
    refine wl_call e_71 rfl (all_ok A0 ks (fun i => i = b5) (fun i e => by rw [e]; exact hB5.lt) ⟨_, _, vso, rfl, (hmo.sub (M' := fun i => i = b5) (fun i e hlt => by rcases hl5 with h | h; exact h.elim; omega)).ext hX.of_non (fun _ h => h)⟩) ?_; intro v27 w5 hE5 hR5
    replace hX := hX.tr hE5
    replace hB3 := hB3.ext hE5 id; replace hB5 := hB5.ext hE5 id
    replace hm := hm.ext hE5 (fun _ h => h.elim)
    have hIt := hR5; obtain ⟨fk, ck, hfk, _⟩ := id hIt; subst hfk
    have hW := Ext.refl (fun i => i = b5) w5; have hz5 := hB5.lt
    have hmS := hm.sub (M' := fun i => Non i ∨ i = b5) (fun i e hlt => by rcases e with e | e; exact e.elim; exact .inr (.inr e))
    refine wl_nil ?_
    refine W_block ?_   -- block 2
    have hszr := hX.size
    have hsz_hW := hW.size
    have ho3 : w.heap.size ≤ b3 := by rcases hl3 with h | h; exact h.elim; exact h
    have ho5 : w.heap.size ≤ b5 := by rcases hl5 with h | h; exact h.elim; exact h
    refine W_rangeFunc (M := fun i => i = b5) (w0 := w5) (I := fun pre N A => ∃ u1 : Value, ∃ u2 : Value, ∃ vs : List (List Value), Box N A b3 [.slice p1 m1 d1, .slice p2 m2 d2] ∧ Box N A b5 [u1, u2] ∧ Ext Non w A ∧ Ext (fun i => i = b5) w5 A ∧ MkN w [] N A ∧ (MapR (fun i => N i ∨ i = b5) A eI1 0 u1 u2 ((qf pre).foldl (putK ltI) (ofL (filt st))) vs) ∧ (True)) (X := fun c N A => False) (encs := fun x : Int => [.int .i64 x]) (xs := ks) rfl (hIt) (hW) (fun _ => rfl) (fun pre => Stab.ex fun u1 => Stab.ex fun u2 => Stab.ex fun vs => (Stab.box _ _).and ((Stab.box _ _).and ((Stab.old hX.size).and ((Stab.oldM hW.size).and ((Stab.mk _ _).and ((Stab.mapB _ _ _ _ _ _ _).and ((Stab.pure _)))))))) (fun c => Stab.false) ⟨u1, u2, vs, ⟨hB3, id⟩, ⟨hB5, id⟩, hX, hW, (Mk.nil : Mk w [] _).toN, hmS, trivial⟩ ?_ ?_ ?_
    · rintro l N pre x A hl hN hA hst ⟨u1, u2, vs, hK3, hK5, hXo, hW, hDk, hm, hIr⟩ ⟨post, hpre⟩
      have hB3 := hK3.1
      have hB5 := hK5.1; have hl5 : Mine (Yc (fun i => i = b5) w5 N) A b5 := .inl ⟨hK5.2, .inl rfl⟩
      have hX := Ext.refl (Yc (fun i => i = b5) w5 N) A
      refine W_region ?_
      refine wl_val (rn_assign (by conv => lhs; whnf)) ?_
      refine wl_nil ?_
      refine ⟨rfl, hX, fun A2 hE2r hz2r hst2 => ?_⟩
      have hNl := (hN l hl).2
      replace hB3 := hB3.ext hE2r (fun e => hK3.2 (by rw [e]; exact hl))
      replace hB5 := hB5.ext hE2r (fun e => hK5.2 (by rw [e]; exact hl))
      replace hXo := hXo.mine hE2r (.inr (Nat.le_trans hszr (hN l hl).1)); replace hDk := hDk.lp hE2r hl
      replace hW := hW.mine hE2r (.inr (Nat.le_trans hsz_hW (hN l hl).1))
      replace hm := hm.ext hE2r (fun i e => .inl (by rw [e]; exact hl))
      have hl5 : Mine (Yc (fun i => i = b5) w5 N) A2 b5 := .inl ⟨hK5.2, .inl rfl⟩
      have hX := Ext.refl (Yc (fun i => i = b5) w5 N) A2
      refine W_block ?_   -- block 3
      refine W_seq ?_
      refine W_region ?_
      refine wl_val (rn_move (by conv => lhs; whnf)) ?_
      refine wl_call e_58 rfl (queue_ok A2 x) ?_; intro v30 w6 hE6 hR6
      replace hX := hX.tr hE6
      replace hB3 := hB3.ext hE6 id; replace hB5 := hB5.ext hE6 id
      replace hXo := hXo.tr hE6
      replace hDk := hDk.non hE6
      replace hW := hW.tr hE6
      replace hm := hm.ext hE6 (fun _ h => h.elim)
      subst hR6
      refine wl_val (rn_assign (by conv => lhs; whnf)) ?_
      refine wl_nil ?_
      refine W_seq ?_
      refine W_region ?_
      refine wl_val (rn_move (by conv => lhs; whnf)) ?_
      refine wl_val (rn_geq rfl rfl) ?_
      refine wl_nil ?_
      refine W_cond rfl (fun hc2 => ?_) (fun hc2 => ?_)
      · refine W_region ?_
        refine wl_val (rn_loadB s_43 rfl rfl hB5) ?_
        refine wl_val (rn_move (by conv => lhs; whnf)) ?_
        have hsx := hX.size; have hsw := hW.size
        have hfk := foldK_len (qf pre) (ofL (filt st)); have hqp := qf_len pre
        have hpl : ks.length = pre.length + (post.length + 1) := by rw [hpre]; simp
        refine wl_call e_38 rfl (with_ok w6 ((qf pre).foldl (putK ltI) (ofL (filt st))) ⟨_, _, vs, rfl, hm.sub (M' := Non) (fun _ h _ => h.elim)⟩ (queueOf x) (foldK_sorted _ _ (ofL_sorted _)) (by omega)) ?_; intro v35 w7 hE7 hR7
        replace hX := hX.tr hE7
        replace hB3 := hB3.ext hE7 id; replace hB5 := hB5.ext hE7 id
        replace hXo := hXo.tr hE7
        replace hDk := hDk.non hE7
        replace hW := hW.tr hE7
        replace hm := hm.ext hE7 (fun _ h => h.elim)
        obtain ⟨u1n, u2n, vsn, rfl, hMn⟩ := hR7
        obtain ⟨a1, l1, c1, rfl⟩ := id hMn.keys.shape; obtain ⟨a2, l2, c2, rfl⟩ := id hMn.vals.shape
        replace hMn := hMn.sub (M' := fun i => N i ∨ i = b5) (fun j h _ => by unfold Old; rcases h with h | h; have := (hN j h).2; omega; omega)
        have hBo := hB5
        refine wl_storeB s_43 rfl rfl rfl (two1 rfl rfl) hB5 rfl ?_; intro w8 hE8 hB5 hz8
        replace hX := hX.mine hE8 hl5
        replace hB3 := hB3.ext hE8 (fun h => by omega)
        replace hXo := hXo.mine hE8 (.inr ho5)
        replace hDk := hDk.box hE8 hBo
        replace hW := hW.mine hE8 (.inl rfl)
        replace hMn := hMn.ext hE8 (fun i e => .inr e)
        refine wl_nil ?_
        have hqy := qf_yes pre x (of_decide_eq_true hc2)
        exact ⟨hX, .slice a1 l1 c1, .slice a2 l2 c2, vsn, ⟨hB3, hK3.2⟩, ⟨hB5, hK5.2⟩, hXo, hW, hDk, (by rw [hqy, List.foldl_append]; exact hMn), trivial⟩
      · refine W_skip ?_
        have hqn := qf_no pre x (of_decide_eq_false hc2)
        exact ⟨hX, u1, u2, vs, ⟨hB3, hK3.2⟩, ⟨hB5, hK5.2⟩, hXo, hW, hDk, (by rw [hqn]; exact hm), trivial⟩
    · rintro N rk w' ⟨u1, u2, vs, hK3, hK5, hXo, hW, hDk, hm, hIr⟩ hN hA hr hrd
      have hB3 := hK3.1
      have hB5 := hK5.1
      have hX := hXo; have hD := hDk.add hrd (Nat.le_trans hszr (hN rk hr).1) hr
      refine W_seq ?_
      refine W_region ?_
      refine wl_val (rn_loadB s_43 rfl rfl hB5) ?_
      have hfk := foldK_len (qf ks) (ofL (filt st)); have hqp := qf_len ks
      refine wl_call e_71 rfl (all_ok w' (planOf st ks) Non (fun _ h => h.elim) ⟨_, _, vs, rfl, hm.sub (M' := Non) (fun _ h _ => h.elim)⟩) ?_; intro v37 w9 hE9 hR9
      replace hX := hX.tr hE9
      replace hB3 := hB3.ext hE9 id; replace hB5 := hB5.ext hE9 id
      replace hm := hm.ext hE9 (fun _ h => h.elim)
      replace hD := hD.non hE9
      have hIt2 := hR9
      refine wl_call e_95 rfl (collect_ok w9 (planOf st ks) hIt2 (by unfold planOf; omega)) ?_; intro v38 w10 hE10 hR10
      replace hX := hX.tr hE10
      replace hB3 := hB3.ext hE10 id; replace hB5 := hB5.ext hE10 id
      replace hm := hm.ext hE10 (fun _ h => h.elim)
      replace hD := hD.non hE10
      have hC := hR10
      refine wl_val (rn_assign (by conv => lhs; whnf)) ?_
      refine wl_nil ?_
      refine W_ret ?_
      refine hD.leave fun B hB => ?_
      have hB3 := hB3.ext hB (hD.ne hB3)
      have hB5 := hB5.ext hB (hD.ne hB5)
      have hX := hD.out hX hB
      exact ⟨_, resR1 (res1_tmp rfl), hX, ((hC.avoid (M' := fun i => mark i ∈ [mark rk]) (by decide) (fun i hi => hD.cells hi)).ext hB (fun i h => .inr h)).sub (M' := Non) (fun _ h _ => h.elim)⟩
    · intro c N rk w' h; exact h.elim
end Go.Proofs.YtfdfphaiefbflaaC
