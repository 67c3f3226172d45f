/- The store's messages; the law's scan; the example. -/
import Derived.Test.YthcclgoidchkdaaDoorKeep1
import Derived.Test.YthcclgoidchkdaaDoorMat2
set_option linter.unusedVariables false
set_option linter.unusedSimpArgs false
set_option maxRecDepth 100000
namespace Go.Proofs.YthcclgoidchkdaaDoorC
open Go.RowKit
theorem TellsM.ext {M : Nat → Prop} {fk : FuncId} {cap : Array Value} {w w' : World} {p : Str → Bool} (h : TellsM M fk cap w p) (hE : Ext Non w w') : TellsM M fk cap w' p := ⟨h.1, fun A x hx hA => h.2 A x hx ((hE.mono fun _ h => h.elim).trans hA)⟩
-- (bellman/keep.Store).some
theorem ksome_ok (w : World) (ks : List Str) (ys : List (Str × Int)) (ver : Int) {u1 u2 : Value} (M : Nat → Prop) (hM : ∀ i, M i → i < w.heap.size) (hmM : MapR M w eS1 2 u1 u2 ks (ys.map eE1)) (hn : ks.length ≤ 100000) (hkl : ∀ y ∈ ks, y.length ≤ 1000000) (fk : FuncId) (cap : Array Value) (p : Str → Bool) (hp : TellsM M fk cap w p) : Fn Tryd.prog 134 #[.agg #[u1, u2, .int .i64 ver], .func (.func fk) #[] cap] w fun u w' => Iter Tryd.prog M w' u (fun p : Str × (Str × Int) => #[.agg (eM1 p).toArray]) ((ks.zip ys).filter fun q => p q.1) := by
  obtain ⟨q1, n1, c1, rfl⟩ := hmM.keys.shape; obtain ⟨q2, n2, c2, rfl⟩ := hmM.vals.shape
  have hX := Ext.refl Non w
  refine fn_of_W (args := [_, _]) Tryd.func134 rfl (by kernel_rfl) rfl ?_
  refine W_seq ?_
  refine W_region ?_
  refine wl_boxS rfl ?_; intro b2 w1 hb2 hE1 hB2
  have hq2 : w.heap.size ≤ b2 := Nat.le_trans hX.size hb2
  have hl2 : Mine Non w b2 := .inr hq2
  replace hX := hX.tr hE1
  refine wl_box1 (by conv => lhs; whnf) rfl ?_; intro b3 w2 hb3 hE2 hB3
  have hn2_3 : b2 < b3 := Nat.lt_of_lt_of_le hB2.lt hb3
  have hq3 : w.heap.size ≤ b3 := Nat.le_trans hX.size hb3
  have hl3 : Mine Non w b3 := .inr hq3
  replace hX := hX.tr hE2
  replace hB2 := hB2.ext hE2 id
  refine wl_val (rn_assign (by conv => lhs; whnf)) ?_
  refine wl_nil ?_
  refine W_seq ?_
  refine W_region ?_
  refine wl_val (rn_makeFunc rfl) ?_
  refine wl_val (rn_assign (by conv => lhs; whnf)) ?_
  refine wl_nil ?_
  refine W_ret ?_
  exact ⟨_, resR1 (res1_tmp rfl), hX, some_iter ks ys ver fk cap p M _ b2 b3 (hmM.ext hX (fun _ h => h.elim)) hn hkl hB2 hB3 (fun h => by have := hM _ h; omega) (fun h => by have := hM _ h; omega) (hp.ext hX)⟩
-- (bellman/keep.Store).Scan$1
theorem kscan1_ok (w : World) (f t : Str) (b : Nat) (hC1 : IsBox w b [Sv f]) (hnf : f.length ≤ 1000000) (hnt : t.length ≤ 1000000) : Fn Tryd.prog 135 #[Sv t, .pointer (some ⟨b, 0, none⟩)] w fun u w' => u = .bool (matchB f t) := by
  have hX := Ext.refl Non w
  refine fn_of_W (args := [_, _]) Tryd.func135 rfl (by kernel_rfl) rfl ?_
  refine W_seq ?_
  refine W_region ?_
  refine wl_val (rn_assign (by conv => lhs; whnf)) ?_
  refine wl_nil ?_
  refine W_seq ?_
  refine W_region ?_
  refine wl_val (rn_load1 p_9 rfl (hC1.ext hX id) rfl) ?_
  refine wl_val (rn_move (by conv => lhs; whnf)) ?_
  refine wl_call e_136 rfl (tmatch_ok w f t hnf hnt) ?_; intro v6 w1 hE1 hR1
  replace hX := hX.tr hE1
  subst hR1
  refine wl_val (rn_assign (by conv => lhs; whnf)) ?_
  refine wl_nil ?_
  refine W_ret ?_
  exact ⟨_, resR1 (res1_tmp rfl), hX, rfl⟩
-- (bellman/keep.Store).Scan
theorem kscan_ok (w : World) (ks : List Str) (ys : List (Str × Int)) (ver : Int) {u1 u2 : Value} (M : Nat → Prop) (hM : ∀ i, M i → i < w.heap.size) (hmM : MapR M w eS1 2 u1 u2 ks (ys.map eE1)) (hn : ks.length ≤ 100000) (hkl : ∀ y ∈ ks, y.length ≤ 1000000) (f : Str) (hnf : f.length ≤ 1000000) : Fn Tryd.prog 83 #[.agg #[u1, u2, .int .i64 ver], Sv f] w fun u w' => Iter Tryd.prog M w' u (fun p : Str × (Str × Int) => #[.agg (eM1 p).toArray]) ((ks.zip ys).filter fun q => matchB f q.1) := by
  obtain ⟨q1, n1, c1, rfl⟩ := hmM.keys.shape; obtain ⟨q2, n2, c2, rfl⟩ := hmM.vals.shape
  have hX := Ext.refl Non w
  refine fn_of_W (args := [_, _]) Tryd.func83 rfl (by kernel_rfl) rfl ?_
  refine W_seq ?_
  refine W_region ?_
  refine wl_boxS rfl ?_; intro b2 w1 hb2 hE1 hB2
  have hq2 : w.heap.size ≤ b2 := Nat.le_trans hX.size hb2
  have hl2 : Mine Non w b2 := .inr hq2
  replace hX := hX.tr hE1
  refine wl_box1 (by conv => lhs; whnf) rfl ?_; intro b3 w2 hb3 hE2 hB3
  have hn2_3 : b2 < b3 := Nat.lt_of_lt_of_le hB2.lt hb3
  have hq3 : w.heap.size ≤ b3 := Nat.le_trans hX.size hb3
  have hl3 : Mine Non w b3 := .inr hq3
  replace hX := hX.tr hE2
  replace hB2 := hB2.ext hE2 id
  refine wl_val (rn_assign (by conv => lhs; whnf)) ?_
  refine wl_nil ?_
  refine W_seq ?_
  refine W_region ?_
  refine wl_val (rn_loadB s_74 rfl rfl hB2) ?_
  refine wl_val (rn_makeFunc rfl) ?_
  refine wl_call e_134 rfl (ksome_ok w2 ks ys ver M (fun i h => Nat.lt_of_lt_of_le (hM i h) hX.size) (hmM.ext hX (fun _ h => h.elim)) hn hkl 135 #[.pointer (some ⟨b3, 0, none⟩)] (matchB f) ⟨e_135, fun A x hx hA => kscan1_ok A f x b3 (hB3.ext hA (fun h => by have := hM _ h; omega)) hnf hx⟩) ?_; intro v7 w3 hE3 hR3
  replace hX := hX.tr hE3
  replace hB2 := hB2.ext hE3 id; replace hB3 := hB3.ext hE3 id
  have hIt := hR3; obtain ⟨fi, ci, hfi, _⟩ := id hIt; subst hfi
  refine wl_val (rn_assign (by conv => lhs; whnf)) ?_
  refine wl_nil ?_
  refine W_ret ?_
  exact ⟨_, resR1 (res1_tmp rfl), hX, hIt⟩
-- bellman/bellmanlaw15.scan
set_option maxHeartbeats 800000 in
theorem scan_ok (w : World) (ks : List Str) (ys : List (Str × Int)) (ver : Int) {u1 u2 : Value} (hm : MapR Non w eS1 2 u1 u2 ks (ys.map eE1)) (hn : ks.length ≤ 500) (hkl : ∀ y ∈ ks, y.length ≤ 1000000) (f : Str) (hnf : f.length ≤ 1000000) : Fn Tryd.prog 35 #[.agg #[u1, u2, .int .i64 ver], Sv f] w fun u w' => ∃ v, u = .tuple #[v, .bool true] ∧ Sl Non w' v 3 (((ks.zip ys).filter fun q => matchB f q.1).map eM1) := by
  obtain ⟨q1, n1, c1, rfl⟩ := hm.keys.shape; obtain ⟨q2, n2, c2, rfl⟩ := hm.vals.shape
  have hll : ((ks.zip ys).filter fun q => matchB f q.1).length ≤ 500 := Nat.le_trans (List.length_filter_le _ _) (by rw [List.length_zip]; omega)
  have hX := Ext.refl Non w
  refine fn_of_W (args := [_, _]) Tryd.func35 rfl (by kernel_rfl) rfl ?_
  refine W_seq ?_
  refine W_region ?_
  refine wl_boxS rfl ?_; intro b2 w1 hb2 hE1 hB2
  have hq2 : w.heap.size ≤ b2 := Nat.le_trans hX.size hb2
  have hl2 : Mine Non w b2 := .inr hq2
  replace hX := hX.tr hE1
  refine wl_alloc z_81 ?_; intro b4 w2 hb4 hE2 hB4
  have hn2_4 : b2 < b4 := Nat.lt_of_lt_of_le hB2.lt hb4
  have hq4 : w.heap.size ≤ b4 := Nat.le_trans hX.size hb4
  have hl4 : Mine Non w b4 := .inr hq4
  replace hX := hX.tr hE2
  replace hB2 := hB2.ext hE2 id
  refine wl_alloc z_4 ?_; intro b5 w3 hb5 hE3 hB5
  have hn2_5 : b2 < b5 := Nat.lt_of_lt_of_le hB2.lt hb5
  have hn4_5 : b4 < b5 := Nat.lt_of_lt_of_le hB4.lt hb5
  have hq5 : w.heap.size ≤ b5 := Nat.le_trans hX.size hb5
  have hl5 : Mine Non w b5 := .inr hq5
  replace hX := hX.tr hE3
  replace hB2 := hB2.ext hE3 id; replace hB4 := hB4.ext hE3 id
  refine wl_nil ?_
  refine W_seq ?_
  refine W_region ?_
  refine wl_alloc z_81 ?_; intro b6 w4 hb6 hE4 hB6
  have hn2_6 : b2 < b6 := Nat.lt_of_lt_of_le hB2.lt hb6
  have hn4_6 : b4 < b6 := Nat.lt_of_lt_of_le hB4.lt hb6
  have hn5_6 : b5 < b6 := Nat.lt_of_lt_of_le hB5.lt hb6
  have hq6 : w.heap.size ≤ b6 := Nat.le_trans hX.size hb6
  have hl6 : Mine Non w b6 := .inr hq6
  replace hX := hX.tr hE4
  replace hB2 := hB2.ext hE4 id; replace hB4 := hB4.ext hE4 id; replace hB5 := hB5.ext hE4 id
  refine wl_nil ?_
  refine W_seq ?_
  refine W_region ?_
  refine wl_val (rn_loadB s_74 rfl rfl hB2) ?_
  refine wl_val (rn_move (by conv => lhs; whnf)) ?_
  refine wl_call e_83 rfl (kscan_ok w4 ks ys ver (fun i => i = b6) (fun i e => by rw [e]; exact hB6.lt) ((hm.sub (M' := fun i => i = b6) (fun i e h => by omega)).ext hX (fun _ h => h.elim)) (by omega) hkl f hnf) ?_; intro v11 w5 hE5 hR5
  replace hX := hX.tr hE5
  replace hB2 := hB2.ext hE5 id; replace hB4 := hB4.ext hE5 id; replace hB5 := hB5.ext hE5 id; replace hB6 := hB6.ext hE5 id
  have hIt := hR5; obtain ⟨fk, ck, hfk, _⟩ := id hIt; subst hfk
  have hW := Ext.refl (fun i => i = b6) w5; have hz6 := hB6.lt; have hz4 := hB4.lt; have hz5 := hB5.lt
  refine wl_val (rn_assign (by conv => lhs; whnf)) ?_
  refine wl_nil ?_
  refine W_seq ?_
  refine W_seq ?_
  refine W_region ?_
  refine wl_val (rn_move (by conv => lhs; whnf)) ?_
  refine wl_val (rn_func_eql uf_138 rfl rfl) ?_
  refine wl_nil ?_
  refine W_cond rfl (fun hc0 => ?_) (fun hc0 => ?_)
  · exact absurd hc0 (by decide)
  · refine W_skip ?_
    refine W_seq ?_
    refine W_seq ?_
    refine W_region ?_
    refine wl_val (rn_move (by conv => lhs; whnf)) ?_
    refine wl_nil ?_
    refine W_block ?_   -- block 0
    have hszr := hX.size
    have hsz_hW := hW.size
    have ho4 : w.heap.size ≤ b4 := by rcases hl4 with h | h; exact h.elim; exact h
    have ho5 : w.heap.size ≤ b5 := by rcases hl5 with h | h; exact h.elim; exact h
    have ho6 : w.heap.size ≤ b6 := by rcases hl6 with h | h; exact h.elim; exact h
    refine W_rangeFunc (M := fun i => i = b6) (w0 := w5) (I := fun pre N A => ∃ v6 : Value, ∃ oo : Option Nat, Box N A b4 [.slice none 0 0] ∧ Box N A b5 [.bool false] ∧ Box N A b6 [v6] ∧ Ext Non w A ∧ Ext (fun i => i = b6) w5 A ∧ MkN w [] N A ∧ (OwX w5.heap.size N A v6 oo 3 (pre.map eM1)) ∧ (True)) (X := fun c N A => False) (encs := fun p : Str × (Str × Int) => [.agg (eM1 p).toArray]) (xs := (ks.zip ys).filter fun q => matchB f q.1) rfl (hIt) (hW) (fun _ => rfl) (fun pre => Stab.ex fun v6 => Stab.ex fun oo => (Stab.box _ _).and ((Stab.box _ _).and ((Stab.box _ _).and ((Stab.old hX.size).and ((Stab.oldM hW.size).and ((Stab.mk _ _).and ((Stab.owx _ _ _ _ _).and ((Stab.pure _))))))))) (fun c => Stab.false) ⟨.slice none 0 0, none, ⟨hB4, id⟩, ⟨hB5, id⟩, ⟨hB6, id⟩, hX, hW, (Mk.nil : Mk w [] w5).toN, ⟨OwO.nil, by simp⟩, trivial⟩ ?_ ?_ ?_
    · rintro l N pre x A hl hN hA hst ⟨v6, oo, hK4, hK5, hK6, hXo, hW, hDk, hO, hIr⟩ ⟨post, hpre⟩
      have hB4 := hK4.1
      have hB5 := hK5.1
      have hB6 := hK6.1; have hl6 : Mine (Yc (fun i => i = b6) w5 N) A b6 := .inl ⟨hK6.2, .inl rfl⟩
      have hX := Ext.refl (Yc (fun i => i = b6) w5 N) A
      have hWA := hW.size
      have hoA : ∀ i, oo = some i → i < A.heap.size := fun i hi => hO.1.lt hi
      refine W_region ?_
      refine wl_alloc z_32 ?_; intro b8 w6 hb8 hE6 hB8
      have hn4_8 : b4 < b8 := Nat.lt_of_lt_of_le hB4.lt hb8
      have hn5_8 : b5 < b8 := Nat.lt_of_lt_of_le hB5.lt hb8
      have hn6_8 : b6 < b8 := Nat.lt_of_lt_of_le hB6.lt hb8
      have hq8 : A.heap.size ≤ b8 := Nat.le_trans hX.size hb8
      have hl8 : Mine (Yc (fun i => i = b6) w5 N) A b8 := .inr hq8
      have ho8 : w.heap.size ≤ b8 := Nat.le_trans hXo.size hb8
      replace hX := hX.tr hE6
      replace hB4 := hB4.ext hE6 id; replace hB5 := hB5.ext hE6 id; replace hB6 := hB6.ext hE6 id
      replace hXo := hXo.tr hE6
      replace hDk := hDk.non hE6
      replace hW := hW.tr hE6
      replace hO := hO.ext hE6 (fun _ _ h => h)
      have hBo := hB8
      refine wl_storeB s_32 rfl rfl rfl (three1 rfl rfl rfl) hB8 rfl ?_; intro w7 hE7 hB8 hz7
      replace hX := hX.mine hE7 hl8
      replace hB4 := hB4.ext hE7 (fun h => by omega); replace hB5 := hB5.ext hE7 (fun h => by omega); replace hB6 := hB6.ext hE7 (fun h => by omega)
      replace hXo := hXo.mine hE7 (.inr ho8)
      replace hDk := hDk.box hE7 hBo
      replace hW := hW.mine hE7 (by first | exact .inl rfl | exact .inr (Nat.le_trans hWA hq8))
      replace hO := hO.ext hE7 (fun i hi e => by have := (hO.2 i hi).2; have := hoA i hi; omega)
      refine wl_nil ?_
      refine ⟨rfl, hX, fun A2 hE2r hz2r hst2 => ?_⟩
      have hNl := (hN l hl).2
      replace hB4 := hB4.ext hE2r (fun e => hK4.2 (by rw [e]; exact hl))
      replace hB5 := hB5.ext hE2r (fun e => hK5.2 (by rw [e]; exact hl))
      replace hB6 := hB6.ext hE2r (fun e => hK6.2 (by rw [e]; exact hl))
      replace hB8 := hB8.ext hE2r (fun e => by omega)
      replace hXo := hXo.mine hE2r (.inr (Nat.le_trans hszr (hN l hl).1)); replace hDk := hDk.lp hE2r hl
      replace hW := hW.mine hE2r (.inr (Nat.le_trans hsz_hW (hN l hl).1))
      replace hO := hO.ext hE2r (fun i hi e => (hO.2 i hi).1 (by rw [e]; exact hl))
      have hl8 : Mine (Yc (fun i => i = b6) w5 N) A2 b8 := .inl ⟨fun h => by have := (hN _ h).2; omega, .inr (by omega)⟩
      have hl6 : Mine (Yc (fun i => i = b6) w5 N) A2 b6 := .inl ⟨hK6.2, .inl rfl⟩
      have hX := Ext.refl (Yc (fun i => i = b6) w5 N) A2
      have hAA : A.heap.size ≤ A2.heap.size := Nat.le_trans hE6.size (Nat.le_trans hE7.size hE2r.size)
      refine W_block ?_   -- block 1
      refine W_seq ?_
      refine W_region ?_
      have hpl : pre.length + 1 ≤ 500 := by have := congrArg List.length hpre; simp only [List.length_append, List.length_cons] at this; omega
      refine wl_val (rn_load1 p_81 rfl hB6 rfl) ?_
      refine wl_val (rn_loadB s_32 rfl rfl hB8) ?_
      refine wl_lit1 (r := eM1 x) sl_81 rfl rfl rfl rfl (by decide) ?_; intro v18 w8 b18 hb18 hE8 hO18
      replace hX := hX.tr hE8
      replace hB4 := hB4.ext hE8 id; replace hB5 := hB5.ext hE8 id; replace hB6 := hB6.ext hE8 id; replace hB8 := hB8.ext hE8 id
      replace hXo := hXo.tr hE8
      replace hDk := hDk.non hE8
      replace hW := hW.tr hE8
      replace hO := hO.ext hE8 (fun _ _ h => h)
      have hsx := hX.size; have hsw := hW.size
      refine wl_app sl_81 rfl rfl rfl hO.1 (hO18.sl (M := Non) id) (fun r hr => by simp only [List.mem_singleton] at hr; subst hr; exact three1 rfl rfl rfl) (by simp only [List.length_map, List.length_cons, List.length_nil]; omega) (by simp only [List.length_map, List.length_cons, List.length_nil, big]; omega) ?_; intro v19 w9 o19 hE9 hO19 hf19
      obtain ⟨a19, c19, hv19⟩ := id hO19.len; subst hv19
      replace hX := hX.mineO hE9 (fun i hi => .inl ⟨(hO.2 i hi).1, .inr (hO.2 i hi).2⟩); replace hXo := hXo.mineO hE9 (fun i hi => .inr (Nat.le_trans hszr (hO.2 i hi).2)); replace hW := hW.mineO hE9 (fun i hi => .inr (hO.2 i hi).2); replace hDk : MkN w [] N w9 := ⟨Mk.nil, fun r h => by cases h⟩
      replace hB4 := hB4.ext hE9 (fun e => by have := (hO.2 _ e).2; omega); replace hB5 := hB5.ext hE9 (fun e => by have := (hO.2 _ e).2; omega); replace hB6 := hB6.ext hE9 (fun e => by have := (hO.2 _ e).2; omega); replace hB8 := hB8.ext hE9 (fun e => by have := hoA _ e; omega)
      have hOn : OwX w5.heap.size N w9 _ o19 3 ((pre ++ [x]).map eM1) := ⟨by rw [List.map_append]; exact hO19, fun i hi => by rcases hf19 i hi with h | h; exact hO.2 i h; exact ⟨fun hNi => by have := (hN i hNi).2; omega, by omega⟩⟩
      have hBo := hB6
      refine wl_store1 (b := b6) p_81 rfl (by conv => lhs; whnf) rfl rfl hB6 (Nat.le_of_ble_eq_true rfl) ?_; intro w10 hE10 hB6 hz10
      replace hX := hX.mine hE10 hl6
      replace hB4 := hB4.ext hE10 (fun h => by omega); replace hB5 := hB5.ext hE10 (fun h => by omega); replace hB8 := hB8.ext hE10 (fun h => by omega)
      replace hXo := hXo.mine hE10 (.inr ho6)
      replace hDk := hDk.box hE10 hBo
      replace hW := hW.mine hE10 (by first | exact .inl rfl | exact .inr (Nat.le_trans hWA hq6))
      replace hOn := hOn.ext hE10 (fun i hi e => by have := (hOn.2 i hi).2; omega)
      refine wl_nil ?_
      refine W_seq ?_
      refine W_region ?_
      refine wl_val (rn_load1 p_81 rfl hB6 rfl) ?_
      refine wl_val (rn_len sl_81 rfl) ?_
      refine wl_val (rn_gtr rfl rfl) ?_
      refine wl_nil ?_
      refine W_cond rfl (fun hc1 => ?_) (fun hc1 => ?_)
      · exact absurd (of_decide_eq_true hc1) (by simp only [List.length_map, List.length_append, List.length_cons, List.length_nil]; omega)
      · refine W_skip ?_
        exact ⟨hX, .slice a19 _ c19, o19, ⟨hB4, hK4.2⟩, ⟨hB5, hK5.2⟩, ⟨hB6, hK6.2⟩, hXo, hW, hDk, hOn, trivial⟩
    · rintro N rk w' ⟨v6, oo, hK4, hK5, hK6, hXo, hW, hDk, hO, hIr⟩ hN hA hr hrd
      have hB4 := hK4.1
      have hB5 := hK5.1
      have hB6 := hK6.1
      have hX := hXo; have hD := hDk.add hrd (Nat.le_trans hszr (hN rk hr).1) hr
      obtain ⟨a6, c6, hv6⟩ := id hO.1.len; subst hv6
      refine W_seq ?_
      refine W_region ?_
      refine wl_val (rn_load1 p_81 rfl hB6 rfl) ?_
      have hBo := hB4
      refine wl_store1 (b := b4) p_81 rfl (by conv => lhs; whnf) rfl rfl hB4 (Nat.le_of_ble_eq_true rfl) ?_; intro w11 hE11 hB4 hz11
      replace hX := hX.mine hE11 hl4
      replace hB5 := hB5.ext hE11 (fun h => by omega); replace hB6 := hB6.ext hE11 (fun h => by omega)
      replace hD := hD.box hE11 hBo
      replace hO := hO.ext hE11 (fun i hi e => by have := (hO.2 i hi).2; omega)
      have hBo := hB5
      refine wl_store1 (b := b5) p_4 rfl (by conv => lhs; whnf) rfl rfl hB5 (Nat.le_of_ble_eq_true rfl) ?_; intro w12 hE12 hB5 hz12
      replace hX := hX.mine hE12 hl5
      replace hB4 := hB4.ext hE12 (fun h => by omega); replace hB6 := hB6.ext hE12 (fun h => by omega)
      replace hD := hD.box hE12 hBo
      replace hO := hO.ext hE12 (fun i hi e => by have := (hO.2 i hi).2; omega)
      refine wl_nil ?_
      refine W_ret ?_
      refine hD.leave fun B hB => ?_
      have hB4 := hB4.ext hB (hD.ne hB4)
      have hB5 := hB5.ext hB (hD.ne hB5)
      have hB6 := hB6.ext hB (hD.ne hB6)
      have hX := hD.out hX hB
      exact ⟨_, resR2 (res1_cell p_81 rfl hB4) (res1_cell p_4 rfl hB5), hX, ⟨_, rfl, (hO.ext hB (fun i hi h => (hO.2 i hi).1 (by simp only [List.mem_singleton] at h; rw [mark_inj h]; exact hr))).1.sl (fun i hi => id)⟩⟩
    · intro c N rk w' h; exact h.elim
end Go.Proofs.YthcclgoidchkdaaDoorC
