/- Joining sets; the laws SetOrder and SetJoins. -/
import Derived.Test.YtfdfphaiefbflaaSet4
set_option linter.unusedVariables false
set_option linter.unusedSimpArgs false
set_option maxRecDepth 100000
namespace Go.Proofs.YtfdfphaiefbflaaC
open Go.RowKit
theorem join_sym (a b : List Int) : b.foldl (putK ltI) (ofL a) = a.foldl (putK ltI) (ofL b) := by
  refine sorted_ext lo_int _ _ (foldK_sorted _ _ (ofL_sorted a)) (foldK_sorted _ _ (ofL_sorted b)) fun y => ?_
  rw [foldK_mem _ _ (ofL_sorted a), foldK_mem _ _ (ofL_sorted b), ofL_mem, ofL_mem]
  exact Or.comm
theorem fold_ofL (b : List Int) (s : List Int) (hs : Sorted ltI s) : (ofL b).foldl (putK ltI) s = b.foldl (putK ltI) s := by
  refine sorted_ext lo_int _ _ (foldK_sorted _ _ hs) (foldK_sorted _ _ hs) fun y => ?_
  rw [foldK_mem _ _ hs, foldK_mem _ _ hs, ofL_mem]
theorem fold_sub (b : List Int) (s : List Int) (hs : Sorted ltI s) (h : ∀ y, y ∈ b → y ∈ s) : b.foldl (putK ltI) s = s := by
  refine sorted_ext lo_int _ _ (foldK_sorted _ _ hs) hs fun y => ?_
  rw [foldK_mem _ _ hs]
  exact ⟨fun h' => h'.elim id (h y), .inl⟩
theorem sorted_nodup {l : List Int} (h : Sorted ltI l) : l.Nodup := h.imp fun {a b} h e => by subst e; simp [ltI] at h
theorem len_sub : ∀ (l m : List Int), l.Nodup → (∀ y, y ∈ l → y ∈ m) → l.length ≤ m.length
  | [], _, _, _ => Nat.zero_le _
  | x :: l, m, hn, h => by
    have h1 := List.nodup_cons.1 hn
    have hx := h x (by simp)
    have := len_sub l (m.erase x) h1.2 fun y hy => (List.mem_erase_of_ne (fun e => h1.1 (by rw [← e]; exact hy))).2 (h y (by simp [hy]))
    have h2 := List.length_erase_of_mem hx
    have h3 := List.length_pos_of_mem hx
    simp only [List.length_cons]; omega
-- (bellman/set.Set[int]).Join
theorem join_ok (w : World) (ks os : List Int) {v vo : Value} (hs : SetR Non w v ks) (ho : SetR Non w vo os) (hk : Sorted ltI ks) (hn : ks.length ≤ 1000) (hno : os.length ≤ 1000) : Fn Try.prog 29 #[v, vo] w fun u w' => SetR Non w' u (os.foldl (putK ltI) ks) := by
  obtain ⟨v1, v2, vs0, rfl, hm0⟩ := hs
  obtain ⟨q1, n1, c1, rfl⟩ := hm0.keys.shape; obtain ⟨q2, n2, c2, rfl⟩ := hm0.vals.shape
  obtain ⟨o1, o2, vso, rfl, hmo⟩ := ho
  obtain ⟨p1, m1, d1, rfl⟩ := hmo.keys.shape; obtain ⟨p2, m2, d2, rfl⟩ := hmo.vals.shape
  have hX := Ext.refl Non w
  refine fn_of_W (args := [_, _]) Try.func29 rfl (by kernel_rfl) rfl ?_
  refine W_seq ?_
  refine W_region ?_
  refine wl_boxS rfl ?_; intro b2 w1 hb2 hE1 hB2
  have hq2 : w.heap.size ≤ b2 := Nat.le_trans hX.size hb2
  have hl2 : Mine Non w b2 := .inr hq2
  replace hX := hX.tr hE1
  refine wl_boxS rfl ?_; intro b3 w2 hb3 hE2 hB3
  have hn2_3 : b2 < b3 := Nat.lt_of_lt_of_le hB2.lt hb3
  have hq3 : w.heap.size ≤ b3 := Nat.le_trans hX.size hb3
  have hl3 : Mine Non w b3 := .inr hq3
  replace hX := hX.tr hE2
  replace hB2 := hB2.ext hE2 id
  refine wl_alloc z_43 ?_; intro b4 w3 hb4 hE3 hB4
  have hn2_4 : b2 < b4 := Nat.lt_of_lt_of_le hB2.lt hb4
  have hn3_4 : b3 < b4 := Nat.lt_of_lt_of_le hB3.lt hb4
  have hq4 : w.heap.size ≤ b4 := Nat.le_trans hX.size hb4
  have hl4 : Mine Non w b4 := .inr hq4
  replace hX := hX.tr hE3
  replace hB2 := hB2.ext hE3 id; replace hB3 := hB3.ext hE3 id
  refine wl_nil ?_
  refine W_seq ?_
  refine W_seq ?_
  refine W_region ?_
  refine wl_val (rn_loadB s_43 rfl rfl hB3) ?_
  refine wl_call e_71 rfl (all_ok w3 os (fun i => i = b2) (fun i e => by rw [e]; exact hB2.lt) ⟨_, _, vso, rfl, (hmo.sub (M' := fun i => i = b2) (fun i e hlt => by omega)).ext hX.of_non (fun _ h => h)⟩) ?_; intro v7 w4 hE4 hR4
  replace hX := hX.tr hE4
  replace hB2 := hB2.ext hE4 id; replace hB3 := hB3.ext hE4 id; replace hB4 := hB4.ext hE4 id
  have hIt := hR4; obtain ⟨fk, ck, hfk, _⟩ := id hIt; subst hfk
  have hW := Ext.refl (fun i => i = b2) w4; have hz2 := hB2.lt; have hz4 := hB4.lt
  have hmS := (hm0.sub (M' := fun i => Non i ∨ (i = b2 ∨ i = b4)) (fun i e hlt => by rcases e with e | e | e; exact e; omega; omega)).ext hX (fun _ h => h.elim)
  refine wl_nil ?_
  refine W_block ?_   -- block 0
  have hszr := hX.size
  have hsz_hW := hW.size
  have ho2 : w.heap.size ≤ b2 := by rcases hl2 with h | h; exact h.elim; exact h
  have ho3 : w.heap.size ≤ b3 := by rcases hl3 with h | h; exact h.elim; exact h
  have ho4 : w.heap.size ≤ b4 := by rcases hl4 with h | h; exact h.elim; exact h
  refine W_rangeFunc (M := fun i => i = b2) (w0 := w4) (I := fun pre N A => ∃ u1 : Value, ∃ u2 : Value, ∃ vs : List (List Value), Box N A b2 [u1, u2] ∧ Box N A b3 [.slice p1 m1 d1, .slice p2 m2 d2] ∧ Box N A b4 [.slice none 0 0, .slice none 0 0] ∧ Ext Non w A ∧ Ext (fun i => i = b2) w4 A ∧ MkN w [] N A ∧ (MapR (fun i => N i ∨ (i = b2 ∨ i = b4)) A eI1 0 u1 u2 (pre.foldl (putK ltI) ks) vs) ∧ (True)) (X := fun c N A => False) (encs := fun x : Int => [.int .i64 x]) (xs := os) rfl (hIt) (hW) (fun _ => rfl) (fun pre => Stab.ex fun u1 => Stab.ex fun u2 => Stab.ex fun vs => (Stab.box _ _).and ((Stab.box _ _).and ((Stab.box _ _).and ((Stab.old hX.size).and ((Stab.oldM hW.size).and ((Stab.mk _ _).and ((Stab.mapB _ _ _ _ _ _ _).and ((Stab.pure _))))))))) (fun c => Stab.false) ⟨.slice q1 n1 c1, .slice q2 n2 c2, vs0, ⟨hB2, id⟩, ⟨hB3, id⟩, ⟨hB4, id⟩, hX, hW, (Mk.nil : Mk w [] w4).toN, hmS, trivial⟩ ?_ ?_ ?_
  · rintro l N pre x A hl hN hA hst ⟨u1, u2, vs, hK2, hK3, hK4, hXo, hW, hDk, hm, hIr⟩ ⟨post, hpre⟩
    have hB2 := hK2.1; have hl2 : Mine (Yc (fun i => i = b2) w4 N) A b2 := .inl ⟨hK2.2, .inl rfl⟩
    have hB3 := hK3.1
    have hB4 := hK4.1
    have hX := Ext.refl (Yc (fun i => i = b2) w4 N) A
    refine W_region ?_
    refine wl_val (rn_assign (by conv => lhs; whnf)) ?_
    refine wl_nil ?_
    refine ⟨rfl, hX, fun A2 hE2r hz2r hst2 => ?_⟩
    have hNl := (hN l hl).2
    replace hB2 := hB2.ext hE2r (fun e => hK2.2 (by rw [e]; exact hl))
    replace hB3 := hB3.ext hE2r (fun e => hK3.2 (by rw [e]; exact hl))
    replace hB4 := hB4.ext hE2r (fun e => hK4.2 (by rw [e]; exact hl))
    replace hXo := hXo.mine hE2r (.inr (Nat.le_trans hszr (hN l hl).1)); replace hDk := hDk.lp hE2r hl
    replace hW := hW.mine hE2r (.inr (Nat.le_trans hsz_hW (hN l hl).1))
    replace hm := hm.ext hE2r (fun i e => .inl (by rw [e]; exact hl))
    have hl2 : Mine (Yc (fun i => i = b2) w4 N) A2 b2 := .inl ⟨hK2.2, .inl rfl⟩
    have hX := Ext.refl (Yc (fun i => i = b2) w4 N) A2
    refine W_block ?_   -- block 1
    refine W_region ?_
    refine wl_val (rn_loadB s_43 rfl rfl hB2) ?_
    refine wl_val (rn_move (by conv => lhs; whnf)) ?_
    have hsx := hX.size; have hsw := hW.size
    have hfl := foldK_len pre ks
    have hpl : os.length = pre.length + (post.length + 1) := by rw [hpre]; simp
    refine wl_call e_38 rfl (with_ok A2 (pre.foldl (putK ltI) ks) ⟨_, _, vs, rfl, hm.sub (M' := Non) (fun _ h _ => h.elim)⟩ x (foldK_sorted _ _ hk) (by omega)) ?_; intro v11 w5 hE5 hR5
    replace hX := hX.tr hE5
    replace hB2 := hB2.ext hE5 id; replace hB3 := hB3.ext hE5 id; replace hB4 := hB4.ext hE5 id
    replace hXo := hXo.tr hE5
    replace hDk := hDk.non hE5
    replace hW := hW.tr hE5
    replace hm := hm.ext hE5 (fun _ h => h.elim)
    obtain ⟨u1n, u2n, vsn, rfl, hM11⟩ := hR5
    obtain ⟨a1, l1, c1, rfl⟩ := id hM11.keys.shape; obtain ⟨a2, l2, c2, rfl⟩ := id hM11.vals.shape
    replace hM11 := hM11.sub (M' := fun i => N i ∨ (i = b2 ∨ i = b4)) (fun i h _ => by unfold Old; rcases h with h | h | h; have := (hN i h).2; omega; omega; omega)
    have hBo := hB2
    refine wl_storeB s_43 rfl rfl rfl (two1 rfl rfl) hB2 rfl ?_; intro w6 hE6 hB2 hz6
    replace hX := hX.mine hE6 hl2
    replace hB3 := hB3.ext hE6 (fun h => by omega); replace hB4 := hB4.ext hE6 (fun h => by omega)
    replace hXo := hXo.mine hE6 (.inr ho2)
    replace hDk := hDk.box hE6 hBo
    replace hW := hW.mine hE6 (.inl rfl)
    replace hM11 := hM11.ext hE6 (fun i e => .inr (.inl e))
    refine wl_nil ?_
    exact ⟨hX, .slice a1 l1 c1, .slice a2 l2 c2, vsn, ⟨hB2, hK2.2⟩, ⟨hB3, hK3.2⟩, ⟨hB4, hK4.2⟩, hXo, hW, hDk, (by rw [List.foldl_append]; exact hM11), trivial⟩
  · rintro N rk w' ⟨u1, u2, vs, hK2, hK3, hK4, hXo, hW, hDk, hm, hIr⟩ hN hA hr hrd
    have hB2 := hK2.1
    have hB3 := hK3.1
    have hB4 := hK4.1
    have hX := hXo; have hD := hDk.add hrd (Nat.le_trans hszr (hN rk hr).1) hr
    obtain ⟨a1, l1, c1, hu1⟩ := id hm.keys.shape; obtain ⟨a2, l2, c2, hu2⟩ := id hm.vals.shape
    refine W_seq ?_
    refine W_region ?_
    refine wl_val (rn_loadB s_43 rfl rfl hB2) ?_
    have hBo := hB4
    refine wl_storeB s_43 rfl rfl rfl (two1 (by rw [hu1]; rfl) (by rw [hu2]; rfl)) hB4 rfl ?_; intro w7 hE7 hB4 hz7
    replace hX := hX.mine hE7 hl4
    replace hB2 := hB2.ext hE7 (fun h => by omega); replace hB3 := hB3.ext hE7 (fun h => by omega)
    replace hD := hD.box hE7 hBo
    replace hm := hm.ext hE7 (fun i e => .inr (.inr e))
    refine wl_nil ?_
    refine W_ret ?_
    refine hD.leave fun B hB => ?_
    have hB2 := hB2.ext hB (hD.ne hB2)
    have hB3 := hB3.ext hB (hD.ne hB3)
    have hB4 := hB4.ext hB (hD.ne hB4)
    have hX := hD.out hX hB
    exact ⟨_, resR1 (res1_box s_43 rfl hB4 rfl), hX, ⟨_, _, vs, rfl, (hm.ext hB (fun i h => .inl (by simp only [List.mem_singleton] at h; rw [mark_inj h]; exact hr))).sub (M' := Non) (fun _ h _ => h.elim)⟩⟩
  · intro c N rk w' h; exact h.elim
end Go.Proofs.YtfdfphaiefbflaaC
