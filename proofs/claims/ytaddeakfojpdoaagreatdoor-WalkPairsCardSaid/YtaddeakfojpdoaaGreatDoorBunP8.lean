/- Tries: what is below a node, told to a yield. -/
import Derived.Test.YtaddeakfojpdoaaGreatDoorBunP6
import Derived.Test.YtaddeakfojpdoaaGreatDoorBunP7
import Derived.Test.YtaddeakfojpdoaaGreatDoorBunP3
import Derived.Scope
import Derived.Laws.RangeAny
import Derived.Laws.Runes
import Derived.Shelf.Strings.IndexAnyAll
set_option linter.unusedVariables false
set_option linter.unusedSimpArgs false
set_option maxRecDepth 100000
namespace Go.Proofs.YtaddeakfojpdoaaGreatDoorC
open Go.RowKit
theorem Ts.grow0 {M : Nat → Prop} {w0 W A : World} {J : (Nat → Prop) → World → Prop} {S : Nat → Prop} (h : Ts M w0 W J S A) : Ts M w0 W J (fun i => S i ∨ (A.heap.size ≤ i ∧ i < A.heap.size)) A := h.less fun i hi => hi.elim id (fun e => absurd e.1 (by omega))
theorem Ts.grow {M F : Nat → Prop} {w0 W A B C : World} {J : (Nat → Prop) → World → Prop} {S : Nat → Prop} (h : Ts M w0 W J (fun i => S i ∨ (A.heap.size ≤ i ∧ i < B.heap.size)) B) (hE : Ext F B C) (hF : ∀ i, F i → S i ∨ (A.heap.size ≤ i ∧ i < B.heap.size)) :
    Ts M w0 W J (fun i => S i ∨ (A.heap.size ≤ i ∧ i < C.heap.size)) C := (h.add hE hF).less fun i hi => by
  rcases hi with hi | hi
  · exact .inl (.inl hi)
  · rcases Nat.lt_or_ge i B.heap.size with h' | h'
    · exact .inl (.inr ⟨hi.1, h'⟩)
    · exact .inr ⟨h', hi.2⟩

theorem Ext.mineF {F G : Nat → Prop} {w A B : World} (h : Ext F w A) (k : Ext G A B) (hb : ∀ i, G i → Mine F w i) : Ext F w B :=
  ⟨k.os.trans h.os, k.tape.trans h.tape, k.output.trans h.output, Nat.le_trans h.size k.size, fun i hi hn => (k.block i (Nat.lt_of_lt_of_le hi h.size) (fun h' => by rcases hb i h' with h1 | h1; exact hn h1; omega)).trans (h.block i hi hn)⟩
theorem Stab.lp {n0 l : Nat} (hl : l < n0) : Stab n0 (fun _ A => ∃ st, A.heap[l]? = some (.loop st)) := fun N A B hN hA h hE => h.imp fun _ e => hE.obj e (fun hn => by have := hN l hn; omega)
/-- What is told of a kid. -/
def kidT (ahead : Str) (p : Str × Tr) : List (Str × Int) := (p.2.subs.map fun s => (ahead ++ p.1, s)) ++ p.2.told (ahead ++ p.1 ++ [47])
def toldTo (ahead : Str) (t : Tr) (j : Nat) : List (Str × Int) := (((t.keys.zip t.vals).take j).map (kidT ahead)).flatten
def toldOn (ahead : Str) (t : Tr) (j : Nat) : List (Str × Int) := (((t.keys.zip t.vals).drop j).map (kidT ahead)).flatten
theorem toldTo_all {n m : Nat} {t : Tr} (h : t.Ok n m) (ahead : Str) {j : Nat} (hj : t.keys.length ≤ j) : toldTo ahead t j = t.told ahead := by
  rw [told_eq h]; unfold toldTo; rw [List.take_of_length_le (by rw [List.length_zip]; omega)]; rfl
theorem toldTo_succ {t : Tr} {ahead : Str} {j : Nat} {k : Str} {v : Tr} (hk : t.keys[j]? = some k) (hv : t.vals[j]? = some v) : toldTo ahead t (j + 1) = toldTo ahead t j ++ kidT ahead (k, v) := by
  unfold toldTo; rw [List.take_add_one, zip_at2 hk hv]; simp
theorem told_split {n m : Nat} {t : Tr} (h : t.Ok n m) {ahead : Str} {j : Nat} {k : Str} {v : Tr} (hk : t.keys[j]? = some k) (hv : t.vals[j]? = some v) : t.told ahead = toldTo ahead t j ++ (v.subs.map fun s => (ahead ++ k, s)) ++ v.told (ahead ++ k ++ [47]) ++ toldOn ahead t (j + 1) := by
  have e0 : t.told ahead = ((t.keys.zip t.vals).map (kidT ahead)).flatten := told_eq h ahead
  have hz := zip_at2 hk hv
  obtain ⟨h1, h2⟩ := List.getElem?_eq_some_iff.1 hz
  have e1 : t.told ahead = toldTo ahead t j ++ (kidT ahead (k, v) ++ toldOn ahead t (j + 1)) := by
    rw [e0]
    conv => lhs; rw [← List.take_append_drop j (t.keys.zip t.vals)]
    rw [← List.getElem_cons_drop h1, h2]
    unfold toldTo toldOn
    simp only [List.map_append, List.map_cons, List.flatten_append, List.flatten_cons, List.append_assoc]
  rw [e1]; simp only [kidT, List.append_assoc]
abbrev encT (q : Str × Int) : Array Value := #[Sv q.1, .int .i64 q.2]
/-- What a call of below owes. -/
def BelowR (M : Nat → Prop) (w0 W : World) (l : Nat) (xs : List (Str × Int)) (J : List (Str × Int) → (Nat → Prop) → World → Prop) (Jx : (Nat → Prop) → World → Prop) (m : Nat) (t : Tr) : Prop :=
  ∀ (v : Value) (ahead : Str) (So : Nat → Prop) (pre post : List (Str × Int)) (w : World), TrM M w0 t v → ahead.length + m ≤ 1000000 → xs = pre ++ t.told ahead ++ post → Ts M w0 W (J pre) So w →
    FnM Tryz.prog (Ys M w0 So) 24 #[v, Sv ahead, .func (.yield l) #[] #[]] w fun u w' => ∃ b : Bool, u = .bool b ∧ (b = true → Ts M w0 W (J (pre ++ t.told ahead)) So w') ∧ (b = false → Ts M w0 W Jx So w')
-- bellman/walk.below
set_option maxHeartbeats 3200000 in
theorem below_step (w : World) (M : Nat → Prop) (w0 W : World) (l0 : Nat) (xs : List (Str × Int)) (J : List (Str × Int) → (Nat → Prop) → World → Prop) (Jx : (Nat → Prop) → World → Prop) (hY : Yl Tryz.prog M w0 W l0 encT xs J Jx) {n m : Nat} (t : Tr) (hok : t.Ok n m) (ih : ∀ (i : Nat) (k : Str) (kid : Tr), t.keys[i]? = some k → t.vals[i]? = some kid → BelowR M w0 W l0 xs J Jx (m - (k.length + 1)) kid) (v : Value) (ahead : Str) (So : Nat → Prop) (pre0 post0 : List (Str × Int)) (ht : TrM M w0 t v) (hal : ahead.length + m ≤ 1000000) (hxs : xs = pre0 ++ t.told ahead ++ post0) (hT : Ts M w0 W (J pre0) So w) : FnM Tryz.prog (Ys M w0 So) 24 #[v, Sv ahead, .func (.yield l0) #[] #[]] w fun u w' => ∃ b : Bool, u = .bool b ∧ (b = true → Ts M w0 W (J (pre0 ++ t.told ahead)) So w') ∧ (b = false → Ts M w0 W Jx So w') := by
  have hw0w : w0.heap.size ≤ w.heap.size := hT.w0.size
  replace hT := Ts.grow0 hT
  obtain ⟨ps, htp, hpl, hkm⟩ := ht.kids
  have hX := Ext.refl (Ys M w0 So) w
  refine fnM_of_W (args := [_, _, _]) Tryz.func24 rfl (by kernel_rfl) rfl ?_
  refine W_seq ?_
  refine W_region ?_
  refine wl_box1 (by conv => lhs; whnf) rfl ?_; intro b4 w1 hb4 hE1 hB4
  have hq4 : w.heap.size ≤ b4 := Nat.le_trans hX.size hb4
  have hl4 : Mine (Ys M w0 So) w b4 := .inr hq4
  replace hX := hX.tr hE1
  replace hT := hT.grow hE1 (fun _ h => h.elim)
  refine wl_box1 (by conv => lhs; whnf) rfl ?_; intro b5 w2 hb5 hE2 hB5
  have hn4_5 : b4 < b5 := Nat.lt_of_lt_of_le hB4.lt hb5
  have hq5 : w.heap.size ≤ b5 := Nat.le_trans hX.size hb5
  have hl5 : Mine (Ys M w0 So) w b5 := .inr hq5
  replace hX := hX.tr hE2
  replace hB4 := hB4.ext hE2 id
  replace hT := hT.grow hE2 (fun _ h => h.elim)
  refine wl_alloc z_4 ?_; intro b6 w3 hb6 hE3 hB6
  have hn4_6 : b4 < b6 := Nat.lt_of_lt_of_le hB4.lt hb6
  have hn5_6 : b5 < b6 := Nat.lt_of_lt_of_le hB5.lt hb6
  have hq6 : w.heap.size ≤ b6 := Nat.le_trans hX.size hb6
  have hl6 : Mine (Ys M w0 So) w b6 := .inr hq6
  replace hX := hX.tr hE3
  replace hB4 := hB4.ext hE3 id; replace hB5 := hB5.ext hE3 id
  replace hT := hT.grow hE3 (fun _ h => h.elim)
  refine wl_nil ?_
  refine W_seq ?_
  refine W_seq ?_
  refine W_region ?_
  refine wl_val (rn_move (by conv => lhs; whnf)) ?_
  have hl3_4 := hB4.lt; have hl3_5 := hB5.lt; have hlt3 := hB6.lt; have hw3 := hX.size
  refine wl_call e_41 rfl (nkids_ok w3 t ps (fun i => (M i ∨ w0.heap.size ≤ i) ∧ i < (World.heap w3).size) (fun i h => h.2) (((htp.sub (M' := fun i => M i ∨ w0.heap.size ≤ i) (fun i h hi => h.resolve_right (by omega))).ext hT.w0 (fun i h => .inl h)).sub (fun i h _ => h.1))) ?_; intro v12 w4 hE4 hR4
  replace hX := hX.tr hE4
  replace hB4 := hB4.ext hE4 id; replace hB5 := hB5.ext hE4 id; replace hB6 := hB6.ext hE4 id
  replace hT := hT.grow hE4 (fun _ h => h.elim)
  have hIt := hR4; obtain ⟨fi, ci, hfi, _⟩ := id hIt; subst hfi
  have hlt4 := Nat.lt_of_lt_of_le hl3_4 (hE4).size; have hlt5 := Nat.lt_of_lt_of_le hl3_5 (hE4).size; have hlt6 := Nat.lt_of_lt_of_le hlt3 (hE4).size; have ho6 := hq6
  refine wl_nil ?_
  refine W_block ?_   -- block 0
  have hszr := hX.size
  refine W_rangeFunc (M := fun i => (M i ∨ w0.heap.size ≤ i) ∧ i < w3.heap.size) (w0 := w4) (I := fun pre N A => Box N A b4 [Sv ahead] ∧ Box N A b5 [.func (.yield l0) #[] #[]] ∧ Box N A b6 [.bool false] ∧ Ext (Ys M w0 So) w A ∧ MkN w [] N A ∧ (Ts M w0 W (J (pre0 ++ toldTo ahead t pre.length)) (fun i => (So i ∨ (w.heap.size ≤ i ∧ i < w4.heap.size)) ∨ N i) A) ∧ (True)) (X := fun c N A => c = .ret ∧ Box N A b6 [.bool false] ∧ Ext (Ys M w0 So) w A ∧ MkN w [] N A ∧ (Ts M w0 W Jx (fun i => (So i ∨ (w.heap.size ≤ i ∧ i < w4.heap.size)) ∨ N i) A) ∧ (True)) (encs := fun p : Str × Value => [Sv p.1, p.2]) (xs := t.keys.zip ps) rfl (hIt) (Ext.refl _ w4) (fun _ => rfl) (fun pre => (Stab.box _ _).and ((Stab.box _ _).and ((Stab.box _ _).and ((Stab.oldM hX.size).and ((Stab.mk _ _).and ((Ts.stabS _ _ _ _ _).and ((Stab.pure _)))))))) (fun c => (Stab.pure _).and ((Stab.box _ _).and ((Stab.oldM hX.size).and ((Stab.mk _ _).and ((Ts.stabS _ _ _ _ _).and ((Stab.pure _))))))) ⟨⟨hB4, id⟩, ⟨hB5, id⟩, ⟨hB6, id⟩, hX, ⟨Mk.nil, fun r h => by cases h⟩, (by rw [show toldTo ahead t ([] : List (Str × Value)).length = [] from rfl, List.append_nil]; exact hT.less (fun i hi => hi.elim id (fun h => h.elim))), trivial⟩ ?_ ?_ ?_
  · rintro l N pre x A hl hN hA hst ⟨hK4, hK5, hK6, hXo, hDk, hT, hIr⟩ ⟨post, hpre⟩
    have hB4 := hK4.1
    have hB5 := hK5.1
    have hB6 := hK6.1; have hl6 : Mine (Yc (fun i => (M i ∨ w0.heap.size ≤ i) ∧ i < w3.heap.size) w4 N) A b6 := .inl ⟨hK6.2, .inl ⟨.inr (Nat.le_trans hw0w hq6), hlt3⟩⟩
    have hX := Ext.refl (Yc (fun i => (M i ∨ w0.heap.size ≤ i) ∧ i < w3.heap.size) w4 N) A
    replace hT := Ts.grow0 hT
    refine W_seq ?_
    refine W_region ?_
    refine wl_val (rn_assign (by conv => lhs; whnf)) ?_
    refine wl_nil ?_
    refine W_region ?_
    refine wl_val (rn_assign (by conv => lhs; whnf)) ?_
    refine wl_nil ?_
    refine ⟨rfl, hX, fun A2 hE2r hz2r hst2 => ?_⟩
    have hNl := (hN l hl).2
    replace hB4 := hB4.ext hE2r (fun e => hK4.2 (by rw [e]; exact hl))
    replace hB5 := hB5.ext hE2r (fun e => hK5.2 (by rw [e]; exact hl))
    replace hB6 := hB6.ext hE2r (fun e => hK6.2 (by rw [e]; exact hl))
    replace hXo := hXo.mine hE2r (.inr (Nat.le_trans hszr (hN l hl).1)); replace hDk := hDk.lp hE2r hl
    replace hT := hT.grow hE2r (fun i e => .inl (.inr (by rw [e]; exact hl)))
    have hl6 : Mine (Yc (fun i => (M i ∨ w0.heap.size ≤ i) ∧ i < w3.heap.size) w4 N) A2 b6 := .inl ⟨hK6.2, .inl ⟨.inr (Nat.le_trans hw0w hq6), hlt3⟩⟩
    have hX := Ext.refl (Yc (fun i => (M i ∨ w0.heap.size ≤ i) ∧ i < w3.heap.size) w4 N) A2
    have hzA := Nat.le_of_eq hz2r.symm
    have hlp := hst2
    have hn_l6 : l ≠ b6 := fun e => hK6.2 (e ▸ hl)
    have hxz : (t.keys.zip ps)[pre.length]? = some x := by rw [hpre]; simp
    obtain ⟨hxk, hxp⟩ := List.getElem?_zip_eq_some.1 hxz
    obtain ⟨kid, hxv⟩ : ∃ kid, t.vals[pre.length]? = some kid := ⟨_, List.getElem?_eq_getElem (by have := (List.getElem?_eq_some_iff.1 hxp).1; omega)⟩
    have hkt : TrM M w0 kid x.2 := hkm _ _ _ hxv hxp
    have hkn := hok.kn hxk
    refine W_block ?_   -- block 1
    refine W_seq ?_
    refine W_region ?_
    refine wl_val (rn_load1 p_9 rfl hB4 rfl) ?_
    refine wl_val (rn_move (by conv => lhs; whnf)) ?_
    refine wl_val (rn_sadd rfl rfl (by omega)) ?_
    refine wl_alloc z_9 ?_; intro b9 w5 hb9 hE5 hB9
    have hn4_9 : b4 < b9 := Nat.lt_of_lt_of_le hB4.lt hb9
    have hn5_9 : b5 < b9 := Nat.lt_of_lt_of_le hB5.lt hb9
    have hn6_9 : b6 < b9 := Nat.lt_of_lt_of_le hB6.lt hb9
    have hq9 : A2.heap.size ≤ b9 := Nat.le_trans hX.size hb9
    have hl9 : Mine (Yc (fun i => (M i ∨ w0.heap.size ≤ i) ∧ i < w3.heap.size) w4 N) A2 b9 := .inr hq9
    have ho9 : w.heap.size ≤ b9 := Nat.le_trans hXo.size hb9
    have hn_l9 : l ≠ b9 := by obtain ⟨_, h⟩ := hlp; have := (Array.getElem?_eq_some_iff.1 h).1; omega
    replace hX := hX.tr hE5
    replace hB4 := hB4.ext hE5 id; replace hB5 := hB5.ext hE5 id; replace hB6 := hB6.ext hE5 id
    replace hXo := hXo.tr hE5
    replace hDk := hDk.non hE5
    replace hT := hT.grow hE5 (fun _ h => h.elim)
    replace hlp := hlp.imp fun _ h => hE5.obj h id
    have hBo := hB9
    refine wl_store1 (b := b9) p_9 rfl (by conv => lhs; whnf) rfl rfl hB9 (Nat.le_of_ble_eq_true rfl) ?_; intro w6 hE6 hB9 hz6
    replace hX := hX.mine hE6 hl9
    replace hB4 := hB4.ext hE6 (fun h => by omega); replace hB5 := hB5.ext hE6 (fun h => by omega); replace hB6 := hB6.ext hE6 (fun h => by omega)
    replace hXo := hXo.mine hE6 (.inr ho9)
    replace hDk := hDk.box hE6 hBo
    replace hT := hT.grow hE6 (fun i e => by rw [e]; first | exact .inl (.inl (.inr ⟨hq9, hlt9⟩)) | exact .inr ⟨Nat.le_trans hzA hq9, hBo.lt⟩)
    replace hlp := hlp.imp fun _ h => hE6.obj h hn_l9
    refine wl_nil ?_
    refine W_seq ?_
    refine W_seq ?_
    refine W_region ?_
    refine wl_val (rn_move (by conv => lhs; whnf)) ?_
    have hlt66 := hB6.lt; have hl9_ := hB9.lt; have hA6 : A.heap.size ≤ (World.heap w6).size := Nat.le_trans hzA hX.size; have hA9 : A.heap.size ≤ b9 := Nat.le_trans hzA hq9
    refine wl_call e_42 rfl (nsubs_ok w6 kid (fun i => (M i ∨ w0.heap.size ≤ i) ∧ i < (World.heap w6).size) (((hkt.sub (M' := fun i => M i ∨ w0.heap.size ≤ i) (fun i h hi => h.resolve_right (by omega))).ext hT.w0 (fun i h => .inl h)).sub (fun i h _ => h.1))) ?_; intro v19 w7 hE7 hR7
    replace hX := hX.tr hE7
    replace hB4 := hB4.ext hE7 id; replace hB5 := hB5.ext hE7 id; replace hB6 := hB6.ext hE7 id; replace hB9 := hB9.ext hE7 id
    replace hXo := hXo.tr hE7
    replace hDk := hDk.non hE7
    replace hT := hT.grow hE7 (fun _ h => h.elim)
    replace hlp := hlp.imp fun _ h => hE7.obj h id
    have hS19 := hR7; have hzS := (hE7).size
    refine wl_call e_43 rfl (all_ok w7 kid.subs (fun i => (M i ∨ w0.heap.size ≤ i) ∧ i < w6.heap.size) (fun i h => Nat.lt_of_lt_of_le h.2 hzS) hS19) ?_; intro v20 w8 hE8 hR8
    replace hX := hX.tr hE8
    replace hB4 := hB4.ext hE8 id; replace hB5 := hB5.ext hE8 id; replace hB6 := hB6.ext hE8 id; replace hB9 := hB9.ext hE8 id
    replace hXo := hXo.tr hE8
    replace hDk := hDk.non hE8
    replace hT := hT.grow hE8 (fun _ h => h.elim)
    replace hlp := hlp.imp fun _ h => hE8.obj h id
    have hIt2 := hR8; obtain ⟨fi2, ci2, hfi2, _⟩ := id hIt2; subst hfi2
    have hlt9 := Nat.lt_of_lt_of_le hl9_ (Nat.le_trans hzS (hE8).size)
    refine wl_nil ?_
    refine W_block ?_   -- block 2
    have hX1 := hX; have hzX1 := hX1.size; have hzXo := hXo.size; have hlo6 := hl6; have hllt : l < (World.heap w8).size := by obtain ⟨_, h⟩ := hlp; exact (Array.getElem?_eq_some_iff.1 h).1
    refine W_rangeFuncIn (l0 := l) (M := fun i => (M i ∨ w0.heap.size ≤ i) ∧ i < w6.heap.size) (w0 := w8) (I := fun prei Ni Aq => Box Ni Aq b4 [Sv ahead] ∧ Box Ni Aq b5 [.func (.yield l0) #[] #[]] ∧ Box Ni Aq b6 [.bool false] ∧ Box Ni Aq b9 [Sv (ahead ++ x.1)] ∧ (Ext (Yc (fun i => (M i ∨ w0.heap.size ≤ i) ∧ i < w3.heap.size) w4 N) A2 Aq) ∧ (Ext (Ys M w0 So) w Aq) ∧ (∃ st, Aq.heap[l]? = some (.loop st)) ∧ (Ts M w0 W (J (pre0 ++ toldTo ahead t pre.length ++ (prei.map fun s => (ahead ++ x.1, s)))) (fun i => (((So i ∨ (w.heap.size ≤ i ∧ i < w4.heap.size)) ∨ N i) ∨ (A.heap.size ≤ i ∧ i < w8.heap.size)) ∨ Ni i) Aq) ∧ (True)) (X := fun c Ni Aq => c = .ret ∧ Box Ni Aq b6 [.bool false] ∧ (Ext (Yc (fun i => (M i ∨ w0.heap.size ≤ i) ∧ i < w3.heap.size) w4 N) A2 Aq) ∧ (Ext (Ys M w0 So) w Aq) ∧ (Ts M w0 W Jx (fun i => (((So i ∨ (w.heap.size ≤ i ∧ i < w4.heap.size)) ∨ N i) ∨ (A.heap.size ≤ i ∧ i < w8.heap.size)) ∨ Ni i) Aq) ∧ (True)) (encs := fun s : Int => [.int .i64 s]) (xs := kid.subs) hlp rfl (hIt2) (Ext.refl _ w8) (fun _ => rfl) (fun prei => (Stab.box _ _).and ((Stab.box _ _).and ((Stab.box _ _).and ((Stab.box _ _).and ((Stab.oldM hzX1).and ((Stab.oldM hzXo).and ((Stab.lp hllt).and ((Ts.stabS _ _ _ _ _).and ((Stab.pure _)))))))))) (fun c => (Stab.pure _).and ((Stab.box _ _).and ((Stab.oldM hzX1).and ((Stab.oldM hzXo).and ((Ts.stabS _ _ _ _ _).and ((Stab.pure _))))))) ⟨⟨hB4, id⟩, ⟨hB5, id⟩, ⟨hB6, id⟩, ⟨hB9, id⟩, hX1, hXo, hlp, (by rw [List.map_nil, List.append_nil]; exact hT.less (fun i hi => hi.elim id (fun h => h.elim))), trivial⟩ ?_ ?_ ?_
    · rintro li Ni prei y Ai hli hNi hAi hsti ⟨hKi4, hKi5, hKi6, hKi9, hX1, hXo, hlp, hT, hIi⟩ ⟨posti, hprei⟩
      have hB4 := hKi4.1
      have hB5 := hKi5.1
      have hB6 := hKi6.1; have hl6 : Mine (Yc (fun i => (M i ∨ w0.heap.size ≤ i) ∧ i < w6.heap.size) w8 Ni) Ai b6 := .inl ⟨hKi6.2, .inl ⟨.inr (Nat.le_trans hw0w hq6), hlt66⟩⟩
      have hB9 := hKi9.1
      have hX := Ext.refl (Yc (fun i => (M i ∨ w0.heap.size ≤ i) ∧ i < w6.heap.size) w8 Ni) Ai
      replace hT := Ts.grow0 hT
      refine W_region ?_
      refine wl_val (rn_assign (by conv => lhs; whnf)) ?_
      refine wl_nil ?_
      refine ⟨rfl, hX, fun A2i hE2i hz2i hst2i => ?_⟩
      have hNli := (hNi li hli).2
      replace hB4 := hB4.ext hE2i (fun e => hKi4.2 (by rw [e]; exact hli))
      replace hB5 := hB5.ext hE2i (fun e => hKi5.2 (by rw [e]; exact hli))
      replace hB6 := hB6.ext hE2i (fun e => hKi6.2 (by rw [e]; exact hli))
      replace hB9 := hB9.ext hE2i (fun e => hKi9.2 (by rw [e]; exact hli))
      replace hX1 := hX1.mine hE2i (.inr (Nat.le_trans hzX1 (hNi li hli).1))
      replace hXo := hXo.mine hE2i (.inr (Nat.le_trans hzXo (hNi li hli).1))
      replace hlp := hlp.imp fun _ h => hE2i.obj h (fun e => by have := (hNi li hli).1; omega)
      replace hT := hT.grow hE2i (fun i e => .inl (.inr (by rw [e]; exact hli)))
      have hl6 : Mine (Yc (fun i => (M i ∨ w0.heap.size ≤ i) ∧ i < w6.heap.size) w8 Ni) A2i b6 := .inl ⟨hKi6.2, .inl ⟨.inr (Nat.le_trans hw0w hq6), hlt66⟩⟩
      have hX := Ext.refl (Yc (fun i => (M i ∨ w0.heap.size ≤ i) ∧ i < w6.heap.size) w8 Ni) A2i
      refine W_block ?_   -- block 3
      refine W_seq ?_
      refine W_region ?_
      refine wl_val (rn_load1 p_70 rfl hB5 rfl) ?_
      refine wl_val (rn_load1 p_9 rfl hB9 rfl) ?_
      refine wl_val (rn_move (by conv => lhs; whnf)) ?_
      refine wl_yield rfl rfl (hY (pre0 ++ toldTo ahead t pre.length ++ (prei.map fun s => (ahead ++ x.1, s))) (ahead ++ x.1, y) (posti.map (fun s => (ahead ++ x.1, s)) ++ kid.told (ahead ++ x.1 ++ [47]) ++ (toldOn ahead t (pre.length + 1) ++ post0)) _ A2i (by rw [hxs, told_split hok hxk hxv, hprei]; simp) hT) ?_; intro y25 w9 ⟨hE9, hTb⟩
      replace hX := hX.trans (hE9.mono fun i h => ⟨fun hn => h.1 (.inl (.inr hn)), (Nat.lt_or_ge i w8.heap.size).elim (fun h4 => .inl ⟨h.2, (Nat.lt_or_ge i w6.heap.size).elim id (fun h3 => absurd (Or.inl (Or.inl (Or.inr ⟨Nat.le_trans hA6 h3, h4⟩))) h.1)⟩) .inr⟩)
      replace hX1 := hX1.trans (hE9.mono fun i h => ⟨fun hn => h.1 (.inl (.inl (.inl (.inr hn)))), (Nat.lt_or_ge i w4.heap.size).elim (fun h4 => .inl ⟨h.2, (Nat.lt_or_ge i w3.heap.size).elim id (fun h3 => absurd (Or.inl (Or.inl (Or.inl (Or.inl (Or.inr ⟨Nat.le_trans hw3 h3, h4⟩))))) h.1)⟩) .inr⟩)
      replace hXo := hXo.trans (hE9.mono fun i h => ⟨fun hs => h.1 (.inl (.inl (.inl (.inl (.inl hs))))), h.2⟩)
      replace hlp := hlp.imp fun _ h => hE9.obj h (fun e => e.1 (.inl (.inl (.inl (.inr hl)))))
      replace hB4 := hB4.ext hE9 (fun e => e.1 (Or.inl (Or.inl (Or.inl (Or.inl (Or.inr ⟨hq4, hlt4⟩))))))
      replace hB5 := hB5.ext hE9 (fun e => e.1 (Or.inl (Or.inl (Or.inl (Or.inl (Or.inr ⟨hq5, hlt5⟩))))))
      replace hB6 := hB6.ext hE9 (fun e => e.1 (Or.inl (Or.inl (Or.inl (Or.inl (Or.inr ⟨hq6, hlt6⟩))))))
      replace hB9 := hB9.ext hE9 (fun e => e.1 (.inl (.inl (.inr ⟨hA9, hlt9⟩))))
      refine wl_val (rn_not rfl) ?_
      refine wl_nil ?_
      refine W_cond rfl (fun hc0 => ?_) (fun hc0 => ?_)
      · refine W_seq ?_
        refine W_region ?_
        have hBo := hB6
        refine wl_store1 (b := b6) p_4 rfl (by conv => lhs; whnf) rfl rfl hB6 (Nat.le_of_ble_eq_true rfl) ?_; intro w10 hE10 hB6 hz10
        replace hX := hX.mine hE10 hl6
        replace hB4 := hB4.ext hE10 (fun h => by omega); replace hB5 := hB5.ext hE10 (fun h => by omega); replace hB9 := hB9.ext hE10 (fun h => by omega)
        replace hX1 := hX1.mine hE10 hlo6
        replace hXo := hXo.mine hE10 (.inr ho6)
        replace hlp := hlp.imp fun _ h => hE10.obj h hn_l6
        replace hTb := And.intro (fun e => (hTb.1 e).ext hE10 (fun i e => by rw [e]; exact .inl (.inl (.inl (.inl (.inr ⟨hq6, hlt6⟩)))))) (fun e => (hTb.2 e).ext hE10 (fun i e => by rw [e]; exact .inl (.inl (.inl (.inl (.inr ⟨hq6, hlt6⟩))))))
        refine wl_nil ?_
        refine W_ret ?_
        exact ⟨hX, rfl, ⟨hB6, hKi6.2⟩, hX1, hXo, ((hTb.2 (by simpa using hc0)).less (fun i h => .inl h)), trivial⟩
      · refine W_skip ?_
        exact ⟨hX, ⟨hB4, hKi4.2⟩, ⟨hB5, hKi5.2⟩, ⟨hB6, hKi6.2⟩, ⟨hB9, hKi9.2⟩, hX1, hXo, hlp, (by rw [List.map_append, List.map_cons, List.map_nil, ← List.append_assoc]; exact (hTb.1 (by simpa using hc0)).less (fun i h => .inl h)), trivial⟩
    · rintro Ni wd1 ⟨hKi4, hKi5, hKi6, hKi9, hX1, hXo, hlp, hT, hIi⟩ hNi hAi
      have hB4 := hKi4.1
      have hB5 := hKi5.1
      have hB6 := hKi6.1
      have hB9 := hKi9.1
      have hX := hX1; have hDk : MkN w [] N wd1 := ⟨Mk.nil, fun r h => by cases h⟩
      replace hT := Ts.grow0 hT
      refine W_seq ?_
      refine W_region ?_
      refine wl_val (rn_move (by conv => lhs; whnf)) ?_
      refine wl_val (rn_load1 p_9 rfl hB9 rfl) ?_
      refine wl_val (rn_sadd rfl rfl (by simp only [List.length_append, List.length_cons, List.length_nil]; omega)) ?_
      refine wl_val (rn_load1 p_70 rfl hB5 rfl) ?_
      refine wl_callM (M := Ys M w0 _) e_24 rfl (ih pre.length x.1 kid hxk hxv x.2 (ahead ++ x.1 ++ [47]) _ (pre0 ++ toldTo ahead t pre.length ++ (kid.subs.map fun s => (ahead ++ x.1, s))) (toldOn ahead t (pre.length + 1) ++ post0) wd1 hkt (by simp only [List.length_append, List.length_cons, List.length_nil]; omega) (by rw [hxs, told_split hok hxk hxv]; simp) hT) ?_; intro v31 w11 hE11 hR11
      obtain ⟨b31, rfl, hTb⟩ := hR11
      replace hDk : MkN w [] N w11 := ⟨Mk.nil, fun r h => by cases h⟩
      replace hX := hX.trans (hE11.mono fun i h => ⟨fun hn => h.1 (.inl (.inl (.inl (.inr hn)))), (Nat.lt_or_ge i w4.heap.size).elim (fun h4 => .inl ⟨h.2, (Nat.lt_or_ge i w3.heap.size).elim id (fun h3 => absurd (Or.inl (Or.inl (Or.inl (Or.inl (Or.inr ⟨Nat.le_trans hw3 h3, h4⟩))))) h.1)⟩) .inr⟩)
      replace hXo := hXo.trans (hE11.mono fun i h => ⟨fun hs => h.1 (.inl (.inl (.inl (.inl (.inl hs))))), h.2⟩)
      replace hlp := hlp.imp fun _ h => hE11.obj h (fun e => e.1 (.inl (.inl (.inl (.inr hl)))))
      replace hB4 := hB4.ext hE11 (fun e => e.1 (Or.inl (Or.inl (Or.inl (Or.inl (Or.inr ⟨hq4, hlt4⟩))))))
      replace hB5 := hB5.ext hE11 (fun e => e.1 (Or.inl (Or.inl (Or.inl (Or.inl (Or.inr ⟨hq5, hlt5⟩))))))
      replace hB6 := hB6.ext hE11 (fun e => e.1 (Or.inl (Or.inl (Or.inl (Or.inl (Or.inr ⟨hq6, hlt6⟩))))))
      replace hB9 := hB9.ext hE11 (fun e => e.1 (.inl (.inl (.inr ⟨hA9, hlt9⟩))))
      refine wl_val (rn_not rfl) ?_
      refine wl_nil ?_
      refine W_cond rfl (fun hc1 => ?_) (fun hc1 => ?_)
      · refine W_seq ?_
        refine W_region ?_
        have hBo := hB6
        refine wl_store1 (b := b6) p_4 rfl (by conv => lhs; whnf) rfl rfl hB6 (Nat.le_of_ble_eq_true rfl) ?_; intro w12 hE12 hB6 hz12
        replace hX := hX.mine hE12 hl6
        replace hB4 := hB4.ext hE12 (fun h => by omega); replace hB5 := hB5.ext hE12 (fun h => by omega); replace hB9 := hB9.ext hE12 (fun h => by omega)
        replace hXo := hXo.mine hE12 (.inr ho6)
        replace hDk := hDk.box hE12 hBo
        replace hlp := hlp.imp fun _ h => hE12.obj h hn_l6
        replace hTb := And.intro (fun e => (hTb.1 e).ext hE12 (fun i e => by rw [e]; exact .inl (.inl (.inl (.inl (.inr ⟨hq6, hlt6⟩)))))) (fun e => (hTb.2 e).ext hE12 (fun i e => by rw [e]; exact .inl (.inl (.inl (.inl (.inr ⟨hq6, hlt6⟩))))))
        refine wl_nil ?_
        refine W_ret ?_
        have hTz := by first | exact hTx.less (S' := fun i => (So i ∨ (w.heap.size ≤ i ∧ i < w4.heap.size)) ∨ N i) (fun i h => .inl (.inl h)) | exact (hTb.2 (by simpa using hc1)).less (S' := fun i => (So i ∨ (w.heap.size ≤ i ∧ i < w4.heap.size)) ∨ N i) (fun i h => .inl (.inl (.inl h)))
        exact ⟨hX, rfl, ⟨hB6, hK6.2⟩, hXo, hDk, hTz, trivial⟩
      · refine W_skip ?_
        have e9 : pre0 ++ toldTo ahead t (pre ++ [x]).length = pre0 ++ toldTo ahead t pre.length ++ (kid.subs.map fun s => (ahead ++ x.1, s)) ++ kid.told (ahead ++ x.1 ++ [47]) := by rw [List.length_append, List.length_singleton, toldTo_succ hxk hxv]; simp [kidT]
        exact ⟨hX, ⟨hB4, hK4.2⟩, ⟨hB5, hK5.2⟩, ⟨hB6, hK6.2⟩, hXo, hDk, (by rw [e9]; exact (hTb.1 (by simpa using hc1)).less (fun i h => .inl (.inl (.inl h)))), trivial⟩
    · rintro c Ni wd1 ⟨rfl, hKi6, hX1, hXo, hTx, hIi⟩ hNi hAi
      have hB6 := hKi6.1
      have hX := hX1; have hDk : MkN w [] N wd1 := ⟨Mk.nil, fun r h => by cases h⟩
      refine W_ret ?_
      have hTz := by first | exact hTx.less (S' := fun i => (So i ∨ (w.heap.size ≤ i ∧ i < w4.heap.size)) ∨ N i) (fun i h => .inl (.inl h)) | exact (hTb.2 (by simpa using hc1)).less (S' := fun i => (So i ∨ (w.heap.size ≤ i ∧ i < w4.heap.size)) ∨ N i) (fun i h => .inl (.inl (.inl h)))
      exact ⟨hX, rfl, ⟨hB6, hK6.2⟩, hXo, hDk, hTz, trivial⟩
  · rintro N rk w' ⟨hK4, hK5, hK6, hXo, hDk, hT, hIr⟩ hN hA hr hrd
    have hB4 := hK4.1
    have hB5 := hK5.1
    have hB6 := hK6.1
    have hX := hXo; have hD := hDk.add hrd (Nat.le_trans hszr (hN rk hr).1) hr
    replace hT := Ts.grow0 hT
    have e9 : toldTo ahead t (t.keys.zip ps).length = t.told ahead := toldTo_all hok ahead (by rw [List.length_zip]; have := hok.len; omega)
    rw [e9] at hT
    refine W_seq ?_
    refine W_region ?_
    have hBo := hB6
    refine wl_store1 (b := b6) p_4 rfl (by conv => lhs; whnf) rfl rfl hB6 (Nat.le_of_ble_eq_true rfl) ?_; intro w13 hE13 hB6 hz13
    replace hX := hX.mine hE13 hl6
    replace hB4 := hB4.ext hE13 (fun h => by omega); replace hB5 := hB5.ext hE13 (fun h => by omega)
    replace hT := hT.grow hE13 (fun i e => by rw [e]; exact .inl (.inl (.inr ⟨hq6, hlt6⟩)))
    replace hD := hD.box hE13 hBo
    refine wl_nil ?_
    refine W_ret ?_
    refine hD.leave fun B hB => ?_
    have hB4 := hB4.ext hB (hD.ne hB4)
    have hB5 := hB5.ext hB (hD.ne hB5)
    have hB6 := hB6.ext hB (hD.ne hB6)
    exact ⟨_, resR1 (res1_cell p_4 rfl hB6), hX.mineF hB (fun i hi => .inr (by simp only [List.mem_singleton] at hi; rw [mark_inj hi]; exact Nat.le_trans hszr (hN rk hr).1)), true, rfl, fun _ => (hT.ext hB (fun i hi => .inl (.inr (by simp only [List.mem_singleton] at hi; rw [mark_inj hi]; exact hr)))).less (fun i h => .inl (.inl (.inl h))), fun h => by cases h⟩
  · rintro c N rk w' ⟨rfl, hK6, hXo, hDk, hTx, hIr⟩ hN hA hr hrd
    have hB6 := hK6.1
    have hX := hXo; have hD := hDk.add hrd (Nat.le_trans hszr (hN rk hr).1) hr
    refine W_ret ?_
    refine hD.leave fun B hB => ?_
    have hB6 := hB6.ext hB (hD.ne hB6)
    exact ⟨_, resR1 (res1_cell p_4 rfl hB6), hX.mineF hB (fun i hi => .inr (by simp only [List.mem_singleton] at hi; rw [mark_inj hi]; exact Nat.le_trans hszr (hN rk hr).1)), false, rfl, (fun h => by cases h), fun _ => (hTx.ext hB (fun i hi => .inr (by simp only [List.mem_singleton] at hi; rw [mark_inj hi]; exact hr))).less (fun i h => .inl (.inl h))⟩
theorem below_ok (M : Nat → Prop) (w0 W : World) (l0 : Nat) (xs : List (Str × Int)) (J : List (Str × Int) → (Nat → Prop) → World → Prop) (Jx : (Nat → Prop) → World → Prop) (hY : Yl Tryz.prog M w0 W l0 encT xs J Jx) {n m : Nat} {t : Tr} (hok : t.Ok n m) : BelowR M w0 W l0 xs J Jx m t := by
  induction hok with
  | @mk m ss ks vs h1 h2 h3 h4 h5 h6 h7 ih =>
    intro v ahead So pre post w ht hal hxs hT
    exact below_step w M w0 W l0 xs J Jx hY (.node ss ks vs) (.mk h1 h2 h3 h4 h5 h6 h7) (fun i k kid hk hv => ih i k kid hk hv) v ahead So pre post ht hal hxs hT
-- bellman/walk.Pairs$1
theorem pairs_iter (t : Tr) {n m : Nat} (hok : t.Ok n m) (hm : m ≤ 1000000) (M : Nat → Prop) (w0 : World) (b1 : Nat) {v : Value} (ht : TrM M w0 t v) (hC1 : IsBox w0 b1 [v]) (h1 : ¬ M b1) :
    Iter Tryz.prog M w0 (.func (.func 23) #[] #[.pointer (some ⟨b1, 0, none⟩)]) encT (t.told []) := by
  refine iter_ofS e_23 fun l W J Jx hW hT hY => ?_
  obtain ⟨pa, rfl⟩ := ht.ptr
  have ea : (#[Value.func (.yield l) #[] #[]] ++ #[.pointer (some ⟨b1, 0, none⟩)] : Array Value) = [Value.func (.yield l) #[] #[], .pointer (some ⟨b1, 0, none⟩)].toArray := by simp
  rw [ea]
  have hX := Ext.refl Tru W
  have hB1 := hC1.ext hW h1
  refine calls_of_W (R := fun v W' => Ts M w0 W (J (t.told [])) Non W' ∨ Ts M w0 W Jx Non W') Tryz.func23 rfl (by kernel_rfl) rfl ?_
  refine W_region ?_
  refine wl_val (rn_load1 p_26 rfl hB1 rfl) ?_
  refine wl_val (rn_move (by conv => lhs; whnf)) ?_
  refine wl_callM (M := Ys M w0 Non) e_24 rfl (below_ok M w0 W l _ J Jx hY hok _ [] Non [] [] W ht (by simpa using hm) (by simp) hT) ?_; intro v5 w1 hE1 hR1
  obtain ⟨b5, rfl, hbT, hbF⟩ := hR1
  replace hB1 := hB1.ext hE1 (fun h => h.2.elim h1 (fun e => by have := hC1.lt; omega))
  refine wl_nil ?_
  exact ⟨_, rfl, (by cases b5 with | false => exact .inr (hbF rfl) | true => exact .inl (hbT rfl))⟩
-- bellman/walk.Pairs
theorem pairs_ok (w : World) (t : Tr) {v : Value} {n m : Nat} (hok : t.Ok n m) (hm : m ≤ 1000000) (M : Nat → Prop) (hM : ∀ i, M i → i < w.heap.size) (ht : TrM M w t v) : Fn Tryz.prog 10 #[v] w fun u w' => Iter Tryz.prog M w' u encT (t.told []) ∧ ∃ f cap, u = .func f #[] cap := by
  obtain ⟨pa, rfl⟩ := ht.ptr
  have hX := Ext.refl Non w
  refine fn_of_W (args := [_]) Tryz.func10 rfl (by kernel_rfl) rfl ?_
  refine W_seq ?_
  refine W_region ?_
  refine wl_box1 (by conv => lhs; whnf) rfl ?_; intro b1 w1 hb1 hE1 hB1
  have hq1 : w.heap.size ≤ b1 := Nat.le_trans hX.size hb1
  have hl1 : Mine Non w b1 := .inr hq1
  replace hX := hX.tr hE1
  refine wl_val (rn_assign (by conv => lhs; whnf)) ?_
  refine wl_nil ?_
  refine W_seq ?_
  refine W_region ?_
  refine wl_val (rn_makeFunc rfl) ?_
  refine wl_val (rn_assign (by conv => lhs; whnf)) ?_
  refine wl_nil ?_
  refine W_ret ?_
  exact ⟨_, resR1 (res1_tmp rfl), hX, ⟨pairs_iter t hok hm M _ b1 (ht.ext hX (fun _ h => h.elim)) hB1 (fun h => by have := hM _ h; omega), _, _, rfl⟩⟩
end Go.Proofs.YtaddeakfojpdoaaGreatDoorC

/- Tries: of pairs; their pairs. -/
set_option linter.unusedVariables false
set_option linter.unusedSimpArgs false
set_option maxRecDepth 100000
namespace Go.Proofs.YtaddeakfojpdoaaGreatDoorC
open Go.RowKit
-- bellman/bellmanlaw14.of$1
set_option maxHeartbeats 800000 in
theorem of_iter (ks : List Str) (ys : List Int) {v1 v2 : Value} (M : Nat → Prop) (w0 : World) (b1 b2 : Nat) (hk : Sl M w0 v1 1 (ks.map eS1)) (hv : Sl M w0 v2 1 (ys.map eI1)) (hC1 : IsBox w0 b1 [v1]) (hC2 : IsBox w0 b2 [v2]) (h1 : ¬ M b1) (h2 : ¬ M b2) :
    Iter Tryz.prog M w0 (.func (.func 21) #[] #[.pointer (some ⟨b1, 0, none⟩), .pointer (some ⟨b2, 0, none⟩)]) encT (ks.zip ys) := by
  refine iter_of e_21 fun l W J Jx hW hX hY => ?_
  obtain ⟨a, c, rfl, _⟩ := hk.len; obtain ⟨a2, c2, rfl, _⟩ := hv.len
  simp only [List.length_map] at hk hv hC1 hC2 ⊢
  have hbig : ks.length ≤ big := by obtain ⟨⟨a1, c1, e1, e2, e3, _⟩, _⟩ := hk; simp at e2; omega
  have hbig2 : big = 9223372036854775807 := rfl
  have ea : (#[Value.func (.yield l) #[] #[]] ++ #[.pointer (some ⟨b1, 0, none⟩), .pointer (some ⟨b2, 0, none⟩)] : Array Value) = [Value.func (.yield l) #[] #[], .pointer (some ⟨b1, 0, none⟩), .pointer (some ⟨b2, 0, none⟩)].toArray := by simp
  rw [ea]
  refine calls_of_W (R := fun v W' => Tl M w0 W (J (ks.zip ys)) [] W' ∨ Tl M w0 W Jx [] W') Tryz.func21 rfl (by kernel_rfl) rfl ?_
  refine W_seq ?_
  refine W_region ?_
  refine wl_val (rn_assign (by conv => lhs; whnf)) ?_
  refine wl_nil ?_
  refine W_block ?_   -- block 0
  refine W_loopS (S := Nat) [0, 1, 2, 4] (fun i => [.func (.yield l) #[] #[], .pointer (some ⟨b1, 0, none⟩), .pointer (some ⟨b2, 0, none⟩), .int .i64 (i : Nat)]) (fun i A => (Tl M w0 W (J ((ks.zip ys).take i)) [] A) ∧ (i ≤ ks.length ∧ i ≤ ys.length)) (fun i => ks.length - i) 0 ⟨rfl, rfl, rfl, rfl, trivial⟩ ⟨(hX.less (by simp)), ⟨Nat.zero_le _, Nat.zero_le _⟩⟩ ?_
  rintro τ0 i A0 ⟨hX, hI0⟩
  obtain ⟨hik, hiy⟩ := hI0
  refine W_seq ?_
  refine W_seq ?_
  refine W_region ?_
  refine wl_val (rn_move (by conv => lhs; whnf)) ?_
  refine wl_val (rn_load1 p_22 rfl (hC1.ext hX.w0 h1) rfl) ?_
  refine wl_val (rn_len sl_22 rfl) ?_
  refine wl_val (rn_lss rfl rfl) ?_
  refine wl_val (rn_move (by conv => lhs; whnf)) ?_
  refine wl_split (d := 9) rfl (fun hg9 => ?_) (fun hg9 => ?_)
  · have hlt := of_decide_eq_true hg9; simp only [Int.ofNat_lt] at hlt
    refine wl_yes rfl (congrArg Value.bool hg9) ?_
    refine wl_val (rn_move (by conv => lhs; whnf)) ?_
    refine wl_yes rfl (congrArg Value.bool hg9) ?_
    refine wl_val (rn_load1 p_23 rfl (hC2.ext hX.w0 h2) rfl) ?_
    refine wl_yes rfl (congrArg Value.bool hg9) ?_
    refine wl_val (rn_len sl_23 rfl) ?_
    refine wl_yes rfl (congrArg Value.bool hg9) ?_
    refine wl_val (rn_lss rfl rfl) ?_
    refine wl_val (rn_pickT (congrArg Value.bool hg9) (by conv => lhs; whnf)) ?_
    refine wl_nil ?_
    refine W_cond rfl (fun hc0 => ?_) (fun hc0 => ?_)
    · have hlt2 := of_decide_eq_true hc0; simp only [Int.ofNat_lt] at hlt2
      obtain ⟨x, hi⟩ : ∃ x, ks[i]? = some x := ⟨_, List.getElem?_eq_getElem hlt⟩
      obtain ⟨y, hj⟩ : ∃ y, ys[i]? = some y := ⟨_, List.getElem?_eq_getElem hlt2⟩
      obtain ⟨bb, oo, ea⟩ := hk.base (by intro e; have := congrArg List.length e; simp only [List.length_map, List.length_nil] at this; omega); subst ea
      obtain ⟨bb2, oo2, ea2⟩ := hv.base (by intro e; have := congrArg List.length e; simp only [List.length_map, List.length_nil] at this; omega); subst ea2
      have hz := zip_at2 hi hj
      have htk : (ks.zip ys).take (i + 1) = (ks.zip ys).take i ++ [(x, y)] := by rw [List.take_add_one, hz]; rfl
      have hsp : (ks.zip ys) = (ks.zip ys).take i ++ (x, y) :: (ks.zip ys).drop (i + 1) := by obtain ⟨h1, h2⟩ := List.getElem?_eq_some_iff.1 hz; rw [← h2, List.getElem_cons_drop, List.take_append_drop]
      refine W_skip ?_
      refine W_seq ?_
      refine W_block ?_   -- block 1
      refine W_seq ?_
      refine W_drawX (fun j => j == 9 || j == 10) mixed ?_; intro w1 hE1
      replace hX := hX.tr hE1
      have hS := Ext.refl Non w1
      refine wx_take 0 [9, 10] _ _ rfl (by kernel_rfl) hS (yd_do fun A hA => rn_move (by conv => lhs; whnf)) ?_
      refine wx_take 1 [3, 4, 9, 10] _ _ rfl (by kernel_rfl) hS (yd_do fun A hA => rn_load1 p_22 rfl ((hC1.ext hX.w0 h1).ext hA (fun h => h)) rfl) ?_
      refine wx_take 2 [3, 4, 9, 10] _ _ rfl (by kernel_rfl) hS (yd_do fun A hA => rn_move (by conv => lhs; whnf)) ?_
      refine wx_take 3 [4, 9, 10] _ _ rfl (by kernel_rfl) hS (yd_do fun A hA => rn_indexAddr sl_22 rfl rfl (by omega)) ?_
      refine wx_take 4 [9, 10] _ _ rfl (by kernel_rfl) hS (yd_do fun A hA => rn_load p_9 rfl (((hk.ext hX.w0 (fun _ h => h)).ext hA (fun _ h => h.elim)).at0 (eS_at hi) rfl)) ?_
      refine wx_take 5 [7, 8, 9, 10] _ _ rfl (by kernel_rfl) hS (yd_do fun A hA => rn_load1 p_23 rfl ((hC2.ext hX.w0 h2).ext hA (fun h => h)) rfl) ?_
      refine wx_take 6 [7, 8, 9, 10] _ _ rfl (by kernel_rfl) hS (yd_do fun A hA => rn_move (by conv => lhs; whnf)) ?_
      refine wx_take 7 [8, 9, 10] _ _ rfl (by kernel_rfl) hS (yd_do fun A hA => rn_indexAddr sl_23 rfl rfl (by omega)) ?_
      refine wx_take 8 [9, 10] _ _ rfl (by kernel_rfl) hS (yd_do fun A hA => rn_load p_3 rfl (((hv.ext hX.w0 (fun _ h => h)).ext hA (fun _ h => h.elim)).at0 (eI_at hj) rfl)) ?_
      replace hX := hX.tr hS
      refine wx_only 9 _ rfl (by kernel_rfl) ?_
      refine s1_do ?_
      refine wl_yield rfl rfl (hY _ _ _ _ _ hsp hX) ?_; rintro b26 w2 ⟨hE2, hyT, hyF⟩
      refine wl_nil ⟨fun h => absurd h (by decide), ?_⟩
      refine wx_only 10 _ rfl (by kernel_rfl) ?_
      refine s1_do ?_
      refine wl_val (rn_not rfl) ?_
      refine wl_nil ⟨fun h => absurd h (by decide), ?_⟩
      refine wx_done (by kernel_rfl) ?_ _
      refine W_cond rfl (fun hc1 => ?_) (fun hc1 => ?_)
      · refine W_ret ?_
        first | exact ⟨_, rfl, .inr ((hyF (by simpa using hc1)).less (by simp))⟩ | exact ⟨_, rfl, .inl (by have hge := of_decide_eq_false hc0; simp only [Int.ofNat_lt, Nat.not_lt] at hge; rw [List.take_of_length_le (by rw [List.length_zip]; omega)] at hX; exact hX.less (by simp))⟩ | exact ⟨_, rfl, .inl (by have hge := of_decide_eq_false hg9; simp only [Int.ofNat_lt, Nat.not_lt] at hge; rw [List.take_of_length_le (by rw [List.length_zip]; omega)] at hX; exact hX.less (by simp))⟩
      · refine W_skip ?_
        refine W_region ?_
        refine wl_val (rn_move (by conv => lhs; whnf)) ?_
        refine wl_val (rn_add rfl rfl (by omega)) ?_
        refine wl_val (rn_assign (by conv => lhs; whnf)) ?_
        refine wl_nil ?_
        replace hX := hyT (by simpa using hc1)
        rw [← htk] at hX
        exact ⟨rfl, i + 1, ⟨rfl, rfl, rfl, rfl, trivial⟩, ⟨(hX.less (by simp)), ⟨hlt, hlt2⟩⟩, by omega⟩
    · refine W_exit ?_   -- exit 0
      first | exact ⟨_, rfl, .inr ((hyF (by simpa using hc1)).less (by simp))⟩ | exact ⟨_, rfl, .inl (by have hge := of_decide_eq_false hc0; simp only [Int.ofNat_lt, Nat.not_lt] at hge; rw [List.take_of_length_le (by rw [List.length_zip]; omega)] at hX; exact hX.less (by simp))⟩ | exact ⟨_, rfl, .inl (by have hge := of_decide_eq_false hg9; simp only [Int.ofNat_lt, Nat.not_lt] at hge; rw [List.take_of_length_le (by rw [List.length_zip]; omega)] at hX; exact hX.less (by simp))⟩
  · refine wl_no rfl (congrArg Value.bool hg9) ?_
    refine wl_no rfl (congrArg Value.bool hg9) ?_
    refine wl_no rfl (congrArg Value.bool hg9) ?_
    refine wl_no rfl (congrArg Value.bool hg9) ?_
    refine wl_val (rn_pickF (congrArg Value.bool hg9) (by conv => lhs; whnf)) ?_
    refine wl_nil ?_
    refine W_condF rfl ?_
    refine W_exit ?_   -- exit 0
    first | exact ⟨_, rfl, .inr ((hyF (by simpa using hc1)).less (by simp))⟩ | exact ⟨_, rfl, .inl (by have hge := of_decide_eq_false hc0; simp only [Int.ofNat_lt, Nat.not_lt] at hge; rw [List.take_of_length_le (by rw [List.length_zip]; omega)] at hX; exact hX.less (by simp))⟩ | exact ⟨_, rfl, .inl (by have hge := of_decide_eq_false hg9; simp only [Int.ofNat_lt, Nat.not_lt] at hge; rw [List.take_of_length_le (by rw [List.length_zip]; omega)] at hX; exact hX.less (by simp))⟩
/-- What was made lives on, beside blocks of one's own and F's. -/
theorem Stab.tr {n0 : Nat} (F : Nat → Prop) (t : Tr) (v : Value) : Stab n0 (fun N A => TrM (fun i => N i ∨ F i) A t v) := fun N A B hN hA h hE =>
  (h.sub (M' := fun i => grow N A B i ∨ F i) (fun i h hi => by
    rcases h with (h | h) | h
    · exact .inl h
    · exact absurd h.1 (by omega)
    · exact .inr h)).ext hE (fun i h => .inl (.inl h))
/-- The tree of pairs. -/
def ofT (xs : List (Str × Int)) : Tr := xs.foldl (fun t q => if q.1 = [] then t else t.put (spl 47 q.1) q.2) .bare
theorem ofT_snoc (xs : List (Str × Int)) (x : Str × Int) : ofT (xs ++ [x]) = if x.1 = [] then ofT xs else (ofT xs).put (spl 47 x.1) x.2 := by simp [ofT]
theorem wgt_spl (s : Str) : wgt (spl 47 s) = s.length + 1 := by
  have key : ∀ s : Str, wgt (spl 47 s) = (joinB 47 (spl 47 s)).length + 1 := by
    intro s
    have : ∀ l : List Str, l ≠ [] → wgt l = (joinB 47 l).length + 1 := by
      intro l
      induction l with
      | nil => intro h; exact absurd rfl h
      | cons a l ih =>
        intro _
        cases l with
        | nil => simp [wgt, joinB]
        | cons b l => rw [wgt, ih (by simp), joinB_cons 47 a (r := b :: l) (by simp)]; simp only [List.length_append, List.length_cons]; omega
    exact this _ (spl_ne 47 s)
  rw [key, join_spl]
theorem ofT_ok {m : Nat} (xs : List (Str × Int)) (h : ∀ q ∈ xs, q.1.length + 1 ≤ m) : (ofT xs).Ok xs.length m := by
  have key : ∀ (l : List (Str × Int)) (t : Tr) (n : Nat), (∀ q ∈ l, q.1.length + 1 ≤ m) → t.Ok n m → (l.foldl (fun t q => if q.1 = [] then t else t.put (spl 47 q.1) q.2) t).Ok (n + l.length) m := by
    intro l
    induction l with
    | nil => intro t n _ h; exact h
    | cons q l ih =>
      intro t n hl ht
      rw [List.foldl_cons, List.length_cons, show n + (l.length + 1) = (n + 1) + l.length from by omega]
      refine ih _ _ (fun q hq => hl q (List.mem_cons_of_mem _ hq)) ?_
      split
      · exact ht.mono (by omega) (Nat.le_refl _)
      · exact ht.put _ _ (by rw [wgt_spl]; exact hl q (List.mem_cons_self ..))
  have := key xs .bare 0 h Tr.Ok.bare
  simpa [ofT] using this
-- bellman/walk.Of
set_option maxHeartbeats 1600000 in
theorem wof_ok (w : World) (xs : List (Str × Int)) {v : Value} (hIt : Iter Tryz.prog Non w v encT xs) {m : Nat} (hxl : ∀ q ∈ xs, q.1.length + 1 ≤ m) (hm : m ≤ 100000) (hn : xs.length ≤ 100000) : Fn Tryz.prog 11 #[v] w fun u w' => TrM Non w' (ofT xs) u := by
  obtain ⟨fi, ci, hfi, _⟩ := id hIt; subst hfi
  have hX := Ext.refl Non w
  refine fn_of_W (args := [_]) Tryz.func11 rfl (by kernel_rfl) rfl ?_
  refine W_seq ?_
  refine W_region ?_
  refine wl_val (rn_assign (by conv => lhs; whnf)) ?_
  refine wl_nil ?_
  refine W_seq ?_
  refine W_region ?_
  refine wl_alloc z_26 ?_; intro b3 w1 hb3 hE1 hB3
  have hq3 : w.heap.size ≤ b3 := Nat.le_trans hX.size hb3
  have hl3 : Mine Non w b3 := .inr hq3
  replace hX := hX.tr hE1
  refine wl_nil ?_
  refine W_seq ?_
  refine W_seq ?_
  refine W_region ?_
  refine wl_val (rn_move (by conv => lhs; whnf)) ?_
  refine wl_val (rn_func_eql uf_31 rfl rfl) ?_
  refine wl_nil ?_
  refine W_condF rfl ?_
  refine W_skip ?_
  refine W_seq ?_
  refine W_seq ?_
  refine W_region ?_
  refine wl_val (rn_move (by conv => lhs; whnf)) ?_
  refine wl_nil ?_
  refine W_block ?_   -- block 0
  have hszr := hX.size
  have ho3 : w.heap.size ≤ b3 := by rcases hl3 with h | h; exact h.elim; exact h
  refine W_rangeFunc (M := Non) (w0 := w) (I := fun pre N A => ∃ v3 : Value, Box N A b3 [v3] ∧ Ext Non w A ∧ MkN w [] N A ∧ (TrM (fun i => N i ∨ i = b3) A (ofT pre) v3) ∧ (True)) (X := fun c N A => False) (encs := fun q : Str × Int => [Sv q.1, .int .i64 q.2]) (xs := xs) rfl (hIt) (hX) (fun _ => rfl) (fun pre => Stab.ex fun v3 => (Stab.box _ _).and ((Stab.old hX.size).and ((Stab.mk _ _).and ((Stab.tr _ _ _).and ((Stab.pure _)))))) (fun c => Stab.false) ⟨.pointer none, ⟨hB3, id⟩, hX, (Mk.nil : Mk w [] w1).toN, TrM.nil, trivial⟩ ?_ ?_ ?_
  · rintro l N pre x A hl hN hA hst ⟨v3, hK3, hXo, hDk, hTr, hIr⟩ ⟨post, hpre⟩
    have hB3 := hK3.1; have hl3 : Mine (Yc (Non) w N) A b3 := .inl ⟨hK3.2, .inr hq3⟩
    have hX := Ext.refl (Yc (Non) w N) A
    obtain ⟨a3, rfl⟩ := hTr.ptr
    refine W_seq ?_
    refine W_region ?_
    refine wl_val (rn_assign (by conv => lhs; whnf)) ?_
    refine wl_nil ?_
    refine W_region ?_
    refine wl_val (rn_assign (by conv => lhs; whnf)) ?_
    refine wl_nil ?_
    refine ⟨rfl, hX, fun A2 hE2r hz2r hst2 => ?_⟩
    have hNl := (hN l hl).2
    replace hB3 := hB3.ext hE2r (fun e => hK3.2 (by rw [e]; exact hl))
    replace hXo := hXo.mine hE2r (.inr (Nat.le_trans hszr (hN l hl).1)); replace hDk := hDk.lp hE2r hl
    replace hTr := hTr.ext hE2r (fun i e => .inl (by rw [e]; exact hl))
    have hl3 : Mine (Yc (Non) w N) A2 b3 := .inl ⟨hK3.2, .inr hq3⟩
    have hX := Ext.refl (Yc (Non) w N) A2
    have hNM : ∀ i, (N i ∨ i = b3) → i < A2.heap.size := fun i h => by rcases h with h | h; have := (hN i h).2; omega; rw [h]; exact hB3.lt
    have hpl : xs.length = pre.length + (post.length + 1) := by rw [hpre]; simp
    have hxl1 := hxl x (by rw [hpre]; simp)
    have hokp : (ofT pre).Ok pre.length m := ofT_ok pre fun q hq => hxl q (by rw [hpre]; simp [hq])
    refine W_block ?_   -- block 1
    refine W_seq ?_
    refine W_region ?_
    refine wl_val (rn_move (by conv => lhs; whnf)) ?_
    refine wl_val (rn_sneq rfl rfl) ?_
    refine wl_nil ?_
    refine W_cond rfl (fun hc1 => ?_) (fun hc1 => ?_)
    · have hne : ¬ x.1 = [] := by simpa using hc1
      refine W_drawX (fun j => j == 5) mixed ?_; intro w2 hE2
      replace hX := hX.tr hE2
      replace hB3 := hB3.ext hE2 id
      replace hXo := hXo.tr hE2
      replace hDk := hDk.non hE2
      replace hTr := hTr.ext hE2 (fun _ h => h.elim)
      have hS := Ext.refl Non w2
      refine wx_take 0 [4, 5] _ _ rfl (by kernel_rfl) hS (yd_do fun A hA => rn_load1 p_26 rfl (hB3.ext hA id) rfl) ?_
      refine wx_take 1 [2, 4, 5] _ _ rfl (by kernel_rfl) hS (yd_do fun A hA => rn_move (by conv => lhs; whnf)) ?_
      refine wx_take 3 [4, 5] _ _ rfl (by kernel_rfl) hS (yd_do fun A hA => rn_move (by conv => lhs; whnf)) ?_
      refine wx_only 2 _ rfl (by kernel_rfl) ?_
      refine s1_do ?_
      refine wl_call e_26 rfl (levels_ok w2 x.1 (by omega)) ?_; intro v16 w3 hE3 hR3
      replace hS := hS.tr hE3
      have hL16 := hR3
      refine wl_nil ⟨fun _ => hS, ?_⟩
      refine wx_only 4 _ rfl (by kernel_rfl) ?_
      refine s1_do ?_
      refine wl_call e_25 rfl (wput_ok x.2 (n := pre.length) (by omega) (fun i => N i ∨ i = b3) (spl 47 x.1) w3 (ofT pre) (fun i h => Nat.lt_of_lt_of_le (hNM i h) (hX.tr hS).size) (hTr.ext hS (fun _ h => h.elim)) hL16 hokp (by rw [wgt_spl]; exact hxl1)) ?_; intro v18 w4 hE4 hR4
      replace hS := hS.tr hE4
      replace hL16 := hL16.ext hE4 (fun _ h => h)
      have hTn := hR4
      obtain ⟨a18, rfl⟩ := hTn.ptr
      refine wl_nil ⟨fun _ => hS, ?_⟩
      replace hX := hX.tr hS
      replace hB3 := hB3.ext hS id
      replace hXo := hXo.tr hS
      replace hDk := hDk.non hS
      replace hTr := hTr.ext hS (fun _ h => h.elim)
      refine wx_only 5 _ rfl (by kernel_rfl) ?_
      refine s1_do ?_
      have hBo := hB3
      refine wl_store1 (b := b3) p_26 rfl (by conv => lhs; whnf) rfl rfl hB3 (Nat.le_of_ble_eq_true rfl) ?_; intro w5 hE5 hB3 hz5
      replace hX := hX.mine hE5 hl3
      replace hXo := hXo.mine hE5 (.inr ho3)
      replace hDk := hDk.box hE5 hBo
      replace hTr := hTr.ext hE5 (fun i e => .inr e)
      replace hL16 := True.intro
      replace hTn := hTn.ext hE5 (fun i e => .inr e)
      refine wl_nil ⟨fun h => absurd h (by decide), ?_⟩
      refine wx_done (by kernel_rfl) ?_ _
      exact ⟨hX, .pointer a18, ⟨hB3, hK3.2⟩, hXo, hDk, (by rw [ofT_snoc, if_neg hne]; exact hTn), trivial⟩
    · have hem : x.1 = [] := by simpa using hc1
      refine W_skip ?_
      exact ⟨hX, .pointer a3, ⟨hB3, hK3.2⟩, hXo, hDk, (by rw [ofT_snoc, if_pos hem]; exact hTr), trivial⟩
  · rintro N rk w' ⟨v3, hK3, hXo, hDk, hTr, hIr⟩ hN hA hr hrd
    have hB3 := hK3.1
    have hX := hXo; have hD := hDk.add hrd (Nat.le_trans hszr (hN rk hr).1) hr
    obtain ⟨a3, rfl⟩ := hTr.ptr
    refine W_seq ?_
    refine W_region ?_
    refine wl_val (rn_load1 p_26 rfl hB3 rfl) ?_
    refine wl_val (rn_assign (by conv => lhs; whnf)) ?_
    refine wl_nil ?_
    refine W_ret ?_
    refine hD.leave fun B hB => ?_
    have hB3 := hB3.ext hB (hD.ne hB3)
    have hX := hD.out hX hB
    exact ⟨_, resR1 (res1_tmp rfl), hX, (hTr.ext hB (fun i hi => .inl (by simp only [List.mem_singleton] at hi; rw [mark_inj hi]; exact hr))).sub (fun _ h _ => h.elim)⟩
  · intro c N rk w' h; exact h.elim
end Go.Proofs.YtaddeakfojpdoaaGreatDoorC

/- Filters of the program; the law TopicEach. -/
set_option linter.unusedVariables false
set_option linter.unusedSimpArgs false
set_option maxRecDepth 100000
namespace Go.Proofs.YtaddeakfojpdoaaGreatDoorC
open Go.RowKit
theorem cs_name : (Tryz.f165.name == "runtime.NumGoroutine") = false := by kernel_rfl
theorem cs_body : Tryz.f165.body.isNone = true := by kernel_rfl
theorem cs_next : Extern.findNext Tryz.f165 = none := by kernel_rfl
theorem cs_find : Extern.find Tryz.f165 = some Extern.BytealgCount.count := by kernel_rfl
theorem cbs : CB Tryz.prog 165 := ⟨_, Tryz.func165, cs_name, cs_body, cs_next, cs_find⟩
theorem sized_eq (s : Str) : sizedB s = (decide (s ≠ []) && (decide ((s.length : Int) ≤ 32) && decide (fi s 0 < 0))) := by
  unfold sizedB
  have h1 : decide ((s.length : Int) ≤ 32) = decide (s.length ≤ 32) := decide_eq_decide.2 (by omega)
  have h2 : decide (fi s 0 < 0) = decide (¬ (0 : UInt8) ∈ s) := decide_eq_decide.2 (by rw [← fi_ge s 0]; omega)
  rw [h1, h2, Bool.and_assoc]
-- bellman/topic.sized
theorem tsized_ok (w : World) (s : Str) : Fn Tryz.prog 98 #[Sv s] w fun u w' => u = .bool (sizedB s) := by
  have hX := Ext.refl Non w
  refine fn_of_W (args := [_]) Tryz.func98 rfl (by kernel_rfl) rfl ?_
  refine W_seq ?_
  refine W_region ?_
  refine wl_val (rn_assign (by conv => lhs; whnf)) ?_
  refine wl_nil ?_
  refine W_seq ?_
  refine W_region ?_
  refine wl_val (rn_move (by conv => lhs; whnf)) ?_
  refine wl_val (rn_sneq rfl rfl) ?_
  refine wl_val (rn_move (by conv => lhs; whnf)) ?_
  refine wl_split (d := 5) rfl (fun hg5 => ?_) (fun hg5 => ?_)
  · refine wl_yes rfl (congrArg Value.bool hg5) ?_
    refine wl_val (rn_move (by conv => lhs; whnf)) ?_
    refine wl_yes rfl (congrArg Value.bool hg5) ?_
    refine wl_val (rn_slen us_9 rfl) ?_
    refine wl_yes rfl (congrArg Value.bool hg5) ?_
    refine wl_val (rn_leq rfl rfl) ?_
    refine wl_val (rn_pickT (congrArg Value.bool hg5) (by conv => lhs; whnf)) ?_
    refine wl_val (rn_move (by conv => lhs; whnf)) ?_
    refine wl_split (d := 10) rfl (fun hg10 => ?_) (fun hg10 => ?_)
    · refine wl_yes rfl (congrArg Value.bool hg10) ?_
      refine wl_val (rn_move (by conv => lhs; whnf)) ?_
      refine wl_yes rfl (congrArg Value.bool hg10) ?_
      refine wl_call e_138 rfl (sindexByte_ok w s 0) ?_; intro v12 w1 hE1 hR1
      replace hX := hX.tr hE1
      subst hR1
      refine wl_yes rfl (congrArg Value.bool hg10) ?_
      refine wl_val (rn_lss rfl rfl) ?_
      refine wl_val (rn_pickT (congrArg Value.bool hg10) (by conv => lhs; whnf)) ?_
      refine wl_val (rn_assign (by conv => lhs; whnf)) ?_
      refine wl_nil ?_
      refine W_ret ?_
      exact ⟨_, resR1 (res1_tmp rfl), hX, by rw [sized_eq, hg5, hg10]; rfl⟩
    · refine wl_no rfl (congrArg Value.bool hg10) ?_
      refine wl_no rfl (congrArg Value.bool hg10) ?_
      refine wl_no rfl (congrArg Value.bool hg10) ?_
      refine wl_val (rn_pickF (congrArg Value.bool hg10) (by conv => lhs; whnf)) ?_
      refine wl_val (rn_assign (by conv => lhs; whnf)) ?_
      refine wl_nil ?_
      refine W_ret ?_
      exact ⟨_, resR1 (res1_tmp rfl), hX, by rw [sized_eq, hg5, hg10]; rfl⟩
  · refine wl_no rfl (congrArg Value.bool hg5) ?_
    refine wl_no rfl (congrArg Value.bool hg5) ?_
    refine wl_no rfl (congrArg Value.bool hg5) ?_
    refine wl_val (rn_pickF (congrArg Value.bool hg5) (by conv => lhs; whnf)) ?_
    refine wl_val (rn_move (by conv => lhs; whnf)) ?_
    refine wl_no rfl rfl ?_
    refine wl_no rfl rfl ?_
    refine wl_no rfl rfl ?_
    refine wl_val (rn_pickF rfl (by conv => lhs; whnf)) ?_
    refine wl_val (rn_assign (by conv => lhs; whnf)) ?_
    refine wl_nil ?_
    refine W_ret ?_
    exact ⟨_, resR1 (res1_tmp rfl), hX, by rw [sized_eq, hg5]; rfl⟩
-- strings.Count
set_option maxHeartbeats 1000000 in
theorem scount_ok (w : World) (s : Str) (c : UInt8) : Fn Tryz.prog 139 #[Sv s, Sv [c]] w fun u w' => u = .int .i64 (s.count c : Nat) := by
  have hX := Ext.refl Non w
  refine fn_of_W (args := [_, _]) Tryz.func139 rfl (by kernel_rfl) rfl ?_
  refine W_seq ?_
  refine W_region ?_
  refine wl_val (rn_assign (by conv => lhs; whnf)) ?_
  refine wl_nil ?_
  refine W_seq ?_
  refine W_seq ?_
  refine W_region ?_
  refine wl_val (rn_move (by conv => lhs; whnf)) ?_
  refine wl_val (rn_slen us_9 rfl) ?_
  refine wl_val (rn_eql rfl rfl) ?_
  refine wl_nil ?_
  refine W_cond rfl (fun hc0 => ?_) (fun hc0 => ?_)
  · exact absurd (of_decide_eq_true hc0) (by simp)
  · refine W_skip ?_
    refine W_seq ?_
    refine W_seq ?_
    refine W_region ?_
    refine wl_val (rn_move (by conv => lhs; whnf)) ?_
    refine wl_val (rn_slen us_9 rfl) ?_
    refine wl_val (rn_eql rfl rfl) ?_
    refine wl_nil ?_
    refine W_cond rfl (fun hc1 => ?_) (fun hc1 => ?_)
    · refine W_seq ?_
      refine W_region ?_
      refine wl_val (rn_move (by conv => lhs; whnf)) ?_
      refine wl_val (rn_move (by conv => lhs; whnf)) ?_
      refine wl_val (rn_sindex us_9 rfl rfl (by omega) rfl) ?_
      refine wl_val (P := Tryz.prog) (op := .call ⟨.value (.func 165), #[.tmp 16, .tmp 18], #[9, 5]⟩) (v := .int .i64 (s.count c : Nat)) (rn_countString (s := s) (c := c) cbs rfl rfl) ?_
      refine wl_val (rn_assign (by conv => lhs; whnf)) ?_
      refine wl_nil ?_
      refine W_ret ?_
      exact ⟨_, resR1 (res1_tmp rfl), hX, rfl⟩
    · exact absurd (of_decide_eq_false hc1) (by simp)
-- bellman/topic.Depth
theorem tdepth_ok (w : World) (s : Str) (hn : s.length ≤ 1000000) : Fn Tryz.prog 99 #[Sv s] w fun u w' => u = .int .i64 ((spl 47 s).length : Nat) := by
  have hcl := List.count_le_length (a := (47 : UInt8)) (l := s)
  have hX := Ext.refl Non w
  refine fn_of_W (args := [_]) Tryz.func99 rfl (by kernel_rfl) rfl ?_
  refine W_seq ?_
  refine W_region ?_
  refine wl_val (rn_assign (by conv => lhs; whnf)) ?_
  refine wl_nil ?_
  refine W_seq ?_
  refine W_region ?_
  refine wl_val (rn_move (by conv => lhs; whnf)) ?_
  refine wl_call e_139 rfl (scount_ok w s 47) ?_; intro v4 w1 hE1 hR1
  replace hX := hX.tr hE1
  subst hR1
  refine wl_val (rn_add rfl rfl (by omega)) ?_
  refine wl_val (rn_assign (by conv => lhs; whnf)) ?_
  refine wl_nil ?_
  refine W_ret ?_
  exact ⟨_, resR1 (res1_tmp rfl), hX, by rw [spl_len]; rfl⟩
-- bellman/topic.Filter
set_option maxHeartbeats 1600000 in
theorem tfilter_ok (w : World) (s : Str) (hn : s.length ≤ 1000000) : Fn Tryz.prog 64 #[Sv s] w fun u w' => u = .bool (filterB s) := by
  have hsl := spl_len_le 47 s
  have hX := Ext.refl Non w
  refine fn_of_W (args := [_]) Tryz.func64 rfl (by kernel_rfl) rfl ?_
  refine W_seq ?_
  refine W_region ?_
  refine wl_alloc z_4 ?_; intro b2 w1 hb2 hE1 hB2
  have hq2 : w.heap.size ≤ b2 := Nat.le_trans hX.size hb2
  have hl2 : Mine Non w b2 := .inr hq2
  replace hX := hX.tr hE1
  refine wl_nil ?_
  refine W_seq ?_
  refine W_seq ?_
  refine W_region ?_
  refine wl_val (rn_move (by conv => lhs; whnf)) ?_
  refine wl_call e_98 rfl (tsized_ok w1 s) ?_; intro v7 w2 hE2 hR2
  replace hX := hX.tr hE2
  replace hB2 := hB2.ext hE2 id
  subst hR2
  refine wl_val (rn_not rfl) ?_
  refine wl_nil ?_
  refine W_cond rfl (fun hc0 => ?_) (fun hc0 => ?_)
  · have hz : sizedB s = false := by simpa using hc0
    refine W_seq ?_
    refine W_region ?_
    refine wl_store1 (b := b2) p_4 rfl (by conv => lhs; whnf) rfl rfl hB2 (Nat.le_of_ble_eq_true rfl) ?_; intro w3 hE3 hB2 hz3
    replace hX := hX.mine hE3 hl2
    refine wl_nil ?_
    refine W_ret ?_
    exact ⟨_, resR1 (res1_cell p_4 rfl hB2), hX, by rw [filter_small hz]⟩
  · have hz : sizedB s = true := by simpa using hc0
    refine W_skip ?_
    refine W_seq ?_
    refine W_region ?_
    refine wl_val (rn_move (by conv => lhs; whnf)) ?_
    refine wl_call e_99 rfl (tdepth_ok w2 s hn) ?_; intro v10 w4 hE4 hR4
    replace hX := hX.tr hE4
    replace hB2 := hB2.ext hE4 id
    subst hR4
    refine wl_val (rn_sub rfl rfl (by omega)) ?_
    refine wl_alloc z_3 ?_; intro b3 w5 hb3 hE5 hB3
    have hn2_3 : b2 < b3 := Nat.lt_of_lt_of_le hB2.lt hb3
    have hq3 : w.heap.size ≤ b3 := Nat.le_trans hX.size hb3
    have hl3 : Mine Non w b3 := .inr hq3
    replace hX := hX.tr hE5
    replace hB2 := hB2.ext hE5 id
    refine wl_store1 (b := b3) p_3 rfl (by conv => lhs; whnf) rfl rfl hB3 (Nat.le_of_ble_eq_true rfl) ?_; intro w6 hE6 hB3 hz6
    replace hX := hX.mine hE6 hl3
    replace hB2 := hB2.ext hE6 (fun h => by omega)
    refine wl_nil ?_
    refine W_seq ?_
    refine W_seq ?_
    refine W_region ?_
    refine wl_val (rn_move (by conv => lhs; whnf)) ?_
    refine wl_call e_47 rfl (each_ok w6 s (fun i => i = b2) (fun i e => by rw [e]; exact hB2.lt) hn) ?_; intro v13 w7 hE7 hR7
    replace hX := hX.tr hE7
    replace hB2 := hB2.ext hE7 id; replace hB3 := hB3.ext hE7 id
    have hIt := hR7; obtain ⟨fk, ck, hfk, _⟩ := id hIt; subst hfk
    obtain ⟨wa, hwa⟩ : ∃ x, x = w7 := ⟨_, rfl⟩
    have hW : Ext (fun i => i = b2) wa w7 := by rw [hwa]; exact Ext.refl _ _
    have hIt2 := hIt; rw [← hwa] at hIt2; have hz2 : b2 < wa.heap.size := by rw [hwa]; exact hB2.lt
    refine wl_nil ?_
    refine W_block ?_   -- block 0
    have hszr := hX.size
    have hsz_hW := hW.size
    have ho2 : w.heap.size ≤ b2 := by rcases hl2 with h | h; exact h.elim; exact h
    have ho3 : w.heap.size ≤ b3 := by rcases hl3 with h | h; exact h.elim; exact h
    refine W_rangeFunc (M := fun i => i = b2) (w0 := wa) (I := fun pre N A => Box N A b2 [.bool false] ∧ Box N A b3 [.int .i64 (((spl 47 s).length : Int) - 1)] ∧ Ext Non w A ∧ Ext (fun i => i = b2) wa A ∧ MkN w [] N A ∧ (∀ (j : Nat) l, j < pre.length → (spl 47 s)[j]? = some l → levOk (decide (j + 1 = (spl 47 s).length)) l = true)) (X := fun c N A => c = .ret ∧ Box N A b2 [.bool false] ∧ Ext Non w A ∧ Ext (fun i => i = b2) wa A ∧ MkN w [] N A ∧ (filterB s = false)) (encs := fun p : Nat × Str => [.int .i64 (p.1 : Nat), Sv p.2]) (xs := numb (spl 47 s)) rfl (hIt2) (hW) (fun _ => rfl) (fun pre => (Stab.box _ _).and ((Stab.box _ _).and ((Stab.old hX.size).and ((Stab.oldM hW.size).and ((Stab.mk _ _).and ((Stab.pure _))))))) (fun c => (Stab.pure _).and ((Stab.box _ _).and ((Stab.old hX.size).and ((Stab.oldM hW.size).and ((Stab.mk _ _).and ((Stab.pure _))))))) ⟨⟨hB2, id⟩, ⟨hB3, id⟩, hX, hW, (Mk.nil : Mk w [] _).toN, fun j l h => absurd h (Nat.not_lt_zero _)⟩ ?_ ?_ ?_
    · rintro l N pre x A hl hN hA hst ⟨hK2, hK3, hXo, hW, hDk, hIr⟩ ⟨post, hpre⟩
      have hB2 := hK2.1; have hl2 : Mine (Yc (fun i => i = b2) wa N) A b2 := .inl ⟨hK2.2, .inl rfl⟩
      have hB3 := hK3.1
      have hX := Ext.refl (Yc (fun i => i = b2) wa N) A
      refine W_seq ?_
      refine W_region ?_
      refine wl_val (rn_assign (by conv => lhs; whnf)) ?_
      refine wl_nil ?_
      refine W_region ?_
      refine wl_val (rn_assign (by conv => lhs; whnf)) ?_
      refine wl_nil ?_
      refine ⟨rfl, hX, fun A2 hE2r hz2r hst2 => ?_⟩
      have hNl := (hN l hl).2
      replace hB2 := hB2.ext hE2r (fun e => hK2.2 (by rw [e]; exact hl))
      replace hB3 := hB3.ext hE2r (fun e => hK3.2 (by rw [e]; exact hl))
      replace hXo := hXo.mine hE2r (.inr (Nat.le_trans hszr (hN l hl).1)); replace hDk := hDk.lp hE2r hl
      replace hW := hW.mine hE2r (.inr (Nat.le_trans hsz_hW (hN l hl).1))
      have hl2 : Mine (Yc (fun i => i = b2) wa N) A2 b2 := .inl ⟨hK2.2, .inl rfl⟩
      have hX := Ext.refl (Yc (fun i => i = b2) wa N) A2
      obtain ⟨hxi, hxl, hxp⟩ := numb_at (i := x.1) (x := x.2) (post := post) (pre := pre) (by rw [hpre])
      have hxlt := (List.getElem?_eq_some_iff.1 hxl).1
      refine W_block ?_   -- block 1
      refine W_block ?_   -- block 2
      refine W_seq ?_
      refine W_region ?_
      refine wl_val (rn_move (by conv => lhs; whnf)) ?_
      refine wl_call e_100 rfl (scontains_ok A2 x.2 35) ?_; intro v18 w8 hE8 hR8
      replace hX := hX.tr hE8
      replace hB2 := hB2.ext hE8 id; replace hB3 := hB3.ext hE8 id
      replace hXo := hXo.tr hE8
      replace hDk := hDk.non hE8
      replace hW := hW.tr hE8
      subst hR8
      refine wl_val (rn_assign (by conv => lhs; whnf)) ?_
      refine wl_nil ?_
      refine W_cond rfl (fun hc1 => ?_) (fun hc1 => ?_)
      · have q35 : (35 : UInt8) ∈ x.2 := of_decide_eq_true hc1
        refine W_seq ?_
        refine W_region ?_
        refine wl_val (rn_move (by conv => lhs; whnf)) ?_
        refine wl_val (rn_sneq rfl rfl) ?_
        refine wl_val (rn_move (by conv => lhs; whnf)) ?_
        refine wl_split (d := 21) rfl (fun hg21 => ?_) (fun hg21 => ?_)
        · have hR : filterB s = false := filter_no hxl (levOk_b q35 (by simpa using of_decide_eq_true hg21))
          refine wl_no rfl (congrArg Value.bool hg21) ?_
          refine wl_no rfl (congrArg Value.bool hg21) ?_
          refine wl_no rfl (congrArg Value.bool hg21) ?_
          refine wl_val (rn_pickT (congrArg Value.bool hg21) (by conv => lhs; whnf)) ?_
          refine wl_nil ?_
          refine W_condT rfl ?_
          refine W_seq ?_
          refine W_region ?_
          have hBo := hB2
          refine wl_store1 (b := b2) p_4 rfl (by conv => lhs; whnf) rfl rfl hB2 (Nat.le_of_ble_eq_true rfl) ?_; intro w9 hE9 hB2 hz9
          replace hX := hX.mine hE9 hl2
          replace hB3 := hB3.ext hE9 (fun h => by omega)
          replace hXo := hXo.mine hE9 (.inr ho2)
          replace hDk := hDk.box hE9 hBo
          replace hW := hW.mine hE9 (.inl rfl)
          refine wl_nil ?_
          refine W_ret ?_
          exact ⟨hX, rfl, ⟨hB2, hK2.2⟩, hXo, hW, hDk, hR⟩
        · have qh : x.2 = [35] := by simpa using of_decide_eq_false hg21
          refine wl_yes rfl (congrArg Value.bool hg21) ?_
          refine wl_val (rn_move (by conv => lhs; whnf)) ?_
          refine wl_yes rfl (congrArg Value.bool hg21) ?_
          refine wl_val (rn_load1 p_3 rfl hB3 rfl) ?_
          refine wl_yes rfl (congrArg Value.bool hg21) ?_
          refine wl_val (rn_neq rfl rfl) ?_
          refine wl_val (rn_pickF (congrArg Value.bool hg21) (by conv => lhs; whnf)) ?_
          refine wl_nil ?_
          refine W_cond rfl (fun hc2 => ?_) (fun hc2 => ?_)
          · have hR : filterB s = false := filter_no hxl (by rw [levOk_c qh]; have := of_decide_eq_true hc2; exact decide_eq_false (by omega))
            refine W_seq ?_
            refine W_region ?_
            have hBo := hB2
            refine wl_store1 (b := b2) p_4 rfl (by conv => lhs; whnf) rfl rfl hB2 (Nat.le_of_ble_eq_true rfl) ?_; intro w10 hE10 hB2 hz10
            replace hX := hX.mine hE10 hl2
            replace hB3 := hB3.ext hE10 (fun h => by omega)
            replace hXo := hXo.mine hE10 (.inr ho2)
            replace hDk := hDk.box hE10 hBo
            replace hW := hW.mine hE10 (.inl rfl)
            refine wl_nil ?_
            refine W_ret ?_
            exact ⟨hX, rfl, ⟨hB2, hK2.2⟩, hXo, hW, hDk, hR⟩
          · have hok : levOk (decide (x.1 + 1 = (spl 47 s).length)) x.2 = true := by rw [levOk_c qh]; have := of_decide_eq_false hc2; exact decide_eq_true (by omega)
            refine W_skip ?_
            exact ⟨hX, ⟨hB2, hK2.2⟩, ⟨hB3, hK3.2⟩, hXo, hW, hDk, (fun j l hj h2 => by rw [List.length_append, List.length_singleton] at hj; rcases Nat.lt_or_ge j pre.length with h | h; exact hIr j l h h2; (have e : j = x.1 := by omega); subst e; rw [hxl] at h2; cases h2; exact hok)⟩
      · have q35 : ¬ (35 : UInt8) ∈ x.2 := of_decide_eq_false hc1
        refine W_seq ?_
        refine W_region ?_
        refine wl_val (rn_move (by conv => lhs; whnf)) ?_
        refine wl_call e_100 rfl (scontains_ok w8 x.2 43) ?_; intro v28 w11 hE11 hR11
        replace hX := hX.tr hE11
        replace hB2 := hB2.ext hE11 id; replace hB3 := hB3.ext hE11 id
        replace hXo := hXo.tr hE11
        replace hDk := hDk.non hE11
        replace hW := hW.tr hE11
        subst hR11
        refine wl_val (rn_move (by conv => lhs; whnf)) ?_
        refine wl_split (d := 29) rfl (fun hg29 => ?_) (fun hg29 => ?_)
        · have q43 : (43 : UInt8) ∈ x.2 := of_decide_eq_true hg29
          refine wl_yes rfl (congrArg Value.bool hg29) ?_
          refine wl_val (rn_move (by conv => lhs; whnf)) ?_
          refine wl_yes rfl (congrArg Value.bool hg29) ?_
          refine wl_val (rn_sneq rfl rfl) ?_
          refine wl_val (rn_pickT (congrArg Value.bool hg29) (by conv => lhs; whnf)) ?_
          refine wl_val (rn_assign (by conv => lhs; whnf)) ?_
          refine wl_nil ?_
          refine W_cond rfl (fun hc3 => ?_) (fun hc3 => ?_)
          · have hR : filterB s = false := filter_no hxl (levOk_a q43 (by simpa using of_decide_eq_true hc3))
            refine W_seq ?_
            refine W_region ?_
            have hBo := hB2
            refine wl_store1 (b := b2) p_4 rfl (by conv => lhs; whnf) rfl rfl hB2 (Nat.le_of_ble_eq_true rfl) ?_; intro w12 hE12 hB2 hz12
            replace hX := hX.mine hE12 hl2
            replace hB3 := hB3.ext hE12 (fun h => by omega)
            replace hXo := hXo.mine hE12 (.inr ho2)
            replace hDk := hDk.box hE12 hBo
            replace hW := hW.mine hE12 (.inl rfl)
            refine wl_nil ?_
            refine W_ret ?_
            exact ⟨hX, rfl, ⟨hB2, hK2.2⟩, hXo, hW, hDk, hR⟩
          · have hok : levOk (decide (x.1 + 1 = (spl 47 s).length)) x.2 = true := levOk_d q35 (fun _ => by simpa using of_decide_eq_false hc3)
            refine W_skip ?_
            exact ⟨hX, ⟨hB2, hK2.2⟩, ⟨hB3, hK3.2⟩, hXo, hW, hDk, (fun j l hj h2 => by rw [List.length_append, List.length_singleton] at hj; rcases Nat.lt_or_ge j pre.length with h | h; exact hIr j l h h2; (have e : j = x.1 := by omega); subst e; rw [hxl] at h2; cases h2; exact hok)⟩
        · have hok : levOk (decide (x.1 + 1 = (spl 47 s).length)) x.2 = true := levOk_d q35 (fun h => absurd h (of_decide_eq_false hg29))
          refine wl_no rfl (congrArg Value.bool hg29) ?_
          refine wl_no rfl (congrArg Value.bool hg29) ?_
          refine wl_val (rn_pickF (congrArg Value.bool hg29) (by conv => lhs; whnf)) ?_
          refine wl_val (rn_assign (by conv => lhs; whnf)) ?_
          refine wl_nil ?_
          refine W_condF rfl ?_
          refine W_skip ?_
          exact ⟨hX, ⟨hB2, hK2.2⟩, ⟨hB3, hK3.2⟩, hXo, hW, hDk, (fun j l hj h2 => by rw [List.length_append, List.length_singleton] at hj; rcases Nat.lt_or_ge j pre.length with h | h; exact hIr j l h h2; (have e : j = x.1 := by omega); subst e; rw [hxl] at h2; cases h2; exact hok)⟩
    · rintro N rk w' ⟨hK2, hK3, hXo, hW, hDk, hIr⟩ hN hA hr hrd
      have hB2 := hK2.1
      have hB3 := hK3.1
      have hX := hXo; have hD := hDk.add hrd (Nat.le_trans hszr (hN rk hr).1) hr
      refine W_seq ?_
      refine W_region ?_
      have hBo := hB2
      refine wl_store1 (b := b2) p_4 rfl (by conv => lhs; whnf) rfl rfl hB2 (Nat.le_of_ble_eq_true rfl) ?_; intro w13 hE13 hB2 hz13
      replace hX := hX.mine hE13 hl2
      replace hB3 := hB3.ext hE13 (fun h => by omega)
      replace hD := hD.box hE13 hBo
      refine wl_nil ?_
      refine W_ret ?_
      refine hD.leave fun B hB => ?_
      have hB2 := hB2.ext hB (hD.ne hB2)
      have hB3 := hB3.ext hB (hD.ne hB3)
      have hX := hD.out hX hB
      exact ⟨_, resR1 (res1_cell p_4 rfl hB2), hX, by rw [filter_yes hz (fun j l h2 => hIr j l (by rw [numb_len]; exact (List.getElem?_eq_some_iff.1 h2).1) h2)]⟩
    · rintro c N rk w' ⟨rfl, hK2, hXo, hW, hDk, hIr⟩ hN hA hr hrd
      have hB2 := hK2.1
      have hX := hXo; have hD := hDk.add hrd (Nat.le_trans hszr (hN rk hr).1) hr
      refine W_ret ?_
      refine hD.leave fun B hB => ?_
      have hB2 := hB2.ext hB (hD.ne hB2)
      have hX := hD.out hX hB
      exact ⟨_, resR1 (res1_cell p_4 rfl hB2), hX, by rw [hIr]⟩
-- bellman/bellmanref01.Long
theorem long2_ok (w : World) (s : Str) : Fn Tryz.prog 14 #[Sv s] w fun u w' => u = .bool (decide ((s.length : Int) > 300)) := by
  have hX := Ext.refl Non w
  refine fn_of_W (args := [_]) Tryz.func14 rfl (by kernel_rfl) rfl ?_
  refine W_seq ?_
  refine W_region ?_
  refine wl_val (rn_assign (by conv => lhs; whnf)) ?_
  refine wl_nil ?_
  refine W_seq ?_
  refine W_region ?_
  refine wl_val (rn_move (by conv => lhs; whnf)) ?_
  refine wl_val (rn_slen us_9 rfl) ?_
  refine wl_val (rn_gtr rfl rfl) ?_
  refine wl_val (rn_assign (by conv => lhs; whnf)) ?_
  refine wl_nil ?_
  refine W_ret ?_
  exact ⟨_, resR1 (res1_tmp rfl), hX, rfl⟩
end Go.Proofs.YtaddeakfojpdoaaGreatDoorC

/- Texts gone through rune by rune; scopes; a rune's text; each rule holds of whatever program. -/
set_option linter.unusedVariables false
set_option linter.unusedSimpArgs false
namespace Go.Proofs.YtaddeakfojpdoaaGreatDoorC
open Go.RowKit
variable {P : Program} {n : Nat} {Q : Post} {σ : Env} {D : List Deferred} {w : World} {dst : Option Nat} {ty : TypeId} {pos : String} {af : Array Edge} {g : Option (Nat × Bool)}
variable {ops rest : List Oper} {K : Ops}
/-- Block b goes through s, and stands at i. -/
def IsIt (w : World) (b : Nat) (s : Str) (i : Nat) : Prop := w.heap[b]? = some (.stringIter ⟨s.toArray⟩ i)
theorem IsIt.ext {M : Nat → Prop} {w w' : World} {b : Nat} {s : Str} {i : Nat} (h : IsIt w b s i) (hE : Ext M w w') (hm : ¬ M b) : IsIt w' b s i := hE.obj h hm
theorem IsIt.lt {w : World} {b : Nat} {s : Str} {i : Nat} (h : IsIt w b s i) : b < w.heap.size := (Array.getElem?_eq_some_iff.1 h).1
end Go.Proofs.YtaddeakfojpdoaaGreatDoorC

/- The laws TopicTells and TopicJoins. -/
set_option linter.unusedVariables false
set_option linter.unusedSimpArgs false
set_option maxRecDepth 100000
namespace Go.Proofs.YtaddeakfojpdoaaGreatDoorC
open Go.RowKit
-- bellman/bellmanref01.Texts
theorem texts_ok (w : World) (l m : List Str) {v x : Value} (hs : Sl Non w v 1 (l.map eS1)) (hx : Sl Non w x 1 (m.map eS1)) (hn : l.length ≤ 1000000) : Fn Tryz.prog 12 #[v, x] w fun u w' => u = .bool (decide (l = m)) := by
  obtain ⟨a, c, rfl, _⟩ := hs.len
  obtain ⟨a2, c2, rfl, _⟩ := hx.len
  simp only [List.length_map] at hs hx ⊢
  have hX := Ext.refl Non w
  refine fn_of_W (args := [_, _]) Tryz.func12 rfl (by kernel_rfl) rfl ?_
  refine W_seq ?_
  refine W_region ?_
  refine wl_val (rn_assign (by conv => lhs; whnf)) ?_
  refine wl_nil ?_
  refine W_seq ?_
  refine W_seq ?_
  refine W_region ?_
  refine wl_val (rn_move (by conv => lhs; whnf)) ?_
  refine wl_val (rn_len sl_22 rfl) ?_
  refine wl_val (rn_move (by conv => lhs; whnf)) ?_
  refine wl_val (rn_len sl_22 rfl) ?_
  refine wl_val (rn_neq rfl rfl) ?_
  refine wl_nil ?_
  refine W_cond rfl (fun hc0 => ?_) (fun hc0 => ?_)
  · refine W_seq ?_
    refine W_region ?_
    refine wl_val (rn_assign (by conv => lhs; whnf)) ?_
    refine wl_nil ?_
    refine W_ret ?_
    have hnl : ¬ l = m := fun e => by have := of_decide_eq_true hc0; simp only [ne_eq, Int.natCast_inj] at this; exact this (by rw [e])
    exact ⟨_, resR1 (res1_tmp rfl), hX, by rw [decide_eq_false hnl]; rfl⟩
  · have hln : l.length = m.length := by have := of_decide_eq_false hc0; simp only [ne_eq, Int.natCast_inj, Classical.not_not] at this; exact this
    refine W_skip ?_
    refine W_seq ?_
    refine W_seq ?_
    refine W_region ?_
    refine wl_val (rn_assign (by conv => lhs; whnf)) ?_
    refine wl_nil ?_
    refine W_block ?_   -- block 0
    refine W_loopS (S := Nat) [0, 1, 5] (fun i => [.slice a l.length c, .slice a2 m.length c2, .int .i64 (i : Nat)]) (fun i A => (Ext Non w A) ∧ (i ≤ l.length ∧ l.take i = m.take i)) (fun i => l.length - i) 0 ⟨rfl, rfl, rfl, trivial⟩ ⟨hX, ⟨Nat.zero_le _, by simp⟩⟩ ?_
    rintro τ0 i A0 ⟨hX, hI0⟩
    obtain ⟨hil, htk⟩ := hI0
    refine W_seq ?_
    refine W_seq ?_
    refine W_region ?_
    refine wl_val (rn_move (by conv => lhs; whnf)) ?_
    refine wl_val (rn_move (by conv => lhs; whnf)) ?_
    refine wl_val (rn_len sl_22 rfl) ?_
    refine wl_val (rn_lss rfl rfl) ?_
    refine wl_nil ?_
    refine W_cond rfl (fun hc1 => ?_) (fun hc1 => ?_)
    · have hlt := of_decide_eq_true hc1; simp only [Int.ofNat_lt] at hlt
      obtain ⟨x, hi⟩ : ∃ x, (l)[i]? = some x := ⟨_, List.getElem?_eq_getElem hlt⟩
      obtain ⟨bb, oo, ea⟩ := hs.base (by intro e; have := congrArg List.length e; simp only [List.length_map, List.length_nil] at this; omega); subst ea
      obtain ⟨y, hj⟩ : ∃ y, m[i]? = some y := ⟨_, List.getElem?_eq_getElem (by omega)⟩
      obtain ⟨bb2, oo2, ea2⟩ := hx.base (by intro e; have := congrArg List.length e; simp only [List.length_map, List.length_nil] at this; omega); subst ea2
      refine W_skip ?_
      refine W_seq ?_
      refine W_block ?_   -- block 1
      refine W_seq ?_
      refine W_drawE mixed ?_; intro w1 hE1
      replace hX := hX.tr hE1
      have hS := Ext.refl Non w1
      refine wd_take 0 _ _ rfl (by kernel_rfl) hS (yd_do fun A hA => rn_move (by conv => lhs; whnf)) ?_
      refine wd_take 1 _ _ rfl (by kernel_rfl) hS (yd_do fun A hA => rn_move (by conv => lhs; whnf)) ?_
      refine wd_take 2 _ _ rfl (by kernel_rfl) hS (yd_do fun A hA => rn_indexAddr sl_22 rfl rfl (by omega)) ?_
      refine wd_take 3 _ _ rfl (by kernel_rfl) hS (yd_do fun A hA => rn_load p_9 rfl (((hs.ext hX (fun _ h => h)).ext hA (fun _ h => h.elim)).at0 (eS_at hi) rfl)) ?_
      refine wd_take 4 _ _ rfl (by kernel_rfl) hS (yd_do fun A hA => rn_move (by conv => lhs; whnf)) ?_
      refine wd_take 5 _ _ rfl (by kernel_rfl) hS (yd_do fun A hA => rn_move (by conv => lhs; whnf)) ?_
      refine wd_take 6 _ _ rfl (by kernel_rfl) hS (yd_do fun A hA => rn_indexAddr sl_22 rfl rfl (by omega)) ?_
      refine wd_take 7 _ _ rfl (by kernel_rfl) hS (yd_do fun A hA => rn_load p_9 rfl (((hx.ext hX (fun _ h => h)).ext hA (fun _ h => h.elim)).at0 (eS_at hj) rfl)) ?_
      refine wd_take 8 _ _ rfl (by kernel_rfl) hS (yd_do fun A hA => rn_sneq rfl rfl) ?_
      refine wd_done (by kernel_rfl) ?_ _
      replace hX := hX.tr hS
      refine W_cond rfl (fun hc2 => ?_) (fun hc2 => ?_)
      · refine W_seq ?_
        refine W_region ?_
        refine wl_val (rn_assign (by conv => lhs; whnf)) ?_
        refine wl_nil ?_
        refine W_ret ?_
        have hnl : ¬ l = m := fun e => by have h1 := of_decide_eq_true hc2; rw [e, hj] at hi; cases hi; exact h1 rfl
        exact ⟨_, resR1 (res1_tmp rfl), hX, by rw [decide_eq_false hnl]; rfl⟩
      · refine W_skip ?_
        refine W_region ?_
        refine wl_val (rn_move (by conv => lhs; whnf)) ?_
        refine wl_val (rn_add rfl rfl (by omega)) ?_
        refine wl_val (rn_assign (by conv => lhs; whnf)) ?_
        refine wl_nil ?_
        have hxy : x = y := by have := of_decide_eq_false hc2; simpa using this
        exact ⟨rfl, i + 1, ⟨rfl, rfl, rfl, trivial⟩, ⟨hX, ⟨hlt, by rw [List.take_add_one, List.take_add_one, htk, hi, hj, hxy]⟩⟩, by omega⟩
    · have hge := of_decide_eq_false hc1; simp only [Int.ofNat_lt, Nat.not_lt] at hge
      have hlm : l = m := by have h1 : l.take i = l := List.take_of_length_le hge; have h2 : m.take i = m := List.take_of_length_le (by omega); rw [← h1, ← h2, htk]
      refine W_exit ?_   -- exit 0
      refine W_seq ?_
      refine W_region ?_
      refine wl_val (rn_assign (by conv => lhs; whnf)) ?_
      refine wl_nil ?_
      refine W_ret ?_
      exact ⟨_, resR1 (res1_tmp rfl), hX, by rw [decide_eq_true hlm]; rfl⟩
end Go.Proofs.YtaddeakfojpdoaaGreatDoorC
