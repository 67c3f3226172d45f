/- Tries in memory. -/
import Derived.Test.YtaddeakfojpdoaaGreatDoorBunM6
import Derived.Test.YtaddeakfojpdoaaGreatDoorBunM5
import Derived.Test.YtaddeakfojpdoaaGreatDoorBunM3
import Derived.Test.YtaddeakfojpdoaaGreatDoorBunM2
set_option linter.unusedVariables false
set_option linter.unusedSimpArgs false
namespace Go.Proofs.YtaddeakfojpdoaaGreatDoorC
open Go.RowKit
/-- v points to the tree t; no block of M is read. -/
inductive TrM (M : Nat → Prop) (w : World) : Tr → Value → Prop
  | nil : TrM M w .bare (.pointer none)
  | box {b : Nat} {v1 v2 v3 v4 : Value} {ps : List Value} {us : List (List Value)} {ss : List Int} {ks : List Str} {vs : List Tr} (hb : ¬ M b) (hB : IsBox w b [v1, v2, v3, v4]) (h1 : MapR M w eI1 0 v1 v2 ss us) (h2 : MapR M w eS1 1 v3 v4 ks (ps.map fun p => [p])) (h3 : ps.length = vs.length)
      (h4 : ∀ (i : Nat) (t : Tr) (p : Value), vs[i]? = some t → ps[i]? = some p → TrM M w t p) : TrM M w (.node ss ks vs) (.pointer (some ⟨b, 0, none⟩))
theorem TrM.ext {M M' : Nat → Prop} {w w' : World} (hE : Ext M' w w') (hm : ∀ i, M' i → M i) {t : Tr} {v : Value} (h : TrM M w t v) : TrM M w' t v := by
  induction h with
  | nil => exact .nil
  | box hb hB h1 h2 h3 _ ih => exact .box hb (hB.ext hE fun h => hb (hm _ h)) (h1.ext hE hm) (h2.ext hE hm) h3 ih
theorem TrM.sub {M M' : Nat → Prop} {w : World} (hm : ∀ i, M' i → i < w.heap.size → M i) {t : Tr} {v : Value} (h : TrM M w t v) : TrM M' w t v := by
  induction h with
  | nil => exact .nil
  | box hb hB h1 h2 h3 _ ih => exact .box (fun h => hb (hm _ h hB.lt)) hB (h1.sub hm) (h2.sub hm) h3 ih
theorem TrM.ptr {M : Nat → Prop} {w : World} {t : Tr} {v : Value} (h : TrM M w t v) : ∃ a, v = .pointer a := by cases h; exact ⟨_, rfl⟩; exact ⟨_, rfl⟩
theorem TrM.one {M : Nat → Prop} {w : World} {t : Tr} {v : Value} (h : TrM M w t v) : v.oneCell' = true ∧ v.cells = #[v] := by obtain ⟨a, rfl⟩ := h.ptr; exact ⟨rfl, rfl⟩
/-- A node's cells. -/
def NdC (M : Nat → Prop) (w : World) (t : Tr) (cs : List Value) : Prop := ∃ (v1 v2 v3 v4 : Value) (ps : List Value) (us : List (List Value)), cs = [v1, v2, v3, v4] ∧ MapR M w eI1 0 v1 v2 t.subs us ∧ MapR M w eS1 1 v3 v4 t.keys (ps.map fun p => [p]) ∧ ps.length = t.vals.length ∧
  ∀ (i : Nat) (k : Tr) (p : Value), t.vals[i]? = some k → ps[i]? = some p → TrM M w k p
theorem NdC.ext {M M' : Nat → Prop} {w w' : World} {t : Tr} {cs : List Value} (h : NdC M w t cs) (hE : Ext M' w w') (hm : ∀ i, M' i → M i) : NdC M w' t cs := by
  obtain ⟨v1, v2, v3, v4, ps, us, e, h1, h2, h3, h4⟩ := h
  exact ⟨v1, v2, v3, v4, ps, us, e, h1.ext hE hm, h2.ext hE hm, h3, fun i k p hk hp => (h4 i k p hk hp).ext hE hm⟩
theorem NdC.sub {M M' : Nat → Prop} {w : World} {t : Tr} {cs : List Value} (h : NdC M w t cs) (hm : ∀ i, M' i → i < w.heap.size → M i) : NdC M' w t cs := by
  obtain ⟨v1, v2, v3, v4, ps, us, e, h1, h2, h3, h4⟩ := h
  exact ⟨v1, v2, v3, v4, ps, us, e, h1.sub hm, h2.sub hm, h3, fun i k p hk hp => (h4 i k p hk hp).sub hm⟩
theorem NdC.bare {M : Nat → Prop} {w : World} : NdC M w .bare [.slice none 0 0, .slice none 0 0, .slice none 0 0, .slice none 0 0] :=
  ⟨_, _, _, _, [], [], rfl, ⟨Sl.nil _ _ _, Sl.nil _ _ _, rfl⟩, ⟨Sl.nil _ _ _, Sl.nil _ _ _, rfl⟩, rfl, fun i k p h => by simp [Tr.vals] at h⟩
/-- A tree's cells, by its pointer. -/
theorem TrM.cells {M : Nat → Prop} {w : World} {t : Tr} {v : Value} (h : TrM M w t v) : (v = .pointer none ∧ t = .bare) ∨ ∃ b cs, v = .pointer (some ⟨b, 0, none⟩) ∧ ¬ M b ∧ IsBox w b cs ∧ NdC M w t cs := by
  cases h with
  | nil => exact .inl ⟨rfl, rfl⟩
  | box hb hB h1 h2 h3 h4 => exact .inr ⟨_, _, rfl, hb, hB, _, _, _, _, _, _, rfl, h1, h2, h3, h4⟩
theorem NdC.tree {M : Nat → Prop} {w : World} {t : Tr} {cs : List Value} {b : Nat} (h : NdC M w t cs) (hb : ¬ M b) (hB : IsBox w b cs) : TrM M w t (.pointer (some ⟨b, 0, none⟩)) := by
  obtain ⟨v1, v2, v3, v4, ps, us, rfl, h1, h2, h3, h4⟩ := h
  cases t; exact .box hb hB h1 h2 h3 h4
theorem NdC.parts {M : Nat → Prop} {w : World} {t : Tr} {cs : List Value} (h : NdC M w t cs) : ∃ (q1 : Option Addr) (n1 c1 : Nat) (q2 : Option Addr) (n2 c2 : Nat) (q3 : Option Addr) (n3 c3 : Nat) (q4 : Option Addr) (n4 c4 : Nat) (us : List (List Value)) (ps : List Value), cs = [.slice q1 n1 c1, .slice q2 n2 c2, .slice q3 n3 c3, .slice q4 n4 c4] ∧ MapR M w eI1 0 (.slice q1 n1 c1) (.slice q2 n2 c2) t.subs us ∧ MapR M w eS1 1 (.slice q3 n3 c3) (.slice q4 n4 c4) t.keys (ps.map fun p => [p]) ∧
    ps.length = t.vals.length ∧ ∀ (i : Nat) (k : Tr) (p : Value), t.vals[i]? = some k → ps[i]? = some p → TrM M w k p := by
  obtain ⟨v1, v2, v3, v4, ps, us, rfl, h1, h2, h3, h4⟩ := h
  obtain ⟨q1, n1, c1, rfl⟩ := h1.keys.shape; obtain ⟨q2, n2, c2, rfl⟩ := h1.vals.shape
  obtain ⟨q3, n3, c3, rfl⟩ := h2.keys.shape; obtain ⟨q4, n4, c4, rfl⟩ := h2.vals.shape
  exact ⟨_, _, _, _, _, _, _, _, _, _, _, _, us, ps, rfl, h1, h2, h3, h4⟩
theorem putW_tr {M : Nat → Prop} {w : World} {ks : List Str} {l : Str} {vs : List Tr} {ps : List Value} {k : Tr} {vk : Value} (h1 : vs.length = ks.length) (h2 : ps.length = ks.length) (hk : ∀ (i : Nat) (t : Tr) (p : Value), vs[i]? = some t → ps[i]? = some p → TrM M w t p) (hv : TrM M w k vk) :
    ∀ (i : Nat) (t : Tr) (p : Value), (putW ltS ks l vs k)[i]? = some t → (putW ltS ks l ps vk)[i]? = some p → TrM M w t p := by
  intro i t p
  have hb := lb_le (lt := ltS) ks l
  unfold putW
  by_cases ha : isAt ltS ks l = true
  · rw [if_pos ha, if_pos ha]
    have hlt := isAt_lt ha
    intro h3 h4
    rw [List.getElem?_set] at h3 h4
    by_cases e : lb ltS ks l = i
    · rw [if_pos e, if_pos (by omega)] at h3 h4
      cases h3; cases h4; exact hv
    · rw [if_neg e] at h3 h4; exact hk i t p h3 h4
  · rw [if_neg ha, if_neg ha]
    intro h3 h4
    rw [List.getElem?_append, List.length_take, Nat.min_eq_left (by omega)] at h3 h4
    by_cases c : i < lb ltS ks l
    · rw [if_pos c, List.getElem?_take_of_lt c] at h3 h4; exact hk i t p h3 h4
    · rw [if_neg c] at h3 h4
      cases hj : i - lb ltS ks l with
      | zero => rw [hj] at h3 h4; simp only [List.getElem?_cons_zero, Option.some.injEq] at h3 h4; subst h3; subst h4; exact hv
      | succ j => rw [hj] at h3 h4; rw [List.getElem?_cons_succ, List.getElem?_drop] at h3 h4; exact hk _ t p h3 h4
/-- A node's cells as four slices. -/
theorem NdC.shape {M : Nat → Prop} {w : World} {t : Tr} {cs : List Value} (h : NdC M w t cs) : ∃ q1 n1 c1 q2 n2 c2 q3 n3 c3 q4 n4 c4, cs = [.slice q1 n1 c1, .slice q2 n2 c2, .slice q3 n3 c3, .slice q4 n4 c4] := by
  obtain ⟨v1, v2, v3, v4, ps, us, rfl, h1, h2, h3, h4⟩ := h
  obtain ⟨q1, n1, c1, rfl⟩ := h1.keys.shape; obtain ⟨q2, n2, c2, rfl⟩ := h1.vals.shape
  obtain ⟨q3, n3, c3, rfl⟩ := h2.keys.shape; obtain ⟨q4, n4, c4, rfl⟩ := h2.vals.shape
  exact ⟨_, _, _, _, _, _, _, _, _, _, _, _, rfl⟩
section
variable {P : Program} {σ : Env} {w : World} {dst : Option Nat} {ty : TypeId} {pos : String} {g}
/-- A pointer, compared with nil. -/
theorem rn_ptr_eql {t u : TypeId} {af} (ht : (match P.underlying t with | some (.pointer ..) => true | _ => false) = true) {x y : Operand} {a : Option Addr} (hx : ev σ x = .pointer a) (hy : ev σ y = .pointer none) :
    Rn P σ w ⟨dst, .binOp .eql t x y u, ty, pos, af, g⟩ (.bool (a.isNone)) := by
  show (execOp (ev σ) _).run P w = _
  have h1' : ∀ d, (Op.equalIn (d + 1) t (.pointer a) (.pointer none)).run P w = .ok (a.isNone) w := by
    intro d
    cases hu : P.underlying t with
    | none => simp [hu] at ht
    | some d => cases d <;> simp [hu] at ht; cases a <;> simp only [Op.equalIn, Sem.run_bind, run_underlying hu, Result.andThen_ok, Sem.run_pure] <;> rfl
  have h1 := h1' 9999
  have h2 : (binOp .eql t (.pointer a) (.pointer none)).run P w = .ok (.bool (a.isNone)) w := by
    show (do pure (Value.bool (← Op.equal t (.pointer a) (.pointer none)))).run P w = _
    rw [Sem.run_bind]
    rw [show Op.equal t (.pointer a) (.pointer none) = Op.equalIn (9999 + 1) t (.pointer a) (.pointer none) from rfl, h1]
    rfl
  have h3 : (eqGuard .eql t x y (.pointer a) (.pointer none)).run P w = .ok () w := by cases a <;> rfl
  simp only [execOp, hx, hy]
  rw [Sem.run_bind, Sem.run_bind, h3, Result.andThen_ok, h2]
  rfl
/-- A field of a struct's value, of a struct type. -/
theorem rn_fieldS {t u : TypeId} {f off k : Nat} {af} (hF : FieldT P t f off u k) (hS : structT P u k) {x : Operand} {cs vs : List Value} (hx : ev σ x = .agg cs.toArray) (h : (cs.drop off).take k = vs) :
    Rn P σ w ⟨dst, .field t x f, ty, pos, af, g⟩ (.agg vs.toArray) := by
  show (execOp (ev σ) _).run P w = _
  obtain ⟨fs, fl, i, h1, h2, h3, h4, h5, h6⟩ := hF.spec
  subst h4; subst h
  have hsz := run_size (w := w) hS.2
  simp [execOp, hx, Instr.field, run_underlying h1, h2, asAgg, part, hS.agg, hsz, h3, List.extract_eq_take_drop]
end
end Go.Proofs.YtaddeakfojpdoaaGreatDoorC

/- The program's records as lists of cells. -/
set_option linter.unusedVariables false
set_option linter.unusedSimpArgs false
namespace Go.Proofs.YtaddeakfojpdoaaGreatDoorC
open Go.RowKit
structure MsgD where
  topic : Str
  payload : Str
  kept : Bool
  deriving DecidableEq
def MsgD.enc (m : MsgD) : List Value := [Sv m.topic, Sv m.payload, .bool m.kept]
structure OpD where
  kind : Int
  sub : Int
  text : Str
  payload : Str
  keep : Bool
  deriving DecidableEq
def OpD.enc (o : OpD) : List Value := [.int .i64 o.kind, .int .i64 o.sub, Sv o.text, Sv o.payload, .bool o.keep]
structure AnsD where
  err : Int
  a : Int
  b : Int
  msg : MsgD
  deriving DecidableEq
def AnsD.enc (x : AnsD) : List Value := [.int .i64 x.err, .int .i64 x.a, .int .i64 x.b] ++ x.msg.enc
structure CallD where
  thread : Int
  place : Int
  op : OpD
  ans : AnsD
  from_ : Int
  to_ : Int
  deriving DecidableEq
def CallD.enc (c : CallD) : List Value := [.int .i64 c.thread, .int .i64 c.place] ++ c.op.enc ++ c.ans.enc ++ [.int .i64 c.from_, .int .i64 c.to_]
theorem MsgD.one (m : MsgD) : ∀ v ∈ m.enc, v.oneCell' = true := by intro v hv; simp only [MsgD.enc, List.mem_cons, List.not_mem_nil, or_false] at hv; rcases hv with rfl | rfl | rfl <;> rfl
theorem OpD.one (m : OpD) : ∀ v ∈ m.enc, v.oneCell' = true := by intro v hv; simp only [OpD.enc, List.mem_cons, List.not_mem_nil, or_false] at hv; rcases hv with rfl | rfl | rfl | rfl | rfl <;> rfl
theorem AnsD.one (m : AnsD) : ∀ v ∈ m.enc, v.oneCell' = true := by
  intro v hv; simp only [AnsD.enc, List.mem_append, List.mem_cons, List.not_mem_nil, or_false] at hv
  rcases hv with (rfl | rfl | rfl) | h
  all_goals first | rfl | exact MsgD.one _ _ h
theorem CallD.one (m : CallD) : ∀ v ∈ m.enc, v.oneCell' = true := by
  intro v hv; simp only [CallD.enc, List.mem_append, List.mem_cons, List.not_mem_nil, or_false] at hv
  rcases hv with (((rfl | rfl) | h) | h) | (rfl | rfl)
  all_goals first | rfl | exact OpD.one _ _ h | exact AnsD.one _ _ h
theorem msg_eqs (x y : MsgD) : EqS Tryz.prog 2 62 (.agg x.enc.toArray) (.agg y.enc.toArray) (decide (x = y)) := by
  have h := eqs_struct (P := Tryz.prog) (t := 62) (m := 1) (xs := x.enc.toArray) (ys := y.enc.toArray) (by kernel_rfl) sh_62 fs_62
    (EqF.cons rfl (part_1 p_9 rfl) (part_1 p_9 rfl) (eqs_str us_9) (EqF.cons rfl (part_1 p_9 rfl) (part_1 p_9 rfl) (eqs_str us_9) (EqF.cons rfl (part_1 p_4 rfl) (part_1 p_4 rfl) (eqs_bool ub_4) .nil)))
  rw [show decide (x = y) = (decide (x.topic = y.topic) && (decide (x.payload = y.payload) && (decide (x.kept = y.kept) && true))) from ?_]
  · exact h
  · obtain ⟨a, b, c⟩ := x; obtain ⟨a', b', c'⟩ := y
    by_cases h1 : a = a' <;> by_cases h2 : b = b' <;> by_cases h3 : c = c' <;> simp [h1, h2, h3]
theorem map_at {α : Type} {f : α → List Value} {l : List α} {i : Nat} {x : α} (h : l[i]? = some x) : (l.map f)[i]? = some (f x) := by simp [h]
end Go.Proofs.YtaddeakfojpdoaaGreatDoorC

/- The functions of a set of numbers. -/
set_option linter.unusedVariables false
set_option linter.unusedSimpArgs false
set_option maxRecDepth 100000
namespace Go.Proofs.YtaddeakfojpdoaaGreatDoorC
open Go.RowKit
/-- A set of numbers reads as a rising list. -/
def SetR (M : Nat → Prop) (w : World) (v : Value) (ks : List Int) : Prop := ∃ v1 v2 vs, v = .agg #[v1, v2] ∧ MapR M w eI1 0 v1 v2 ks vs
theorem SetR.ext {M M' : Nat → Prop} {w w' : World} {v : Value} {ks : List Int} (h : SetR M w v ks) (hE : Ext M' w w') (hm : ∀ i, M' i → M i) : SetR M w' v ks := by
  obtain ⟨v1, v2, vs, e, h⟩ := h; exact ⟨v1, v2, vs, e, h.ext hE hm⟩
theorem SetR.sub {M M' : Nat → Prop} {w : World} {v : Value} {ks : List Int} (h : SetR M w v ks) (hm : ∀ i, M' i → i < w.heap.size → M i) : SetR M' w v ks := by
  obtain ⟨v1, v2, vs, e, h⟩ := h; exact ⟨v1, v2, vs, e, h.sub hm⟩
theorem unit_one {M : Nat → Prop} {w : World} {v : Value} {vs : List (List Value)} (h : Sl M w v 0 vs) : ∀ r ∈ vs, ∀ u ∈ r, u.oneCell' = true := fun r hr u hu => by
  have := List.length_eq_zero_iff.1 (h.each r hr); subst this; cases hu
theorem foldK_sorted (l : List Int) : ∀ s, Sorted ltI s → Sorted ltI (l.foldl (putK ltI) s) := by
  induction l with
  | nil => intro s h; exact h
  | cons x l ih => intro s h; exact ih _ (putK_sorted lo_int h x)
theorem foldK_len (l : List Int) : ∀ s : List Int, (l.foldl (putK ltI) s).length ≤ s.length + l.length := by
  induction l with
  | nil => intro s; simp
  | cons x l ih => intro s; have := ih (putK ltI s x); have := putK_len (lt := ltI) s x; simp only [List.foldl_cons, List.length_cons]; omega
theorem foldK_mem (l : List Int) : ∀ s, Sorted ltI s → ∀ y, y ∈ l.foldl (putK ltI) s ↔ y ∈ s ∨ y ∈ l := by
  induction l with
  | nil => intro s h y; simp
  | cons x l ih =>
    intro s h y
    rw [List.foldl_cons, ih _ (putK_sorted lo_int h x), putK_mem lo_int h]
    simp only [List.mem_cons]
    constructor
    · rintro ((h | h) | h); exact .inr (.inl h); exact .inl h; exact .inr (.inr h)
    · rintro (h | h | h); exact .inl (.inr h); exact .inl (.inl h); exact .inr h
theorem sorted_nil : Sorted ltI [] := List.Pairwise.nil
-- (bellman/set.Set[int]).With
theorem with_ok (w : World) (ks : List Int) {v : Value} (hs : SetR Non w v ks) (x : Int) (hord : Sorted ltI ks) (hn : ks.length ≤ 1000000) : Fn Tryz.prog 71 #[v, .int .i64 x] w fun u w' => SetR (Old w) w' u (putK ltI ks x) := by
  obtain ⟨v1, v2, vs, rfl, hm⟩ := hs
  obtain ⟨q1, n1, c1, rfl⟩ := hm.keys.shape; obtain ⟨q2, n2, c2, rfl⟩ := hm.vals.shape
  have hX := Ext.refl Non w
  refine fn_of_W (args := [_, _]) Tryz.func71 rfl (by kernel_rfl) rfl ?_
  refine W_seq ?_
  refine W_region ?_
  refine wl_boxS rfl ?_; intro b2 w1 hb2 hE1 hB2
  have hq2 : w.heap.size ≤ b2 := Nat.le_trans hX.size hb2
  have hl2 : Mine Non w b2 := .inr hq2
  replace hX := hX.tr hE1
  refine wl_alloc z_98 ?_; intro b4 w2 hb4 hE2 hB4
  have hn2_4 : b2 < b4 := Nat.lt_of_lt_of_le hB2.lt hb4
  have hq4 : w.heap.size ≤ b4 := Nat.le_trans hX.size hb4
  have hl4 : Mine Non w b4 := .inr hq4
  replace hX := hX.tr hE2
  replace hB2 := hB2.ext hE2 id
  refine wl_nil ?_
  refine W_seq ?_
  refine W_region ?_
  refine wl_val (rn_fieldAddr f_98_0 (by decide) rfl) ?_
  refine wl_val (rn_loadS s_96 (vs := [.slice q1 n1 c1, .slice q2 n2 c2]) rfl rfl (hB2.part rfl (Nat.le_of_ble_eq_true rfl))) ?_
  refine wl_val (rn_move (by conv => lhs; whnf)) ?_
  refine wl_val (rn_build' b_158 rfl rfl (cs := _) rfl) ?_
  have hz4 := hB4.lt
  have hXc := hX
  refine wl_call e_105 rfl (mput_iu w2 ks vs x (hm.ext hX (fun _ h => h)) hord hn (unit_one hm.vals)) ?_; intro v9 w3 hE3 hR3
  replace hX := hX.tr hE3
  replace hB2 := hB2.ext hE3 id; replace hB4 := hB4.ext hE3 id
  obtain ⟨u1, u2, rfl, hM9⟩ := hR3
  obtain ⟨a1, l1, c1, rfl⟩ := id hM9.keys.shape; obtain ⟨a2, l2, c2, rfl⟩ := id hM9.vals.shape
  refine wl_val (rn_build' b_98 rfl rfl (cs := [.slice a1 l1 c1, .slice a2 l2 c2]) rfl) ?_
  have hBo := hB4
  refine wl_storeB s_98 rfl rfl rfl (two1 rfl rfl) hB4 rfl ?_; intro w4 hE4 hB4 hz4
  replace hX := hX.mine hE4 hl4
  replace hB2 := hB2.ext hE4 (fun h => by omega)
  replace hM9 := hM9.ext hE4 (fun i e => by unfold Old; omega)
  refine wl_nil ?_
  refine W_ret ?_
  exact ⟨_, resR1 (res1_box s_98 rfl hB4 rfl), hX, ⟨_, _, _, rfl, hM9.sub (fun i h _ => Nat.lt_of_lt_of_le h hXc.size)⟩⟩
-- (bellman/set.Set[int]).Has
theorem has_ok (w : World) (ks : List Int) {v : Value} (hs : SetR Non w v ks) (x : Int) (hord : Sorted ltI ks) (hn : ks.length ≤ 1000000) : Fn Tryz.prog 122 #[v, .int .i64 x] w fun u w' => u = .bool (isAt ltI ks x) := by
  obtain ⟨v1, v2, vs, rfl, hm⟩ := hs
  obtain ⟨q1, n1, c1, rfl⟩ := hm.keys.shape; obtain ⟨q2, n2, c2, rfl⟩ := hm.vals.shape
  have hX := Ext.refl Non w
  refine fn_of_W (args := [_, _]) Tryz.func122 rfl (by kernel_rfl) rfl ?_
  refine W_seq ?_
  refine W_region ?_
  refine wl_boxS rfl ?_; intro b2 w1 hb2 hE1 hB2
  have hq2 : w.heap.size ≤ b2 := Nat.le_trans hX.size hb2
  have hl2 : Mine Non w b2 := .inr hq2
  replace hX := hX.tr hE1
  refine wl_val (rn_assign (by conv => lhs; whnf)) ?_
  refine wl_nil ?_
  refine W_seq ?_
  refine W_region ?_
  refine wl_val (rn_fieldAddr f_98_0 (by decide) rfl) ?_
  refine wl_val (rn_loadS s_96 (vs := [.slice q1 n1 c1, .slice q2 n2 c2]) rfl rfl (hB2.part rfl (Nat.le_of_ble_eq_true rfl))) ?_
  refine wl_val (rn_move (by conv => lhs; whnf)) ?_
  refine wl_call e_152 rfl (mget_iu w1 ks vs x (hm.ext hX (fun _ h => h)) hord hn) ?_; intro v11 w2 hE2 hR2
  replace hX := hX.tr hE2
  replace hB2 := hB2.ext hE2 id
  subst hR2
  refine wl_val (rn_move (by conv => lhs; whnf)) ?_
  refine wl_val (rn_extract rfl rfl) ?_
  refine wl_val (rn_extract rfl rfl) ?_
  refine wl_alloc z_158 ?_; intro b5 w3 hb5 hE3 hB5
  have hn2_5 : b2 < b5 := Nat.lt_of_lt_of_le hB2.lt hb5
  have hq5 : w.heap.size ≤ b5 := Nat.le_trans hX.size hb5
  have hl5 : Mine Non w b5 := .inr hq5
  replace hX := hX.tr hE3
  replace hB2 := hB2.ext hE3 id
  refine wl_storeB s_158 rfl rfl rfl (by simp) hB5 rfl ?_; intro w4 hE4 hB5 hz4
  replace hX := hX.mine hE4 hl5
  replace hB2 := hB2.ext hE4 (fun h => by omega)
  refine wl_val (rn_assign (by conv => lhs; whnf)) ?_
  refine wl_nil ?_
  refine W_seq ?_
  refine W_region ?_
  refine wl_val (rn_move (by conv => lhs; whnf)) ?_
  refine wl_val (rn_assign (by conv => lhs; whnf)) ?_
  refine wl_nil ?_
  refine W_ret ?_
  exact ⟨_, resR1 (res1_tmp rfl), hX, rfl⟩
-- (bellman/set.Set[int]).Len
theorem len_ok (w : World) (ks : List Int) {v : Value} (hs : SetR Non w v ks) (hn : ks.length ≤ 1000000) : Fn Tryz.prog 106 #[v] w fun u w' => u = .int .i64 (ks.length : Nat) := by
  obtain ⟨v1, v2, vs, rfl, hm⟩ := hs
  obtain ⟨q1, n1, c1, rfl⟩ := hm.keys.shape; obtain ⟨q2, n2, c2, rfl⟩ := hm.vals.shape
  have hX := Ext.refl Non w
  refine fn_of_W (args := [_]) Tryz.func106 rfl (by kernel_rfl) rfl ?_
  refine W_seq ?_
  refine W_region ?_
  refine wl_boxS rfl ?_; intro b1 w1 hb1 hE1 hB1
  have hq1 : w.heap.size ≤ b1 := Nat.le_trans hX.size hb1
  have hl1 : Mine Non w b1 := .inr hq1
  replace hX := hX.tr hE1
  refine wl_val (rn_assign (by conv => lhs; whnf)) ?_
  refine wl_nil ?_
  refine W_seq ?_
  refine W_region ?_
  refine wl_val (rn_fieldAddr f_98_0 (by decide) rfl) ?_
  refine wl_val (rn_loadS s_96 (vs := [.slice q1 n1 c1, .slice q2 n2 c2]) rfl rfl (hB1.part rfl (Nat.le_of_ble_eq_true rfl))) ?_
  refine wl_call e_144 rfl (mlen_iu w1 ks vs (hm.ext hX (fun _ h => h)) hn) ?_; intro v5 w2 hE2 hR2
  replace hX := hX.tr hE2
  replace hB1 := hB1.ext hE2 id
  subst hR2
  refine wl_val (rn_assign (by conv => lhs; whnf)) ?_
  refine wl_nil ?_
  refine W_ret ?_
  exact ⟨_, resR1 (res1_tmp rfl), hX, rfl⟩
-- slices.Values[[]int,int]$1
theorem values_iter (ks : List Int) {v : Value} (M : Nat → Prop) (w0 : World) (b1 : Nat) (hs : Sl M w0 v 1 (ks.map eI1)) (hC1 : IsBox w0 b1 [v]) (h1 : ¬ M b1) :
    Iter Tryz.prog M w0 (.func (.func 104) #[] #[.pointer (some ⟨b1, 0, none⟩)]) (fun x : Int => #[.int .i64 x]) ks := by
  refine iter_of e_104 fun l W J Jx hW hX hY => ?_
  obtain ⟨a, c, rfl, _⟩ := hs.len
  simp only [List.length_map] at hs hC1 ⊢
  have hbig : ks.length ≤ big := by obtain ⟨⟨a1, c1, e1, e2, e3, _⟩, _⟩ := hs; simp at e2; omega
  have hbig2 : big = 9223372036854775807 := rfl
  have ea : (#[Value.func (.yield l) #[] #[]] ++ #[.pointer (some ⟨b1, 0, none⟩)] : Array Value) = [Value.func (.yield l) #[] #[], .pointer (some ⟨b1, 0, none⟩)].toArray := by simp
  rw [ea]
  refine calls_of_W (R := fun v W' => Tl M w0 W (J ks) [] W' ∨ Tl M w0 W Jx [] W') Tryz.func104 rfl (by kernel_rfl) rfl ?_
  refine W_seq ?_
  refine W_region ?_
  refine wl_val (rn_load1 p_23 rfl (hC1.ext hX.w0 h1) rfl) ?_
  refine wl_val (rn_len sl_23 rfl) ?_
  refine wl_val (rn_move (by conv => lhs; whnf)) ?_
  refine wl_nil ?_
  refine W_block ?_   -- block 0
  refine W_loopS (S := Nat) [0, 5, 6, 7] (fun i => [.func (.yield l) #[] #[], .slice a ks.length c, .int .i64 (ks.length : Nat), .int .i64 (i : Nat)]) (fun i A => (Tl M w0 W (J (ks.take i)) [] A) ∧ (i ≤ ks.length)) (fun i => ks.length - i) 0 ⟨rfl, rfl, rfl, rfl, trivial⟩ ⟨(hX.less (by simp)), Nat.zero_le _⟩ ?_
  rintro τ0 i A0 ⟨hX, hI0⟩
  refine W_seq ?_
  refine W_region ?_
  refine wl_val (rn_lss rfl rfl) ?_
  refine wl_nil ?_
  refine W_seq ?_
  refine W_cond rfl (fun hc0 => ?_) (fun hc0 => ?_)
  · have hlt := of_decide_eq_true hc0; simp only [Int.ofNat_lt] at hlt
    obtain ⟨x, hi⟩ : ∃ x, ks[i]? = some x := ⟨_, List.getElem?_eq_getElem hlt⟩
    obtain ⟨b, o, ea⟩ := hs.base (by intro e; simp at e; subst e; simp at hlt); subst ea
    have htk : ks.take (i + 1) = ks.take i ++ [x] := by rw [List.take_add_one, hi]; rfl
    have hsp : ks = ks.take i ++ x :: ks.drop (i + 1) := by obtain ⟨h1, h2⟩ := List.getElem?_eq_some_iff.1 hi; rw [← h2, List.getElem_cons_drop, List.take_append_drop]
    refine W_skip ?_
    refine W_seq ?_
    refine W_block ?_   -- block 1
    refine W_seq ?_
    refine W_region ?_
    refine wl_val (rn_indexAddr sl_23 rfl rfl (by omega)) ?_
    refine wl_val (rn_load p_3 rfl ((hs.ext hX.w0 (fun _ h => h)).at0 (eI_at hi) rfl)) ?_
    refine wl_val (rn_assign (by conv => lhs; whnf)) ?_
    refine wl_nil ?_
    refine W_seq ?_
    refine W_region ?_
    refine wl_val (rn_move (by conv => lhs; whnf)) ?_
    refine wl_val (rn_move (by conv => lhs; whnf)) ?_
    refine wl_yield rfl rfl (hY _ _ _ _ _ hsp hX) ?_; rintro b13 w1 ⟨hE1, hyT, hyF⟩
    refine wl_val (rn_not rfl) ?_
    refine wl_nil ?_
    refine W_cond rfl (fun hc1 => ?_) (fun hc1 => ?_)
    · refine W_ret ?_
      first | exact ⟨_, rfl, .inr ((hyF (by simpa using hc1)).less (by simp))⟩ | exact ⟨_, rfl, .inl (by have hge := of_decide_eq_false hc0; simp only [Int.ofNat_lt, Nat.not_lt] at hge; have hie : i = ks.length := (by omega); subst hie; rw [List.take_length] at hX; exact hX.less (by simp))⟩
    · refine W_skip ?_
      refine W_region ?_
      refine wl_val (rn_add rfl rfl (by omega)) ?_
      refine wl_val (rn_move (by conv => lhs; whnf)) ?_
      refine wl_nil ?_
      replace hX := hyT (by simpa using hc1)
      rw [← htk] at hX
      exact ⟨rfl, i + 1, ⟨rfl, rfl, rfl, rfl, trivial⟩, ⟨(hX.less (by simp)), hlt⟩, by omega⟩
  · refine W_exit ?_   -- exit 0
    first | exact ⟨_, rfl, .inr ((hyF (by simpa using hc1)).less (by simp))⟩ | exact ⟨_, rfl, .inl (by have hge := of_decide_eq_false hc0; simp only [Int.ofNat_lt, Nat.not_lt] at hge; have hie : i = ks.length := (by omega); subst hie; rw [List.take_length] at hX; exact hX.less (by simp))⟩
-- slices.Values[[]int,int]
theorem values_ok (w : World) (ks : List Int) {v : Value} (M : Nat → Prop) (hM : ∀ i, M i → i < w.heap.size) (hs : Sl M w v 1 (ks.map eI1)) : Fn Tryz.prog 70 #[v] w fun u w' => Iter Tryz.prog M w' u (fun x : Int => #[.int .i64 x]) ks := by
  obtain ⟨a, c, rfl, _⟩ := hs.len
  have hX := Ext.refl Non w
  refine fn_of_W (args := [_]) Tryz.func70 rfl (by kernel_rfl) rfl ?_
  refine W_seq ?_
  refine W_region ?_
  refine wl_box1 (by conv => lhs; whnf) rfl ?_; intro b1 w1 hb1 hE1 hB1
  have hq1 : w.heap.size ≤ b1 := Nat.le_trans hX.size hb1
  have hl1 : Mine Non w b1 := .inr hq1
  replace hX := hX.tr hE1
  refine wl_val (rn_assign (by conv => lhs; whnf)) ?_
  refine wl_nil ?_
  refine W_seq ?_
  refine W_region ?_
  refine wl_val (rn_makeFunc rfl) ?_
  refine wl_val (rn_assign (by conv => lhs; whnf)) ?_
  refine wl_nil ?_
  refine W_ret ?_
  exact ⟨_, resR1 (res1_tmp rfl), hX, values_iter ks M _ b1 (hs.ext hX.of_non (fun _ h => h)) hB1 (fun h => by have := hM _ h; omega)⟩
-- (bellman/set.Set[int]).All
theorem all_ok (w : World) (ks : List Int) {v : Value} (M : Nat → Prop) (hM : ∀ i, M i → i < w.heap.size) (hs : SetR M w v ks) : Fn Tryz.prog 43 #[v] w fun u w' => Iter Tryz.prog M w' u (fun x : Int => #[.int .i64 x]) ks := by
  obtain ⟨v1, v2, vs, rfl, hm⟩ := hs
  obtain ⟨q1, n1, c1, rfl⟩ := hm.keys.shape; obtain ⟨q2, n2, c2, rfl⟩ := hm.vals.shape
  have hX := Ext.refl Non w
  refine fn_of_W (args := [_]) Tryz.func43 rfl (by kernel_rfl) rfl ?_
  refine W_seq ?_
  refine W_region ?_
  refine wl_boxS rfl ?_; intro b1 w1 hb1 hE1 hB1
  have hq1 : w.heap.size ≤ b1 := Nat.le_trans hX.size hb1
  have hl1 : Mine Non w b1 := .inr hq1
  replace hX := hX.tr hE1
  refine wl_val (rn_assign (by conv => lhs; whnf)) ?_
  refine wl_nil ?_
  refine W_seq ?_
  refine W_region ?_
  refine wl_val (rn_fieldAddr f_98_0 (by decide) rfl) ?_
  refine wl_val (rn_fieldAddr f_96_0 (by decide) rfl) ?_
  refine wl_val (rn_load1 p_23 rfl hB1 rfl) ?_
  refine wl_call e_70 rfl (values_ok w1 ks M (fun i h => Nat.lt_of_lt_of_le (hM i h) hX.size) (hm.keys.ext hX.of_non (fun _ h => h))) ?_; intro v6 w2 hE2 hR2
  replace hX := hX.tr hE2
  replace hB1 := hB1.ext hE2 id
  have hIt := hR2
  refine wl_val (rn_assign (by conv => lhs; whnf)) ?_
  refine wl_nil ?_
  refine W_ret ?_
  exact ⟨_, resR1 (res1_tmp rfl), hX, hIt⟩
end Go.Proofs.YtaddeakfojpdoaaGreatDoorC

/- Tries: nodes. -/
set_option linter.unusedVariables false
set_option linter.unusedSimpArgs false
set_option maxRecDepth 100000
namespace Go.Proofs.YtaddeakfojpdoaaGreatDoorC
open Go.RowKit
theorem four1 {a b c d : Value} (h1 : a.oneCell' = true) (h2 : b.oneCell' = true) (h3 : c.oneCell' = true) (h4 : d.oneCell' = true) : ∀ x ∈ [a, b, c, d], x.oneCell' = true := by intro x hx; simp only [List.mem_cons, List.not_mem_nil, or_false] at hx; rcases hx with rfl | rfl | rfl | rfl <;> assumption
theorem up_node : (match Tryz.prog.underlying 26 with | some (.pointer ..) => true | _ => false) = true := by kernel_rfl
-- (*bellman/node.Node).own
theorem own_nil (w : World)  : Fn Tryz.prog 68 #[.pointer none] w fun u w' => u = .agg #[.slice none 0 0, .slice none 0 0, .slice none 0 0, .slice none 0 0] := by
  have hX := Ext.refl Non w
  refine fn_of_W (args := [_]) Tryz.func68 rfl (by kernel_rfl) rfl ?_
  refine W_seq ?_
  refine W_region ?_
  refine wl_alloc z_136 ?_; intro b2 w1 hb2 hE1 hB2
  have hq2 : w.heap.size ≤ b2 := Nat.le_trans hX.size hb2
  have hl2 : Mine Non w b2 := .inr hq2
  replace hX := hX.tr hE1
  refine wl_nil ?_
  refine W_seq ?_
  refine W_seq ?_
  refine W_region ?_
  refine wl_val (rn_move (by conv => lhs; whnf)) ?_
  refine wl_val (rn_ptr_eql up_node rfl rfl) ?_
  refine wl_nil ?_
  refine W_cond rfl (fun hc0 => ?_) (fun hc0 => ?_)
  · refine W_seq ?_
    refine W_region ?_
    refine wl_val (rn_build' b_136 rfl rfl (cs := [.slice none 0 0, .slice none 0 0, .slice none 0 0, .slice none 0 0]) rfl) ?_
    refine wl_storeB s_136 rfl rfl rfl (four1 rfl rfl rfl rfl) hB2 rfl ?_; intro w2 hE2 hB2 hz2
    replace hX := hX.mine hE2 hl2
    refine wl_nil ?_
    refine W_ret ?_
    exact ⟨_, resR1 (res1_box s_136 rfl hB2 rfl), hX, rfl⟩
  · exact absurd hc0 (by simp)
-- (*bellman/node.Node).own
theorem own_box (w : World) (b : Nat) (q1 q2 q3 q4 : Option Addr) (n1 n2 n3 n4 c1 c2 c3 c4 : Nat) (hBn : IsBox w b [.slice q1 n1 c1, .slice q2 n2 c2, .slice q3 n3 c3, .slice q4 n4 c4]) : Fn Tryz.prog 68 #[.pointer (some ⟨b, 0, none⟩)] w fun u w' => u = .agg #[.slice q1 n1 c1, .slice q2 n2 c2, .slice q3 n3 c3, .slice q4 n4 c4] := by
  have hX := Ext.refl Non w
  refine fn_of_W (args := [_]) Tryz.func68 rfl (by kernel_rfl) rfl ?_
  refine W_seq ?_
  refine W_region ?_
  refine wl_alloc z_136 ?_; intro b2 w1 hb2 hE1 hB2
  have hq2 : w.heap.size ≤ b2 := Nat.le_trans hX.size hb2
  have hl2 : Mine Non w b2 := .inr hq2
  replace hX := hX.tr hE1
  refine wl_nil ?_
  refine W_seq ?_
  refine W_seq ?_
  refine W_region ?_
  refine wl_val (rn_move (by conv => lhs; whnf)) ?_
  refine wl_val (rn_ptr_eql up_node rfl rfl) ?_
  refine wl_nil ?_
  refine W_cond rfl (fun hc0 => ?_) (fun hc0 => ?_)
  · exact absurd hc0 (by simp)
  · refine W_skip ?_
    refine W_seq ?_
    refine W_region ?_
    refine wl_val (rn_move (by conv => lhs; whnf)) ?_
    refine wl_val (rn_nilCheck rfl) ?_
    refine wl_val (rn_loadB s_136 rfl rfl (hBn.ext hX id)) ?_
    refine wl_storeB s_136 rfl rfl rfl (four1 rfl rfl rfl rfl) hB2 rfl ?_; intro w2 hE2 hB2 hz2
    replace hX := hX.mine hE2 hl2
    refine wl_nil ?_
    refine W_ret ?_
    exact ⟨_, resR1 (res1_box s_136 rfl hB2 rfl), hX, rfl⟩
theorem own_ok (w : World) (t : Tr) {v : Value} {M : Nat → Prop} (ht : TrM M w t v) : Fn Tryz.prog 68 #[v] w fun u w' => ∃ cs : List Value, u = .agg cs.toArray ∧ NdC M w' t cs := by
  rcases ht.cells with ⟨rfl, rfl⟩ | ⟨b, cs, rfl, hb, hBn, hN⟩
  · exact (own_nil w).mono fun u w' _ hu => ⟨_, hu, NdC.bare⟩
  · obtain ⟨q1, n1, c1, q2, n2, c2, q3, n3, c3, q4, n4, c4, rfl⟩ := hN.shape
    exact (own_box w b q1 q2 q3 q4 n1 n2 n3 n4 c1 c2 c3 c4 hBn).mono fun u w' hE hu => ⟨_, hu, hN.ext hE (fun _ h => h.elim)⟩
theorem kid_tr {M : Nat → Prop} {w : World} {t : Tr} {n m : Nat} (hok : t.Ok n m) {l : Str} {ps : List Value} {z : Value} (hlp : ps.length = t.vals.length) (hk : ∀ (i : Nat) (k : Tr) (p : Value), t.vals[i]? = some k → ps[i]? = some p → TrM M w k p) (h1 : isAt ltS t.keys l = true → (ps.map fun p => [p])[lb ltS t.keys l]? = some [z]) (h2 : isAt ltS t.keys l = false → z = .pointer none) : TrM M w (t.kid l) z := by
  unfold Tr.kid
  by_cases ha : isAt ltS t.keys l = true
  · rw [if_pos ha]
    have hlt := isAt_lt ha
    have hv : t.vals[lb ltS t.keys l]? = some (t.vals[lb ltS t.keys l]'(by rw [hok.len]; exact hlt)) := List.getElem?_eq_getElem _
    rw [hv]
    have h3 := h1 ha
    rw [List.getElem?_map, Option.map_eq_some_iff] at h3
    obtain ⟨p, h4, h5⟩ := h3
    cases h5
    exact hk _ _ _ hv h4
  · rw [if_neg ha, h2 (by simpa using ha)]; exact .nil
-- (*bellman/node.Node).Kid
theorem nkid_ok (w : World) (t : Tr) {v : Value} (M : Nat → Prop) (hM : ∀ i, M i → i < w.heap.size) (ht : TrM M w t v) {n m : Nat} (hok : t.Ok n m) (hn : n ≤ 1000000) (l : Str) : Fn Tryz.prog 46 #[v, Sv l] w fun u w' => TrM M w' (t.kid l) u := by
  have hX := Ext.refl Non w
  refine fn_of_W (args := [_, _]) Tryz.func46 rfl (by kernel_rfl) rfl ?_
  refine W_seq ?_
  refine W_region ?_
  refine wl_val (rn_assign (by conv => lhs; whnf)) ?_
  refine wl_nil ?_
  refine W_seq ?_
  refine W_region ?_
  refine wl_val (rn_move (by conv => lhs; whnf)) ?_
  refine wl_call e_68 rfl (own_ok w t (ht.ext hX (fun _ h => h.elim))) ?_; intro v9 w1 hE1 hR1
  replace hX := hX.tr hE1
  obtain ⟨cs, rfl, hN⟩ := hR1; obtain ⟨q1, n1, c1, q2, n2, c2, q3, n3, c3, q4, n4, c4, us, ps, rfl, hm1, hm2, hlp, hk⟩ := hN.parts
  refine wl_val (rn_fieldS f_136_1 s_134 (vs := [_, _]) rfl rfl) ?_
  refine wl_val (rn_move (by conv => lhs; whnf)) ?_
  refine wl_call e_75 rfl (mget_sn w1 t.keys (ps.map fun p => [p]) l (hm2.sub (fun _ h _ => h.elim)) hok.k (by have := hok.kl; omega)) ?_; intro v12 w2 hE2 hR2
  replace hX := hX.tr hE2
  replace hm2 := hm2.ext hE2 (fun _ h => h.elim)
  replace hk := fun i k p x y => (hk i k p x y).ext hE2 (fun _ h => h.elim)
  obtain ⟨z, rfl, hz1, hz2⟩ := hR2
  refine wl_val (rn_move (by conv => lhs; whnf)) ?_
  refine wl_val (rn_extract rfl rfl) ?_
  refine wl_val (rn_extract rfl rfl) ?_
  refine wl_val (rn_assign (by conv => lhs; whnf)) ?_
  refine wl_val (rn_assign (by conv => lhs; whnf)) ?_
  refine wl_nil ?_
  refine W_seq ?_
  refine W_region ?_
  refine wl_val (rn_move (by conv => lhs; whnf)) ?_
  refine wl_val (rn_assign (by conv => lhs; whnf)) ?_
  refine wl_nil ?_
  refine W_ret ?_
  exact ⟨_, resR1 (res1_tmp rfl), hX, kid_tr hok hlp hk hz1 hz2⟩
-- (*bellman/node.Node).Subs
theorem nsubs_ok (w : World) (t : Tr) {v : Value} (M : Nat → Prop) (ht : TrM M w t v) : Fn Tryz.prog 42 #[v] w fun u w' => SetR M w' u t.subs := by
  have hX := Ext.refl Non w
  refine fn_of_W (args := [_]) Tryz.func42 rfl (by kernel_rfl) rfl ?_
  refine W_seq ?_
  refine W_region ?_
  refine wl_alloc z_98 ?_; intro b2 w1 hb2 hE1 hB2
  have hq2 : w.heap.size ≤ b2 := Nat.le_trans hX.size hb2
  have hl2 : Mine Non w b2 := .inr hq2
  replace hX := hX.tr hE1
  refine wl_nil ?_
  refine W_seq ?_
  refine W_region ?_
  refine wl_val (rn_move (by conv => lhs; whnf)) ?_
  refine wl_call e_68 rfl (own_ok w1 t ((ht.sub (M' := fun i => M i ∨ i = b2) (fun i h hlt => by rcases h with h | h; exact h; omega)).ext hX (fun _ h => h.elim))) ?_; intro v4 w2 hE2 hR2
  replace hX := hX.tr hE2
  replace hB2 := hB2.ext hE2 id
  obtain ⟨cs, rfl, hN⟩ := hR2; obtain ⟨q1, n1, c1, q2, n2, c2, q3, n3, c3, q4, n4, c4, us, ps, rfl, hm1, hm2, hlp, hk⟩ := hN.parts
  refine wl_val (rn_fieldS f_136_0 s_98 (vs := [_, _]) rfl rfl) ?_
  have hBo := hB2
  refine wl_storeB s_98 rfl rfl rfl (two1 rfl rfl) hB2 rfl ?_; intro w3 hE3 hB2 hz3
  replace hX := hX.mine hE3 hl2
  replace hm1 := hm1.ext hE3 (fun i e => .inr e)
  refine wl_nil ?_
  refine W_ret ?_
  exact ⟨_, resR1 (res1_box s_98 rfl hB2 rfl), hX, ⟨_, _, us, rfl, hm1.sub (fun i h _ => .inl h)⟩⟩
-- (*bellman/node.Node).WithSub
theorem nwith_ok (w : World) (t : Tr) {v : Value} (M : Nat → Prop) (hM : ∀ i, M i → i < w.heap.size) (ht : TrM M w t v) {n m : Nat} (hok : t.Ok n m) (hn : n ≤ 1000000) (sub : Int) : Fn Tryz.prog 44 #[v, .int .i64 sub] w fun u w' => TrM M w' (t.put [] sub) u := by
  have hX := Ext.refl Non w
  refine fn_of_W (args := [_, _]) Tryz.func44 rfl (by kernel_rfl) rfl ?_
  refine W_seq ?_
  refine W_region ?_
  refine wl_val (rn_assign (by conv => lhs; whnf)) ?_
  refine wl_nil ?_
  refine W_seq ?_
  refine W_region ?_
  refine wl_val (rn_move (by conv => lhs; whnf)) ?_
  refine wl_call e_68 rfl (own_ok w t (ht.ext hX (fun _ h => h.elim))) ?_; intro v7 w1 hE1 hR1
  replace hX := hX.tr hE1
  obtain ⟨cs, rfl, hN⟩ := hR1; obtain ⟨q1, n1, c1, q2, n2, c2, q3, n3, c3, q4, n4, c4, us, ps, rfl, hm1, hm2, hlp, hk⟩ := (hN.sub (M' := fun i => M i ∨ (World.heap w1).size ≤ i) (fun i h hlt => h.resolve_right (by omega))).parts
  refine wl_alloc z_136 ?_; intro b5 w2 hb5 hE2 hB5
  have hq5 : w.heap.size ≤ b5 := Nat.le_trans hX.size hb5
  have hl5 : Mine Non w b5 := .inr hq5
  replace hX := hX.tr hE2
  replace hm1 := hm1.ext hE2 (fun _ h => h.elim)
  replace hm2 := hm2.ext hE2 (fun _ h => h.elim)
  replace hk := fun i k p x y => (hk i k p x y).ext hE2 (fun _ h => h.elim)
  have hBo := hB5
  refine wl_storeB s_136 rfl rfl rfl (four1 rfl rfl rfl rfl) hB5 rfl ?_; intro w3 hE3 hB5 hz3
  replace hX := hX.mine hE3 hl5
  replace hm1 := hm1.ext hE3 (fun i e => by rw [e]; exact .inr hb5)
  replace hm2 := hm2.ext hE3 (fun i e => by rw [e]; exact .inr hb5)
  replace hk := fun i k p x y => (hk i k p x y).ext hE3 (fun i e => by rw [e]; exact .inr hb5)
  refine wl_nil ?_
  refine W_seq ?_
  refine W_region ?_
  refine wl_val (rn_fieldAddr f_136_0 (by decide) rfl) ?_
  refine wl_val (rn_loadS s_98 (vs := [_, _]) rfl rfl (hB5.part rfl (Nat.le_of_ble_eq_true rfl))) ?_
  refine wl_val (rn_move (by conv => lhs; whnf)) ?_
  have hzO := hB5.lt; have hs11 := hX.size
  refine wl_call e_71 rfl (with_ok w3 t.subs ⟨_, _, us, rfl, hm1.sub (M' := Non) (fun _ h _ => h.elim)⟩ sub hok.s (by have := hok.sl; omega)) ?_; intro v11 w4 hE4 hR4
  replace hX := hX.tr hE4
  replace hB5 := hB5.ext hE4 id
  replace hm1 := hm1.ext hE4 (fun _ h => h.elim)
  replace hm2 := hm2.ext hE4 (fun _ h => h.elim)
  replace hk := fun i k p x y => (hk i k p x y).ext hE4 (fun _ h => h.elim)
  obtain ⟨x1, x2, us2, rfl, hM11⟩ := hR4; obtain ⟨a1, l1, g1, rfl⟩ := id hM11.keys.shape; obtain ⟨a2, l2, g2, rfl⟩ := id hM11.vals.shape
  refine wl_val (rn_fieldAddr f_136_0 (by decide) rfl) ?_
  have hBo := hB5
  refine wl_storeP (b := b5) s_98 rfl rfl rfl (two1 rfl rfl) hB5 (Nat.le_of_ble_eq_true rfl) ?_; intro w5 hE5 hB5 hz5
  replace hX := hX.mine hE5 hl5
  replace hm1 := hm1.ext hE5 (fun i e => by rw [e]; exact .inr hb5)
  replace hm2 := hm2.ext hE5 (fun i e => by rw [e]; exact .inr hb5)
  replace hk := fun i k p x y => (hk i k p x y).ext hE5 (fun i e => by rw [e]; exact .inr hb5)
  replace hM11 := hM11.ext hE5 (fun i e => by unfold Old; omega)
  refine wl_nil ?_
  refine W_seq ?_
  refine W_region ?_
  refine wl_val (rn_assign (by conv => lhs; whnf)) ?_
  refine wl_nil ?_
  refine W_ret ?_
  exact ⟨_, resR1 (res1_tmp rfl), hX, (show NdC M _ (.node (putK ltI t.subs sub) t.keys t.vals) _ from ⟨_, _, _, _, ps, us2, rfl, hM11.sub (fun i h _ => Nat.lt_of_lt_of_le (hM i h) hs11), hm2.sub (fun i h _ => .inl h), hlp, fun i k p x y => (hk i k p x y).sub (fun i h _ => .inl h)⟩).tree (fun h => by have := hM _ h; omega) hB5⟩
-- (*bellman/node.Node).Bare
theorem nbare_no (w : World) (t : Tr) {v : Value} (M : Nat → Prop) (hM : ∀ i, M i → i < w.heap.size) (ht : TrM M w t v) {n m : Nat} (hok : t.Ok n m) (hn : n ≤ 1000000) (hne : t.subs = [] → t.keys ≠ []) : Fn Tryz.prog 72 #[v] w fun u w' => u = .bool false := by
  have hX := Ext.refl Non w
  refine fn_of_W (args := [_]) Tryz.func72 rfl (by kernel_rfl) rfl ?_
  refine W_seq ?_
  refine W_region ?_
  refine wl_val (rn_assign (by conv => lhs; whnf)) ?_
  refine wl_nil ?_
  refine W_seq ?_
  refine W_region ?_
  refine wl_val (rn_move (by conv => lhs; whnf)) ?_
  refine wl_call e_68 rfl (own_ok w t (ht.ext hX (fun _ h => h.elim))) ?_; intro v5 w1 hE1 hR1
  replace hX := hX.tr hE1
  obtain ⟨cs, rfl, hN⟩ := hR1; obtain ⟨q1, n1, c1, q2, n2, c2, q3, n3, c3, q4, n4, c4, us, ps, rfl, hm1, hm2, hlp, hk⟩ := (hN.sub (M' := fun i => M i ∨ (World.heap w1).size ≤ i) (fun i h hlt => h.resolve_right (by omega))).parts
  refine wl_alloc z_136 ?_; intro b3 w2 hb3 hE2 hB3
  have hq3 : w.heap.size ≤ b3 := Nat.le_trans hX.size hb3
  have hl3 : Mine Non w b3 := .inr hq3
  replace hX := hX.tr hE2
  replace hm1 := hm1.ext hE2 (fun _ h => h.elim)
  replace hm2 := hm2.ext hE2 (fun _ h => h.elim)
  replace hk := fun i k p x y => (hk i k p x y).ext hE2 (fun _ h => h.elim)
  have hBo := hB3
  refine wl_storeB s_136 rfl rfl rfl (four1 rfl rfl rfl rfl) hB3 rfl ?_; intro w3 hE3 hB3 hz3
  replace hX := hX.mine hE3 hl3
  replace hm1 := hm1.ext hE3 (fun i e => by rw [e]; exact .inr hb3)
  replace hm2 := hm2.ext hE3 (fun i e => by rw [e]; exact .inr hb3)
  replace hk := fun i k p x y => (hk i k p x y).ext hE3 (fun i e => by rw [e]; exact .inr hb3)
  refine wl_nil ?_
  refine W_seq ?_
  refine W_region ?_
  refine wl_val (rn_fieldAddr f_136_0 (by decide) rfl) ?_
  refine wl_val (rn_loadS s_98 (vs := [_, _]) rfl rfl (hB3.part rfl (Nat.le_of_ble_eq_true rfl))) ?_
  refine wl_call e_106 rfl (len_ok w3 t.subs ⟨_, _, us, rfl, hm1.sub (M' := Non) (fun _ h _ => h.elim)⟩ (by have := hok.sl; omega)) ?_; intro v8 w4 hE4 hR4
  replace hX := hX.tr hE4
  replace hB3 := hB3.ext hE4 id
  replace hm1 := hm1.ext hE4 (fun _ h => h.elim)
  replace hm2 := hm2.ext hE4 (fun _ h => h.elim)
  replace hk := fun i k p x y => (hk i k p x y).ext hE4 (fun _ h => h.elim)
  subst hR4
  refine wl_val (rn_eql rfl rfl) ?_
  refine wl_val (rn_move (by conv => lhs; whnf)) ?_
  refine wl_split (d := 10) rfl (fun hg10 => ?_) (fun hg10 => ?_)
  · refine wl_yes rfl (congrArg Value.bool hg10) ?_
    refine wl_val (rn_fieldAddr f_136_1 (by decide) rfl) ?_
    refine wl_yes rfl (congrArg Value.bool hg10) ?_
    refine wl_val (rn_loadS s_134 (vs := [_, _]) rfl rfl (hB3.part rfl (Nat.le_of_ble_eq_true rfl))) ?_
    refine wl_yes rfl (congrArg Value.bool hg10) ?_
    refine wl_call e_107 rfl (mlen_sn w4 t.keys (ps.map fun p => [p]) (hm2.sub (M' := Non) (fun _ h _ => h.elim)) (by have := hok.kl; omega)) ?_; intro v13 w5 hE5 hR5
    replace hX := hX.tr hE5
    replace hB3 := hB3.ext hE5 id
    replace hm1 := hm1.ext hE5 (fun _ h => h.elim)
    replace hm2 := hm2.ext hE5 (fun _ h => h.elim)
    replace hk := fun i k p x y => (hk i k p x y).ext hE5 (fun _ h => h.elim)
    subst hR5
    refine wl_yes rfl (congrArg Value.bool hg10) ?_
    refine wl_val (rn_eql rfl rfl) ?_
    refine wl_val (rn_pickT (congrArg Value.bool hg10) (by conv => lhs; whnf)) ?_
    refine wl_val (rn_assign (by conv => lhs; whnf)) ?_
    refine wl_nil ?_
    refine W_ret ?_
    exact ⟨_, resR1 (res1_tmp rfl), hX, (by have h1 := of_decide_eq_true hg10; simp only [Int.natCast_eq_zero] at h1; exact congrArg Value.bool (decide_eq_false (by have := hne (List.length_eq_zero_iff.1 h1); rw [Int.natCast_eq_zero]; exact fun e => this (List.length_eq_zero_iff.1 e))))⟩
  · refine wl_no rfl (congrArg Value.bool hg10) ?_
    refine wl_no rfl (congrArg Value.bool hg10) ?_
    refine wl_no rfl (congrArg Value.bool hg10) ?_
    refine wl_no rfl (congrArg Value.bool hg10) ?_
    refine wl_val (rn_pickF (congrArg Value.bool hg10) (by conv => lhs; whnf)) ?_
    refine wl_val (rn_assign (by conv => lhs; whnf)) ?_
    refine wl_nil ?_
    refine W_ret ?_
    exact ⟨_, resR1 (res1_tmp rfl), hX, rfl⟩
-- (*bellman/node.Node).WithKid
theorem nwithkid_ok (w : World) (t : Tr) {v : Value} (M : Nat → Prop) (hM : ∀ i, M i → i < w.heap.size) (ht : TrM M w t v) {n m : Nat} (hok : t.Ok n m) (hn : n ≤ 1000000) (l : Str) (k : Tr) {vk : Value} (hkt : TrM M w k vk) {n' m' : Nat} (hokk : k.Ok n' m') (hnk : n' ≤ 1000000) (hne : k.subs = [] → k.keys ≠ []) : Fn Tryz.prog 45 #[v, Sv l, vk] w fun u w' => TrM M w' (.node t.subs (putK ltS t.keys l) (putW ltS t.keys l t.vals k)) u := by
  have hX := Ext.refl Non w
  refine fn_of_W (args := [_, _, _]) Tryz.func45 rfl (by kernel_rfl) rfl ?_
  refine W_seq ?_
  refine W_region ?_
  refine wl_val (rn_assign (by conv => lhs; whnf)) ?_
  refine wl_nil ?_
  refine W_seq ?_
  refine W_region ?_
  refine wl_val (rn_move (by conv => lhs; whnf)) ?_
  refine wl_call e_68 rfl (own_ok w t (ht.ext hX (fun _ h => h.elim))) ?_; intro v9 w1 hE1 hR1
  replace hX := hX.tr hE1
  obtain ⟨cs, rfl, hN⟩ := hR1; obtain ⟨q1, n1, c1, q2, n2, c2, q3, n3, c3, q4, n4, c4, us, ps, rfl, hm1, hm2, hlp, hk⟩ := (hN.sub (M' := fun i => M i ∨ (World.heap w1).size ≤ i) (fun i h hlt => h.resolve_right (by omega))).parts
  refine wl_alloc z_136 ?_; intro b7 w2 hb7 hE2 hB7
  have hq7 : w.heap.size ≤ b7 := Nat.le_trans hX.size hb7
  have hl7 : Mine Non w b7 := .inr hq7
  replace hX := hX.tr hE2
  replace hm1 := hm1.ext hE2 (fun _ h => h.elim)
  replace hm2 := hm2.ext hE2 (fun _ h => h.elim)
  replace hk := fun i k p x y => (hk i k p x y).ext hE2 (fun _ h => h.elim)
  have hBo := hB7
  refine wl_storeB s_136 rfl rfl rfl (four1 rfl rfl rfl rfl) hB7 rfl ?_; intro w3 hE3 hB7 hz3
  replace hX := hX.mine hE3 hl7
  replace hm1 := hm1.ext hE3 (fun i e => by rw [e]; exact .inr hb7)
  replace hm2 := hm2.ext hE3 (fun i e => by rw [e]; exact .inr hb7)
  replace hk := fun i k p x y => (hk i k p x y).ext hE3 (fun i e => by rw [e]; exact .inr hb7)
  refine wl_nil ?_
  refine W_seq ?_
  refine W_seq ?_
  refine W_region ?_
  refine wl_val (rn_move (by conv => lhs; whnf)) ?_
  refine wl_call e_72 rfl (nbare_no w3 k M (fun i h => Nat.lt_of_lt_of_le (hM i h) hX.size) (hkt.ext hX (fun _ h => h.elim)) hokk hnk hne) ?_; intro v11 w4 hE4 hR4
  replace hX := hX.tr hE4
  replace hB7 := hB7.ext hE4 id
  replace hm1 := hm1.ext hE4 (fun _ h => h.elim)
  replace hm2 := hm2.ext hE4 (fun _ h => h.elim)
  replace hk := fun i k p x y => (hk i k p x y).ext hE4 (fun _ h => h.elim)
  subst hR4
  refine wl_nil ?_
  refine W_condF rfl ?_
  refine W_region ?_
  refine wl_val (rn_fieldAddr f_136_1 (by decide) rfl) ?_
  refine wl_val (rn_loadS s_134 (vs := [_, _]) rfl rfl (hB7.part rfl (Nat.le_of_ble_eq_true rfl))) ?_
  refine wl_val (rn_move (by conv => lhs; whnf)) ?_
  refine wl_val (rn_move (by conv => lhs; whnf)) ?_
  have hzO := hB7.lt; have hs21 := hX.size
  refine wl_call e_74 rfl (mput_sn w4 t.keys (ps.map fun p => [p]) l (hm2.sub (M' := Non) (fun _ h _ => h.elim)) hok.k (by have := hok.kl; omega) (by intro r hr u hu; obtain ⟨p, hp, rfl⟩ := List.mem_map.1 hr; simp only [List.mem_singleton] at hu; subst hu; obtain ⟨i, hi⟩ := List.getElem?_of_mem hp; have hil := (List.getElem?_eq_some_iff.1 hi).1; exact (hk i _ u (List.getElem?_eq_getElem (by omega)) hi).one.1) vk hkt.one.1 hkt.one.2) ?_; intro v21 w5 hE5 hR5
  replace hX := hX.tr hE5
  replace hB7 := hB7.ext hE5 id
  replace hm1 := hm1.ext hE5 (fun _ h => h.elim)
  replace hm2 := hm2.ext hE5 (fun _ h => h.elim)
  replace hk := fun i k p x y => (hk i k p x y).ext hE5 (fun _ h => h.elim)
  obtain ⟨x1, x2, rfl, hM21⟩ := hR5; obtain ⟨a1, l1, g1, rfl⟩ := id hM21.keys.shape; obtain ⟨a2, l2, g2, rfl⟩ := id hM21.vals.shape
  refine wl_val (rn_fieldAddr f_136_1 (by decide) rfl) ?_
  have hBo := hB7
  refine wl_storeP (b := b7) s_134 rfl rfl rfl (two1 rfl rfl) hB7 (Nat.le_of_ble_eq_true rfl) ?_; intro w6 hE6 hB7 hz6
  replace hX := hX.mine hE6 hl7
  replace hm1 := hm1.ext hE6 (fun i e => by rw [e]; exact .inr hb7)
  replace hm2 := hm2.ext hE6 (fun i e => by rw [e]; exact .inr hb7)
  replace hk := fun i k p x y => (hk i k p x y).ext hE6 (fun i e => by rw [e]; exact .inr hb7)
  replace hM21 := hM21.ext hE6 (fun i e => by unfold Old; omega)
  refine wl_nil ?_
  refine W_seq ?_
  refine W_region ?_
  refine wl_val (rn_assign (by conv => lhs; whnf)) ?_
  refine wl_nil ?_
  refine W_ret ?_
  have hlp2 : ps.length = t.keys.length := by rw [hlp, hok.len]
  exact ⟨_, resR1 (res1_tmp rfl), hX, (show NdC M _ (.node t.subs (putK ltS t.keys l) (putW ltS t.keys l t.vals k)) _ from ⟨_, _, _, _, putW ltS t.keys l ps vk, us, rfl, hm1.sub (fun i h _ => .inl h), by rw [← putW_map]; exact hM21.sub (fun i h _ => Nat.lt_of_lt_of_le (hM i h) hs21), (putW_len hlp2).trans (putW_len hok.len).symm, putW_tr hok.len hlp2 (fun i k' p x y => (hk i k' p x y).sub (fun i h _ => .inl h)) (hkt.ext hX (fun _ h => h.elim))⟩).tree (fun h => by have := hM _ h; omega) hB7⟩
theorem putK_ne {κ : Type} [DecidableEq κ] {lt : κ → κ → Bool} (l : List κ) (x : κ) : putK lt l x ≠ [] := by
  unfold putK
  split
  · rename_i h; have := isAt_lt h; intro e; rw [e] at this; simp at this
  · simp
theorem put_ne (s : Int) (ls : List Str) (t : Tr) : (t.put ls s).subs = [] → (t.put ls s).keys ≠ [] := by
  cases ls with
  | nil => intro h; exact absurd h (putK_ne _ _)
  | cons l ls => intro _; exact putK_ne _ _
end Go.Proofs.YtaddeakfojpdoaaGreatDoorC

/- A region that draws its order and writes at its end: some operations may leave the class of worlds; the rules of CoreC, but for these; each rule holds of whatever program. -/
set_option linter.unusedVariables false
set_option linter.unusedSimpArgs false
namespace Go.Proofs.YtaddeakfojpdoaaGreatDoorC
open Go.RowKit
variable {ro : Option Nat} {P : Program} {n : Nat} {Q : Post} {σ : Env} {D : List Deferred} {w : World} {S : World → Prop} {K : Ops} {ex : Nat → Bool}
/-- Whatever order is picked from here on; S holds behind each operation. -/
def wx (P : Program) (ops : List Oper) (ex : Nat → Bool) (S : World → Prop) (K : Ops) : Nat → Array Bool → Env → World → Prop
  | 0, listed, σ, w => Region.ready .any ops.toArray listed = [] ∧ K σ w
  | f + 1, listed, σ, w => (Region.ready .any ops.toArray listed = [] → K σ w) ∧
    ∀ i ∈ Region.ready .any ops.toArray listed, ∀ o, ops[i]? = some o → step1 P ops o σ w (fun σ' w' => (ex i = false → S w') ∧ wx P ops ex S K f (listed.setIfInBounds i true) σ' w')
theorem wx_sound {ops : List Oper} (hops : okOps n ops = true) (hnd : noDefer ops = true) : ∀ (f : Nat) (listed : Array Bool) (σ : Env) (a : Act) (w : World), Sim n a σ → wx P ops ex S K f listed σ w →
    wpAnyIn (fz ro) 0 P .any ops.toArray (fun e a' w' => e = .normal ∧ ∃ σ', Sim n a' σ' ∧ a'.defers = a.defers ∧ K σ' w') f listed a w
  | 0, listed, σ, a, w, hs, h => ⟨h.1, rfl, σ, hs, rfl, h.2⟩
  | f + 1, listed, σ, a, w, hs, h => by
    refine ⟨fun h0 => ⟨rfl, σ, hs, rfl, h.1 h0⟩, fun i hi => ?_⟩
    unfold wpOpIn
    cases ho : ops.toArray[i]? with
    | none => obtain ⟨_, o, ho', _⟩ := mem_ready.1 hi; rw [ho] at ho'; cases ho'
    | some o =>
      have ho' : ops[i]? = some o := by simpa using ho
      have hmem := List.mem_of_getElem? ho'
      have hdst : ∀ d, o.dst = some d → d < n := fun d e => by
        have := List.all_eq_true.1 hops o hmem; rw [e] at this; simpa using this
      have hd : ∀ v, (a.put o.dst v).defers = a.defers := fun v => by cases o.dst <;> rfl
      have h1 := h.2 i hi o ho'
      simp only
      rw [wanted_sim hs hops]
      unfold step1 at h1
      by_cases hw : wantedBy ops σ o = true
      · rw [if_pos hw] at h1 ⊢
        refine op1_sound hs hdst (List.all_eq_true.1 hnd o hmem) (fun a' σ' w' hs' hd' hk => ?_) h1
        have := wx_sound hops hnd f _ σ' a' w' hs' hk.2
        rw [hd'] at this; exact this
      · rw [if_neg hw] at h1 ⊢
        refine ⟨fun f _ => fz_fn ro f, ?_⟩
        have := wx_sound hops hnd f _ _ _ w (hs.put o.dst undef hdst) h1.2
        rw [hd] at this; exact this
theorem W_drawX0 {id : Nat} {l : List Oper} (S : World → Prop) (hm : P.follows .mixedOrders = true)
    (h : wx P l ex S (fun σ' w' => Q .normal σ' D w') l.length (Array.replicate l.length false) σ { w with drawn := w.drawn + 1 }) : W ro P n (.region id l.toArray true) Q σ D w := by
  intro hk a hs hd
  simp only [okc, Bool.and_eq_true] at hk
  refine wpIn_mono (wpIn_region_any hm (by simpa using wx_sound (ro := ro) hk.1 hk.2 _ _ _ a _ hs h)) ?_
  rintro e a' w' ⟨rfl, σ', hs', hd', hk'⟩
  exact ⟨σ', hs', by rw [hd', hd]; exact hk'⟩

/-- D's operations come behind number i; so do all that may leave S. -/
structure Beh (ops : List Oper) (ex : Nat → Bool) (i : Nat) (D : List Nat) (listed : Array Bool) : Prop where
  inc : ∀ j oj, ops[j]? = some oj → ex j = true → j ∈ D
  cls : ∀ j oj, ops[j]? = some oj → j ∈ D → ∃ e ∈ oj.after, Region.binds .any e = true ∧ (e.on = i ∨ e.on ∈ D)
  non : ∀ j, j ∈ D → listed.getD j true = false
theorem wx_first {ops : List Oper} {i : Nat} {oi : Oper} {v : Value} {DL : List Nat} (hi : ops[i]? = some oi) (hsel : Region.noSelect ops.toArray = true) : ∀ (f : Nat) (listed : Array Bool) (σ : Env) (w : World),
    Beh ops ex i DL listed →
    (∀ j oj, ops.toArray[j]? = some oj → j ≠ i → listed.getD j true = false → (∀ e ∈ oj.after, Region.binds .any e = true → e.on ≠ i) → oi.apart ops.toArray oj = true) →
    i ∈ Region.ready .any ops.toArray listed → Yd P ops S oi v σ → S w →
    wx P ops ex S K f (listed.setIfInBounds i true) (put σ oi.dst v) w → wx P ops ex S K (f + 1) listed σ w
  | 0, listed, σ, w, _, _, hr, hy, hS, H => by
    refine ⟨fun h => (by rw [h] at hr; cases hr), fun j hj o ho => ?_⟩
    by_cases hji : j = i
    · subst hji; rw [hi] at ho; cases ho; exact hy.step hS ⟨fun _ => hS, H⟩
    · have := ready_mono hj hji
      rw [H.1] at this; cases this
  | f + 1, listed, σ, w, hB, hfree, hr, hy, hS, H => by
    refine ⟨fun h => (by rw [h] at hr; cases hr), fun j hj oj hoj => ?_⟩
    by_cases hji : j = i
    · subst hji; rw [hi] at hoj; cases hoj; exact hy.step hS ⟨fun _ => hS, H⟩
    · have hoj' : ops.toArray[j]? = some oj := by simpa using hoj
      have h1 := H.2 j (ready_mono hj hji) oj hoj
      obtain ⟨hjun, oj', hoj2, hall⟩ := mem_ready.1 hj
      rw [hoj'] at hoj2; cases hoj2
      have lst : ∀ k, listed.getD k true = false → ∀ e ∈ oj.after, Region.binds .any e = true → e.on ≠ k := fun k h0 e he hb heq => by
        have h1 := hall e he hb
        rw [heq] at h1
        rcases Nat.lt_or_ge k listed.size with h' | h'
        · simp [h'] at h0 h1; rw [h0] at h1; cases h1
        · simp [Array.getElem?_eq_none h'] at h1
      have hnot : ∀ e ∈ oj.after, Region.binds .any e = true → e.on ≠ i := lst i (mem_ready.1 hr).1
      have hjD : ¬ j ∈ DL := fun hm => by
        obtain ⟨e, he, hb, h⟩ := hB.cls j oj hoj hm
        rcases h with h | h
        · exact hnot e he hb h
        · exact lst e.on (hB.non _ h) e he hb rfl
      have hex : ex j = false := by
        cases hx : ex j with
        | false => rfl
        | true => exact absurd (hB.inc j oj hoj hx) hjD
      have h2 := step1_swap (hfree j oj hoj' hji hjun hnot) (fun cs b => Region.noSelect_spec hsel i oi cs b (by simpa using hi)) (fun cs b => Region.noSelect_spec hsel j oj cs b hoj') hy h1
      have hfree' : ∀ k ok, ops.toArray[k]? = some ok → k ≠ i → (listed.setIfInBounds j true).getD k true = false →
          (∀ e ∈ ok.after, Region.binds .any e = true → e.on ≠ i) → oi.apart ops.toArray ok = true := fun k ok hk hki hun hno => by
        refine hfree k ok hk hki ?_ hno
        by_cases hjk : j = k
        · subst hjk; exact hjun
        · rw [getD_set_ne true hjk] at hun; exact hun
      have hB' : Beh ops ex i DL (listed.setIfInBounds j true) := ⟨hB.inc, hB.cls, fun k hk => by rw [getD_set_ne true (show j ≠ k from fun e => hjD (by rw [e]; exact hk))]; exact hB.non k hk⟩
      refine step1_mono (fun σ' w' h3 => ⟨h3.2.1, wx_first hi hsel f (listed.setIfInBounds j true) σ' w' hB' hfree' (ready_mono hr (Ne.symm hji)) h3.1 (h3.2.1 hex) ?_⟩) h2
      rw [Array.setIfInBounds_comm _ _ hji]
      exact h3.2.2
def behB (ops : List Oper) (ex : Nat → Bool) (i : Nat) (D : List Nat) (listed : Array Bool) : Bool :=
  ((List.range ops.length).all fun j => (!ex j || D.contains j) && (!D.contains j || match ops[j]? with | some o => o.after.any (fun e => Region.binds .any e && (e.on == i || D.contains e.on)) | none => true)) && D.all fun j => listed.getD j true == false
theorem Beh.of {ops : List Oper} {i : Nat} {D : List Nat} {listed : Array Bool} (h : behB ops ex i D listed = true) : Beh ops ex i D listed := by
  unfold behB at h
  rw [Bool.and_eq_true, List.all_eq_true, List.all_eq_true] at h
  have key : ∀ j oj, ops[j]? = some oj → ((!ex j || D.contains j) && (!D.contains j || oj.after.any (fun e => Region.binds .any e && (e.on == i || D.contains e.on)))) = true := fun j oj hj => by
    have := h.1 j (List.mem_range.2 (List.getElem?_eq_some_iff.1 hj).1)
    rw [hj] at this; exact this
  refine ⟨fun j oj hj hx => ?_, fun j oj hj hm => ?_, fun j hj => by simpa using h.2 j hj⟩
  · have := key j oj hj
    rw [hx] at this; simp at this; exact this.1
  · have := key j oj hj
    have hc : D.contains j = true := by simpa using hm
    rw [hc] at this
    simp only [Bool.and_eq_true, Bool.not_true, Bool.false_or] at this
    obtain ⟨k, hk, h2⟩ := Array.any_eq_true.1 this.2
    rw [Bool.and_eq_true, Bool.or_eq_true] at h2
    exact ⟨_, Array.getElem_mem hk, h2.1, h2.2.imp (fun h => by simpa using h) (fun h => by simpa using h)⟩
/-- Take number i first. 'side' is for the kernel to reckon. -/
theorem wx_take {ops : List Oper} {f : Nat} {listed : Array Bool} (i : Nat) (DL : List Nat) (oi : Oper) (v : Value) (hi : ops[i]? = some oi)
    (side : (Region.noSelect ops.toArray && Region.free .any ops.toArray listed i && (Region.ready .any ops.toArray listed).contains i && behB ops ex i DL listed) = true)
    (hS : S w) (hy : Yd P ops S oi v σ) (h : wx P ops ex S K f (listed.setIfInBounds i true) (put σ oi.dst v) w) : wx P ops ex S K (f + 1) listed σ w := by
  simp only [Bool.and_eq_true] at side
  exact wx_first hi side.1.1.1 f listed σ w (Beh.of side.2) (Region.free_spec (by simpa using hi) side.1.1.2) (by simpa using side.1.2) hy hS h
/-- Take number i first: one that reads nothing of the world, and may come behind those that leave the class. -/
theorem wx_firstP {ops : List Oper} {i : Nat} {oi : Oper} {v : Value} (hi : ops[i]? = some oi) (hsel : Region.noSelect ops.toArray = true) (hxi : ex i = true) : ∀ (f : Nat) (listed : Array Bool) (σ : Env) (w : World),
    (∀ j oj, ops.toArray[j]? = some oj → j ≠ i → listed.getD j true = false → (∀ e ∈ oj.after, Region.binds .any e = true → e.on ≠ i) → oi.apart ops.toArray oj = true) →
    i ∈ Region.ready .any ops.toArray listed → Yd P ops (fun _ => True) oi v σ →
    wx P ops ex S K f (listed.setIfInBounds i true) (put σ oi.dst v) w → wx P ops ex S K (f + 1) listed σ w
  | 0, listed, σ, w, _, hr, hy, H => by
    refine ⟨fun h => (by rw [h] at hr; cases hr), fun j hj o ho => ?_⟩
    by_cases hji : j = i
    · subst hji; rw [hi] at ho; cases ho; exact hy.step trivial ⟨fun h => (by rw [hxi] at h; cases h), H⟩
    · have := ready_mono hj hji
      rw [H.1] at this; cases this
  | f + 1, listed, σ, w, hfree, hr, hy, H => by
    refine ⟨fun h => (by rw [h] at hr; cases hr), fun j hj oj hoj => ?_⟩
    by_cases hji : j = i
    · subst hji; rw [hi] at hoj; cases hoj; exact hy.step trivial ⟨fun h => (by rw [hxi] at h; cases h), H⟩
    · have hoj' : ops.toArray[j]? = some oj := by simpa using hoj
      have h1 := H.2 j (ready_mono hj hji) oj hoj
      obtain ⟨hjun, oj', hoj2, hall⟩ := mem_ready.1 hj
      rw [hoj'] at hoj2; cases hoj2
      have lst : ∀ k, listed.getD k true = false → ∀ e ∈ oj.after, Region.binds .any e = true → e.on ≠ k := fun k h0 e he hb heq => by
        have h1 := hall e he hb
        rw [heq] at h1
        rcases Nat.lt_or_ge k listed.size with h' | h'
        · simp [h'] at h0 h1; rw [h0] at h1; cases h1
        · simp [Array.getElem?_eq_none h'] at h1
      have hnot : ∀ e ∈ oj.after, Region.binds .any e = true → e.on ≠ i := lst i (mem_ready.1 hr).1
      have h2 := step1_swap (hfree j oj hoj' hji hjun hnot) (fun cs b => Region.noSelect_spec hsel i oi cs b (by simpa using hi)) (fun cs b => Region.noSelect_spec hsel j oj cs b hoj') hy h1
      have hfree' : ∀ k ok, ops.toArray[k]? = some ok → k ≠ i → (listed.setIfInBounds j true).getD k true = false →
          (∀ e ∈ ok.after, Region.binds .any e = true → e.on ≠ i) → oi.apart ops.toArray ok = true := fun k ok hk hki hun hno => by
        refine hfree k ok hk hki ?_ hno
        by_cases hjk : j = k
        · subst hjk; exact hjun
        · rw [getD_set_ne true hjk] at hun; exact hun
      refine step1_mono (fun σ' w' h3 => ⟨h3.2.1, wx_firstP hi hsel hxi f (listed.setIfInBounds j true) σ' w' hfree' (ready_mono hr (Ne.symm hji)) h3.1 ?_⟩) h2
      rw [Array.setIfInBounds_comm _ _ hji]
      exact h3.2.2
theorem wx_takeP {ops : List Oper} {f : Nat} {listed : Array Bool} (i : Nat) (oi : Oper) (v : Value) (hi : ops[i]? = some oi) (hxi : ex i = true)
    (side : (Region.noSelect ops.toArray && Region.free .any ops.toArray listed i && (Region.ready .any ops.toArray listed).contains i) = true)
    (hy : Yd P ops (fun _ => True) oi v σ) (h : wx P ops ex S K f (listed.setIfInBounds i true) (put σ oi.dst v) w) : wx P ops ex S K (f + 1) listed σ w := by
  simp only [Bool.and_eq_true] at side
  exact wx_firstP hi side.1.1 hxi f listed σ w (Region.free_spec (by simpa using hi) side.1.2) (by simpa using side.2) hy h
/-- Number i is the only one that may come up. -/
theorem wx_only {ops : List Oper} {f : Nat} {listed : Array Bool} (i : Nat) (oi : Oper) (hi : ops[i]? = some oi) (side : (Region.ready .any ops.toArray listed == [i]) = true)
    (h : step1 P ops oi σ w (fun σ' w' => (ex i = false → S w') ∧ wx P ops ex S K f (listed.setIfInBounds i true) σ' w')) : wx P ops ex S K (f + 1) listed σ w := by
  have e : Region.ready .any ops.toArray listed = [i] := by simpa using side
  refine ⟨fun h0 => (by rw [e] at h0; cases h0), fun j hj o ho => ?_⟩
  rw [e] at hj
  obtain rfl : j = i := by simpa using hj
  rw [hi] at ho; cases ho
  exact h
theorem wx_done {ops : List Oper} {listed : Array Bool} (side : (Region.ready .any ops.toArray listed == []) = true) (h : K σ w) : ∀ f, wx P ops ex S K f listed σ w
  | 0 => ⟨by simpa using side, h⟩
  | _ + 1 => ⟨fun _ => h, by rw [show Region.ready .any ops.toArray listed = [] by simpa using side]; simp⟩

theorem W_drawX (ex : Nat → Bool) {id : Nat} {l : List Oper} (hm : P.follows .mixedOrders = true)
    (h : ∀ w1, Ext Non w w1 → wx P l ex (fun A => Ext Non w1 A) (fun σ' w' => Q .normal σ' D w') l.length (Array.replicate l.length false) σ w1) : W ro P n (.region id l.toArray true) Q σ D w :=
  W_drawX0 _ hm (h _ (Ext.refl _ _).drew)
theorem wx_split {ops : List Oper} {f : Nat} {listed : Array Bool} {d : Nat} {b : Bool} (hd : σ d = .bool b) (h1 : b = true → wx P ops ex S K f listed σ w) (h2 : b = false → wx P ops ex S K f listed σ w) : wx P ops ex S K f listed σ w := by
  cases b
  · exact h2 rfl
  · exact h1 rfl
end Go.Proofs.YtaddeakfojpdoaaGreatDoorC

/- Iterators that range over other iterators: how it stands, by the set of the blocks that are its own; each rule holds of whatever program. -/
set_option linter.unusedVariables false
set_option linter.unusedSimpArgs false
namespace Go.Proofs.YtaddeakfojpdoaaGreatDoorC
open Go.RowKit
variable {P : Program}
/-- How it stands in an iterator's walk that began in W: what is said of the rounds so far holds; w0 but M is as it was; the blocks S are its own. -/
structure Ts (M : Nat → Prop) (w0 W : World) (J : (Nat → Prop) → World → Prop) (S : Nat → Prop) (A : World) : Prop where
  stab : Stab W.heap.size J
  beg : Ext M w0 W
  ex : ∃ N, (∀ i, N i → W.heap.size ≤ i ∧ i < A.heap.size) ∧ W.heap.size ≤ A.heap.size ∧ J N A ∧ ∀ b, S b → N b
  w0 : Ext M w0 A
variable {M F : Nat → Prop} {w0 W A B : World} {J : (Nat → Prop) → World → Prop} {S S' : Nat → Prop} {bs : List Nat}
theorem Ts.less (h : Ts M w0 W J S A) (hb : ∀ b, S' b → S b) : Ts M w0 W J S' A :=
  ⟨h.stab, h.beg, by obtain ⟨N, h1, h2, h3, h4⟩ := h.ex; exact ⟨N, h1, h2, h3, fun b hb' => h4 b (hb b hb')⟩, h.w0⟩
theorem Tl.ts (h : Tl M w0 W J bs A) : Ts M w0 W J (fun i => i ∈ bs) A := ⟨h.stab, h.beg, h.ex, h.w0⟩
/-- Whatever was written lies among S; what was made is added. -/
theorem Ts.add (h : Ts M w0 W J S A) (hE : Ext F A B) (hF : ∀ i, F i → S i) : Ts M w0 W J (fun i => S i ∨ (A.heap.size ≤ i ∧ i < B.heap.size)) B := by
  obtain ⟨N, h1, h2, h3, h4⟩ := h.ex
  have hE' : Ext N A B := hE.mono fun i hi => h4 i (hF i hi)
  refine ⟨h.stab, h.beg, ⟨grow N A B, ?_, Nat.le_trans h2 hE.size, h.stab N A B (fun i hi => (h1 i hi).1) h2 h3 hE', ?_⟩, ?_⟩
  · rintro i (hi | ⟨ha, hb⟩)
    · exact ⟨(h1 i hi).1, Nat.lt_of_lt_of_le (h1 i hi).2 hE.size⟩
    · exact ⟨Nat.le_trans h2 ha, hb⟩
  · rintro b (hb | hb)
    · exact .inl (h4 b hb)
    · exact .inr hb
  · have hz := h.beg.size
    exact ⟨hE.os.trans h.w0.os, hE.tape.trans h.w0.tape, hE.output.trans h.w0.output, Nat.le_trans h.w0.size hE.size, fun i hi hm => (hE.block i (Nat.lt_of_lt_of_le hi h.w0.size) (fun hf => by have := (h1 i (h4 i (hF i hf))).1; omega)).trans (h.w0.block i hi hm)⟩
theorem Ts.ext (h : Ts M w0 W J S A) (hE : Ext F A B) (hF : ∀ i, F i → S i) : Ts M w0 W J S B := (h.add hE hF).less fun _ h => .inl h
theorem Ts.tr (h : Ts M w0 W J S A) (hE : Ext Non A B) : Ts M w0 W J S B := h.ext hE fun _ h => h.elim
theorem Ts.stabS {n0 : Nat} (M : Nat → Prop) (w0 W : World) (J : (Nat → Prop) → World → Prop) (S0 : Nat → Prop) : Stab n0 (fun N A => Ts M w0 W J (fun i => S0 i ∨ N i) A) := fun N A B hN hA h hE =>
  (h.add hE fun i hi => .inr hi).less fun i hi => by
    rcases hi with hi | hi | hi
    · exact .inl (.inl hi)
    · exact .inl (.inr hi)
    · exact .inr hi
/-- All that was made since the walk's begin is its own. -/
abbrev Al (W A : World) : Nat → Prop := fun i => W.heap.size ≤ i ∧ i < A.heap.size
theorem Ts.allT (h : Ts M w0 W J (Al W A) A) (hE : Ext Non A B) : Ts M w0 W J (Al W B) B := (h.add hE fun _ h => h.elim).less fun i hi => by
  rcases Nat.lt_or_ge i A.heap.size with h' | h'
  · exact .inl ⟨hi.1, h'⟩
  · exact .inr ⟨h', hi.2⟩
theorem Ts.allM {b : Nat} (h : Ts M w0 W J (Al W A) A) (hE : Ext (fun i => i = b) A B) (hb : W.heap.size ≤ b) (hb2 : b < A.heap.size) : Ts M w0 W J (Al W B) B := (h.add hE fun i hi => by rw [hi]; exact ⟨hb, hb2⟩).less fun i hi => by
  rcases Nat.lt_or_ge i A.heap.size with h' | h'
  · exact .inl ⟨hi.1, h'⟩
  · exact .inr ⟨h', hi.2⟩
theorem Ts.all0 (h : Ts M w0 W J Non W) : Ts M w0 W J (Al W W) W := h.less fun i hi => absurd hi.2 (by have := hi.1; omega)
/-- What a yield that was asked for more may turn. -/
abbrev Ys (M : Nat → Prop) (w0 : World) (S : Nat → Prop) : Nat → Prop := fun i => ¬ S i ∧ (M i ∨ w0.heap.size ≤ i)
/-- A yield of an iterator that tells xs, the rounds' facts J, and Jx behind a no. -/
def Yl {α : Type} (P : Program) (M : Nat → Prop) (w0 W : World) (l : Nat) (encs : α → Array Value) (xs : List α) (J : List α → (Nat → Prop) → World → Prop) (Jx : (Nat → Prop) → World → Prop) : Prop :=
  ∀ pre x post S A, xs = pre ++ x :: post → Ts M w0 W (J pre) S A → YieldOk P l (encs x) A fun b B => Ext (Ys M w0 S) A B ∧ (b = true → Ts M w0 W (J (pre ++ [x])) S B) ∧ (b = false → Ts M w0 W Jx S B)
/-- **An iterator, by the walk of its code.** -/
theorem iter_ofS {α : Type} {encs : α → Array Value} {xs : List α} {f : FuncId} {cap : Array Value} (hf : entersB P f = true)
    (h : ∀ (l : Nat) (W : World) (J : List α → (Nat → Prop) → World → Prop) (Jx : (Nat → Prop) → World → Prop), Ext M w0 W → Ts M w0 W (J []) Non W → Yl P M w0 W l encs xs J Jx →
      Calls P f (#[.func (.yield l) #[] #[]] ++ cap) W fun e W' => ∃ v, e = .returned v ∧ (Ts M w0 W (J xs) Non W' ∨ Ts M w0 W Jx Non W')) : Iter P M w0 (.func (.func f) #[] cap) encs xs := by
  refine ⟨f, cap, rfl, hf, fun l W J Jx hW hJ hJx hY h0 => ?_⟩
  refine Calls.mono (h l W J Jx hW ⟨hJ [], hW, ⟨Non, fun _ h => h.elim, Nat.le_refl _, h0, fun _ h => h⟩, hW⟩ ?_) ?_
  · intro pre x post S A hx hT
    obtain ⟨N, h1, h2, h3, h4⟩ := hT.ex
    obtain ⟨fn, tmps, assign, body, hy, hr⟩ := hY N pre x A h1 h2 h3 ⟨post, hx⟩
    refine ⟨fn, tmps, assign, body, hy, hr.mono ?_⟩
    rintro e B ⟨b, he, hE, ht, hf⟩
    have hE' : Ext (Ys M w0 S) A B := hE.mono fun i hi => ⟨fun hb => hi.1 (h4 i hb), hi.2⟩
    have hw : Ext M w0 B := ⟨hE.os.trans hT.w0.os, hE.tape.trans hT.w0.tape, hE.output.trans hT.w0.output, Nat.le_trans hT.w0.size hE.size, fun i hi hm => (hE.block i (Nat.lt_of_lt_of_le hi hT.w0.size) (fun h => by rcases h.2 with h | h; exact hm h; omega)).trans (hT.w0.block i hi hm)⟩
    have hN : ∀ i, N i → W.heap.size ≤ i ∧ i < B.heap.size := fun i hi => ⟨(h1 i hi).1, Nat.lt_of_lt_of_le (h1 i hi).2 hE.size⟩
    exact ⟨b, he, hE', fun hb => ⟨hJ _, hW, ⟨N, hN, Nat.le_trans h2 hE.size, ht hb, h4⟩, hw⟩, fun hb => ⟨hJx, hW, ⟨N, hN, Nat.le_trans h2 hE.size, hf hb, h4⟩, hw⟩⟩
  · rintro e W' ⟨v, he, hT | hT⟩
    · obtain ⟨N, h1, h2, h3, _⟩ := hT.ex; exact ⟨v, N, he, h2, h1, .inl h3⟩
    · obtain ⟨N, h1, h2, h3, _⟩ := hT.ex; exact ⟨v, N, he, h2, h1, .inr h3⟩
end Go.Proofs.YtaddeakfojpdoaaGreatDoorC
