/- Layer 8: a search's record, and what its functions promise. -/
import Derived.Test.YthcclgoidchkdaaDoorLin2
import Derived.Test.YthcclgoidchkdaaDoorCoreW
import Derived.Test.YthcclgoidchkdaaDoorCoreV
import Derived.Test.YthcclgoidchkdaaDoorItoa
set_option linter.unusedVariables false
set_option linter.unusedSimpArgs false
namespace Go.Proofs.YthcclgoidchkdaaDoorC
open Go.RowKit
theorem EqS.mono {P : Program} {m m' : Nat} {t : TypeId} {a b : Value} {r : Bool} (h : EqS P m t a b r) (hm : m ≤ m') : EqS P m' t a b r := fun d w hd => h d w (Nat.le_trans hm hd)
theorem ans_eqs (x y : AnsD) : EqS Tryd.prog 3 34 (.agg x.enc.toArray) (.agg y.enc.toArray) (decide (x = y)) := by
  have p1 : ∀ z : AnsD, (z.enc.toArray).extract 3 (3 + 3) = z.msg.enc.toArray := fun z => by simp [AnsD.enc, MsgD.enc]
  have hm : EqS Tryd.prog 2 32 (.agg ((x.enc.toArray).extract 3 (3 + 3))) (.agg ((y.enc.toArray).extract 3 (3 + 3))) (decide (x.msg = y.msg)) := by rw [p1, p1]; exact msg_eqs _ _
  have h := eqs_struct (P := Tryd.prog) (t := 34) (m := 2) (xs := x.enc.toArray) (ys := y.enc.toArray) (by kernel_rfl) sh_34 fs_34
    (EqF.cons rfl (part_1 p_30 rfl) (part_1 p_30 rfl) ((eqs_int ui_30).mono (by decide)) (EqF.cons rfl (part_1 p_3 rfl) (part_1 p_3 rfl) ((eqs_int ui_3).mono (by decide)) (EqF.cons rfl (part_1 p_3 rfl) (part_1 p_3 rfl) ((eqs_int ui_3).mono (by decide)) (EqF.cons rfl (part_s s_32) (part_s s_32) hm .nil))))
  rw [show decide (x = y) = (decide (x.err = y.err) && (decide (x.a = y.a) && (decide (x.b = y.b) && (decide (x.msg = y.msg) && true)))) from ?_]
  · exact h
  · obtain ⟨a, b, c, d⟩ := x; obtain ⟨a', b', c', d'⟩ := y
    by_cases h1 : a = a' <;> by_cases h2 : b = b' <;> by_cases h3 : c = c' <;> by_cases h4 : d = d' <;> simp [h1, h2, h3, h4]
theorem OwO.cut {w : World} {a : Option Addr} {len cap m k : Nat} {o : Option Nat} {rows : List (List Value)} (h : OwO w (.slice a len cap) o k rows) (hm : m ≤ len) : OwO w (.slice a m cap) o k (rows.take m) := by
  rcases h with ⟨h1, rfl, rfl⟩ | ⟨b, spare, rfl, h⟩
  · simp only [Value.slice.injEq] at h1
    obtain ⟨rfl, rfl, rfl⟩ := h1
    obtain rfl : m = 0 := by omega
    exact .inl ⟨rfl, by simp, rfl⟩
  · exact .inr ⟨b, _, rfl, h.cut rfl hm⟩
/-- A search's cells. -/
abbrev scells (vl : Value) (bd n : Nat) (vw : Value) (bm : Nat) : List Value :=
  [.int .i64 0, Sv [], .func (.func 66) #[] #[], .func (.func 67) #[] #[], vl, .slice (some ⟨bd, 0, none⟩) n n, vw, .map (some bm)]
theorem scells_one {a : Option Addr} {n c bd m : Nat} {a2 : Option Addr} {n2 c2 bm : Nat} : ∀ v ∈ scells (.slice a n c) bd m (.slice a2 n2 c2) bm, v.oneCell' = true := by
  intro v hv; simp only [scells, List.mem_cons, List.not_mem_nil, or_false] at hv; rcases hv with rfl | rfl | rfl | rfl | rfl | rfl | rfl | rfl <;> rfl
/-- A search stands so. -/
structure Srch (w : World) (b bd bm : Nat) (vl : Value) (done : List Bool) (way : List Nat) (vw : Value) (ow : Option Nat) : Prop where
  box : IsBox w b (scells vl bd done.length vw bm)
  dn : Ow w (.slice (some ⟨bd, 0, none⟩) done.length done.length) bd 1 (done.map eBo) []
  wy : OwO w vw ow 1 (way.map eN)
  n1 : b ≠ bd
  n2 : b ≠ bm
  n3 : bd ≠ bm
  n4 : ∀ j, ow = some j → j ≠ b ∧ j ≠ bd ∧ j ≠ bm
/-- What a search may turn. -/
abbrev Ms (b bd : Nat) (ow : Option Nat) (X : Nat → Prop) : Nat → Prop := fun i => i = b ∨ i = bd ∨ ow = some i ∨ X i
theorem Srch.ext {w w' : World} {b bd bm : Nat} {vl : Value} {done : List Bool} {way : List Nat} {vw : Value} {ow : Option Nat} (h : Srch w b bd bm vl done way vw ow) {M : Nat → Prop} (hE : Ext M w w') (h1 : ¬ M b) (h2 : ¬ M bd) (h3 : ∀ j, ow = some j → ¬ M j) : Srch w' b bd bm vl done way vw ow :=
  ⟨h.box.ext hE h1, h.dn.ext hE h2, h.wy.ext hE h3, h.n1, h.n2, h.n3, h.n4⟩
theorem eBo_set (done : List Bool) (i : Nat) (x : Bool) : (done.map eBo).set i [.bool x] = (done.set i x).map eBo := by rw [List.map_set]; rfl
theorem set_back {done : List Bool} {i : Nat} (h : seen done i = false) (hi : i < done.length) : (done.set i true).set i false = done := by
  rw [List.set_set]
  have : done[i] = false := by simpa [seen, hi] using h
  rw [← this, List.set_getElem_self]
theorem snoc_take (way : List Nat) (i : Nat) : ((way ++ [i]).map eN).take way.length = way.map eN := by rw [List.map_append, List.take_left' (by simp)]
/-- The table's keys. -/
def kv (ks : List Str) : List (Str × Value) := ks.map fun k => (k, .bool true)
theorem kv_get (k : Str) : ∀ ks : List Str, mget k (kv ks) = if k ∈ ks then some (.bool true) else none
  | [] => by simp [kv, mget]
  | x :: ks => by
    have ih := kv_get k ks
    unfold kv at ih ⊢
    simp only [List.map_cons, mget, ih, List.mem_cons]
    by_cases h : k = x <;> simp [h]
theorem kv_put (k : Str) : ∀ ks : List Str, ∃ ks', mput k (.bool true) (kv ks) = kv ks' ∧ ∀ x, x ∈ ks' ↔ x = k ∨ x ∈ ks
  | [] => ⟨[k], rfl, by simp⟩
  | y :: ks => by
    obtain ⟨ks', h1, h2⟩ := kv_put k ks
    unfold kv at h1 ⊢
    simp only [List.map_cons, mput]
    by_cases h : k = y
    · exact ⟨k :: ks, by rw [if_pos h]; rfl, fun x => by subst h; simp⟩
    · refine ⟨y :: ks', by rw [if_neg h, h1]; rfl, fun x => ?_⟩
      simp only [List.mem_cons, h2]
      constructor
      · rintro (h | h | h); exact .inr (.inl h); exact .inl h; exact .inr (.inr h)
      · rintro (h | h | h); exact .inr (.inl h); exact .inl h; exact .inr (.inr h)
/-- What is known where a search goes on from state s, f calls away from the end. -/
structure FH (w : World) (B : Nat) (l : List CallD) (done : List Bool) (way : List Nat) (s : StD) (vl vw : Value) (ow : Option Nat) (b bd bm : Nat) (f : Nat) : Prop where
  srch : Srch w b bd bm vl done way vw ow
  hl : Sl (fun i => B ≤ i) w vl 15 (l.map CallD.enc)
  len : l.length ≤ 24
  dlen : done.length = l.length
  wl : way.length + f = l.length
  und : (undone l done).length = f
  bound : -(99 * way.length : Int) ≤ s.n ∧ s.n ≤ 99 * way.length
  pay : ∀ c ∈ l, c.op.payload.length ≤ 100
  slot : s.slot.length ≤ 100
  low : ∀ i, Ms b bd ow (fun i => i = bm) i → B ≤ i ∧ i < w.heap.size
theorem doS_slot {s : StD} {x : OpD} (h : s.slot.length ≤ 100) (hx : x.payload.length ≤ 100) : (doS s x).1.slot.length ≤ 100 := by
  unfold doS; split
  · exact h
  · split
    · exact hx
    · split
      · split
        · exact h
        · simp
      · exact h
theorem undone_pos {l : List CallD} {done : List Bool} {i : Nat} (h : i ∈ mini l done) (hd : done.length = l.length) : (undone l (done.set i true)).length + 1 = (undone l done).length := by
  have hi := mini_lt h
  have hm : i ∈ undone l done := by unfold undone; simp [hi, mini_unseen h]
  rw [← undone_erase (by omega), List.length_erase_of_mem hm]
  have := List.length_pos_of_mem hm
  omega
theorem stepB_some {l : List CallD} {s s' : StD} {i : Nat} (h : stepB l s i = some s') : ∃ c, l[i]? = some c ∧ doS s c.op = (s', c.ans) := by
  unfold stepB at h
  cases hc : l[i]? with
  | none => rw [hc] at h; cases h
  | some c =>
    rw [hc] at h
    simp only at h
    split at h
    · rename_i he
      refine ⟨c, rfl, ?_⟩
      rw [← he, ← Option.some.inj h]
    · cases h
theorem alls_none {l : List CallD} {f : Nat} {done : List Bool} {s : StD} (h : ∀ i ∈ mini l done, ∀ s', stepB l s i = some s' → alls l f (done.set i true) s' = []) : alls l (f + 1) done s = [] := by
  unfold alls
  rw [List.flatMap_eq_nil_iff]
  intro i hi
  cases hs : stepB l s i with
  | none => rfl
  | some s' => show List.map _ (alls l f (done.set i true) s') = []; rw [h i hi s' hs]; rfl
theorem flat_first {α β : Type} {g : α → List β} {p q : List α} {i : α} {o : β} {rest : List β} (h1 : ∀ x ∈ p, g x = []) (h2 : g i = o :: rest) : ∃ rest', (p ++ i :: q).flatMap g = o :: rest' := by
  rw [List.flatMap_append, List.flatMap_cons, h2, List.flatMap_eq_nil_iff.2 h1]
  exact ⟨_, rfl⟩
theorem alls_first {l : List CallD} {f : Nat} {done : List Bool} {s s' : StD} {p q : List Nat} {i : Nat} {o : List Nat} {rest : List (List Nat)} (hm : mini l done = p ++ i :: q) (h1 : ∀ x ∈ p, ∀ s', stepB l s x = some s' → alls l f (done.set x true) s' = []) (hs : stepB l s i = some s')
    (h2 : alls l f (done.set i true) s' = o :: rest) : ∃ rest', alls l (f + 1) done s = (i :: o) :: rest' := by
  unfold alls
  rw [hm]
  refine flat_first (rest := rest.map (i :: ·)) (fun x hx => ?_) (by rw [hs]; show List.map _ (alls l f (done.set i true) s') = _; rw [h2]; rfl)
  cases hx2 : stepB l s x with
  | none => rfl
  | some s2 => show List.map _ (alls l f (done.set x true) s2) = []; rw [h1 x hx s2 hx2]; rfl
/-- How many there are behind the first ones. -/
def cntP (l : List CallD) (f : Nat) (done : List Bool) (s : StD) (p : List Nat) : Nat := (p.flatMap fun i => match stepB l s i with | some s' => (alls l f (done.set i true) s').map (i :: ·) | none => []).length
theorem cntP_all (l : List CallD) (f : Nat) (done : List Bool) (s : StD) : cntP l f done s (mini l done) = (alls l (f + 1) done s).length := rfl
theorem cntP_snoc {l : List CallD} {f : Nat} {done : List Bool} {s : StD} (p : List Nat) (i : Nat) : cntP l f done s (p ++ [i]) = cntP l f done s p + (match stepB l s i with | some s' => (alls l f (done.set i true) s').length | none => 0) := by
  unfold cntP
  rw [List.flatMap_append, List.length_append]
  cases h : stepB l s i <;> simp [h]
end Go.Proofs.YthcclgoidchkdaaDoorC
