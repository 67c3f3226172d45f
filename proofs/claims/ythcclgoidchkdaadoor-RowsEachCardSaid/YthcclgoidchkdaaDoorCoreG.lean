/- Slices in the calculus: what a slice reads as, indexing, slicing, appending, making, copying; each rule holds of whatever program. -/
import Derived.Test.YthcclgoidchkdaaDoorCoreF
import Derived.Laws.Append
set_option linter.unusedVariables false
set_option linter.unusedSimpArgs false
namespace Go.Proofs.YthcclgoidchkdaaDoorC
open Go.RowKit
variable {ro : Option Nat} {P : Program} {n : Nat} {Q : Post} {σ : Env} {D : List Deferred} {w : World} {dst : Option Nat} {ty : TypeId} {pos : String} {af : Array Edge} {g : Option (Nat × Bool)}
variable {ops rest : List Oper} {K : Ops}

abbrev big : Nat := 9223372036854775807
/-- Slice value v has these elements, of k cells each; its block is none of M's. -/
structure Sl (M : Nat → Prop) (w : World) (v : Value) (k : Nat) (rows : List (List Value)) : Prop where
  ex : ∃ a c, v = .slice a rows.length c ∧ rows.length ≤ c ∧ c ≤ big ∧ (rows = [] ∨ ∃ b o, a = some ⟨b, o, none⟩ ∧ b < w.heap.size ∧ ¬ M b ∧ ∀ j, j < rows.flatten.length → w.cell? ⟨b, o + j, none⟩ = rows.flatten[j]?)
  each : ∀ r ∈ rows, r.length = k
theorem flat_len {k : Nat} {rows : List (List Value)} (h : ∀ r ∈ rows, r.length = k) : rows.flatten.length = rows.length * k := by
  induction rows with
  | nil => simp
  | cons r rs ih => simp [ih (fun x hx => h x (by simp [hx])), h r (by simp), Nat.add_mul, Nat.add_comm]
theorem flat_at {k : Nat} {rows : List (List Value)} (h : ∀ r ∈ rows, r.length = k) (i d : Nat) (hi : i < rows.length) (hd : d < k) : rows.flatten[i * k + d]? = rows[i][d]? := by
  induction rows generalizing i with
  | nil => simp at hi
  | cons r rs ih =>
    have hr := h r (by simp)
    cases i with
    | zero => simp only [Nat.zero_mul, Nat.zero_add, List.flatten_cons, List.getElem_cons_zero]; rw [List.getElem?_append_left (by omega)]
    | succ i =>
      simp only [List.flatten_cons, List.getElem_cons_succ]
      rw [List.getElem?_append_right (by rw [hr, Nat.add_mul]; omega), hr]
      rw [show (i + 1) * k + d - k = i * k + d from by rw [Nat.add_mul]; omega]
      exact ih (fun x hx => h x (by simp [hx])) i (by simpa using hi)
theorem Sl.nil (M : Nat → Prop) (w : World) (k : Nat) : Sl M w (.slice none 0 0) k [] := ⟨⟨none, 0, rfl, by simp, by decide, .inl rfl⟩, by simp⟩
theorem Sl.len {M : Nat → Prop} {v : Value} {k : Nat} {rows : List (List Value)} (h : Sl M w v k rows) : ∃ a c, v = .slice a rows.length c ∧ rows.length ≤ big := by
  obtain ⟨⟨a, c, h1, h2, h3, _⟩, _⟩ := h; exact ⟨a, c, h1, Nat.le_trans h2 h3⟩
theorem Sl.ext {M M' : Nat → Prop} {w' : World} {v : Value} {k : Nat} {rows : List (List Value)} (h : Sl M w v k rows) (hE : Ext M' w w') (hm : ∀ i, M' i → M i) : Sl M w' v k rows := by
  obtain ⟨⟨a, c, h1, h2, h3, h4⟩, h5⟩ := h
  refine ⟨⟨a, c, h1, h2, h3, ?_⟩, h5⟩
  rcases h4 with h4 | ⟨b, o, ha, hb, hn, hc⟩
  · exact .inl h4
  · refine .inr ⟨b, o, ha, Nat.lt_of_lt_of_le hb hE.size, hn, fun j hj => ?_⟩
    have h6 := hc j hj
    rw [List.getElem?_eq_getElem hj] at h6 ⊢
    exact hE.cell h6 (fun h => hn (hm _ h))
theorem Sl.sub {M M' : Nat → Prop} {v : Value} {k : Nat} {rows : List (List Value)} (h : Sl M w v k rows) (hm : ∀ i, M' i → i < w.heap.size → M i) : Sl M' w v k rows := by
  obtain ⟨⟨a, c, h1, h2, h3, h4⟩, h5⟩ := h
  refine ⟨⟨a, c, h1, h2, h3, ?_⟩, h5⟩
  rcases h4 with h4 | ⟨b, o, ha, hb, hn, hc⟩
  · exact .inl h4
  · exact .inr ⟨b, o, ha, hb, fun h => hn (hm _ h hb), hc⟩
/-- A cell of an element. -/
theorem Sl.cell {M : Nat → Prop} {a : Addr} {m c k : Nat} {rows : List (List Value)} (h : Sl M w (.slice (some a) m c) k rows) {i d : Nat} {r : List Value} {u : Value} (hi : rows[i]? = some r) (hd : r[d]? = some u) : w.cell? (a.add (i * k + d)) = some u := by
  obtain ⟨⟨a', c', h1, h2, h3, h4⟩, h5⟩ := h
  have hi' := List.getElem?_eq_some_iff.1 hi
  obtain ⟨hlt, hr⟩ := hi'
  rcases h4 with h4 | ⟨b, o, ha, hb, hn, hc⟩
  · subst h4; simp at hlt
  · simp only [Value.slice.injEq] at h1
    obtain ⟨rfl, _, _⟩ := h1
    cases ha
    have hk : r.length = k := h5 r (List.mem_of_getElem? hi)
    have hdk : d < k := by have := (List.getElem?_eq_some_iff.1 hd).1; omega
    have e1 : rows.flatten[i * k + d]? = some u := by rw [flat_at h5 i d hlt hdk, hr]; exact hd
    rw [add_at, hc _ (List.getElem?_eq_some_iff.1 e1).1, e1]
theorem Sl.base {M : Nat → Prop} {a : Option Addr} {m c k : Nat} {rows : List (List Value)} (h : Sl M w (.slice a m c) k rows) (hr : rows ≠ []) : ∃ b o, a = some ⟨b, o, none⟩ := by
  obtain ⟨⟨a', c', h1, h2, h3, h4⟩, h5⟩ := h
  rcases h4 with h4 | ⟨b, o, ha, _⟩
  · exact absurd h4 hr
  · simp only [Value.slice.injEq] at h1
    exact ⟨b, o, h1.1.trans ha⟩
/-- The cells that a slice begins with, read. -/
theorem Sl.first {M : Nat → Prop} {a : Option Addr} {m c k : Nat} {rows : List (List Value)} (h : Sl M w (.slice a m c) k rows) : (Builtin.firstCells k rows.length (.slice a m c)).run P w = .ok rows.flatten.toArray w := by
  obtain ⟨⟨a', c', h1, h2, h3, h4⟩, h5⟩ := h
  simp only [Value.slice.injEq] at h1
  obtain ⟨rfl, rfl, rfl⟩ := h1
  rcases h4 with h4 | ⟨b, o, ha, hb, hn, hc⟩
  · subst h4
    cases a <;> simp [Builtin.firstCells, loadCells, loadCellsFrom]
  · subst ha
    have := run_loadCells (P := P) (w := w) ⟨b, o, none⟩ rows.flatten 0 #[] (fun j hj => by rw [add_at, Nat.zero_add]; exact hc j hj)
    simp only [Builtin.firstCells, loadCells]
    rw [flat_len h5] at this
    simpa using this

/-! ### numbers and texts -/
def eS (x : Str) : List Value := [Sv x]
/-! ### a slice that the call itself made and may write -/
/-- v's elements lie in a block of its own, number b, whole. -/
structure Ow (w : World) (v : Value) (b k : Nat) (rows : List (List Value)) (spare : List Value) : Prop where
  val : ∃ c, v = .slice (some ⟨b, 0, none⟩) rows.length c ∧ rows.length ≤ c ∧ c ≤ big ∧ spare.length = (c - rows.length) * k
  box : IsBox w b (rows.flatten ++ spare)
  each : ∀ r ∈ rows, r.length = k
theorem Ow.sl {v : Value} {b k : Nat} {rows : List (List Value)} {spare : List Value} (h : Ow w v b k rows spare) {M : Nat → Prop} (hm : ¬ M b) : Sl M w v k rows := by
  obtain ⟨⟨c, h1, h2, h3, h4⟩, h5, h6⟩ := h
  refine ⟨⟨_, c, h1, h2, h3, .inr ⟨b, 0, rfl, h5.lt, hm, fun j hj => ?_⟩⟩, h6⟩
  rw [Nat.zero_add]
  have e : (rows.flatten ++ spare)[j]? = rows.flatten[j]? := List.getElem?_append_left hj
  rw [List.getElem?_eq_getElem hj] at e ⊢
  exact h5.cell e
theorem Ow.ext {v : Value} {b k : Nat} {rows : List (List Value)} {spare : List Value} (h : Ow w v b k rows spare) {M : Nat → Prop} {w' : World} (hE : Ext M w w') (hm : ¬ M b) : Ow w' v b k rows spare :=
  ⟨h.val, h.box.ext hE hm, h.each⟩

/-! ### append -/
theorem zero_len (z : Array Value) (m : Nat) : (Builtin.zeroCells z m).size = m * z.size := by simp [Builtin.zeroCells]
/-- append(s, x...), where s has no room. -/
theorem run_append_grow' {t e : TypeId} {k bytes : Nat} {z : List Value} (hT : SliceT P t e k bytes z) (hz : z.length = k) {M M' : Nat → Prop} {a a2 : Option Addr} {m c m2 c2 : Nat} {rows rows2 : List (List Value)}
    (hs : Sl M w (.slice a m c) k rows) (hx : Sl M' w (.slice a2 m2 c2) k rows2) (hg : c < rows.length + rows2.length) (hb : (rows.length + rows2.length) * bytes ≤ 140737488355328) (h63 : rows.length + rows2.length ≤ big) (ty : TypeId) :
    ∃ v' w' spare, (Builtin.append_ #[t, t] ty #[.slice a m c, .slice a2 m2 c2]).run P w = .ok v' w' ∧ Ext Non w w' ∧ Ow w' v' w.heap.size k (rows ++ rows2) spare := by
  obtain ⟨inf, v0, h1, h2, h3, h4, h5⟩ := hT.inf
  have hm : m = rows.length := by obtain ⟨⟨_, _, h, _⟩, _⟩ := hs; simp only [Value.slice.injEq] at h; exact h.2.1
  have hm2 : m2 = rows2.length := by obtain ⟨⟨_, _, h, _⟩, _⟩ := hx; simp only [Value.slice.injEq] at h; exact h.2.1
  subst hm; subst hm2
  have hf1 := hs.first (P := P) (w := w)
  have hgrow := growslice_fits hg hb
  have hq : ¬ (281474976710656 < Builtin.nextslicecap (rows.length + rows2.length) c * inf.bytes) := by rw [h3]; omega
  have hb63 : ¬ ((9223372036854775807 : Int) < (rows.length : Int) + (rows2.length : Int)) := by simp only [big] at h63; omega
  have hroom : ¬ (rows.length + rows2.length ≤ c) := by omega
  have hf1' : ∀ d, (Builtin.firstCells k rows.length (.slice a rows.length c)).run P { w with drawn := d } = .ok rows.flatten.toArray { w with drawn := d } := fun d =>
    (Sl.first (w := { w with drawn := d }) ⟨hs.ex, hs.each⟩)
  have hf2' : ∀ d, (Builtin.firstCells k rows2.length (.slice a2 rows2.length c2)).run P { w with drawn := d } = .ok rows2.flatten.toArray { w with drawn := d } := fun d =>
    (Sl.first (w := { w with drawn := d }) ⟨hx.ex, hx.each⟩)
  have hcap := grownCap_ge w (rows.length + rows2.length) c e
  have hcap2 := grownCap_le_maxLen w (rows.length + rows2.length) c e (by simp only [maxLen, big] at *; omega)
  refine ⟨.slice (some ⟨w.heap.size, 0, none⟩) (rows.length + rows2.length) (grownCap w (rows.length + rows2.length) c e),
    ({ w with drawn := w.drawn + 1 } : World).alloc (.cells (rows.flatten.toArray ++ rows2.flatten.toArray ++ Builtin.zeroCells v0.cells (grownCap w (rows.length + rows2.length) c e - (rows.length + rows2.length))) e),
    (Builtin.zeroCells v0.cells (grownCap w (rows.length + rows2.length) c e - (rows.length + rows2.length))).toList, ?_, ?_, ?_⟩
  · simp only [Builtin.append_]
    have hmax : IntKind.i64.max = 9223372036854775807 := by decide
    have hd1 : (Builtin.firstCells k rows.length (.slice a rows.length c)).run P w.drew = .ok rows.flatten.toArray w.drew := hf1' _
    have hd2 : (Builtin.firstCells k rows2.length (.slice a2 rows2.length c2)).run P w.drew = .ok rows2.flatten.toArray w.drew := hf2' _
    simp [run_underlying hT.under, run_sizeOf' h1, h2, Builtin.lenOf, hroom, typeInfo, h1, hq, hmax, hb63, hd1, hd2, zeroValue, h4, newRow, grownCap, Question.forced]
    congr 2
    rw [← Array.append_assoc]
    congr 1
    simp
  · exact (Ext.alloc { w with drawn := w.drawn + 1 } _).trans (Ext.refl _ _) |> fun h => ⟨h.os, h.tape, h.output, h.size, h.block⟩
  · refine ⟨⟨grownCap w (rows.length + rows2.length) c e, by simp, by simpa using hcap, by simp only [maxLen, big] at *; omega, ?_⟩, ?_, ?_⟩
    · have : v0.cells.size = k := by rw [← hz, ← h5]; simp
      simp [zero_len, this]
    · have := box_alloc { w with drawn := w.drawn + 1 } (rows.flatten.toArray ++ rows2.flatten.toArray ++ Builtin.zeroCells v0.cells (grownCap w (rows.length + rows2.length) c e - (rows.length + rows2.length))) e
      simpa using this
    · intro r hr
      rcases List.mem_append.1 hr with hr | hr
      · exact hs.each r hr
      · exact hx.each r hr
theorem patch_room {xs ys sp : List Value} (h : ys.length ≤ sp.length) : patch (xs ++ sp) xs.length ys = xs ++ ys ++ sp.drop ys.length := by
  simp [patch, List.drop_append]
/-- append(s, x...), where s is the call's own and has room. -/
theorem run_append_room' {t e : TypeId} {k bytes : Nat} {z : List Value} (hT : SliceT P t e k bytes z) {M' : Nat → Prop} {v : Value} {b : Nat} {a2 : Option Addr} {m2 c2 : Nat} {rows rows2 : List (List Value)} {spare : List Value}
    (hs : Ow w v b k rows spare) (hx : Sl M' w (.slice a2 m2 c2) k rows2) (h1 : ∀ r ∈ rows2, ∀ u ∈ r, u.oneCell' = true) (hg : ∃ m c, v = .slice (some ⟨b, 0, none⟩) m c ∧ rows.length + rows2.length ≤ c) (ty : TypeId) :
    ∃ v' w' spare', (Builtin.append_ #[t, t] ty #[v, .slice a2 m2 c2]).run P w = .ok v' w' ∧ Ext (fun i => i = b) w w' ∧ Ow w' v' b k (rows ++ rows2) spare' := by
  obtain ⟨inf, v0, i1, i2, i3, i4, i5⟩ := hT.inf
  obtain ⟨⟨c, hv, hc1, hc2, hc3⟩, hbox, heach⟩ := hs
  obtain ⟨m', c', hv', hroom⟩ := hg
  have hm2 : m2 = rows2.length := by obtain ⟨⟨_, _, h, _⟩, _⟩ := hx; simp only [Value.slice.injEq] at h; exact h.2.1
  subst hm2
  rw [hv] at hv'
  simp only [Value.slice.injEq, true_and] at hv'
  obtain ⟨rfl, rfl⟩ := hv'
  subst hv
  have hf2 := hx.first (P := P) (w := w)
  have hfl := flat_len heach
  have hfl2 := flat_len hx.each
  obtain ⟨T, hbox⟩ := hbox
  have hsp : rows2.flatten.length ≤ spare.length := by rw [hfl2, hc3]; exact Nat.mul_le_mul_right _ (by omega)
  obtain ⟨w', h2, h3, h4, h5⟩ := run_storeBox (P := P) b T rows2.flatten (rows.length * k) 0 (rows.flatten ++ spare) w hbox (fun u hu => by obtain ⟨r, hr, hu⟩ := List.mem_flatten.1 hu; exact h1 r hr u hu)
    (by simp only [List.length_append]; omega)
  rw [Nat.add_zero, ← hfl, patch_room hsp] at h4
  refine ⟨.slice (some ⟨b, 0, none⟩) (rows.length + rows2.length) c, w', spare.drop rows2.flatten.length, ?_, h3, ⟨⟨c, by simp, by simpa using hroom, hc2, ?_⟩, ⟨T, by simpa using h4⟩, ?_⟩⟩
  · have e : ((⟨b, 0, none⟩ : Addr).add (rows.length * k)) = ⟨b, rows.length * k, none⟩ := by rw [add_at, Nat.zero_add]
    simp [Builtin.append_, run_underlying hT.under, run_sizeOf' i1, i2, Builtin.lenOf, hroom, hf2, e, h2]
  · rw [List.length_drop, hc3, hfl2, List.length_append, ← Nat.sub_mul]; congr 1; omega
  · intro r hr
    rcases List.mem_append.1 hr with hr | hr
    · exact heach r hr
    · exact hx.each r hr
/-- The call's own slice, or nil. -/
def OwN (w : World) (v : Value) (B k : Nat) (rows : List (List Value)) : Prop :=
  (v = .slice none 0 0 ∧ rows = []) ∨ ∃ b spare, B ≤ b ∧ Ow w v b k rows spare
theorem OwN.nil (w : World) (B k : Nat) : OwN w (.slice none 0 0) B k [] := .inl ⟨rfl, rfl⟩
theorem OwN.sl {v : Value} {B k : Nat} {rows : List (List Value)} (h : OwN w v B k rows) {M : Nat → Prop} (hm : ∀ i, B ≤ i → ¬ M i) : Sl M w v k rows := by
  rcases h with ⟨rfl, rfl⟩ | ⟨b, spare, hB, h⟩
  · exact Sl.nil _ _ _
  · exact h.sl (hm b hB)
theorem OwN.ext {v : Value} {B k : Nat} {rows : List (List Value)} (h : OwN w v B k rows) {M : Nat → Prop} {w' : World} (hE : Ext M w w') (hm : ∀ i, B ≤ i → ¬ M i) : OwN w' v B k rows := by
  rcases h with ⟨rfl, rfl⟩ | ⟨b, spare, hB, h⟩
  · exact .inl ⟨rfl, rfl⟩
  · exact .inr ⟨b, spare, hB, h.ext hE (hm b hB)⟩
theorem OwN.slice {v : Value} {B k : Nat} {rows : List (List Value)} (h : OwN w v B k rows) : ∃ a c, v = .slice a rows.length c := by
  rcases h with ⟨rfl, rfl⟩ | ⟨b, spare, hB, h⟩
  · exact ⟨_, _, rfl⟩
  · obtain ⟨c, h, _⟩ := h.val; exact ⟨_, _, h⟩
/-- append(s, x...), s the call's own or nil. -/
theorem run_append_own' {t e : TypeId} {k bytes : Nat} {z : List Value} (hT : SliceT P t e k bytes z) (hz : z.length = k) {M' : Nat → Prop} {v : Value} {B : Nat} {a2 : Option Addr} {m2 c2 : Nat} {rows rows2 : List (List Value)}
    (hs : OwN w v B k rows) (hx : Sl M' w (.slice a2 m2 c2) k rows2) (h1 : ∀ r ∈ rows2, ∀ u ∈ r, u.oneCell' = true) (hB : B ≤ w.heap.size) (hb : (rows.length + rows2.length) * bytes ≤ 140737488355328) (h63 : rows.length + rows2.length ≤ big) (ty : TypeId) :
    ∃ v' w', (Builtin.append_ #[t, t] ty #[v, .slice a2 m2 c2]).run P w = .ok v' w' ∧ Ext (fun i => B ≤ i) w w' ∧ OwN w' v' B k (rows ++ rows2) := by
  rcases hs with ⟨rfl, rfl⟩ | ⟨b, spare, hBb, h⟩
  · by_cases h0 : rows2 = []
    · subst h0
      have hm2 : m2 = 0 := by obtain ⟨⟨_, _, h, _⟩, _⟩ := hx; simp only [Value.slice.injEq] at h; exact h.2.1
      subst hm2
      obtain ⟨inf, v0, i1, i2, i3, i4, i5⟩ := hT.inf
      have hf2 := hx.first (P := P) (w := w)
      refine ⟨.slice none 0 0, w, ?_, Ext.refl _ _, .inl ⟨rfl, rfl⟩⟩
      have hf2' : (Builtin.firstCells k 0 (.slice a2 0 c2)).run P w = .ok #[] w := by simpa using hf2
      simp [Builtin.append_, run_underlying hT.under, run_sizeOf' i1, i2, Builtin.lenOf, hf2']
    · obtain ⟨v', w', sp, h2, h3, h4⟩ := run_append_grow' hT hz (Sl.nil Non w k) hx (by have := List.length_pos_iff.2 h0; simpa using this) hb h63 ty
      exact ⟨v', w', h2, h3.of_non, .inr ⟨_, sp, hB, h4⟩⟩
  · obtain ⟨c, hv, hc1, hc2, hc3⟩ := h.val
    by_cases hroom : rows.length + rows2.length ≤ c
    · obtain ⟨v', w', sp, h2, h3, h4⟩ := run_append_room' hT h hx h1 ⟨_, c, hv, hroom⟩ ty
      exact ⟨v', w', h2, h3.mono (fun i e => by rw [e]; exact hBb), .inr ⟨b, sp, hBb, h4⟩⟩
    · have hsl := h.sl (M := Non) id
      subst hv
      obtain ⟨v', w', sp, h2, h3, h4⟩ := run_append_grow' hT hz hsl hx (by omega) hb h63 ty
      exact ⟨v', w', h2, h3.of_non, .inr ⟨_, sp, hB, h4⟩⟩
theorem foldl_set (off : Nat) : ∀ (vs : List Value) (j : Nat) (cs : Array Value), off + j + vs.length ≤ cs.size →
    ((vs.zipIdx j).foldl (fun cs (p : Value × Nat) => cs.setIfInBounds (off + p.2) p.1) cs).toList = patch cs.toList (off + j) vs
  | [], j, cs, _ => by simp [patch]
  | v :: vs, j, cs, h => by
    simp only [List.length_cons] at h
    rw [List.zipIdx_cons, List.foldl_cons, foldl_set off vs (j + 1) _ (by simp; omega)]
    rw [Array.toList_setIfInBounds, show off + (j + 1) = off + j + 1 from by omega, patch_step (by simp; omega)]
theorem fill_spec (k : Nat) : ∀ (parts : List (Nat × Value)) (cs : Array Value), (∀ p ∈ parts, p.2.cells.size = k ∧ p.1 * k + k ≤ cs.size) →
    ∃ cs', Instr.fill (fun i => some (i * k, k)) cs parts = some cs' ∧ cs'.toList = parts.foldl (fun acc p => patch acc (p.1 * k) p.2.cells.toList) cs.toList
  | [], cs, _ => ⟨cs, rfl, rfl⟩
  | (i, v) :: parts, cs, h => by
    obtain ⟨h1, h2⟩ := h (i, v) (by simp)
    simp only at h1 h2
    have hf := foldl_set (i * k) v.cells.toList 0 cs (by simp; omega)
    have e1 : (v.cells.zipIdx.foldl (fun cs (x : Value × Nat) => cs.setIfInBounds (i * k + x.2) x.1) cs).toList = patch cs.toList (i * k) v.cells.toList := by
      rw [← Array.foldl_toList, Array.toList_zipIdx]; simpa using hf
    have hlen : (v.cells.zipIdx.foldl (fun cs (x : Value × Nat) => cs.setIfInBounds (i * k + x.2) x.1) cs).size = cs.size := by
      rw [← Array.length_toList, e1, patch_length (by simp; omega)]; simp
    obtain ⟨cs', h3, h4⟩ := fill_spec k parts _ (fun p hp => by rw [hlen]; exact h p (by simp [hp]))
    refine ⟨cs', ?_, ?_⟩
    · simp only [Instr.fill]
      rw [if_neg (by simp; omega)]
      exact h3
    · rw [h4, e1]; rfl
/-- A literal slice. -/
theorem wl_lit {t e : TypeId} {k bytes : Nat} {z : List Value} (hT : SliceT P t e k bytes z) (hz : z.length = k) {len d : Nat} {parts : List (Nat × Operand)} {vals : List (Nat × Value)} {rows : List (List Value)} (hk : len * k ≤ 16777216) (hlen : len ≤ 16777216)
    (hv : parts.map (fun p => (p.1, ev σ p.2)) = vals) (hl : rows.length = len) (he : ∀ r ∈ rows, r.length = k) (hp : ∀ p ∈ vals, p.2.cells.size = k ∧ p.1 * k + k ≤ len * k)
    (hr : vals.foldl (fun acc p => patch acc (p.1 * k) p.2.cells.toList) (List.replicate len z).flatten = rows.flatten)
    (kk : ∀ v w' b, w.heap.size ≤ b → Ext Non w w' → Ow w' v b k rows [] → wl P ops rest K (upd σ d v) w') : wl P ops (⟨some d, .buildSlice t len parts.toArray, ty, pos, af, none⟩ :: rest) K σ w := by
  obtain ⟨inf, v0, i1, i2, i3, i4, i5⟩ := hT.inf
  have hzs : v0.cells.size = k := by rw [← hz, ← i5]; simp
  obtain ⟨zr, hzr0, hzr1, hzt⟩ : ∃ zr : Array Value, (len * k = 0 → zr = #[]) ∧ (¬ len * k = 0 → zr = v0.cells) ∧ ((Array.range (len * k)).map (zr[· % zr.size]!)).toList = (List.replicate len z).flatten := by
    by_cases h0 : len * k = 0
    · refine ⟨#[], fun _ => rfl, fun h => absurd h0 h, ?_⟩
      have : (List.replicate len z).flatten.length = 0 := by simp [hz, h0]
      rw [List.length_eq_zero_iff.1 this, h0]; simp
    · refine ⟨v0.cells, fun h => absurd h h0, fun _ => rfl, ?_⟩
      apply List.ext_getElem
      · simp [hz]
      · intro i h1 h2
        simp only [List.length_flatten, List.map_replicate, hz, List.sum_replicate_nat] at h2
        have hk0 : 0 < k := Nat.pos_of_ne_zero (fun e => h0 (by simp [e]))
        have hik : i / k < len := Nat.div_lt_of_lt_mul (by rw [Nat.mul_comm]; exact h2)
        have e1 : (List.replicate len z).flatten[i / k * k + i % k]? = ((List.replicate len z)[i / k]'(by simpa using hik))[i % k]? := flat_at (k := k) (fun r hr => by rw [List.eq_of_mem_replicate hr, hz]) (i / k) (i % k) (by simpa using hik) (Nat.mod_lt _ hk0)
        rw [Nat.div_add_mod' i k] at e1
        have e2 : (List.replicate len z).flatten[i]? = some (z[i % k]'(by rw [hz]; exact Nat.mod_lt _ hk0)) := by
          rw [e1]; simp
        have e3 := List.getElem?_eq_some_iff.1 e2
        obtain ⟨_, e3⟩ := e3
        rw [e3]
        have hlt : i % v0.cells.size < v0.cells.size := Nat.mod_lt _ (by omega)
        simp only [Array.getElem_toList, Array.getElem_map, Array.getElem_range]
        have e5 : v0.cells[i % v0.cells.size]! = v0.cells[i % v0.cells.size]'hlt := by simp [hlt]
        rw [e5]
        subst i5
        simp [hzs]
  have hsz : ((Array.range (len * k)).map (zr[· % zr.size]!)).size = len * k := by simp
  obtain ⟨cs', hf1, hf2⟩ := fill_spec k vals ((Array.range (len * k)).map (zr[· % zr.size]!)) (fun p hp' => by rw [hsz]; exact hp p hp')
  rw [hzt, hr] at hf2
  refine wl_new (w' := w.alloc (.cells cs' e)) (v := .slice (some ⟨w.heap.size, 0, none⟩) len len) ?_ (kk _ _ _ (Nat.le_refl _) (Ext.alloc _ _) ⟨⟨len, by rw [hl], by omega, ?_, by simp [hl]⟩, ?_, he⟩)
  · show (execOp (ev σ) _).run P w = _
    have hparts : (parts.toArray.map fun (x : Nat × Operand) => (x.1, ev σ x.2)) = vals.toArray := by rw [← hv]; simp
    have hng : ¬ (len * k > 2 ^ 24) := by omega
    simp only [execOp, Instr.buildSlice, hparts, Sem.run_bind, run_underlying hT.under, Result.andThen_ok, run_sizeOf' i1, i2, if_neg hng]
    by_cases h0 : len * k = 0
    · have := hzr0 h0; subst this
      rw [if_pos h0]
      simp only [Sem.run_bind, Sem.run_pure, Result.andThen_ok, hf1]
      simp [newRow]
    · have := hzr1 h0; subst this
      rw [if_neg h0]
      simp [zeroValue, typeInfo, i1, i4, hf1, newRow]
  · simp only [big]; omega
  · rw [List.append_nil, ← hf2]; exact box_alloc _ _ _
end Go.Proofs.YthcclgoidchkdaaDoorC
