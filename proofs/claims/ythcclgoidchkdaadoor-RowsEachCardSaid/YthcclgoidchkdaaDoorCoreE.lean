/- Loads, stores, new memory, calls, and a function's contract, in the calculus; each rule holds of whatever program. -/
import Derived.Test.YthcclgoidchkdaaDoorCoreD
set_option linter.unusedVariables false
set_option linter.unusedSimpArgs false
namespace Go.Proofs.YthcclgoidchkdaaDoorC
open Go.RowKit
variable {ro : Option Nat} {P : Program} {n : Nat} {Q : Post} {σ : Env} {D : List Deferred} {w : World} {dst : Option Nat} {ty : TypeId} {pos : String} {af : Array Edge} {g : Option (Nat × Bool)}
variable {ops rest : List Oper} {K : Ops}

theorem step1_none {op : Op} : step1 P ops ⟨dst, op, ty, pos, af, none⟩ σ w K = op1 P ⟨dst, op, ty, pos, af, none⟩ σ w K := if_pos rfl
theorem wl_nil (h : K σ w) : wl P ops [] K σ w := h
/-- An operation that yields v, and leaves the world alone. -/
theorem wl_val {op : Op} {v : Value} (h : Rn P σ w ⟨dst, op, ty, pos, af, none⟩ v) (k : wl P ops rest K (put σ dst v) w) : wl P ops (⟨dst, op, ty, pos, af, none⟩ :: rest) K σ w := by
  show step1 P ops _ σ w _
  rw [step1_none]; unfold op1
  rw [show (execOp (ev σ) _).run P w = _ from h]; exact k
theorem wl_new {op : Op} {v : Value} {w' : World} (h : Rw P σ w ⟨dst, op, ty, pos, af, none⟩ v w') (k : wl P ops rest K (put σ dst v) w') : wl P ops (⟨dst, op, ty, pos, af, none⟩ :: rest) K σ w := by
  show step1 P ops _ σ w _
  rw [step1_none]; unfold op1
  rw [show (execOp (ev σ) _).run P w = _ from h]; exact k
theorem wl_do {op : Op} {w' : World} (h : Rs P σ w ⟨none, op, ty, pos, af, none⟩ w') (k : wl P ops rest K σ w') : wl P ops (⟨none, op, ty, pos, af, none⟩ :: rest) K σ w := by
  show step1 P ops _ σ w _
  rw [step1_none]; unfold op1
  rw [show (execOp (ev σ) _).run P w = _ from h]; exact k
/-- The guard says yes. -/
theorem wl_yes {op : Op} {j : Nat} {b : Bool} {d : Nat} (hd : ((ops[j]?).bind (·.dst)) = some d) (hb : σ d = .bool b) (k : wl P ops (⟨dst, op, ty, pos, af, none⟩ :: rest) K σ w) :
    wl P ops (⟨dst, op, ty, pos, af, some (j, b)⟩ :: rest) K σ w := by
  have e : wantedBy ops σ ⟨dst, op, ty, pos, af, some (j, b)⟩ = true := by simp [wantedBy, hd, hb]
  show step1 P ops _ σ w _
  have k' : step1 P ops ⟨dst, op, ty, pos, af, none⟩ σ w (wl P ops rest K) := k
  rw [step1_none] at k'
  unfold step1
  rw [if_pos e]; exact k'
/-- The guard says no. -/
theorem wl_no {op : Op} {j : Nat} {b : Bool} {d : Nat} (hd : ((ops[j]?).bind (·.dst)) = some d) (hb : σ d = .bool (!b)) (k : wl P ops rest K (put σ dst undef) w) :
    wl P ops (⟨dst, op, ty, pos, af, some (j, b)⟩ :: rest) K σ w := by
  have e : wantedBy ops σ ⟨dst, op, ty, pos, af, some (j, b)⟩ = false := by cases b <;> simp [wantedBy, hd, hb]
  show step1 P ops _ σ w _
  unfold step1
  rw [if_neg (by rw [e]; simp)]; exact k

/-! ### loads and stores -/
/-- A type of one cell. -/
def plainT (P : Program) (t : TypeId) : Prop := (match P.underlying t with | some (.struct _) => false | some (.array _ _) => false | some _ => true | none => false) = true ∧ (P.info? t).map (·.size) = some 1
/-- A struct type of k cells. -/
def structT (P : Program) (t : TypeId) (k : Nat) : Prop := (match P.underlying t with | some (.struct _) => true | _ => false) = true ∧ (P.info? t).map (·.size) = some k
theorem plainT.agg {t : TypeId} (h : plainT P t) : (isAgg t).run P w = .ok false w := by
  obtain ⟨h1, _⟩ := h
  cases hu : P.underlying t with
  | none => simp [hu] at h1
  | some d => cases d <;> simp [hu] at h1 <;> simp [isAgg, run_underlying hu]
theorem structT.agg {t : TypeId} {k : Nat} (h : structT P t k) : (isAgg t).run P w = .ok true w := by
  obtain ⟨h1, _⟩ := h
  cases hu : P.underlying t with
  | none => simp [hu] at h1
  | some d => cases d <;> simp [hu] at h1 <;> simp [isAgg, run_underlying hu]
theorem run_size {t : TypeId} {k : Nat} (h : (P.info? t).map (·.size) = some k) : (sizeOf t).run P w = .ok k w := by
  cases hi : P.info? t with
  | none => simp [hi] at h
  | some i => simp [hi] at h; rw [run_sizeOf' hi, h]
theorem rn_load {t : TypeId} (hT : plainT P t) {x : Operand} {a : Addr} {v : Value} (hx : ev σ x = .pointer (some a)) (hc : w.cell? a = some v) : Rn P σ w ⟨dst, .load t x, ty, pos, af, g⟩ v := by
  show (execOp (ev σ) _).run P w = _
  simp [execOp, hx, Instr.loadAt, Instr.sureAddr, loadVar, hT.agg, hc]
theorem run_loadCells (a : Addr) (vs : List Value) : ∀ (i : Nat) (acc : Array Value), (∀ j, j < vs.length → w.cell? (a.add (i + j)) = vs[j]?) →
    (loadCellsFrom a i vs.length acc).run P w = .ok (acc ++ vs.toArray) w := by
  induction vs with
  | nil => intro i acc _; simp [loadCellsFrom]
  | cons v vs ih =>
    intro i acc h
    have h0 : w.cell? (a.add i) = some v := by simpa using h 0 (by simp)
    simp only [List.length_cons, loadCellsFrom, Sem.run_bind, run_load, h0, Result.andThen_ok]
    rw [ih (i + 1) (acc.push v) (fun j hj => by have := h (j + 1) (by simp; omega); simpa [Nat.add_assoc, Nat.add_comm 1 j] using this)]
    simp
theorem rn_loadS {t : TypeId} {k : Nat} (hT : structT P t k) {x : Operand} {a : Addr} {vs : List Value} (hx : ev σ x = .pointer (some a)) (hk : vs.length = k) (hc : ∀ j, j < k → w.cell? (a.add j) = vs[j]?) :
    Rn P σ w ⟨dst, .load t x, ty, pos, af, g⟩ (.agg vs.toArray) := by
  show (execOp (ev σ) _).run P w = _
  subst hk
  have h1 := run_loadCells (P := P) (w := w) a vs 0 #[] (fun j hj => by simpa using hc j hj)
  simp [execOp, hx, Instr.loadAt, Instr.sureAddr, loadVar, hT.agg, run_size hT.2, loadCells, h1]
theorem add_at (b o j : Nat) : (⟨b, o, none⟩ : Addr).add j = ⟨b, o + j, none⟩ := by unfold Addr.add; split <;> simp_all
/-- A whole box of a struct type is read. -/
theorem rn_loadB {t : TypeId} {k : Nat} (hT : structT P t k) {x : Operand} {b : Nat} {vs : List Value} (hx : ev σ x = .pointer (some ⟨b, 0, none⟩)) (hk : vs.length = k) (hb : IsBox w b vs) :
    Rn P σ w ⟨dst, .load t x, ty, pos, af, g⟩ (.agg vs.toArray) :=
  rn_loadS hT hx hk fun j hj => by
    rw [add_at, Nat.zero_add]
    have h1 : vs[j]? = some vs[j] := List.getElem?_eq_getElem (by omega)
    rw [hb.cell h1, h1]
/-- One cell of a box is read. -/
theorem rn_load1 {t : TypeId} (hT : plainT P t) {x : Operand} {b i : Nat} {vs : List Value} {v : Value} (hx : ev σ x = .pointer (some ⟨b, i, none⟩)) (hb : IsBox w b vs) (hi : vs[i]? = some v) :
    Rn P σ w ⟨dst, .load t x, ty, pos, af, g⟩ v := rn_load hT hx (hb.cell hi)

/-- A list of cells, from place i on written over. -/
def patch (cs : List Value) (i : Nat) (vs : List Value) : List Value := cs.take i ++ vs ++ cs.drop (i + vs.length)
theorem patch_length {cs : List Value} {i : Nat} {vs : List Value} (h : i + vs.length ≤ cs.length) : (patch cs i vs).length = cs.length := by
  simp [patch]; omega
theorem patch_step {cs vs : List Value} {v : Value} {k : Nat} (h : k < cs.length) : patch (cs.set k v) (k + 1) vs = patch cs k (v :: vs) := by
  simp only [patch, List.length_cons]
  rw [List.take_set, List.take_succ_eq_append_getElem h, List.drop_set_of_lt (by omega)]
  rw [List.set_append_right _ _ (by simp; omega)]
  simp [Nat.min_eq_left (Nat.le_of_lt h), show k + 1 + vs.length = k + (vs.length + 1) from by omega]
theorem patch_all {cs vs : List Value} (h : vs.length = cs.length) : patch cs 0 vs = vs := by simp [patch, ← h]
theorem run_storeBox (b : Nat) (T : TypeId) : ∀ (vs : List Value) (o i : Nat) (cs : List Value) (w : World), w.heap[b]? = some (.cells cs.toArray T (0, 0)) → (∀ v ∈ vs, v.oneCell' = true) → o + i + vs.length ≤ cs.length →
    ∃ w', (storeCells ⟨b, o, none⟩ vs i).run P w = .ok () w' ∧ Ext (fun j => j = b) w w' ∧ w'.heap[b]? = some (.cells (patch cs (o + i) vs).toArray T (0, 0)) ∧ w'.heap.size = w.heap.size
  | [], o, i, cs, w, hb, _, _ => ⟨w, by simp [storeCells], Ext.refl _ _, by simpa [patch] using hb, rfl⟩
  | v :: vs, o, i, cs, w, hb, hv, hl => by
    have hv0 : v.oneCell' = true := hv v (by simp)
    simp only [List.length_cons] at hl
    have hlt : b < w.heap.size := (Array.getElem?_eq_some_iff.1 hb).1
    have hc : w.cell? ⟨b, o + i, none⟩ = some (cs[o + i]'(by omega)) := by
      simp [World.cell?, hb]
    have hf : w.frozen? ⟨b, o + i, none⟩ = false := by simp [World.frozen?, hb]
    have h1 : (store ((⟨b, o, none⟩ : Addr).add i) v).run P w = .ok () (w.setCell ⟨b, o + i, none⟩ v) := by
      rw [add_at, run_store P w _ v _ hv0]
      simp [stored, hc, hf]
    have hb' : (w.setCell ⟨b, o + i, none⟩ v).heap[b]? = some (.cells (cs.set (o + i) v).toArray T (0, 0)) := by
      simp only [World.setCell, Array.getElem?_modify, if_true, hb, Option.map_some]
      simp
    have hE : Ext (fun j => j = b) w (w.setCell ⟨b, o + i, none⟩ v) := ⟨rfl, rfl, rfl, by simp [World.setCell], fun j hj hne => Below.heap_setCell _ _ _ _ hne⟩
    obtain ⟨w', h2, h3, h4, h5⟩ := run_storeBox b T vs o (i + 1) (cs.set (o + i) v) _ hb' (fun x hx => hv x (by simp [hx])) (by simp; omega)
    refine ⟨w', ?_, hE.trans h3, ?_, h5.trans (by simp [World.setCell])⟩
    · simp only [storeCells, Sem.run_bind, h1, Result.andThen_ok]; exact h2
    · rw [h4, show o + (i + 1) = o + i + 1 from by omega, patch_step (by omega)]
/-- What stands in a variable of a type. -/
theorem rs_store {t : TypeId} {x y : Operand} {b i : Nat} {cs : List Value} {v : Value} (hk : (P.info? t).map (·.size) = some v.cells.size) (hx : ev σ x = .pointer (some ⟨b, i, none⟩)) (hy : ev σ y = v)
    (h1 : ∀ u ∈ v.cells.toList, u.oneCell' = true) (hb : IsBox w b cs) (hl : i + v.cells.size ≤ cs.length) :
    ∃ w', Rs P σ w ⟨dst, .store t x y, ty, pos, af, g⟩ w' ∧ Ext (fun j => j = b) w w' ∧ IsBox w' b (patch cs i v.cells.toList) ∧ w'.heap.size = w.heap.size := by
  obtain ⟨T, hb⟩ := hb
  obtain ⟨w', h2, h3, h4, h5⟩ := run_storeBox (P := P) b T v.cells.toList i 0 cs w hb h1 (by simpa using hl)
  refine ⟨w', ?_, h3, ⟨T, by simpa using h4⟩, h5⟩
  show (execOp (ev σ) _).run P w = _
  subst hy
  simp [execOp, hx, Instr.storeAt, Instr.sureAddr, storeVar, run_size hk, h2]
/-- One cell of a box is written. -/
theorem wl_store1 {t : TypeId} {x y : Operand} {b i : Nat} {cs : List Value} {v : Value} (hT : plainT P t) (hx : ev σ x = .pointer (some ⟨b, i, none⟩)) (hy : ev σ y = v) (hv : v.cells = #[v]) (h1 : v.oneCell' = true) (hb : IsBox w b cs) (hl : i < cs.length)
    (k : ∀ w', Ext (fun j => j = b) w w' → IsBox w' b (cs.set i v) → w'.heap.size = w.heap.size → wl P ops rest K σ w') : wl P ops (⟨none, .store t x y, ty, pos, af, none⟩ :: rest) K σ w := by
  obtain ⟨w', h2, h3, h4, h5⟩ := rs_store (dst := none) (ty := ty) (pos := pos) (af := af) (g := none) (by rw [hv]; exact hT.2) hx hy (by rw [hv]; simpa using h1) hb (by rw [hv]; simp; omega)
  refine wl_do h2 (k w' h3 ?_ h5)
  rw [hv] at h4
  have e : patch cs i [v] = cs.set i v := by
    simp only [patch, List.length_cons, List.length_nil]
    rw [List.set_eq_take_append_cons_drop, if_pos hl]; simp
  simpa [e] using h4
/-- A whole box is written. -/
theorem wl_storeB {t : TypeId} {x y : Operand} {b k : Nat} {cs vs : List Value} (hT : structT P t k) (hx : ev σ x = .pointer (some ⟨b, 0, none⟩)) (hy : ev σ y = .agg vs.toArray) (hk : vs.length = k) (h1 : ∀ u ∈ vs, u.oneCell' = true) (hb : IsBox w b cs) (hl : cs.length = k)
    (kk : ∀ w', Ext (fun j => j = b) w w' → IsBox w' b vs → w'.heap.size = w.heap.size → wl P ops rest K σ w') : wl P ops (⟨none, .store t x y, ty, pos, af, none⟩ :: rest) K σ w := by
  obtain ⟨w', h2, h3, h4, h5⟩ := rs_store (dst := none) (ty := ty) (pos := pos) (af := af) (g := none) (by simp [Value.cells, hk]; simpa using hT.2) hx hy (by simpa [Value.cells] using h1) hb (by simp [Value.cells]; omega)
  refine wl_do h2 (kk w' h3 ?_ h5)
  have : (Value.agg vs.toArray).cells.toList = vs := by simp [Value.cells]
  rw [this, patch_all (by omega)] at h4
  exact h4

/-! ### new memory -/
theorem box_alloc (w : World) (cs : Array Value) (T : TypeId) : IsBox (w.alloc (.cells cs T)) w.heap.size cs.toList := ⟨T, by have := World.alloc_heap_new w (.cells cs T); simpa using this⟩
theorem wl_box {e : TypeId} {x : Operand} {cs : List Value} {d : Nat} (hx : (ev σ x).cells.toList = cs)
    (k : ∀ b w', w.heap.size ≤ b → Ext Non w w' → IsBox w' b cs → wl P ops rest K (upd σ d (.pointer (some ⟨b, 0, none⟩))) w') : wl P ops (⟨some d, .box e x, ty, pos, af, none⟩ :: rest) K σ w := by
  refine wl_new (w' := w.alloc (.cells (ev σ x).cells e)) (v := .pointer (some ⟨w.heap.size, 0, none⟩)) ?_ (k _ _ (Nat.le_refl _) (Ext.alloc _ _) (by subst hx; exact box_alloc _ _ _))
  show (execOp (ev σ) _).run P w = _
  simp [execOp, Instr.box, newVar, newRow]
/-- A type's zero value's cells. -/
def zeroT (P : Program) (t : TypeId) (z : List Value) : Prop := (P.info? t).map (fun i => i.zero.map (fun v => v.cells.toList)) = some (some z)
theorem run_zero {t : TypeId} {z : List Value} (h : zeroT P t z) : ∃ v, (∀ w, (zeroValue t).run P w = .ok v w) ∧ v.cells.toList = z := by
  unfold zeroT at h
  cases hi : P.info? t with
  | none => simp [hi] at h
  | some i =>
    simp only [hi, Option.map_some, Option.some.injEq] at h
    cases hz : i.zero with
    | none => simp [hz] at h
    | some v => exact ⟨v, fun w => by simp [zeroValue, typeInfo, hi, hz], by simpa [hz] using h⟩
theorem wl_alloc {e : TypeId} {z : List Value} {d : Nat} (hz : zeroT P e z)
    (k : ∀ b w', w.heap.size ≤ b → Ext Non w w' → IsBox w' b z → wl P ops rest K (upd σ d (.pointer (some ⟨b, 0, none⟩))) w') : wl P ops (⟨some d, .alloc e, ty, pos, af, none⟩ :: rest) K σ w := by
  obtain ⟨v, h1, h2⟩ := run_zero hz
  refine wl_new (w' := w.alloc (.cells v.cells e)) (v := .pointer (some ⟨w.heap.size, 0, none⟩)) ?_ (k _ _ (Nat.le_refl _) (Ext.alloc _ _) (by subst h2; exact box_alloc _ _ _))
  show (execOp (ev σ) _).run P w = _
  simp [execOp, Instr.alloc, h1, newVar, newRow]

/-! ### calls -/
/-- A function that the program's text gives. -/
def entersB (P : Program) (f : FuncId) : Bool := match P.funcs[f]? with | some fn => fn.name != "runtime.NumGoroutine" && fn.body.isSome | none => false
theorem run_enters {f : FuncId} (h : entersB P f = true) (args : Array Value) (w : World) : (callFunc f args).run P w = .ok (.enter f args) w := by
  unfold entersB at h
  cases hf : P.funcs[f]? with
  | none => simp [hf] at h
  | some fn =>
    simp only [hf, Bool.and_eq_true, bne_iff_ne, ne_eq] at h
    obtain ⟨h1, h2⟩ := h
    have h3 : (fn.name == "runtime.NumGoroutine") = false := by simpa using h1
    have h4 : fn.body.isNone = false := by cases hb : fn.body <;> simp_all
    have h5 : fn.body ≠ none := by intro h; rw [h] at h2; cases h2
    simp [callFunc, hf, h1, h5]
/-- The contract of a function: it returns v; no block that there was has turned. -/
def Fn (P : Program) (f : FuncId) (args : Array Value) (w : World) (R : Value → World → Prop) : Prop :=
  Calls P f args w fun e w' => ∃ v, e = .returned v ∧ Ext Non w w' ∧ R v w'
theorem Fn.mono {f : FuncId} {args : Array Value} {R R' : Value → World → Prop} (h : Fn P f args w R) (hr : ∀ v w', Ext Non w w' → R v w' → R' v w') : Fn P f args w R' :=
  Calls.mono h fun e w' hx => by obtain ⟨v, h1, h2, h3⟩ := hx; exact ⟨v, h1, h2, hr _ _ h2 h3⟩
/-- A call of a function by its name. -/
theorem wl_call {f : FuncId} {as : List Operand} {ts : Array TypeId} {args : List Value} {R : Value → World → Prop} (hf : entersB P f = true) (ha : as.map (ev σ) = args) (h : Fn P f args.toArray w R)
    (k : ∀ v w', Ext Non w w' → R v w' → wl P ops rest K (put σ dst v) w') : wl P ops (⟨dst, .call ⟨.value (.func f), as.toArray, ts⟩, ty, pos, af, none⟩ :: rest) K σ w := by
  show step1 P ops _ σ w _
  rw [step1_none]; unfold op1
  have e : (execOp (ev σ) ⟨dst, .call ⟨.value (.func f), as.toArray, ts⟩, ty, pos, af, none⟩).run P w = .ok (.enter f args.toArray) w := by
    simp [execOp, resolve, ev, ha, Deferred.ofValue, invoke, run_enters hf]
  rw [e]
  exact Calls.mono h fun e w' hx => by obtain ⟨v, h1, h2, h3⟩ := hx; exact ⟨v, h1, k v w' h2 h3⟩
end Go.Proofs.YthcclgoidchkdaaDoorC
