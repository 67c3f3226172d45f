/- A calculus for walking a Go function's code: the temporaries as a function from numbers to values; each rule holds of whatever program. -/
import Derived.RangeFuncNested
import Derived.RangeFuncLeaves
import Derived.OrdersIn
import Derived.KernelRfl
set_option linter.unusedVariables false
set_option linter.unusedSimpArgs false
namespace Go.Proofs.YthcclgoidchkdaaDoorC
open Go.RowKit

/-! ### worlds -/
/-- Whatever block there was, but those that M names, is as it was. -/
structure Ext (M : Nat → Prop) (w w' : World) : Prop where
  os : w'.os = w.os
  tape : w'.tape = w.tape
  output : w'.output = w.output
  size : w.heap.size ≤ w'.heap.size
  block : ∀ i, i < w.heap.size → ¬ M i → w'.heap[i]? = w.heap[i]?
abbrev Non : Nat → Prop := fun _ => False
theorem Ext.refl (M : Nat → Prop) (w : World) : Ext M w w := ⟨rfl, rfl, rfl, Nat.le_refl _, fun _ _ _ => rfl⟩
theorem Ext.trans {M : Nat → Prop} {a b c : World} (h : Ext M a b) (k : Ext M b c) : Ext M a c :=
  ⟨k.os.trans h.os, k.tape.trans h.tape, k.output.trans h.output, Nat.le_trans h.size k.size, fun i hi hm => (k.block i (Nat.lt_of_lt_of_le hi h.size) hm).trans (h.block i hi hm)⟩
theorem Ext.mono {M M' : Nat → Prop} {w w' : World} (h : Ext M w w') (hm : ∀ i, M i → M' i) : Ext M' w w' := ⟨h.os, h.tape, h.output, h.size, fun i hi hn => h.block i hi fun h' => hn (hm i h')⟩
theorem Ext.of_non {M : Nat → Prop} {w w' : World} (h : Ext Non w w') : Ext M w w' := h.mono fun _ h => h.elim
theorem Ext.drew {M : Nat → Prop} {w w' : World} (h : Ext M w w') : Ext M w { w' with drawn := w'.drawn + 1 } := ⟨h.os, h.tape, h.output, h.size, h.block⟩
/-- What was written lay beyond the beginning. -/
theorem Ext.fresh {M : Nat → Prop} {w w' : World} (h : Ext M w w') (hm : ∀ i, M i → w.heap.size ≤ i) : Ext Non w w' :=
  ⟨h.os, h.tape, h.output, h.size, fun i hi _ => h.block i hi fun h' => absurd (hm i h') (by omega)⟩
theorem Ext.below {w w' : World} (h : Ext Non w w') : Below w.heap.size w w' := ⟨h.os, h.tape, h.output, h.size, fun i hi => h.block i hi id⟩
theorem Ext.of_below {w w' : World} (h : Below w.heap.size w w') : Ext Non w w' := ⟨h.os, h.tape, h.output, h.size, fun i hi _ => h.block i hi⟩
theorem Ext.alloc (w : World) (o : Obj) : Ext Non w (w.alloc o) := ⟨rfl, rfl, rfl, by simp, fun i hi _ => Below.heap_alloc w o i hi⟩
theorem Ext.putObj (M : Nat → Prop) (w : World) (r : Nat) (o : Obj) (hr : M r) : Ext M w (w.putObj r o) :=
  ⟨rfl, rfl, rfl, by simp [World.putObj], fun i hi hm => World.putObj_heap_other (fun e => hm (e ▸ hr))⟩
theorem Ext.cell {M : Nat → Prop} {w w' : World} (h : Ext M w w') {a : Addr} {v : Value} (hc : w.cell? a = some v) (hm : ¬ M a.block) : w'.cell? a = some v := by
  have hlt : a.block < w.heap.size := World.block_lt_of_cell? w a hc
  rw [World.cell?_of_block (w := w) (h.block a.block hlt hm)]; exact hc
theorem Ext.obj {M : Nat → Prop} {w w' : World} (h : Ext M w w') {i : Nat} {o : Obj} (hc : w.heap[i]? = some o) (hm : ¬ M i) : w'.heap[i]? = some o := by
  have hlt : i < w.heap.size := (Array.getElem?_eq_some_iff.1 hc).1
  rw [h.block i hlt hm]; exact hc

/-- A block whose cells are known, none shared with a string. -/
def IsBox (w : World) (b : Nat) (cs : List Value) : Prop := ∃ T, w.heap[b]? = some (.cells cs.toArray T (0, 0))
theorem IsBox.lt {w : World} {b : Nat} {cs : List Value} (h : IsBox w b cs) : b < w.heap.size := by obtain ⟨T, h⟩ := h; exact (Array.getElem?_eq_some_iff.1 h).1
theorem IsBox.ext {M : Nat → Prop} {w w' : World} {b : Nat} {cs : List Value} (h : IsBox w b cs) (hE : Ext M w w') (hm : ¬ M b) : IsBox w' b cs := by
  obtain ⟨T, h⟩ := h; exact ⟨T, hE.obj h hm⟩
theorem IsBox.cell {w : World} {b : Nat} {cs : List Value} (h : IsBox w b cs) {i : Nat} {v : Value} (hi : cs[i]? = some v) : w.cell? ⟨b, i, none⟩ = some v := by
  obtain ⟨T, h⟩ := h; simp [World.cell?, h, hi]

/-! ### temporaries -/
abbrev Env := Nat → Value
def upd (σ : Env) (d : Nat) (v : Value) : Env := fun i => bif Nat.beq i d then v else σ i
def ev (σ : Env) : Operand → Value
  | .tmp t => σ t
  | .const v => v
  | .global g => .pointer (some ⟨g, 0, none⟩)
  | .func f => .func (.func f) #[] #[]
def put (σ : Env) : Option Nat → Value → Env
  | some d, v => upd σ d v
  | none, _ => σ
structure Sim (n : Nat) (a : Act) (σ : Env) : Prop where
  size : a.tmps.size = n
  agree : ∀ i, a.tmps.getD i undef = σ i
theorem Sim.eval {n : Nat} {a : Act} {σ : Env} (h : Sim n a σ) : a.eval = ev σ := by
  funext x; cases x <;> simp [Act.eval, ev, h.agree]
theorem upd_eq (σ : Env) (d : Nat) (v : Value) : upd σ d v d = v := by simp [upd]
theorem upd_ne (σ : Env) (d i : Nat) (v : Value) (h : i ≠ d) : upd σ d v i = σ i := by
  unfold upd
  have hb : Nat.beq i d = false := by
    cases hb : Nat.beq i d with
    | false => rfl
    | true => exact absurd (Nat.eq_of_beq_eq_true hb) h
  rw [hb]; rfl
theorem Sim.put {n : Nat} {a : Act} {σ : Env} (h : Sim n a σ) (dst : Option Nat) (v : Value) (hd : ∀ d, dst = some d → d < n) : Sim n (a.put dst v) (put σ dst v) := by
  cases dst with
  | none => exact h
  | some d =>
    have hd' := hd d rfl
    refine ⟨by simp [Act.put, h.size], fun i => ?_⟩
    have := h.agree i
    show (a.tmps.setIfInBounds d v).getD i undef = upd σ d v i
    rw [Array.getD_eq_getD_getElem?, Array.getElem?_setIfInBounds]
    by_cases e : d = i
    · subst e; rw [upd_eq]; simp [h.size, hd']
    · rw [upd_ne _ _ _ _ (fun h => e h.symm), if_neg e, ← this, Array.getD_eq_getD_getElem?]
end Go.Proofs.YthcclgoidchkdaaDoorC
