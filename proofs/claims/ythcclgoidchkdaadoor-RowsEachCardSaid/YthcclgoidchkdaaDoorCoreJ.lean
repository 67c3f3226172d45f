/- More single operations, addresses within elements, and what abides an iterator, in the calculus. -/
import Derived.Test.YthcclgoidchkdaaDoorCoreI
import Derived.Laws.StructEq
set_option linter.unusedVariables false
set_option linter.unusedSimpArgs false
namespace Go.Proofs.YthcclgoidchkdaaDoorC
open Go.RowKit
variable {ro : Option Nat} {P : Program} {n : Nat} {Q : Post} {σ : Env} {D : List Deferred} {w : World} {dst : Option Nat} {ty : TypeId} {pos : String} {af : Array Edge} {g : Option (Nat × Bool)}

theorem addr_add (a : Addr) (m n : Nat) : (a.add m).add n = a.add (m + n) := by
  unfold Addr.add
  by_cases h1 : m = 0
  · subst h1; simp
  · by_cases h2 : n = 0
    · subst h2; simp [h1]
    · simp [h1, h2, Nat.add_assoc]
section elems
variable {M : Nat → Prop} {a : Addr} {m c k : Nat} {rows : List (List Value)} {i : Nat} {r : List Value} {u : Value} {d e f : Nat}
theorem Sl.at0 (h : Sl M w (.slice (some a) m c) k rows) (hi : rows[i]? = some r) (hd : r[0]? = some u) : w.cell? (a.add (i * k)) = some u := h.cell (d := 0) hi hd
theorem Sl.at1 (h : Sl M w (.slice (some a) m c) k rows) (hi : rows[i]? = some r) (hd : r[d]? = some u) : w.cell? ((a.add (i * k)).add d) = some u := by rw [addr_add]; exact h.cell hi hd
/-- A struct within an element. -/
theorem Sl.all0 (h : Sl M w (.slice (some a) m c) k rows) (hi : rows[i]? = some r) (j : Nat) (hj : j < k) : w.cell? ((a.add (i * k)).add j) = r[j]? := by
  have hl : r.length = k := h.each r (List.mem_of_getElem? hi)
  rw [List.getElem?_eq_getElem (by omega)]
  exact h.at1 hi (List.getElem?_eq_getElem (by omega))
end elems
/-- The cells of a struct within a box. -/
theorem IsBox.all {b o : Nat} {cs : List Value} (h : IsBox w b cs) (k : Nat) (hk : o + k ≤ cs.length) (j : Nat) (hj : j < k) : w.cell? ((⟨b, o, none⟩ : Addr).add j) = ((cs.drop o).take k)[j]? := by
  rw [add_at, List.getElem?_take_of_lt hj, List.getElem?_drop, List.getElem?_eq_getElem (by omega)]
  exact h.cell (List.getElem?_eq_getElem (by omega))

theorem rn_convert {s t : TypeId} {ks k : IntKind} {x : Operand} {a : Int} (hs : P.underlying s = some (.int ks)) (ht : P.underlying t = some (.int k)) (hx : ev σ x = .int ks a) (hw : k.wrap a = a) : Rn P σ w ⟨dst, .convert s t x, ty, pos, af, g⟩ (.int k a) := by
  show (execOp (ev σ) _).run P w = _
  have h1 : (convert s t (.int ks a)).run P w = .ok (.int k a) w := by
    simp [convert, run_underlying hs, run_underlying ht, Conv.intToInt, hw]
  simp [execOp, hx, h1]
/-! ### what abides an iterator -/
section stab
variable {n0 : Nat}
theorem Stab.and {J J' : (Nat → Prop) → World → Prop} (h : Stab n0 J) (k : Stab n0 J') : Stab n0 (fun N A => J N A ∧ J' N A) := fun N A B hN hA hj hE => ⟨h N A B hN hA hj.1 hE, k N A B hN hA hj.2 hE⟩
theorem Stab.ex {α : Type} {J : α → (Nat → Prop) → World → Prop} (h : ∀ x, Stab n0 (J x)) : Stab n0 (fun N A => ∃ x, J x N A) := fun N A B hN hA hj hE => by obtain ⟨x, hx⟩ := hj; exact ⟨x, h x N A B hN hA hx hE⟩
theorem Stab.pure (p : Prop) : Stab n0 (fun _ _ => p) := fun _ _ _ _ _ h _ => h
theorem Stab.false : Stab n0 (fun _ _ => False) := fun _ _ _ _ _ h _ => h
/-- A box that is none of N's. -/
def Box (N : Nat → Prop) (A : World) (b : Nat) (cs : List Value) : Prop := IsBox A b cs ∧ ¬ N b
theorem not_grow {N : Nat → Prop} {A B : World} {b : Nat} (h : ¬ N b) (hb : b < A.heap.size) : ¬ grow N A B b := by
  rintro (h1 | ⟨h1, _⟩)
  · exact h h1
  · omega
theorem Stab.box (b : Nat) (cs : List Value) : Stab n0 (fun N A => Box N A b cs) := fun N A B hN hA h hE => ⟨h.1.ext hE h.2, not_grow h.2 h.1.lt⟩
/-- What was before is as it was. -/
theorem Stab.old {w : World} (hw : w.heap.size ≤ n0) : Stab n0 (fun _ A => Ext Non w A) := fun N A B hN hA h hE =>
  ⟨hE.os.trans h.os, hE.tape.trans h.tape, hE.output.trans h.output, Nat.le_trans h.size hE.size, fun i hi hm => (hE.block i (Nat.lt_of_lt_of_le hi h.size) (fun h' => by have := hN i h'; omega)).trans (h.block i hi hm)⟩
theorem Stab.oldM {M : Nat → Prop} {w : World} (hw : w.heap.size ≤ n0) : Stab n0 (fun _ A => Ext M w A) := fun N A B hN hA h hE =>
  ⟨hE.os.trans h.os, hE.tape.trans h.tape, hE.output.trans h.output, Nat.le_trans h.size hE.size, fun i hi hm => (hE.block i (Nat.lt_of_lt_of_le hi h.size) (fun h' => by have := hN i h'; omega)).trans (h.block i hi hm)⟩
/-- A slice that lies in none of N's blocks. -/
theorem Stab.sl (v : Value) (k : Nat) (rows : List (List Value)) : Stab n0 (fun N A => Sl N A v k rows) := fun N A B hN hA h hE =>
  (h.sub (M' := grow N A B) (fun i hi hlt => by rcases hi with hi | ⟨hi, _⟩; exact hi; omega)).ext hE (fun i h => .inl h)
/-- A slice of the walk's own, or nil, in none of N's blocks. -/
def OwS (N : Nat → Prop) (A : World) (v : Value) (k : Nat) (rows : List (List Value)) : Prop :=
  (v = .slice none 0 0 ∧ rows = []) ∨ ∃ b spare, ¬ N b ∧ Ow A v b k rows spare
theorem Stab.own (v : Value) (k : Nat) (rows : List (List Value)) : Stab n0 (fun N A => OwS N A v k rows) := fun N A B hN hA h hE => by
  rcases h with h | ⟨b, spare, h1, h2⟩
  · exact .inl h
  · exact .inr ⟨b, spare, not_grow h1 h2.box.lt, h2.ext hE h1⟩
theorem OwS.sl {N : Nat → Prop} {A : World} {v : Value} {k : Nat} {rows : List (List Value)} (h : OwS N A v k rows) : Sl N A v k rows := by
  rcases h with ⟨rfl, rfl⟩ | ⟨b, spare, h1, h2⟩
  · exact Sl.nil _ _ _
  · exact h2.sl h1
theorem OwS.nil {N : Nat → Prop} {A : World} {k : Nat} : OwS N A (.slice none 0 0) k [] := .inl ⟨rfl, rfl⟩
end stab
end Go.Proofs.YthcclgoidchkdaaDoorC
