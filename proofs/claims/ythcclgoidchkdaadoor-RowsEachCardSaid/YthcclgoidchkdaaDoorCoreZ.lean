/- A map's iterator, and where it stands. -/
import Derived.Test.YthcclgoidchkdaaDoorCoreW
set_option linter.unusedVariables false
set_option linter.unusedSimpArgs false
namespace Go.Proofs.YthcclgoidchkdaaDoorC
open Go.RowKit
variable {ro : Option Nat} {P : Program} {n : Nat} {Q : Post} {σ : Env} {D : List Deferred} {w : World} {dst : Option Nat} {ty : TypeId} {pos : String} {af : Array Edge} {g : Option (Nat × Bool)}
variable {ops rest : List Oper} {K : Ops}
/-- The iterator in block r stands at p. -/
def IsAt (w : World) (r b : Nat) (p : Str × Value) : Prop :=
  ∃ es c since s stamp e, w.heap[b]? = some (.map es c) ∧ w.heap[r]? = some (.mapIter (some b) since s c) ∧ s.back? = some stamp ∧ es.find? (·.born == stamp) = some e ∧ e.key = Sv p.1 ∧ e.val = p.2
theorem IsAt.ext {M : Nat → Prop} {w' : World} {r b : Nat} {p : Str × Value} (h : IsAt w r b p) (hE : Ext M w w') (hr : ¬ M r) (hb : ¬ M b) : IsAt w' r b p := by
  obtain ⟨es, c, si, s, st, e, h1, h2, h3⟩ := h
  exact ⟨es, c, si, s, st, e, hE.obj h1 hb, hE.obj h2 hr, h3⟩
theorem rn_entry {x : Operand} {r b : Nat} {p : Str × Value} (hx : ev σ x = .pointer (some ⟨r, 0, none⟩)) (h : IsAt w r b p) : Rn P σ w ⟨dst, .entry x, ty, pos, af, g⟩ (.tuple #[Sv p.1, p.2]) := by
  obtain ⟨es, c, si, s, st, e, h1, h2, h3, h4, h5, h6⟩ := h
  show (execOp (ev σ) _).run P w = _
  have key : (Instr.entry (.pointer (some ⟨r, 0, none⟩))).run P w = .ok (.tuple #[Sv p.1, p.2]) w := by
    simp only [Instr.entry, getObj, Sem.run_bind, Sem.run, h2, h1, Result.andThen, h3]
    simp [h4, h5, h6, Sem.run]
  simp [execOp, hx, key]
theorem find_born {es : List MapEntry} {e : MapEntry} (hn : (es.map (·.born)).Nodup) (he : e ∈ es) : es.find? (·.born == e.born) = some e := by
  induction es with
  | nil => cases he
  | cons y l ih =>
    simp only [List.map_cons, List.nodup_cons] at hn
    rcases List.mem_cons.1 he with rfl | he
    · simp
    · have : ¬ y.born = e.born := fun h => hn.1 (by rw [h]; exact List.mem_map_of_mem he)
      rw [List.find?_cons_of_neg (by simpa using this)]
      exact ih hn.2 he
theorem wl_nextE {x : Operand} {d r b : Nat} {kvs left : List (Str × Value)} (hx : ev σ x = .pointer (some ⟨r, 0, none⟩)) (hg : IsGo w r b kvs left)
    (k0 : left = [] → wl P ops rest K (upd σ d (.tuple #[.bool false])) w)
    (k1 : ∀ w' l1 p l2, left = l1 ++ p :: l2 → Ext (fun i => i = r) w w' → IsGo w' r b kvs (l1 ++ l2) → IsAt w' r b p → w'.heap.size = w.heap.size → wl P ops rest K (upd σ d (.tuple #[.bool true, Sv p.1, p.2])) w') :
    wl P ops (⟨some d, .next x false, ty, pos, af, none⟩ :: rest) K σ w := by
  obtain ⟨h0, es, c, s, h1, h2, h3, h4⟩ := hg
  have hlt := (Array.getElem?_eq_some_iff.1 h3).1
  rcases run_next_at (P := P) w ty r b c c s es c h3 h1 h2.old (Nat.le_refl _) with ⟨e1, e2⟩ | ⟨e, he, w1, hw1, e2⟩
  · refine wl_new (w' := w) (v := .tuple #[.bool false]) ?_ (k0 ?_)
    · show (execOp (ev σ) _).run P w = _
      simp [execOp, hx, e2]
    · have := congrArg List.length h4
      simp only [List.length_map, Array.length_toList, e1] at this
      exact List.length_eq_zero_iff.1 this.symm
  · have hleft : (leftOf es s).toList = es.toList.filter fun e => !s.contains e.born := by unfold leftOf; simp
    rw [hleft] at he h4
    have hees : e ∈ es.toList := (List.mem_filter.1 he).1
    obtain ⟨l1, l2, q1, q2⟩ := left_push h2.nodup he
    rw [q1, List.map_append, List.map_cons] at h4
    obtain ⟨m1, m2, g1, g2, g3⟩ := List.append_eq_map_iff.1 h4
    obtain ⟨p, m3, g4, g5, g6⟩ := List.map_eq_cons_iff.1 g3
    subst g4
    simp only [Prod.mk.injEq] at g5
    have hw1' : Ext Non w w1 := by rcases hw1 with rfl | rfl; exact Ext.refl _ _; exact (Ext.refl _ _).drew
    have hsz : w1.heap.size = w.heap.size := by rcases hw1 with rfl | rfl <;> rfl
    have hE : Ext (fun i => i = r) w (w1.putObj r (.mapIter (some b) c (s.push e.born) c)) := hw1'.of_non.trans (Ext.putObj _ _ _ _ rfl)
    refine wl_new (w' := w1.putObj r (.mapIter (some b) c (s.push e.born) c)) (v := .tuple #[.bool true, Sv p.1, p.2]) ?_ (k1 _ m1 p m3 g1 hE ?_ ?_ (by simp [World.putObj, hsz]))
    · show (execOp (ev σ) _).run P w = _
      rw [g5.1, g5.2]
      simp [execOp, hx, e2, ChangeMaps.setBlock, World.putObj]
    · refine ⟨h0, es, c, s.push e.born, hE.obj h1 (fun h => h0 h.symm), h2, World.putObj_heap_same (by omega), ?_⟩
      have : (leftOf es (s.push e.born)).toList = es.toList.filter fun x => !(s.push e.born).contains x.born := by unfold leftOf; simp
      rw [this, q2, List.map_append, List.map_append, ← g2, ← g6]
    · refine ⟨es, c, c, s.push e.born, e.born, e, hE.obj h1 (fun h => h0 h.symm), World.putObj_heap_same (by omega), by simp, ?_, g5.1.symm, g5.2.symm⟩
      rw [← Array.find?_toList]
      exact find_born h2.nodup hees
def nxV : Option (Str × Value) → Value | none => .tuple #[.bool false] | some p => .tuple #[.bool true, Sv p.1, p.2]
def Nx (w : World) (r b : Nat) (kvs left : List (Str × Value)) : Option (Str × Value) → Prop
  | none => left = []
  | some p => ∃ l1 l2, left = l1 ++ p :: l2 ∧ IsGo w r b kvs (l1 ++ l2) ∧ IsAt w r b p
theorem wl_nextQ {x : Operand} {d r b : Nat} {kvs left : List (Str × Value)} (hx : ev σ x = .pointer (some ⟨r, 0, none⟩)) (hg : IsGo w r b kvs left)
    (k : ∀ w' q, Ext (fun i => i = r) w w' → Nx w' r b kvs left q → wl P ops rest K (upd σ d (nxV q)) w') : wl P ops (⟨some d, .next x false, ty, pos, af, none⟩ :: rest) K σ w :=
  wl_nextE hx hg (fun h => k w none (Ext.refl _ _) h) fun w' l1 p l2 h hE h2 h3 _ => k w' (some p) hE ⟨l1, l2, h, h2, h3⟩
theorem rn_nx0 {x : Operand} {q : Option (Str × Value)} (hx : ev σ x = nxV q) : Rn P σ w ⟨dst, .extract x 0, ty, pos, af, g⟩ (.bool q.isSome) := by
  cases q with
  | none => exact rn_extract (vs := #[.bool false]) hx rfl
  | some p => exact rn_extract (vs := #[.bool true, Sv p.1, p.2]) hx rfl
end Go.Proofs.YthcclgoidchkdaaDoorC
