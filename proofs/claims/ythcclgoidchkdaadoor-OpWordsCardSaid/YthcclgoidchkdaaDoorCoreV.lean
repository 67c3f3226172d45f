/- An element of several cells of a call's own slice is written over. -/
import Derived.Test.YthcclgoidchkdaaDoorCoreO
set_option linter.unusedVariables false
set_option linter.unusedSimpArgs false
namespace Go.Proofs.YthcclgoidchkdaaDoorC
open Go.RowKit
variable {ro : Option Nat} {P : Program} {n : Nat} {Q : Post} {σ : Env} {D : List Deferred} {w : World} {dst : Option Nat} {ty : TypeId} {pos : String} {af : Array Edge} {g : Option (Nat × Bool)}
variable {ops rest : List Oper} {K : Ops}
theorem two1' {u v : Value} (h1 : u.oneCell' = true) (h2 : v.oneCell' = true) : ∀ x ∈ [u, v], x.oneCell' = true := by
  intro x hx
  simp only [List.mem_cons, List.not_mem_nil, or_false] at hx
  rcases hx with rfl | rfl
  · exact h1
  · exact h2
theorem wl_storeES {t : TypeId} {k : Nat} (hT : structT P t k) {x y : Operand} {v : Value} {us : List Value} {b i : Nat} {rows : List (List Value)} {spare : List Value} (hx : ev σ x = .pointer (some ((⟨b, 0, none⟩ : Addr).add (i * k)))) (hy : ev σ y = .agg us.toArray) (hk : us.length = k) (h1 : ∀ u ∈ us, u.oneCell' = true) (hs : Ow w v b k rows spare) (hi : i < rows.length)
    (kk : ∀ w', Ext (fun i => i = b) w w' → Ow w' v b k (rows.set i us) spare → wl P ops rest K σ w') : wl P ops (⟨none, .store t x y, ty, pos, af, none⟩ :: rest) K σ w := by
  obtain ⟨w', e1, e2, e3, e4⟩ := hs.write (P := P) (rs := [us]) (by simpa using hk) (by simpa using h1) i (by simp; omega)
  have hp : patchR rows i [us] = rows.set i us := by
    unfold patchR
    rw [List.set_eq_take_append_cons_drop, if_pos hi]; simp
  rw [hp] at e3
  refine wl_do (w' := w') ?_ (kk w' e2 e3)
  show (execOp (ev σ) _).run P w = _
  rw [add_at, Nat.zero_add] at hx
  have e7 : (storeCells ⟨b, i * k, none⟩ us).run P w = .ok () w' := by simpa using e1
  have hsz : (Value.agg us.toArray).cells.size = k := by simp [Value.cells, hk]
  simp [execOp, hx, hy, Instr.storeAt, Instr.sureAddr, storeVar, run_size hT.2, Value.cells, hk, e7]
/-- A part of a box is written: several cells. -/
theorem wl_storeP {t : TypeId} {x y : Operand} {b i k : Nat} {cs vs : List Value} (hT : structT P t k) (hx : ev σ x = .pointer (some ⟨b, i, none⟩)) (hy : ev σ y = .agg vs.toArray) (hk : vs.length = k) (h1 : ∀ u ∈ vs, u.oneCell' = true) (hb : IsBox w b cs) (hl : i + k ≤ cs.length)
    (kk : ∀ w', Ext (fun j => j = b) w w' → IsBox w' b (patch cs i vs) → w'.heap.size = w.heap.size → wl P ops rest K σ w') : wl P ops (⟨none, .store t x y, ty, pos, af, none⟩ :: rest) K σ w := by
  obtain ⟨w', h2, h3, h4, h5⟩ := rs_store (dst := none) (ty := ty) (pos := pos) (af := af) (g := none) (by simp [Value.cells, hk]; simpa using hT.2) hx hy (by simpa [Value.cells] using h1) hb (by simp [Value.cells]; omega)
  refine wl_do h2 (kk w' h3 ?_ h5)
  have : (Value.agg vs.toArray).cells.toList = vs := by simp [Value.cells]
  rw [this] at h4
  exact h4
theorem three1 {u v x : Value} (h1 : u.oneCell' = true) (h2 : v.oneCell' = true) (h3 : x.oneCell' = true) : ∀ y ∈ [u, v, x], y.oneCell' = true := by
  intro y hy
  simp only [List.mem_cons, List.not_mem_nil, or_false] at hy
  rcases hy with rfl | rfl | rfl
  · exact h1
  · exact h2
  · exact h3
end Go.Proofs.YthcclgoidchkdaaDoorC
