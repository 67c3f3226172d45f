/- Helps for walks that a program prints: splits, worlds of one's own, orders; each rule holds of whatever program. -/
import Derived.Test.YthcclgoidchkdaaDoorCoreL
set_option linter.unusedVariables false
set_option linter.unusedSimpArgs false
namespace Go.Proofs.YthcclgoidchkdaaDoorC
open Go.RowKit
variable {ro : Option Nat} {P : Program} {n : Nat} {Q : Post} {σ : Env} {D : List Deferred} {w : World} {dst : Option Nat} {ty : TypeId} {pos : String} {af : Array Edge} {g : Option (Nat × Bool)}
variable {ops rest : List Oper} {K : Ops}

theorem wl_split {d : Nat} {b : Bool} {l : List Oper} (hd : σ d = .bool b) (h1 : b = true → wl P ops l K σ w) (h2 : b = false → wl P ops l K σ w) : wl P ops l K σ w := by
  cases b
  · exact h2 rfl
  · exact h1 rfl
theorem wd_split {S : World → Prop} {f : Nat} {listed : Array Bool} {d : Nat} {b : Bool} (hd : σ d = .bool b) (h1 : b = true → wd P ops S K f listed σ w) (h2 : b = false → wd P ops S K f listed σ w) : wd P ops S K f listed σ w := by
  cases b
  · exact h2 rfl
  · exact h1 rfl
theorem W_condT {c : Operand} {x y : Code} (hc : ev σ c = .bool true) (ht : W ro P n x Q σ D w) : W ro P n (.cond c x y) Q σ D w := W_cond hc (fun _ => ht) (fun h => by cases h)
theorem W_condF {c : Operand} {x y : Code} (hc : ev σ c = .bool false) (ht : W ro P n y Q σ D w) : W ro P n (.cond c x y) Q σ D w := W_cond hc (fun h => by cases h) (fun _ => ht)
theorem rn_pickT {c a b : Operand} {v : Value} (hc : ev σ c = .bool true) (ha : ev σ a = v) : Rn P σ w ⟨dst, .pick c a b, ty, pos, af, g⟩ v := by
  have := rn_pick (P := P) (w := w) (σ := σ) (dst := dst) (ty := ty) (pos := pos) (af := af) (g := g) (x := a) (y := b) hc
  subst ha; simpa using this
theorem rn_pickF {c a b : Operand} {v : Value} (hc : ev σ c = .bool false) (hb : ev σ b = v) : Rn P σ w ⟨dst, .pick c a b, ty, pos, af, g⟩ v := by
  have := rn_pick (P := P) (w := w) (σ := σ) (dst := dst) (ty := ty) (pos := pos) (af := af) (g := g) (x := a) (y := b) hc
  subst hb; simpa using this
/-- A region whose order is drawn; from a world w1 on that is w but for the draws. -/
theorem W_drawE {id : Nat} {l : List Oper} (hm : P.follows .mixedOrders = true)
    (h : ∀ w1, Ext Non w w1 → wd P l (fun A => Ext Non w1 A) (fun σ' w' => Q .normal σ' D w') l.length (Array.replicate l.length false) σ w1) : W ro P n (.region id l.toArray true) Q σ D w :=
  W_draw _ hm (h _ (Ext.refl _ _).drew)
theorem Ext.own {A B : World} {b : Nat} (h : Ext Non w A) (k : Ext (fun i => i = b) A B) (hb : w.heap.size ≤ b) : Ext Non w B :=
  ((h.of_non (M := fun i => i = b)).trans k).fresh fun i e => by omega
theorem yd_yes {S : World → Prop} {op : Op} {j : Nat} {b : Bool} {d : Nat} {v : Value} (hd : ((ops[j]?).bind (·.dst)) = some d) (hb : σ d = .bool b) (h : ∀ A, S A → Rn P σ A ⟨dst, op, ty, pos, af, some (j, b)⟩ v) : Yd P ops S ⟨dst, op, ty, pos, af, some (j, b)⟩ v σ :=
  .inl ⟨by simp [wantedBy, hd, hb], h⟩
theorem yd_no {S : World → Prop} {op : Op} {j : Nat} {b : Bool} {d : Nat} (hd : ((ops[j]?).bind (·.dst)) = some d) (hb : σ d = .bool (!b)) : Yd P ops S ⟨dst, op, ty, pos, af, some (j, b)⟩ undef σ :=
  .inr ⟨by cases b <;> simp [wantedBy, hd, hb], rfl⟩
theorem yd_do {S : World → Prop} {op : Op} {v : Value} (h : ∀ A, S A → Rn P σ A ⟨dst, op, ty, pos, af, none⟩ v) : Yd P ops S ⟨dst, op, ty, pos, af, none⟩ v σ :=
  .inl ⟨rfl, h⟩
theorem s1_do {op : Op} (h : wl P ops [⟨dst, op, ty, pos, af, none⟩] K σ w) : step1 P ops ⟨dst, op, ty, pos, af, none⟩ σ w K := h
theorem s1_yes {op : Op} {j : Nat} {b : Bool} {d : Nat} (hd : ((ops[j]?).bind (·.dst)) = some d) (hb : σ d = .bool b) (h : wl P ops [⟨dst, op, ty, pos, af, none⟩] K σ w) : step1 P ops ⟨dst, op, ty, pos, af, some (j, b)⟩ σ w K := by
  have := wl_yes (ops := ops) (rest := []) (P := P) (K := K) (w := w) hd hb h
  exact this
theorem s1_no {op : Op} {j : Nat} {b : Bool} {d : Nat} (hd : ((ops[j]?).bind (·.dst)) = some d) (hb : σ d = .bool (!b)) (h : K (put σ dst undef) w) : step1 P ops ⟨dst, op, ty, pos, af, some (j, b)⟩ σ w K := by
  have := wl_no (ops := ops) (rest := []) (P := P) (K := K) (w := w) (op := op) (ty := ty) (pos := pos) (af := af) (dst := dst) hd hb (wl_nil h)
  exact this
theorem wl_box1 {e : TypeId} {x : Operand} {v : Value} {d : Nat} (hx : ev σ x = v) (hv : v.cells = #[v])
    (k : ∀ b w', w.heap.size ≤ b → Ext Non w w' → IsBox w' b [v] → wl P ops rest K (upd σ d (.pointer (some ⟨b, 0, none⟩))) w') : wl P ops (⟨some d, .box e x, ty, pos, af, none⟩ :: rest) K σ w :=
  wl_box (by rw [hx, hv]) k
theorem wl_boxS {e : TypeId} {x : Operand} {vs : List Value} {d : Nat} (hx : ev σ x = .agg vs.toArray)
    (k : ∀ b w', w.heap.size ≤ b → Ext Non w w' → IsBox w' b vs → wl P ops rest K (upd σ d (.pointer (some ⟨b, 0, none⟩))) w') : wl P ops (⟨some d, .box e x, ty, pos, af, none⟩ :: rest) K σ w :=
  wl_box (by rw [hx]; simp [Value.cells]) k
end Go.Proofs.YthcclgoidchkdaaDoorC
