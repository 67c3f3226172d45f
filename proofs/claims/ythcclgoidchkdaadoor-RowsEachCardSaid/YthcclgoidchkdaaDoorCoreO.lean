/- Writing into slices of one's own, making and copying slices, contracts of functions that write, in the calculus; each rule holds of whatever program. -/
import Derived.Test.YthcclgoidchkdaaDoorCoreN
import Derived.Laws.Cover3
set_option linter.unusedVariables false
set_option linter.unusedSimpArgs false
namespace Go.Proofs.YthcclgoidchkdaaDoorC
open Go.RowKit
variable {ro : Option Nat} {P : Program} {n : Nat} {Q : Post} {σ : Env} {D : List Deferred} {w : World} {dst : Option Nat} {ty : TypeId} {pos : String} {af : Array Edge} {g : Option (Nat × Bool)}
variable {ops rest : List Oper} {K : Ops}

/-! ### contracts of functions that write -/
def FnM (P : Program) (M : Nat → Prop) (f : FuncId) (args : Array Value) (w : World) (R : Value → World → Prop) : Prop :=
  Calls P f args w fun e w' => ∃ v, e = .returned v ∧ Ext M w w' ∧ R v w'
theorem fnM_of_W {M : Nat → Prop} {f : FuncId} {fn : Func} {c : Code} {args : List Value} {R : Value → World → Prop} (hf : P.funcs[f]? = some fn) (hb : fn.body = some c) (hk : okc fn.ntmps c = true) (hl' : Nat.ble args.length fn.ntmps = true)
    (h : W none P fn.ntmps c (RetQ P fn.results.toList (fun v w' => Ext M w w' ∧ R v w')) (env0 args) [] w) : FnM P M f args.toArray w R :=
  calls_of_W hf hb hk hl' h
theorem wl_callM {M : Nat → Prop} {f : FuncId} {as : List Operand} {ts : Array TypeId} {args : List Value} {R : Value → World → Prop} (hf : entersB P f = true) (ha : as.map (ev σ) = args) (h : FnM P M f args.toArray w R)
    (k : ∀ v w', Ext M w w' → R v w' → wl P ops rest K (put σ dst v) w') : wl P ops (⟨dst, .call ⟨.value (.func f), as.toArray, ts⟩, ty, pos, af, none⟩ :: rest) K σ w := by
  show step1 P ops _ σ w _
  rw [step1_none]; unfold op1
  have e : (execOp (ev σ) ⟨dst, .call ⟨.value (.func f), as.toArray, ts⟩, ty, pos, af, none⟩).run P w = .ok (.enter f args.toArray) w := by
    simp [execOp, resolve, ev, ha, Deferred.ofValue, invoke, run_enters hf]
  rw [e]
  exact Calls.mono h fun e w' hx => by obtain ⟨v, h1, h2, h3⟩ := hx; exact ⟨v, h1, k v w' h2 h3⟩

/-! ### rows -/
/-! ### make, copy, append, clear -/
section
variable {t e : TypeId} {k bytes : Nat} {z : List Value}
end
theorem one1 {v : Value} (h : v.oneCell' = true) : ∀ u ∈ [v], u.oneCell' = true := by intro u hu; rw [List.mem_singleton] at hu; rw [hu]; exact h
/-- A region whose order is drawn, in which blocks of F's are written. -/
theorem W_drawF (F : Nat → Prop) {id : Nat} {l : List Oper} (hm : P.follows .mixedOrders = true)
    (h : ∀ w1, Ext Non w w1 → wd P l (fun A => Ext F w1 A) (fun σ' w' => Q .normal σ' D w') l.length (Array.replicate l.length false) σ w1) : W ro P n (.region id l.toArray true) Q σ D w :=
  W_draw _ hm (h _ (Ext.refl _ _).drew)
/-- The call's own slice, of a block that is none of N's and not older than lo. -/
def OwX (lo : Nat) (N : Nat → Prop) (A : World) (v : Value) (o : Option Nat) (k : Nat) (rows : List (List Value)) : Prop := OwO A v o k rows ∧ ∀ i, o = some i → ¬ N i ∧ lo ≤ i
theorem OwX.ext {lo : Nat} {N : Nat → Prop} {A B : World} {v : Value} {o : Option Nat} {k : Nat} {rows : List (List Value)} (h : OwX lo N A v o k rows) {M : Nat → Prop} (hE : Ext M A B) (hm : ∀ i, o = some i → ¬ M i) : OwX lo N B v o k rows := ⟨h.1.ext hE hm, h.2⟩
end Go.Proofs.YthcclgoidchkdaaDoorC
