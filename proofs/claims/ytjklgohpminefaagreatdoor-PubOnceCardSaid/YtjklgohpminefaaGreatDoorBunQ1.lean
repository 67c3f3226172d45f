/- A calculus for walking a Go function's code: the temporaries as a function from numbers to values; each rule holds of whatever program. -/
import Derived.RangeFuncNested
import Derived.RangeFuncLeaves
import Derived.OrdersIn
import Derived.KernelRfl
import Derived.TacticsIn
import Derived.Laws.Wrap64
import Derived.Laws.Append

set_option linter.unusedVariables false
set_option linter.unusedSimpArgs false
set_option maxRecDepth 1000000
namespace Go.Proofs.YtjklgohpminefaaGreatDoorC
open Go.RowKit
structure Ext (M : Nat → Prop) (w w' : World) : Prop where
 os : w'.os = w.os
 tape : w'.tape = w.tape
 output : w'.output = w.output
 size : w.heap.size ≤ w'.heap.size
 block : ∀ i, i < w.heap.size → ¬ M i → w'.heap[i]? = w.heap[i]?
abbrev Non : Nat → Prop := fun _ => False
theorem Ext.refl (M : Nat → Prop) (w : World) : Ext M w w := ⟨rfl, rfl, rfl, Nat.le_refl _, fun _ _ _ => rfl⟩
theorem Ext.trans {M : Nat → Prop} {a b c : World} (h : Ext M a b) (k : Ext M b c) : Ext M a c :=
 ⟨k.os.trans h.os, k.tape.trans h.tape, k.output.trans h.output, Nat.le_trans h.size k.size, fun i hi hm => (k.block i (Nat.lt_of_lt_of_le hi h.size) hm).trans (h.block i hi hm)⟩
theorem Ext.mono {M M' : Nat → Prop} {w w' : World} (h : Ext M w w') (hm : ∀ i, M i → M' i) : Ext M' w w' := ⟨h.os, h.tape, h.output, h.size, fun i hi hn => h.block i hi fun h' => hn (hm i h')⟩
theorem Ext.of_non {M : Nat → Prop} {w w' : World} (h : Ext Non w w') : Ext M w w' := h.mono fun _ h => h.elim
theorem Ext.drew {M : Nat → Prop} {w w' : World} (h : Ext M w w') : Ext M w { w' with drawn := w'.drawn + 1 } := ⟨h.os, h.tape, h.output, h.size, h.block⟩
theorem Ext.fresh {M : Nat → Prop} {w w' : World} (h : Ext M w w') (hm : ∀ i, M i → w.heap.size ≤ i) : Ext Non w w' :=
 ⟨h.os, h.tape, h.output, h.size, fun i hi _ => h.block i hi fun h' => absurd (hm i h') (by omega)⟩
theorem Ext.below {w w' : World} (h : Ext Non w w') : Below w.heap.size w w' := ⟨h.os, h.tape, h.output, h.size, fun i hi => h.block i hi id⟩
theorem Ext.alloc (w : World) (o : Obj) : Ext Non w (w.alloc o) := ⟨rfl, rfl, rfl, by simp, fun i hi _ => Below.heap_alloc w o i hi⟩
theorem Ext.putObj (M : Nat → Prop) (w : World) (r : Nat) (o : Obj) (hr : M r) : Ext M w (w.putObj r o) :=
 ⟨rfl, rfl, rfl, by simp [World.putObj], fun i hi hm => World.putObj_heap_other (fun e => hm (e ▸ hr))⟩
theorem Ext.cell {M : Nat → Prop} {w w' : World} (h : Ext M w w') {a : Addr} {v : Value} (hc : w.cell? a = some v) (hm : ¬ M a.block) : w'.cell? a = some v := by
 have hlt : a.block < w.heap.size := World.block_lt_of_cell? w a hc
 rw [World.cell?_of_block (w := w) (h.block a.block hlt hm)]; exact hc
theorem Ext.obj {M : Nat → Prop} {w w' : World} (h : Ext M w w') {i : Nat} {o : Obj} (hc : w.heap[i]? = some o) (hm : ¬ M i) : w'.heap[i]? = some o := by
 have hlt : i < w.heap.size := (Array.getElem?_eq_some_iff.1 hc).1
 rw [h.block i hlt hm]; exact hc
def Zj (w : World) (b : Nat) (cs : List Value) : Prop := ∃ T, w.heap[b]? = some (.cells cs.toArray T (0, 0))
theorem Zj.lt {w : World} {b : Nat} {cs : List Value} (h : Zj w b cs) : b < w.heap.size := by obtain ⟨T, h⟩ := h; exact (Array.getElem?_eq_some_iff.1 h).1
theorem Zj.ext {M : Nat → Prop} {w w' : World} {b : Nat} {cs : List Value} (h : Zj w b cs) (hE : Ext M w w') (hm : ¬ M b) : Zj w' b cs := by
 obtain ⟨T, h⟩ := h; exact ⟨T, hE.obj h hm⟩
theorem Zj.cell {w : World} {b : Nat} {cs : List Value} (h : Zj w b cs) {i : Nat} {v : Value} (hi : cs[i]? = some v) : w.cell? ⟨b, i, none⟩ = some v := by
 obtain ⟨T, h⟩ := h; simp [World.cell?, h, hi]
abbrev Env := Nat → Value
def upd (σ : Env) (d : Nat) (v : Value) : Env := fun i => bif Nat.beq i d then v else σ i
def ev (σ : Env) : Operand → Value
 | .tmp t => σ t
 | .const v => v
 | .global g => .pointer (some ⟨g, 0, none⟩)
 | .func f => .func (.func f) #[] #[]
def put (σ : Env) : Option Nat → Value → Env
 | some d, v => upd σ d v
 | none, _ => σ
structure Sim (n : Nat) (a : Act) (σ : Env) : Prop where
 size : a.tmps.size = n
 agree : ∀ i, a.tmps.getD i undef = σ i
theorem Sim.eval {n : Nat} {a : Act} {σ : Env} (h : Sim n a σ) : a.eval = ev σ := by
 funext x; cases x <;> simp [Act.eval, ev, h.agree]
theorem upd_eq (σ : Env) (d : Nat) (v : Value) : upd σ d v d = v := by simp [upd]
theorem upd_ne (σ : Env) (d i : Nat) (v : Value) (h : i ≠ d) : upd σ d v i = σ i := by
 unfold upd
 have hb : Nat.beq i d = false := by
  cases hb : Nat.beq i d with
  | false => rfl
  | true => exact absurd (Nat.eq_of_beq_eq_true hb) h
 rw [hb]; rfl
theorem Sim.put {n : Nat} {a : Act} {σ : Env} (h : Sim n a σ) (dst : Option Nat) (v : Value) (hd : ∀ d, dst = some d → d < n) : Sim n (a.put dst v) (put σ dst v) := by
 cases dst with
 | none => exact h
 | some d =>
  have hd' := hd d rfl
  refine ⟨by simp [Act.put, h.size], fun i => ?_⟩
  have := h.agree i
  show (a.tmps.setIfInBounds d v).getD i undef = upd σ d v i
  rw [Array.getD_eq_getD_getElem?, Array.getElem?_setIfInBounds]
  by_cases e : d = i
  ·subst e; rw [upd_eq]; simp [h.size, hd']
  ·rw [upd_ne _ _ _ _ (fun h => e h.symm), if_neg e, ← this, Array.getD_eq_getD_getElem?]
theorem Zn {w : World} {b c : Nat} {cs : List Value} (h : Zj w b cs) (k : w.heap.size ≤ c) : b < c := Nat.lt_of_lt_of_le h.lt k
theorem Zq {F : Nat → Prop} {w A : World} {c : Nat} (h : Ext F w A) (k : A.heap.size ≤ c) : w.heap.size ≤ c := Nat.le_trans h.size k
theorem Zx {w w' : World} {b : Nat} {cs : List Value} (h : Zj w b cs) (hE : Ext Non w w') : Zj w' b cs := h.ext hE id
theorem Zlt {a b c : Nat} (h : a < b) (k : b ≤ c) : a < c := Nat.lt_of_lt_of_le h k
theorem Zle {a b c : Nat} (h : a ≤ b) (k : b ≤ c) : a ≤ c := Nat.le_trans h k
theorem Zbl {a b : Nat} (h : Nat.ble a b = true := by rfl) : a ≤ b := Nat.le_of_ble_eq_true h
theorem Zcb {a b : Bool} (h : a = b) : Value.bool a = .bool b := congrArg Value.bool h
abbrev Zpt (b : Nat) : Value := .pointer (some ⟨b, 0, none⟩)
section
def fz : Option Nat → Fence
 | none => Fence.wide
 | some l => Fence.wide.inRound l
theorem fz_fn (ro : Option Nat) (f : FuncId) : (fz ro).fn f := by cases ro <;> trivial
theorem fz_depth (ro : Option Nat) : (fz ro).depth = none := by cases ro <;> rfl
theorem fz_round (ro : Option Nat) : (fz ro).round = ro := by cases ro <;> rfl
theorem fz_calls {ro : Option Nat} {n : Nat} {P : Program} {f : FuncId} {args : Array Value} {w : World} {R : Ending → World → Prop} : CallsIn (fz ro) n P f args w R ↔ Calls P f args w R := by
 cases ro
 ·exact callsIn_wide
 ·exact ⟨fun h => callsIn_wide.1 (CallsIn.outOfRound h), fun h => CallsIn.inRound _ (callsIn_wide.2 h)⟩
def okOps (n : Nat) (ops : List Oper) : Bool := ops.all fun o => match o.dst with | some d => decide (d < n) | none => true
def noDefer (ops : List Oper) : Bool := ops.all fun o => match o.op with | .defer _ => false | _ => true
def okc (n : Nat) : Code → Bool
 | .region _ ops _ => okOps n ops.toList && noDefer ops.toList
 | .seq a b => okc n a && okc n b
 | .cond _ a b => okc n a && okc n b
 | .block _ b => okc n b
 | .loop b => okc n b
 | .scope b => okc n b
 | .rangeFunc _ ps a b => okc n a && okc n b && ps.toList.all (fun p => decide (p < n))
 | _ => true
abbrev QH := Exit → Env → List Deferred → World → Prop
def W (ro : Option Nat) (P : Program) (n : Nat) (c : Code) (Q : QH) (σ : Env) (D : List Deferred) (w : World) : Prop :=
 okc n c = true → ∀ a, Sim n a σ → a.defers = D → c.wpIn (fz ro) 0 P (fun e a' w' => ∃ σ', Sim n a' σ' ∧ Q e σ' a'.defers w') a w
variable {ro : Option Nat} {P : Program} {n : Nat} {Q : QH} {σ : Env} {D : List Deferred} {w : World}
theorem W.mono {c : Code} {Q' : QH} (h : W ro P n c Q σ D w) (hq : ∀ e σ D w, Q e σ D w → Q' e σ D w) : W ro P n c Q' σ D w :=
 fun hk a hs hd => wpIn_mono (h hk a hs hd) fun e a' w' ⟨σ', h1, h2⟩ => ⟨σ', h1, hq _ _ _ _ h2⟩
def Then (K : Env → List Deferred → World → Prop) (Q : QH) : QH
 | .normal => K
 | e => Q e
theorem ZC {x y : Code} (h : W ro P n x (Then (W ro P n y Q) Q) σ D w) : W ro P n (.seq x y) Q σ D w := by
 intro hk a hs hd
 simp only [okc, Bool.and_eq_true] at hk
 refine wpIn_seq (wpIn_mono (h hk.1 a hs hd) fun e a' w' ⟨σ', h1, h2⟩ => ?_)
 cases e with
 | normal => exact h2 hk.2 a' h1 rfl
 | _ => exact ⟨σ', h1, h2⟩
theorem ZF (h : Q .normal σ D w) : W ro P n .skip Q σ D w := fun _ a hs hd => wpIn_skip ⟨σ, hs, hd ▸ h⟩
theorem ZB (h : Q .ret σ D w) : W ro P n .ret Q σ D w := fun _ a hs hd => wpIn_ret ⟨σ, hs, hd ▸ h⟩
theorem XL {id : Nat} (h : Q (.exit id) σ D w) : W ro P n (.exit id) Q σ D w := fun _ a hs hd => wpIn_exit ⟨σ, hs, hd ▸ h⟩
theorem ZE {c : Operand} {x y : Code} {t : Bool} (hc : ev σ c = .bool t) (ht : t = true → W ro P n x Q σ D w) (hf : t = false → W ro P n y Q σ D w) : W ro P n (.cond c x y) Q σ D w := by
 intro hk a hs hd
 simp only [okc, Bool.and_eq_true] at hk
 exact wpIn_cond_split (t := t) (by rw [hs.eval]; exact hc) (fun e => ht e hk.1 a hs hd) (fun e => hf e hk.2 a hs hd)
def InB (id : Nat) (Q : QH) : QH
 | .normal => Q .normal
 | .exit id' => if id' = id then Q .normal else Q (.exit id')
 | e => Q e
theorem ZO {id : Nat} {c : Code} (h : W ro P n c (InB id Q) σ D w) : W ro P n (.block id c) Q σ D w := by
 intro hk a hs hd
 refine wpIn_block (wpIn_mono (h hk a hs hd) fun e a' w' ⟨σ', h1, h2⟩ => ?_)
 cases e with
 | exit id' =>
  simp only [InB] at h2
  simp only [Exit.inBlock]
  split at h2 <;> rename_i hid <;> simp only [hid, if_true, if_false] <;> exact ⟨σ', h1, h2⟩
 | _ => exact ⟨σ', h1, h2⟩
theorem W_loop {c : Code} (I : Env → List Deferred → World → Prop) (μ : Env → World → Nat) (h0 : I σ D w)
  (hr : ∀ σ D w, I σ D w → W ro P n c (Then (fun σ' D' w' => I σ' D' w' ∧ μ σ' w' < μ σ w) Q) σ D w) : W ro P n (.loop c) Q σ D w := by
 intro hk a hs hd
 have hk' : okc n c = true := hk
 refine wpIn_loop (fun a w => ∃ σ, Sim n a σ ∧ I σ a.defers w) (fun a w => μ (fun i => a.tmps.getD i undef) w) ⟨σ, hs, hd ▸ h0⟩ ?_
 rintro a w ⟨σ, hs, hi⟩
 have e1 : (fun i => a.tmps.getD i undef) = σ := funext hs.agree
 refine wpIn_mono (hr σ _ w hi hk' a hs rfl) fun e a' w' ⟨σ', h1, h2⟩ => ?_
 have e2 : (fun i => a'.tmps.getD i undef) = σ' := funext h1.agree
 cases e with
 | normal => exact ⟨⟨σ', h1, h2.1⟩, by simp only [e1, e2]; exact h2.2⟩
 | _ => exact ⟨σ', h1, h2⟩
def Rn (P : Program) (σ : Env) (w : World) (o : Oper) (v : Value) : Prop := (execOp (ev σ) o).run P w = .ok (.value v) w
def Rw (P : Program) (σ : Env) (w : World) (o : Oper) (v : Value) (w' : World) : Prop := (execOp (ev σ) o).run P w = .ok (.value v) w'
def Rs (P : Program) (σ : Env) (w : World) (o : Oper) (w' : World) : Prop := (execOp (ev σ) o).run P w = .ok .skip w'
abbrev Ops := Env → World → Prop
def op1 (P : Program) (o : Oper) (σ : Env) (w : World) (K : Ops) : Prop :=
 match (execOp (ev σ) o).run P w with
 | .ok (.value v) w' => K (put σ o.dst v) w'
 | .ok .skip w' => K (put σ o.dst undef) w'
 | .ok (.enter f args) w' => Calls P f args w' fun e w'' => ∃ v, e = .returned v ∧ K (put σ o.dst v) w''
 | .ok (.round l f tmps assign body) w' => RoundIn Fence.wide 0 P l f tmps assign body w' fun e w'' => ∃ v, e = .returned v ∧ K (put σ o.dst v) w''
 | _ => False
def XM (ops : List Oper) (σ : Env) (o : Oper) : Bool :=
 match o.guard with
 | none => true
 | some (j, want) => match (ops[j]?).bind (·.dst) with
  | some d => (match σ d with | .bool b => b == want | _ => false)
  | none => false
def XR (P : Program) (ops : List Oper) (o : Oper) (σ : Env) (w : World) (K : Ops) : Prop :=
 if XM ops σ o then op1 P o σ w K else K (put σ o.dst undef) w
def wl (P : Program) (ops : List Oper) : List Oper → Ops → Env → World → Prop
 | [], K, σ, w => K σ w
 | o :: rest, K, σ, w => XR P ops o σ w (wl P ops rest K)
theorem op1_mono {o : Oper} {K K' : Ops} (h : ∀ σ w, K σ w → K' σ w) (hh : op1 P o σ w K) : op1 P o σ w K' := by
 unfold op1 at *
 generalize (execOp (ev σ) o).run P w = r at *
 cases r with
 | ok x w' =>
  cases x
  case value v => exact h _ _ hh
  case skip => exact h _ _ hh
  case enter f args => exact Calls.mono hh fun e w'' hx => by obtain ⟨v, h1, h2⟩ := hx; exact ⟨v, h1, h _ _ h2⟩
  case round => exact RoundIn.mono hh fun e w'' hx => by obtain ⟨v, h1, h2⟩ := hx; exact ⟨v, h1, h _ _ h2⟩
  all_goals exact hh.elim
 | halt x w' => exact hh.elim
theorem step1_mono {ops : List Oper} {o : Oper} {K K' : Ops} (h : ∀ σ w, K σ w → K' σ w) (hh : XR P ops o σ w K) : XR P ops o σ w K' := by
 unfold XR at *; split at hh
 ·rename_i hw; simp only [hw, if_true]; exact op1_mono h hh
 ·rename_i hw; simp only [hw, if_false]; exact h _ _ hh
theorem semAt_plain (ro : Option Nat) (ρ : Operand → Value) (o : Oper) (h : (match o.op with | .defer _ => false | _ => true) = true) : o.semAt ro ρ = execOp ρ o := by
 cases ro with
 | none => rfl
 | some l => exact Oper.semAt_some l ρ o fun c hc => by rw [hc] at h; cases h
theorem op1_sound {o : Oper} {a : Act} {K : Ops} {Q' : Exit → Act → World → Prop} {K' : Act → World → Prop} (hs : Sim n a σ) (hdst : ∀ d, o.dst = some d → d < n)
  (hnd : (match o.op with | .defer _ => false | _ => true) = true) (hK : ∀ a' σ' w', Sim n a' σ' → a'.defers = a.defers → K σ' w' → K' a' w')
  (h : op1 P o σ w K) : o.wpIn (fz ro) 0 P a w K' Q' := by
 refine ⟨fun f _ => fz_fn ro f, ?_⟩
 rw [semAt_plain _ _ _ hnd, hs.eval]
 unfold op1 at h
 have hd : ∀ v, (a.put o.dst v).defers = a.defers := fun v => by cases o.dst <;> rfl
 generalize (execOp (ev σ) o).run P w = r at *
 cases r with
 | ok x w' =>
  cases x
  case value v => exact hK _ _ _ (hs.put _ _ hdst) (hd _) h
  case skip => exact hK _ _ _ (hs.put _ _ hdst) (hd _) h
  case enter f args =>
   refine ⟨fun hx => (by rw [fz_depth] at hx; cases hx), fz_calls.2 (Calls.mono h ?_)⟩
   intro e w'' hx
   obtain ⟨v, rfl, hk⟩ := hx
   exact hK _ _ _ (hs.put _ _ hdst) (hd _) hk
  case round l f tmps assign body =>
   refine ⟨fun hx => (by rw [fz_depth] at hx; cases hx), ?_⟩
   have h' : RoundIn (fz ro) 0 P l f tmps assign body w' (fun e w'' => ∃ v, e = .returned v ∧ K (YtjklgohpminefaaGreatDoorC.put σ o.dst v) w'') := by cases ro <;> exact h
   refine RoundIn.mono h' ?_
   intro e w'' hx
   obtain ⟨v, rfl, hk⟩ := hx
   exact hK _ _ _ (hs.put _ _ hdst) (hd _) hk
  all_goals exact h.elim
 | halt x w' => exact h.elim
theorem wanted_sim {a : Act} {ops : List Oper} {o : Oper} (hs : Sim n a σ) (hops : okOps n ops = true) : Region.wanted o (yielded ops.toArray a.tmps) = XM ops σ o := by
 unfold Region.wanted XM
 cases hg : o.guard with
 | none => rfl
 | some g =>
  obtain ⟨j, want⟩ := g
  simp only [yielded]
  cases hj : ops[j]? with
  | none => simp [hj]
  | some oj =>
   cases hd : oj.dst with
   | none => simp [hj, hd]
   | some d =>
    have hlt : d < n := by
     unfold okOps at hops
     rw [List.all_eq_true] at hops
     have := hops oj (List.mem_of_getElem? hj)
     rw [hd] at this; simpa using this
    have h2 := hs.agree d
    have h3 : a.tmps[d]? = some (σ d) := by
     rw [Array.getD_eq_getD_getElem?] at h2
     rw [Array.getElem?_eq_getElem (by rw [hs.size]; exact hlt)] at h2 ⊢
     exact congrArg some h2
    simp only [List.getElem?_toArray, hj, Option.bind_some, hd, h3]
    cases σ d <;> simp <;> rfl
theorem wl_sound {ops : List Oper} (hops : okOps n ops = true) : ∀ (l : List Oper) (K : Ops) (σ : Env) (a : Act) (w : World), okOps n l = true → noDefer l = true → Sim n a σ → wl P ops l K σ w →
  wpListIn (fz ro) 0 P ops.toArray (fun e a' w' => e = .normal ∧ ∃ σ', Sim n a' σ' ∧ a'.defers = a.defers ∧ K σ' w') l a w
 | [], K, σ, a, w, _, _, hs, h => ⟨rfl, σ, hs, rfl, h⟩
 | o :: rest, K, σ, a, w, hl, hn, hs, h => by
  simp only [okOps, noDefer, List.all_cons, Bool.and_eq_true] at hl hn
  have hdst : ∀ d, o.dst = some d → d < n := fun d e => by have := hl.1; rw [e] at this; simpa using this
  have ih := fun (σ' : Env) (a' : Act) (w' : World) (hs' : Sim n a' σ') => wl_sound hops rest K σ' a' w' hl.2 hn.2 hs'
  have hd : ∀ v, (a.put o.dst v).defers = a.defers := fun v => by cases o.dst <;> rfl
  unfold wpListIn
  rw [wanted_sim hs hops]
  unfold wl XR at h
  by_cases hw : XM ops σ o = true
  ·rw [if_pos hw] at h ⊢
   refine op1_sound hs hdst hn.1 (fun a' σ' w' hs' hd' hk => ?_) h
   have := ih σ' a' w' hs' hk
   rw [hd'] at this; exact this
  ·rw [if_neg hw] at h ⊢
   refine ⟨fun f _ => fz_fn ro f, ?_⟩
   have := ih _ _ w (hs.put o.dst undef hdst) h
   rw [hd] at this; exact this
theorem ZJ {id : Nat} {l : List Oper} (h : wl P l l (fun σ' w' => Q .normal σ' D w') σ w) : W ro P n (.region id l.toArray false) Q σ D w := by
 intro hk a hs hd
 simp only [okc, Bool.and_eq_true] at hk
 refine wpIn_mono (wpIn_region_lit (wl_sound hk.1 l _ σ a w hk.1 hk.2 hs h)) ?_
 rintro e a' w' ⟨rfl, σ', hs', hd', hk'⟩
 exact ⟨σ', hs', by rw [hd', hd]; exact hk'⟩
theorem Zs {ro : Option Nat} {P : Program} {n : Nat} {Q : QH} {σ : Env} {D : List Deferred} {w : World} {id : Nat} {l : List Oper} {y : Code} (h : wl P l l (fun σ' w' => Then (W ro P n y Q) Q .normal σ' D w') σ w) : W ro P n (.seq (.region id l.toArray false) y) Q σ D w := ZC (ZJ h)
end
section
variable {ro : Option Nat} {P : Program} {n : Nat} {Q : QH} {σ : Env} {D : List Deferred} {w : World} {S : World → Prop} {K : Ops}
def wd (P : Program) (ops : List Oper) (S : World → Prop) (K : Ops) : Nat → Array Bool → Env → World → Prop
 | 0, listed, σ, w => Region.ready .any ops.toArray listed = [] ∧ K σ w
 | f + 1, listed, σ, w => (Region.ready .any ops.toArray listed = [] → K σ w) ∧
  ∀ i ∈ Region.ready .any ops.toArray listed, ∀ o, ops[i]? = some o → XR P ops o σ w (fun σ' w' => S w' ∧ wd P ops S K f (listed.setIfInBounds i true) σ' w')
theorem wd_sound {ops : List Oper} (hops : okOps n ops = true) (hnd : noDefer ops = true) : ∀ (f : Nat) (listed : Array Bool) (σ : Env) (a : Act) (w : World), Sim n a σ → wd P ops S K f listed σ w →
  wpAnyIn (fz ro) 0 P .any ops.toArray (fun e a' w' => e = .normal ∧ ∃ σ', Sim n a' σ' ∧ a'.defers = a.defers ∧ K σ' w') f listed a w
 | 0, listed, σ, a, w, hs, h => ⟨h.1, rfl, σ, hs, rfl, h.2⟩
 | f + 1, listed, σ, a, w, hs, h => by
  refine ⟨fun h0 => ⟨rfl, σ, hs, rfl, h.1 h0⟩, fun i hi => ?_⟩
  unfold wpOpIn
  cases ho : ops.toArray[i]? with
  | none => obtain ⟨_, o, ho', _⟩ := mem_ready.1 hi; rw [ho] at ho'; cases ho'
  | some o =>
   have ho' : ops[i]? = some o := by simpa using ho
   have hmem := List.mem_of_getElem? ho'
   have hdst : ∀ d, o.dst = some d → d < n := fun d e => by
    have := List.all_eq_true.1 hops o hmem; rw [e] at this; simpa using this
   have hd : ∀ v, (a.put o.dst v).defers = a.defers := fun v => by cases o.dst <;> rfl
   have h1 := h.2 i hi o ho'
   simp only
   rw [wanted_sim hs hops]
   unfold XR at h1
   by_cases hw : XM ops σ o = true
   ·rw [if_pos hw] at h1 ⊢
    refine op1_sound hs hdst (List.all_eq_true.1 hnd o hmem) (fun a' σ' w' hs' hd' hk => ?_) h1
    have := wd_sound hops hnd f _ σ' a' w' hs' hk.2
    rw [hd'] at this; exact this
   ·rw [if_neg hw] at h1 ⊢
    refine ⟨fun f _ => fz_fn ro f, ?_⟩
    have := wd_sound hops hnd f _ _ _ w (hs.put o.dst undef hdst) h1.2
    rw [hd] at this; exact this
theorem W_draw {id : Nat} {l : List Oper} (S : World → Prop) (hm : P.follows .mixedOrders = true)
  (h : wd P l S (fun σ' w' => Q .normal σ' D w') l.length (Array.replicate l.length false) σ { w with drawn := w.drawn + 1 }) : W ro P n (.region id l.toArray true) Q σ D w := by
 intro hk a hs hd
 simp only [okc, Bool.and_eq_true] at hk
 refine wpIn_mono (wpIn_region_any hm (by simpa using wd_sound (ro := ro) hk.1 hk.2 _ _ _ a _ hs h)) ?_
 rintro e a' w' ⟨rfl, σ', hs', hd', hk'⟩
 exact ⟨σ', hs', by rw [hd', hd]; exact hk'⟩
def Yd (P : Program) (ops : List Oper) (S : World → Prop) (o : Oper) (v : Value) (σ : Env) : Prop :=
 (XM ops σ o = true ∧ ∀ w, S w → Rn P σ w o v) ∨ (XM ops σ o = false ∧ v = undef)
theorem ev_put {dst : Option Nat} {v : Value} {x : Operand} (h : ∀ d, dst = some d → x ≠ .tmp d) : ev (put σ dst v) x = ev σ x := by
 cases dst with
 | none => rfl
 | some d =>
  cases x with
  | tmp t => exact upd_ne _ _ _ _ (fun e => h d rfl (by rw [e]))
  | _ => rfl
theorem exec_put {ops : List Oper} (o : Oper) (hs : ∀ cs b, o.op ≠ .select cs b) (dst : Option Nat) (v : Value) (h : ∀ d, dst = some d → d ∉ o.looksAt ops.toArray) :
  execOp (ev (put σ dst v)) o = execOp (ev σ) o :=
 execOp_congr o hs fun x hx => ev_put fun d hd hxd => h d hd (by
  subst hxd
  exact List.mem_append_left _ (List.mem_filterMap.2 ⟨.tmp d, by simpa using hx, rfl⟩))
theorem wantedBy_put {ops : List Oper} (o : Oper) (dst : Option Nat) (v : Value) (h : ∀ d, dst = some d → d ∉ o.looksAt ops.toArray) : XM ops (put σ dst v) o = XM ops σ o := by
 unfold XM
 cases hg : o.guard with
 | none => rfl
 | some gw =>
  obtain ⟨g, want⟩ := gw
  simp only
  cases ht : (ops[g]?).bind (·.dst) with
  | none => rfl
  | some t =>
   have e : put σ dst v t = σ t := by
    cases dst with
    | none => rfl
    | some d =>
     refine upd_ne _ _ _ _ fun e => h d rfl ?_
     subst e
     have ht' : (ops.toArray[g]?).bind (·.dst) = some t := by simpa using ht
     simp only [Oper.looksAt, hg, ht']; simp
   simp only [e]
theorem put_comm {x y : Option Nat} (v u : Value) (h : ∀ d, x = some d → y ≠ some d) : put (put σ x v) y u = put (put σ y u) x v := by
 cases x with
 | none => rfl
 | some d =>
  cases y with
  | none => rfl
  | some d' =>
   have hne : d ≠ d' := fun e => h d rfl (by rw [e])
   funext i
   show upd (upd σ d v) d' u i = upd (upd σ d' u) d v i
   by_cases e1 : i = d'
   ·subst e1; rw [upd_eq, upd_ne _ _ _ _ (Ne.symm hne), upd_eq]
   ·rw [upd_ne _ _ _ _ e1]
    by_cases e2 : i = d
    ·subst e2; rw [upd_eq, upd_eq]
    ·rw [upd_ne _ _ _ _ e2, upd_ne _ _ _ _ e2, upd_ne _ _ _ _ e1]
theorem op1_congr {o o' : Oper} {σ' : Env} (K K' : Ops) (he : execOp (ev σ') o = execOp (ev σ) o) (hK : ∀ v w, K (put σ' o.dst v) w → K' (put σ o.dst v) w) (h : op1 P o σ' w K) : op1 P o σ w K' := by
 unfold op1 at *
 rw [he] at h
 generalize (execOp (ev σ) o).run P w = r at *
 cases r with
 | ok x w' =>
  cases x
  case value v => exact hK _ _ h
  case skip => exact hK _ _ h
  case enter f args => exact Calls.mono h fun e w'' hx => by obtain ⟨v, h1, h2⟩ := hx; exact ⟨v, h1, hK _ _ h2⟩
  case round => exact RoundIn.mono h fun e w'' hx => by obtain ⟨v, h1, h2⟩ := hx; exact ⟨v, h1, hK _ _ h2⟩
  all_goals exact h.elim
 | halt x w' => exact h.elim
theorem Yd.keep {ops : List Oper} {oi oj : Oper} {v u : Value} (hsi : ∀ cs b, oi.op ≠ .select cs b) (h3 : ∀ d, oj.dst = some d → d ∉ oi.looksAt ops.toArray) (hy : Yd P ops S oi v σ) : Yd P ops S oi v (put σ oj.dst u) := by
 unfold Yd Rn at *
 rw [wantedBy_put oi oj.dst u h3, exec_put oi hsi oj.dst u h3]
 exact hy
theorem step1_swap {ops : List Oper} {oi oj : Oper} {v : Value} (hap : oi.apart ops.toArray oj = true) (hsi : ∀ cs b, oi.op ≠ .select cs b) (hsj : ∀ cs b, oj.op ≠ .select cs b)
  (hy : Yd P ops S oi v σ) (h : XR P ops oj (put σ oi.dst v) w K) : XR P ops oj σ w (fun σ' w' => Yd P ops S oi v σ' ∧ K (put σ' oi.dst v) w') := by
 obtain ⟨h1, h2, h3⟩ := Oper.apart_spec hap
 unfold XR at *
 rw [wantedBy_put oj oi.dst v h1] at h
 have hc : ∀ u, put (put σ oi.dst v) oj.dst u = put (put σ oj.dst u) oi.dst v := fun u => put_comm v u h2
 split
 ·rename_i hw
  rw [if_pos hw] at h
  exact op1_congr (o' := oj) _ _ (exec_put oj hsj oi.dst v h1) (fun u w' hk => ⟨hy.keep hsi h3, by rw [hc] at hk; exact hk⟩) h
 ·rename_i hw
  rw [if_neg hw] at h
  exact ⟨hy.keep hsi h3, by rw [hc] at h; exact h⟩
theorem Yd.step {ops : List Oper} {o : Oper} {v : Value} (hy : Yd P ops S o v σ) (hS : S w) (h : K (put σ o.dst v) w) : XR P ops o σ w K := by
 unfold XR
 rcases hy with ⟨hw, hv⟩ | ⟨hw, rfl⟩
 ·rw [if_pos hw]; unfold op1; rw [show (execOp (ev σ) o).run P w = _ from hv w hS]; exact h
 ·rw [if_neg (by rw [hw]; simp)]; exact h
theorem wd_first {ops : List Oper} {i : Nat} {oi : Oper} {v : Value} (hi : ops[i]? = some oi) (hsel : Region.noSelect ops.toArray = true) : ∀ (f : Nat) (listed : Array Bool) (σ : Env) (w : World),
  (∀ j oj, ops.toArray[j]? = some oj → j ≠ i → listed.getD j true = false → (∀ e ∈ oj.after, Region.binds .any e = true → e.on ≠ i) → oi.apart ops.toArray oj = true) →
  i ∈ Region.ready .any ops.toArray listed → Yd P ops S oi v σ → S w →
  wd P ops S K f (listed.setIfInBounds i true) (put σ oi.dst v) w → wd P ops S K (f + 1) listed σ w
 | 0, listed, σ, w, _, hr, hy, hS, H => by
  refine ⟨fun h => (by rw [h] at hr; cases hr), fun j hj o ho => ?_⟩
  by_cases hji : j = i
  ·subst hji; rw [hi] at ho; cases ho; exact hy.step hS ⟨hS, H⟩
  ·have := ready_mono hj hji
   rw [H.1] at this; cases this
 | f + 1, listed, σ, w, hfree, hr, hy, hS, H => by
  refine ⟨fun h => (by rw [h] at hr; cases hr), fun j hj oj hoj => ?_⟩
  by_cases hji : j = i
  ·subst hji; rw [hi] at hoj; cases hoj; exact hy.step hS ⟨hS, H⟩
  ·have hoj' : ops.toArray[j]? = some oj := by simpa using hoj
   have h1 := H.2 j (ready_mono hj hji) oj hoj
   obtain ⟨hjun, oj', hoj2, hall⟩ := mem_ready.1 hj
   rw [hoj'] at hoj2; cases hoj2
   have hnot : ∀ e ∈ oj.after, Region.binds .any e = true → e.on ≠ i := fun e he hb heq => by
    have h1 := hall e he hb
    have h0 := (mem_ready.1 hr).1
    rw [heq] at h1
    rcases Nat.lt_or_ge i listed.size with h' | h'
    ·simp [h'] at h0 h1; rw [h0] at h1; cases h1
    ·simp [Array.getElem?_eq_none h'] at h1
   have h2 := step1_swap (hfree j oj hoj' hji hjun hnot) (fun cs b => Region.noSelect_spec hsel i oi cs b (by simpa using hi)) (fun cs b => Region.noSelect_spec hsel j oj cs b hoj') hy h1
   have hfree' : ∀ k ok, ops.toArray[k]? = some ok → k ≠ i → (listed.setIfInBounds j true).getD k true = false →
     (∀ e ∈ ok.after, Region.binds .any e = true → e.on ≠ i) → oi.apart ops.toArray ok = true := fun k ok hk hki hun hno => by
    refine hfree k ok hk hki ?_ hno
    by_cases hjk : j = k
    ·subst hjk; exact hjun
    ·rw [getD_set_ne true hjk] at hun; exact hun
   refine step1_mono (fun σ' w' h3 => ⟨h3.2.1, wd_first hi hsel f (listed.setIfInBounds j true) σ' w' hfree' (ready_mono hr (Ne.symm hji)) h3.1 h3.2.1 ?_⟩) h2
   rw [Array.setIfInBounds_comm _ _ hji]
   exact h3.2.2
theorem wd_take {ops : List Oper} {f : Nat} {listed : Array Bool} (i : Nat) (oi : Oper) (v : Value) (hi : ops[i]? = some oi)
  (side : (Region.noSelect ops.toArray && Region.free .any ops.toArray listed i && (Region.ready .any ops.toArray listed).contains i) = true)
  (hS : S w) (hy : Yd P ops S oi v σ) (h : wd P ops S K f (listed.setIfInBounds i true) (put σ oi.dst v) w) : wd P ops S K (f + 1) listed σ w := by
 simp only [Bool.and_eq_true] at side
 exact wd_first hi side.1.1 f listed σ w (Region.free_spec (by simpa using hi) side.1.2) (by simpa using side.2) hy hS h
theorem wd_only {ops : List Oper} {f : Nat} {listed : Array Bool} (i : Nat) (oi : Oper) (hi : ops[i]? = some oi) (side : (Region.ready .any ops.toArray listed == [i]) = true)
  (h : XR P ops oi σ w (fun σ' w' => S w' ∧ wd P ops S K f (listed.setIfInBounds i true) σ' w')) : wd P ops S K (f + 1) listed σ w := by
 have e : Region.ready .any ops.toArray listed = [i] := by simpa using side
 refine ⟨fun h0 => (by rw [e] at h0; cases h0), fun j hj o ho => ?_⟩
 rw [e] at hj
 obtain rfl : j = i := by simpa using hj
 rw [hi] at ho; cases ho
 exact h
theorem Xw {ops : List Oper} {listed : Array Bool} (side : (Region.ready .any ops.toArray listed == []) = true) (h : K σ w) : ∀ f, wd P ops S K f listed σ w
 | 0 => ⟨by simpa using side, h⟩
 | _ + 1 => ⟨fun _ => h, by rw [show Region.ready .any ops.toArray listed = [] by simpa using side]; simp⟩
theorem Zp {P : Program} {S : World → Prop} {K : Ops} {σ : Env} {w : World} {ops : List Oper} {f : Nat} {listed : Array Bool} (i : Nat) {oi : Oper} (hi : ops[i]? = some oi) (h : XR P ops oi σ w (fun σ' w' => S w' ∧ wd P ops S K f (listed.setIfInBounds i true) σ' w')) (side : (Region.ready .any ops.toArray listed == [i]) = true := by kernel_rfl) : wd P ops S K (f + 1) listed σ w := wd_only i oi hi side h
end
section
variable {P : Program} {σ : Env} {w : World} {dst : Option Nat} {ty : TypeId} {pos : String} {af : Array Edge} {g : Option (Nat × Bool)}
theorem XO {x : Operand} {v : Value} (h : ev σ x = v) : Rn P σ w ⟨dst, .move x, ty, pos, af, g⟩ v := by subst h; rfl
theorem Xm {x : Operand} {v : Value} (h : ev σ x = v) : Rn P σ w ⟨dst, .assign x, ty, pos, af, g⟩ v := by subst h; rfl
theorem rn_pick {c x y : Operand} {b : Bool} (hc : ev σ c = .bool b) : Rn P σ w ⟨dst, .pick c x y, ty, pos, af, g⟩ (bif b then ev σ x else ev σ y) := by
 show (execOp (ev σ) _).run P w = _
 cases b <;> simp [execOp, hc, asBool, Sem.run_bind, Result.andThen, Sem.run]
theorem ZM {x : Operand} {i : Nat} {vs : Array Value} {v : Value} (h : ev σ x = .tuple vs) (hv : vs[i]? = some v) : Rn P σ w ⟨dst, .extract x i, ty, pos, af, g⟩ v := by
 show (execOp (ev σ) _).run P w = _
 simp [execOp, h, Instr.extract, hv, Sem.run_bind, Result.andThen, Sem.run]
theorem ZL {f : Fn} {cap : List Operand} {vs : List Value} (h : cap.map (ev σ) = vs) : Rn P σ w ⟨dst, .makeFunc f #[] cap.toArray, ty, pos, af, g⟩ (.func f #[] vs.toArray) := by
 subst h
 show (execOp (ev σ) _).run P w = _
 simp [execOp, Instr.makeFunc, Sem.run_bind, Result.andThen, Sem.run]
theorem Zg {x : Operand} {a : Addr} (h : ev σ x = .pointer (some a)) : Rn P σ w ⟨dst, .nilCheck x, ty, pos, af, g⟩ (.pointer (some a)) := by
 show (execOp (ev σ) _).run P w = _
 simp [execOp, h, Sem.run]
theorem Xy {x : Operand} {b : Bool} {t : TypeId} (h : ev σ x = .bool b) : Rn P σ w ⟨dst, .unOp .not t x, ty, pos, af, g⟩ (.bool (!b)) := by
 show (execOp (ev σ) _).run P w = _
 simp [execOp, h, Op.unary, Sem.run_bind, Result.andThen, Sem.run]
theorem QE {n : Int} (h : -9223372036854775808 ≤ n ∧ n ≤ 9223372036854775807) : IntKind.i64.wrap n = n := by
 have h1 := h.1
 have h2 := h.2
 simp only [IntKind.wrap, IntKind.signed, IntKind.bits]
 simp
 omega
section ints
variable {x y : Operand} {t u : TypeId} {a b : Int} {k : IntKind}
theorem ZX (hx : ev σ x = .int .i64 a) (hy : ev σ y = .int .i64 b) (h : -9223372036854775808 ≤ a + b ∧ a + b ≤ 9223372036854775807) :
  Rn P σ w ⟨dst, .binOp .add t x y u, ty, pos, af, g⟩ (.int .i64 (a + b)) := by
 show (execOp (ev σ) _).run P w = _
 simp [execOp, hx, hy, eqGuard, binOp, Op.intArith, Sem.run_bind, Result.andThen, Sem.run, QE h]
theorem QS (hx : ev σ x = .int .i64 a) (hy : ev σ y = .int .i64 b) (h : -9223372036854775808 ≤ a - b ∧ a - b ≤ 9223372036854775807) :
  Rn P σ w ⟨dst, .binOp .sub t x y u, ty, pos, af, g⟩ (.int .i64 (a - b)) := by
 show (execOp (ev σ) _).run P w = _
 simp [execOp, hx, hy, eqGuard, binOp, Op.intArith, Sem.run_bind, Result.andThen, Sem.run, QE h]
theorem rn_mul (hx : ev σ x = .int .i64 a) (hy : ev σ y = .int .i64 b) (h : -9223372036854775808 ≤ a * b ∧ a * b ≤ 9223372036854775807) :
  Rn P σ w ⟨dst, .binOp .mul t x y u, ty, pos, af, g⟩ (.int .i64 (a * b)) := by
 show (execOp (ev σ) _).run P w = _
 simp [execOp, hx, hy, eqGuard, binOp, Op.intArith, Sem.run_bind, Result.andThen, Sem.run, QE h]
theorem Xc (hx : ev σ x = .int k a) (hy : ev σ y = .int k b) : Rn P σ w ⟨dst, .binOp .eql t x y u, ty, pos, af, g⟩ (.bool (decide (a = b))) := by
 show (execOp (ev σ) _).run P w = _
 simp [execOp, hx, hy, eqGuard, binOp, Op.intCmp, Sem.run_bind, Result.andThen, Sem.run]
 by_cases h : a = b <;> simp [h]
theorem X2 (hx : ev σ x = .int k a) (hy : ev σ y = .int k b) : Rn P σ w ⟨dst, .binOp .neq t x y u, ty, pos, af, g⟩ (.bool (decide (a ≠ b))) := by
 show (execOp (ev σ) _).run P w = _
 simp [execOp, hx, hy, eqGuard, binOp, Op.intCmp, Sem.run_bind, Result.andThen, Sem.run]
 by_cases h : a = b <;> simp [h]
theorem Xj (hx : ev σ x = .int k a) (hy : ev σ y = .int k b) : Rn P σ w ⟨dst, .binOp .lss t x y u, ty, pos, af, g⟩ (.bool (decide (a < b))) := by
 show (execOp (ev σ) _).run P w = _
 simp [execOp, hx, hy, eqGuard, binOp, Op.intCmp, Sem.run_bind, Result.andThen, Sem.run]
theorem rn_leq (hx : ev σ x = .int k a) (hy : ev σ y = .int k b) : Rn P σ w ⟨dst, .binOp .leq t x y u, ty, pos, af, g⟩ (.bool (decide (a ≤ b))) := by
 show (execOp (ev σ) _).run P w = _
 simp [execOp, hx, hy, eqGuard, binOp, Op.intCmp, Sem.run_bind, Result.andThen, Sem.run]
theorem Ja (hx : ev σ x = .int k a) (hy : ev σ y = .int k b) : Rn P σ w ⟨dst, .binOp .gtr t x y u, ty, pos, af, g⟩ (.bool (decide (b < a))) := by
 show (execOp (ev σ) _).run P w = _
 simp [execOp, hx, hy, eqGuard, binOp, Op.intCmp, Sem.run_bind, Result.andThen, Sem.run]
theorem X8 (hx : ev σ x = .int k a) (hy : ev σ y = .int k b) : Rn P σ w ⟨dst, .binOp .geq t x y u, ty, pos, af, g⟩ (.bool (decide (b ≤ a))) := by
 show (execOp (ev σ) _).run P w = _
 simp [execOp, hx, hy, eqGuard, binOp, Op.intCmp, Sem.run_bind, Result.andThen, Sem.run]
end ints
abbrev Str := List UInt8
abbrev Sv (l : Str) : Value := .string ⟨l.toArray⟩
section strs
variable {x y : Operand} {t u : TypeId} {a b : Str}
theorem Jv (hx : ev σ x = Sv a) (hy : ev σ y = Sv b) : Rn P σ w ⟨dst, .binOp .eql t x y u, ty, pos, af, g⟩ (.bool (decide (a = b))) := by
 show (execOp (ev σ) _).run P w = _
 simp [execOp, hx, hy, eqGuard, binOp, Op.stringOp, Sem.run_bind, Result.andThen, Sem.run]
 by_cases h : a = b <;> simp [h]
theorem rn_sneq (hx : ev σ x = Sv a) (hy : ev σ y = Sv b) : Rn P σ w ⟨dst, .binOp .neq t x y u, ty, pos, af, g⟩ (.bool (decide (a ≠ b))) := by
 show (execOp (ev σ) _).run P w = _
 simp [execOp, hx, hy, eqGuard, binOp, Op.stringOp, Sem.run_bind, Result.andThen, Sem.run]
 by_cases h : a = b <;> simp [h]
theorem rn_slss (hx : ev σ x = Sv a) (hy : ev σ y = Sv b) : Rn P σ w ⟨dst, .binOp .lss t x y u, ty, pos, af, g⟩ (.bool (Op.bytesLess a b)) := by
 show (execOp (ev σ) _).run P w = _
 simp [execOp, hx, hy, eqGuard, binOp, Op.stringOp, Sem.run_bind, Result.andThen, Sem.run]
theorem Qe (hu : P.underlying t = some .string) (hx : ev σ x = Sv a) : Rn P σ w ⟨dst, .call ⟨.builtin .len, #[x], #[t]⟩, ty, pos, af, g⟩ (.int .i64 a.length) := by
 show (execOp (ev σ) _).run P w = _
 simp [execOp, resolve, invoke, hx, builtin, Builtin.len_, run_underlying hu, goInt]
 simp [ByteArray.size]
theorem getElem?_str (a : Str) (i : Nat) : (ByteArray.mk a.toArray)[i]? = a[i]? := by
 by_cases h : i < a.length
 ·have h3 : i < (ByteArray.mk a.toArray).size := by simpa [ByteArray.size] using h
  have h4 : (ByteArray.mk a.toArray)[i]? = some ((ByteArray.mk a.toArray)[i]'h3) := by simp [h3]
  rw [h4, List.getElem?_eq_getElem h]
  rfl
 ·have h3 : ¬ i < (ByteArray.mk a.toArray).size := by simpa [ByteArray.size] using h
  have h4 : (ByteArray.mk a.toArray)[i]? = none := by simp; omega
  rw [h4, List.getElem?_eq_none (by omega)]
theorem Qh (hu : P.underlying t = some .string) {k : IntKind} {i : Int} {c : UInt8} (hx : ev σ x = Sv a) (hy : ev σ y = .int k i) (h0 : 0 ≤ i) (hc : a[i.toNat]? = some c) :
  Rn P σ w ⟨dst, .index t x y, ty, pos, af, g⟩ (.int .u8 c.toNat) := by
 show (execOp (ev σ) _).run P w = _
 simp [execOp, hx, hy, Instr.index, asIntOf, run_underlying hu, h0, getElem?_str, hc]
end strs
section slices
variable {x y : Operand} {t e : TypeId}
structure XA (P : Program) (t e : TypeId) (k bytes : Nat) (z : List Value) : Prop where
 under : P.underlying t = some (.slice e)
 info : (P.info? e).map (fun i => (i.size, i.bytes, i.zero.map (fun v => v.cells.toList))) = some (k, bytes, some z)
theorem XA.inf {k bytes : Nat} {z : List Value} (h : XA P t e k bytes z) : ∃ i v, P.info? e = some i ∧ i.size = k ∧ i.bytes = bytes ∧ i.zero = some v ∧ v.cells.toList = z := by
 have := h.info
 cases hi : P.info? e with
 | none => simp [hi] at this
 | some i =>
  simp only [hi, Option.map_some, Option.some.injEq, Prod.mk.injEq] at this
  obtain ⟨h1, h2, h3⟩ := this
  cases hz : i.zero with
  | none => simp [hz] at h3
  | some v => exact ⟨i, v, rfl, h1, h2, hz, by simpa [hz] using h3⟩
variable {k bytes : Nat} {z : List Value}
theorem Z1 (hT : XA P t e k bytes z) {a : Option Addr} {n c : Nat} (hx : ev σ x = .slice a n c) : Rn P σ w ⟨dst, .call ⟨.builtin .len, #[x], #[t]⟩, ty, pos, af, g⟩ (.int .i64 n) := by
 show (execOp (ev σ) _).run P w = _
 simp [execOp, resolve, invoke, hx, builtin, Builtin.len_, run_underlying hT.under, goInt]
theorem rn_cap (hT : XA P t e k bytes z) {a : Option Addr} {n c : Nat} (hx : ev σ x = .slice a n c) : Rn P σ w ⟨dst, .call ⟨.builtin .cap, #[x], #[t]⟩, ty, pos, af, g⟩ (.int .i64 c) := by
 show (execOp (ev σ) _).run P w = _
 simp [execOp, resolve, invoke, hx, builtin, Builtin.cap_, run_underlying hT.under, goInt]
theorem XB {i : TypeInfo} (h : P.info? e = some i) : (sizeOf e).run P w = .ok i.size w := by
 simp [sizeOf, typeInfo, h]
theorem ZH (hT : XA P t e k bytes z) {kk : IntKind} {a : Addr} {n c : Nat} {i : Int} (hx : ev σ x = .slice (some a) n c) (hy : ev σ y = .int kk i) (h : 0 ≤ i ∧ i < n) :
  Rn P σ w ⟨dst, .indexAddr t x y, ty, pos, af, g⟩ (.pointer (some (a.add (i.toNat * k)))) := by
 show (execOp (ev σ) _).run P w = _
 obtain ⟨inf, v, h1, h2, h3, h4, h5⟩ := hT.inf
 simp [execOp, hx, hy, Instr.indexAt, asIntOf, run_underlying hT.under, XB h1, h, h2]
structure Z0 (P : Program) (t : TypeId) (f off : Nat) (u : TypeId) (k : Nat) : Prop where
 fld : (match P.underlying t with | some (.struct fs) => (fs[f]?).map fun x => (x.offset, x.type) | _ => none) = some (off, u)
 size : (P.info? u).map (·.size) = some k
 agg : (match P.underlying u with | some (.struct _) => some true | some (.array _ _) => some true | some _ => some false | none => none) = some (decide (k ≠ 1) || (match P.underlying u with | some (.struct _) => true | some (.array _ _) => true | _ => false))
theorem Z0.spec {f off : Nat} {u : TypeId} {k : Nat} (h : Z0 P t f off u k) : ∃ fs x i, P.underlying t = some (.struct fs) ∧ fs[f]? = some x ∧ x.offset = off ∧ x.type = u ∧ P.info? u = some i ∧ i.size = k := by
 have h1 := h.fld
 cases hu : P.underlying t with
 | none => simp [hu] at h1
 | some d =>
  cases d <;> simp [hu] at h1
  rename_i fs
  obtain ⟨x, hx, h2, h3⟩ := h1
  have h4 := h.size
  cases hi : P.info? u with
  | none => simp [hi] at h4
  | some i => exact ⟨fs, x, i, rfl, hx, h2, h3, rfl, by simpa [hi] using h4⟩
theorem rn_fieldAddr {f off : Nat} {u : TypeId} {k : Nat} (hF : Z0 P t f off u k) (hk : k ≠ 0) {a : Addr} (hx : ev σ x = .pointer (some a)) :
  Rn P σ w ⟨dst, .fieldAddr t x f, ty, pos, af, g⟩ (.pointer (some (a.add off))) := by
 show (execOp (ev σ) _).run P w = _
 obtain ⟨fs, fl, i, h1, h2, h3, h4, h5, h6⟩ := hF.spec
 subst h4
 simp [execOp, hx, Instr.fieldAt, run_underlying h1, h2, Instr.sureAddr, fieldPlace, XB h5, h6, hk, h3]
end slices
theorem Zf {P : Program} {σ : Env} {w : World} {dst : Option Nat} {ty : TypeId} {pos : String} {af : Array Edge} {g : Option (Nat × Bool)} {t : TypeId} {x : Operand} {f off : Nat} {u : TypeId} {k : Nat} (hF : Z0 P t f off u k) {a : Addr} (hx : ev σ x = .pointer (some a)) (hk : k ≠ 0 := by decide) :
 Rn P σ w ⟨dst, .fieldAddr t x f, ty, pos, af, g⟩ (.pointer (some (a.add off))) := rn_fieldAddr hF hk hx
theorem Zk {P : Program} {t : TypeId} {f off : Nat} {u : TypeId} {k : Nat} (h1 : (match P.underlying t with | some (.struct fs) => (fs[f]?).map fun x => (x.offset, x.type) | _ => none) = some (off, u) := by kernel_rfl) (h2 : (P.info? u).map (·.size) = some k := by kernel_rfl) (h3 : (match P.underlying u with | some (.struct _) => some true | some (.array _ _) => some true | some _ => some false | none => none) = some (decide (k ≠ 1) || (match P.underlying u with | some (.struct _) => true | some (.array _ _) => true | _ => false)) := by kernel_rfl) : Z0 P t f off u k := ⟨h1, h2, h3⟩
end
section
variable {ro : Option Nat} {P : Program} {n : Nat} {Q : QH} {σ : Env} {D : List Deferred} {w : World} {dst : Option Nat} {ty : TypeId} {pos : String} {af : Array Edge} {g : Option (Nat × Bool)}
variable {ops rest : List Oper} {K : Ops}
theorem Qn {op : Op} : XR P ops ⟨dst, op, ty, pos, af, none⟩ σ w K = op1 P ⟨dst, op, ty, pos, af, none⟩ σ w K := if_pos rfl
theorem Zc (h : K σ w) : wl P ops [] K σ w := h
theorem Zb {op : Op} {v : Value} (h : Rn P σ w ⟨dst, op, ty, pos, af, none⟩ v) (k : wl P ops rest K (put σ dst v) w) : wl P ops (⟨dst, op, ty, pos, af, none⟩ :: rest) K σ w := by
 show XR P ops _ σ w _
 rw [Qn]; unfold op1
 rw [show (execOp (ev σ) _).run P w = _ from h]; exact k
theorem QR {op : Op} {v : Value} {w' : World} (h : Rw P σ w ⟨dst, op, ty, pos, af, none⟩ v w') (k : wl P ops rest K (put σ dst v) w') : wl P ops (⟨dst, op, ty, pos, af, none⟩ :: rest) K σ w := by
 show XR P ops _ σ w _
 rw [Qn]; unfold op1
 rw [show (execOp (ev σ) _).run P w = _ from h]; exact k
theorem wl_do {op : Op} {w' : World} (h : Rs P σ w ⟨none, op, ty, pos, af, none⟩ w') (k : wl P ops rest K σ w') : wl P ops (⟨none, op, ty, pos, af, none⟩ :: rest) K σ w := by
 show XR P ops _ σ w _
 rw [Qn]; unfold op1
 rw [show (execOp (ev σ) _).run P w = _ from h]; exact k
theorem Zu {op : Op} {j : Nat} {b : Bool} {d : Nat} (hd : ((ops[j]?).bind (·.dst)) = some d) (hb : σ d = .bool b) (k : wl P ops (⟨dst, op, ty, pos, af, none⟩ :: rest) K σ w) :
  wl P ops (⟨dst, op, ty, pos, af, some (j, b)⟩ :: rest) K σ w := by
 have e : XM ops σ ⟨dst, op, ty, pos, af, some (j, b)⟩ = true := by simp [XM, hd, hb]
 show XR P ops _ σ w _
 have k' : XR P ops ⟨dst, op, ty, pos, af, none⟩ σ w (wl P ops rest K) := k
 rw [Qn] at k'
 unfold XR
 rw [if_pos e]; exact k'
theorem ZU {op : Op} {j : Nat} {b : Bool} {d : Nat} (hd : ((ops[j]?).bind (·.dst)) = some d) (hb : σ d = .bool (!b)) (k : wl P ops rest K (put σ dst undef) w) :
  wl P ops (⟨dst, op, ty, pos, af, some (j, b)⟩ :: rest) K σ w := by
 have e : XM ops σ ⟨dst, op, ty, pos, af, some (j, b)⟩ = false := by cases b <;> simp [XM, hd, hb]
 show XR P ops _ σ w _
 unfold XR
 rw [if_neg (by rw [e]; simp)]; exact k
def Xg (P : Program) (t : TypeId) : Prop := (match P.underlying t with | some (.struct _) => false | some (.array _ _) => false | some _ => true | none => false) = true ∧ (P.info? t).map (·.size) = some 1
def XD (P : Program) (t : TypeId) (k : Nat) : Prop := (match P.underlying t with | some (.struct _) => true | _ => false) = true ∧ (P.info? t).map (·.size) = some k
theorem Xg.agg {t : TypeId} (h : Xg P t) : (isAgg t).run P w = .ok false w := by
 obtain ⟨h1, _⟩ := h
 cases hu : P.underlying t with
 | none => simp [hu] at h1
 | some d => cases d <;> simp [hu] at h1 <;> simp [isAgg, run_underlying hu]
theorem XD.agg {t : TypeId} {k : Nat} (h : XD P t k) : (isAgg t).run P w = .ok true w := by
 obtain ⟨h1, _⟩ := h
 cases hu : P.underlying t with
 | none => simp [hu] at h1
 | some d => cases d <;> simp [hu] at h1 <;> simp [isAgg, run_underlying hu]
theorem Jn {t : TypeId} {k : Nat} (h : (P.info? t).map (·.size) = some k) : (sizeOf t).run P w = .ok k w := by
 cases hi : P.info? t with
 | none => simp [hi] at h
 | some i => simp [hi] at h; rw [XB hi, h]
theorem Xb {t : TypeId} (hT : Xg P t) {x : Operand} {a : Addr} {v : Value} (hx : ev σ x = .pointer (some a)) (hc : w.cell? a = some v) : Rn P σ w ⟨dst, .load t x, ty, pos, af, g⟩ v := by
 show (execOp (ev σ) _).run P w = _
 simp [execOp, hx, Instr.loadAt, Instr.sureAddr, loadVar, hT.agg, hc]
theorem J0 (a : Addr) (vs : List Value) : ∀ (i : Nat) (acc : Array Value), (∀ j, j < vs.length → w.cell? (a.add (i + j)) = vs[j]?) →
  (loadCellsFrom a i vs.length acc).run P w = .ok (acc ++ vs.toArray) w := by
 induction vs with
 | nil => intro i acc _; simp [loadCellsFrom]
 | cons v vs ih =>
  intro i acc h
  have h0 : w.cell? (a.add i) = some v := by simpa using h 0 (by simp)
  simp only [List.length_cons, loadCellsFrom, Sem.run_bind, run_load, h0, Result.andThen_ok]
  rw [ih (i + 1) (acc.push v) (fun j hj => by have := h (j + 1) (by simp; omega); simpa [Nat.add_assoc, Nat.add_comm 1 j] using this)]
  simp
theorem XC {t : TypeId} {k : Nat} (hT : XD P t k) {x : Operand} {a : Addr} {vs : List Value} (hx : ev σ x = .pointer (some a)) (hk : vs.length = k) (hc : ∀ j, j < k → w.cell? (a.add j) = vs[j]?) :
  Rn P σ w ⟨dst, .load t x, ty, pos, af, g⟩ (.agg vs.toArray) := by
 show (execOp (ev σ) _).run P w = _
 subst hk
 have h1 := J0 (P := P) (w := w) a vs 0 #[] (fun j hj => by simpa using hc j hj)
 simp [execOp, hx, Instr.loadAt, Instr.sureAddr, loadVar, hT.agg, Jn hT.2, loadCells, h1]
theorem XF (b o j : Nat) : (⟨b, o, none⟩ : Addr).add j = ⟨b, o + j, none⟩ := by unfold Addr.add; split <;> simp_all
theorem ZR {t : TypeId} {k : Nat} (hT : XD P t k) {x : Operand} {b : Nat} {vs : List Value} (hx : ev σ x = .pointer (some ⟨b, 0, none⟩)) (hk : vs.length = k) (hb : Zj w b vs) :
  Rn P σ w ⟨dst, .load t x, ty, pos, af, g⟩ (.agg vs.toArray) :=
 XC hT hx hk fun j hj => by
  rw [XF, Nat.zero_add]
  have h1 : vs[j]? = some vs[j] := List.getElem?_eq_getElem (by omega)
  rw [hb.cell h1, h1]
theorem Zi {t : TypeId} (hT : Xg P t) {x : Operand} {b i : Nat} {vs : List Value} {v : Value} (hx : ev σ x = .pointer (some ⟨b, i, none⟩)) (hb : Zj w b vs) (hi : vs[i]? = some v) :
  Rn P σ w ⟨dst, .load t x, ty, pos, af, g⟩ v := Xb hT hx (hb.cell hi)
def XZ (cs : List Value) (i : Nat) (vs : List Value) : List Value := cs.take i ++ vs ++ cs.drop (i + vs.length)
theorem patch_length {cs : List Value} {i : Nat} {vs : List Value} (h : i + vs.length ≤ cs.length) : (XZ cs i vs).length = cs.length := by
 simp [XZ]; omega
theorem patch_step {cs vs : List Value} {v : Value} {k : Nat} (h : k < cs.length) : XZ (cs.set k v) (k + 1) vs = XZ cs k (v :: vs) := by
 simp only [XZ, List.length_cons]
 rw [List.take_set, List.take_succ_eq_append_getElem h, List.drop_set_of_lt (by omega)]
 rw [List.set_append_right _ _ (by simp; omega)]
 simp [Nat.min_eq_left (Nat.le_of_lt h), show k + 1 + vs.length = k + (vs.length + 1) from by omega]
theorem patch_all {cs vs : List Value} (h : vs.length = cs.length) : XZ cs 0 vs = vs := by simp [XZ, ← h]
theorem QO (b : Nat) (T : TypeId) : ∀ (vs : List Value) (o i : Nat) (cs : List Value) (w : World), w.heap[b]? = some (.cells cs.toArray T (0, 0)) → (∀ v ∈ vs, v.oneCell' = true) → o + i + vs.length ≤ cs.length →
  ∃ w', (storeCells ⟨b, o, none⟩ vs i).run P w = .ok () w' ∧ Ext (fun j => j = b) w w' ∧ w'.heap[b]? = some (.cells (XZ cs (o + i) vs).toArray T (0, 0)) ∧ w'.heap.size = w.heap.size
 | [], o, i, cs, w, hb, _, _ => ⟨w, by simp [storeCells], Ext.refl _ _, by simpa [XZ] using hb, rfl⟩
 | v :: vs, o, i, cs, w, hb, hv, hl => by
  have hv0 : v.oneCell' = true := hv v (by simp)
  simp only [List.length_cons] at hl
  have hlt : b < w.heap.size := (Array.getElem?_eq_some_iff.1 hb).1
  have hc : w.cell? ⟨b, o + i, none⟩ = some (cs[o + i]'(by omega)) := by
   simp [World.cell?, hb]
  have hf : w.frozen? ⟨b, o + i, none⟩ = false := by simp [World.frozen?, hb]
  have h1 : (store ((⟨b, o, none⟩ : Addr).add i) v).run P w = .ok () (w.setCell ⟨b, o + i, none⟩ v) := by
   rw [XF, run_store P w _ v _ hv0]
   simp [stored, hc, hf]
  have hb' : (w.setCell ⟨b, o + i, none⟩ v).heap[b]? = some (.cells (cs.set (o + i) v).toArray T (0, 0)) := by
   simp only [World.setCell, Array.getElem?_modify, if_true, hb, Option.map_some]
   simp
  have hE : Ext (fun j => j = b) w (w.setCell ⟨b, o + i, none⟩ v) := ⟨rfl, rfl, rfl, by simp [World.setCell], fun j hj hne => Below.heap_setCell _ _ _ _ hne⟩
  obtain ⟨w', h2, h3, h4, h5⟩ := QO b T vs o (i + 1) (cs.set (o + i) v) _ hb' (fun x hx => hv x (by simp [hx])) (by simp; omega)
  refine ⟨w', ?_, hE.trans h3, ?_, h5.trans (by simp [World.setCell])⟩
  ·simp only [storeCells, Sem.run_bind, h1, Result.andThen_ok]; exact h2
  ·rw [h4, show o + (i + 1) = o + i + 1 from by omega, patch_step (by omega)]
theorem rs_store {t : TypeId} {x y : Operand} {b i : Nat} {cs : List Value} {v : Value} (hk : (P.info? t).map (·.size) = some v.cells.size) (hx : ev σ x = .pointer (some ⟨b, i, none⟩)) (hy : ev σ y = v)
  (h1 : ∀ u ∈ v.cells.toList, u.oneCell' = true) (hb : Zj w b cs) (hl : i + v.cells.size ≤ cs.length) :
  ∃ w', Rs P σ w ⟨dst, .store t x y, ty, pos, af, g⟩ w' ∧ Ext (fun j => j = b) w w' ∧ Zj w' b (XZ cs i v.cells.toList) ∧ w'.heap.size = w.heap.size := by
 obtain ⟨T, hb⟩ := hb
 obtain ⟨w', h2, h3, h4, h5⟩ := QO (P := P) b T v.cells.toList i 0 cs w hb h1 (by simpa using hl)
 refine ⟨w', ?_, h3, ⟨T, by simpa using h4⟩, h5⟩
 show (execOp (ev σ) _).run P w = _
 subst hy
 simp [execOp, hx, Instr.storeAt, Instr.sureAddr, storeVar, Jn hk, h2]
theorem ZN {t : TypeId} {x y : Operand} {b i : Nat} {cs : List Value} {v : Value} (hT : Xg P t) (hx : ev σ x = .pointer (some ⟨b, i, none⟩)) (hy : ev σ y = v) (hv : v.cells = #[v]) (h1 : v.oneCell' = true) (hb : Zj w b cs) (hl : i < cs.length)
  (k : ∀ w', Ext (fun j => j = b) w w' → Zj w' b (cs.set i v) → w'.heap.size = w.heap.size → wl P ops rest K σ w') : wl P ops (⟨none, .store t x y, ty, pos, af, none⟩ :: rest) K σ w := by
 obtain ⟨w', h2, h3, h4, h5⟩ := rs_store (dst := none) (ty := ty) (pos := pos) (af := af) (g := none) (by rw [hv]; exact hT.2) hx hy (by rw [hv]; simpa using h1) hb (by rw [hv]; simp; omega)
 refine wl_do h2 (k w' h3 ?_ h5)
 rw [hv] at h4
 have e : XZ cs i [v] = cs.set i v := by
  simp only [XZ, List.length_cons, List.length_nil]
  rw [List.set_eq_take_append_cons_drop, if_pos hl]; simp
 simpa [e] using h4
theorem ZS {t : TypeId} {x y : Operand} {b k : Nat} {cs vs : List Value} (hT : XD P t k) (hx : ev σ x = .pointer (some ⟨b, 0, none⟩)) (hy : ev σ y = .agg vs.toArray) (hk : vs.length = k) (h1 : ∀ u ∈ vs, u.oneCell' = true) (hb : Zj w b cs) (hl : cs.length = k)
  (kk : ∀ w', Ext (fun j => j = b) w w' → Zj w' b vs → w'.heap.size = w.heap.size → wl P ops rest K σ w') : wl P ops (⟨none, .store t x y, ty, pos, af, none⟩ :: rest) K σ w := by
 obtain ⟨w', h2, h3, h4, h5⟩ := rs_store (dst := none) (ty := ty) (pos := pos) (af := af) (g := none) (by simp [Value.cells, hk]; simpa using hT.2) hx hy (by simpa [Value.cells] using h1) hb (by simp [Value.cells]; omega)
 refine wl_do h2 (kk w' h3 ?_ h5)
 have : (Value.agg vs.toArray).cells.toList = vs := by simp [Value.cells]
 rw [this, patch_all (by omega)] at h4
 exact h4
theorem JD (w : World) (cs : Array Value) (T : TypeId) : Zj (w.alloc (.cells cs T)) w.heap.size cs.toList := ⟨T, by have := World.alloc_heap_new w (.cells cs T); simpa using this⟩
theorem wl_box {e : TypeId} {x : Operand} {cs : List Value} {d : Nat} (hx : (ev σ x).cells.toList = cs)
  (k : ∀ b w', w.heap.size ≤ b → Ext Non w w' → Zj w' b cs → wl P ops rest K (upd σ d (.pointer (some ⟨b, 0, none⟩))) w') : wl P ops (⟨some d, .box e x, ty, pos, af, none⟩ :: rest) K σ w := by
 refine QR (w' := w.alloc (.cells (ev σ x).cells e)) (v := .pointer (some ⟨w.heap.size, 0, none⟩)) ?_ (k _ _ (Nat.le_refl _) (Ext.alloc _ _) (by subst hx; exact JD _ _ _))
 show (execOp (ev σ) _).run P w = _
 simp [execOp, Instr.box, newVar, newRow]
def XG (P : Program) (t : TypeId) (z : List Value) : Prop := (P.info? t).map (fun i => i.zero.map (fun v => v.cells.toList)) = some (some z)
theorem run_zero {t : TypeId} {z : List Value} (h : XG P t z) : ∃ v, (∀ w, (zeroValue t).run P w = .ok v w) ∧ v.cells.toList = z := by
 unfold XG at h
 cases hi : P.info? t with
 | none => simp [hi] at h
 | some i =>
  simp only [hi, Option.map_some, Option.some.injEq] at h
  cases hz : i.zero with
  | none => simp [hz] at h
  | some v => exact ⟨v, fun w => by simp [zeroValue, typeInfo, hi, hz], by simpa [hz] using h⟩
theorem ZT {e : TypeId} {z : List Value} {d : Nat} (hz : XG P e z)
  (k : ∀ b w', w.heap.size ≤ b → Ext Non w w' → Zj w' b z → wl P ops rest K (upd σ d (.pointer (some ⟨b, 0, none⟩))) w') : wl P ops (⟨some d, .alloc e, ty, pos, af, none⟩ :: rest) K σ w := by
 obtain ⟨v, h1, h2⟩ := run_zero hz
 refine QR (w' := w.alloc (.cells v.cells e)) (v := .pointer (some ⟨w.heap.size, 0, none⟩)) ?_ (k _ _ (Nat.le_refl _) (Ext.alloc _ _) (by subst h2; exact JD _ _ _))
 show (execOp (ev σ) _).run P w = _
 simp [execOp, Instr.alloc, h1, newVar, newRow]
def Xa (P : Program) (f : FuncId) : Bool := match P.funcs[f]? with | some fn => fn.name != "runtime.NumGoroutine" && fn.body.isSome | none => false
theorem QY {f : FuncId} (h : Xa P f = true) (args : Array Value) (w : World) : (callFunc f args).run P w = .ok (.enter f args) w := by
 unfold Xa at h
 cases hf : P.funcs[f]? with
 | none => simp [hf] at h
 | some fn =>
  simp only [hf, Bool.and_eq_true, bne_iff_ne, ne_eq] at h
  obtain ⟨h1, h2⟩ := h
  have h3 : (fn.name == "runtime.NumGoroutine") = false := by simpa using h1
  have h4 : fn.body.isNone = false := by cases hb : fn.body <;> simp_all
  have h5 : fn.body ≠ none := by intro h; rw [h] at h2; cases h2
  simp [callFunc, hf, h1, h5]
def Fn (P : Program) (f : FuncId) (args : Array Value) (w : World) (R : Value → World → Prop) : Prop :=
 Calls P f args w fun e w' => ∃ v, e = .returned v ∧ Ext Non w w' ∧ R v w'
theorem Fn.mono {f : FuncId} {args : Array Value} {R R' : Value → World → Prop} (h : Fn P f args w R) (hr : ∀ v w', Ext Non w w' → R v w' → R' v w') : Fn P f args w R' :=
 Calls.mono h fun e w' hx => by obtain ⟨v, h1, h2, h3⟩ := hx; exact ⟨v, h1, h2, hr _ _ h2 h3⟩
theorem Zw {f : FuncId} {ags : List Operand} {ts : Array TypeId} {args : List Value} {R : Value → World → Prop} (hf : Xa P f = true) (ha : ags.map (ev σ) = args) (h : Fn P f args.toArray w R)
  (k : ∀ v w', Ext Non w w' → R v w' → wl P ops rest K (put σ dst v) w') : wl P ops (⟨dst, .call ⟨.value (.func f), ags.toArray, ts⟩, ty, pos, af, none⟩ :: rest) K σ w := by
 show XR P ops _ σ w _
 rw [Qn]; unfold op1
 have e : (execOp (ev σ) ⟨dst, .call ⟨.value (.func f), ags.toArray, ts⟩, ty, pos, af, none⟩).run P w = .ok (.enter f args.toArray) w := by
  simp [execOp, resolve, ev, ha, Deferred.ofValue, invoke, QY hf]
 rw [e]
 exact Calls.mono h fun e w' hx => by obtain ⟨v, h1, h2, h3⟩ := hx; exact ⟨v, h1, k v w' h2 h3⟩
theorem JE {f : FuncId} {x : Operand} {cap : Array Value} {ags : List Operand} {ts : Array TypeId} {args : List Value} {R : Ending → World → Prop} (hx : ev σ x = .func (.func f) #[] cap) (hf : Xa P f = true) (ha : ags.map (ev σ) = args)
  (h : Calls P f (args.toArray ++ cap) w R) (k : ∀ e w', R e w' → ∃ v, e = .returned v ∧ wl P ops rest K (put σ dst v) w') : wl P ops (⟨dst, .call ⟨.value x, ags.toArray, ts⟩, ty, pos, af, none⟩ :: rest) K σ w := by
 show XR P ops _ σ w _
 rw [Qn]; unfold op1
 have e : (execOp (ev σ) ⟨dst, .call ⟨.value x, ags.toArray, ts⟩, ty, pos, af, none⟩).run P w = .ok (.enter f (args.toArray ++ cap)) w := by
  simp [execOp, resolve, hx, ha, Deferred.ofValue, invoke, QY hf]
 rw [e]
 exact Calls.mono h fun e w' hr => k e w' hr
theorem Zm {P : Program} {ops rest : List Oper} {K : Ops} {σ : Env} {w : World} {dst : Option Nat} {ty : TypeId} {pos : String} {af : Array Edge} {x : Operand} {v : Value} (k : wl P ops rest K (put σ dst v) w) (h : ev σ x = v := by conv => lhs; whnf) : wl P ops (⟨dst, .move x, ty, pos, af, none⟩ :: rest) K σ w := Zb (XO h) k
theorem Za {P : Program} {ops rest : List Oper} {K : Ops} {σ : Env} {w : World} {dst : Option Nat} {ty : TypeId} {pos : String} {af : Array Edge} {x : Operand} {v : Value} (k : wl P ops rest K (put σ dst v) w) (h : ev σ x = v := by conv => lhs; whnf) : wl P ops (⟨dst, .assign x, ty, pos, af, none⟩ :: rest) K σ w := Zb (Xm h) k
end
section
variable {ro : Option Nat} {P : Program} {n : Nat} {Q : QH} {σ : Env} {D : List Deferred} {w : World}
def env0 (args : List Value) : Env := fun i => args.getD i undef
def res1 (P : Program) (σ : Env) (w : World) : ResultVar → Value → Prop
 | .tmp t, v => σ t = v
 | .cell a t, v => ∃ ad, σ a = .pointer (some ad) ∧ (loadVar t ad).run P w = .ok v w
theorem Zh {t : Nat} {v : Value} (h : σ t = v) : res1 P σ w (.tmp t) v := h
theorem Q4 {a : Nat} {t : TypeId} {b : Nat} {v : Value} (hT : Xg P t) (ha : σ a = .pointer (some ⟨b, 0, none⟩)) (hb : Zj w b [v]) : res1 P σ w (.cell a t) v :=
 ⟨_, ha, by simp [loadVar, hT.agg, hb.cell (i := 0) rfl]⟩
theorem Xn {a : Nat} {t : TypeId} {b k : Nat} {vs : List Value} (hT : XD P t k) (ha : σ a = .pointer (some ⟨b, 0, none⟩)) (hb : Zj w b vs) (hk : vs.length = k) : res1 P σ w (.cell a t) (.agg vs.toArray) := by
 refine ⟨_, ha, ?_⟩
 subst hk
 have h1 := J0 (P := P) (w := w) ⟨b, 0, none⟩ vs 0 #[] (fun j hj => by
  rw [XF, Nat.zero_add, Nat.zero_add]
  have h1 : vs[j]? = some vs[j] := List.getElem?_eq_getElem (by omega)
  rw [hb.cell h1, h1])
 simp [loadVar, hT.agg, Jn hT.2, loadCells, h1]
def resR (P : Program) (σ : Env) (w : World) : List ResultVar → Value → Prop
 | [], v => v = .tuple #[]
 | [r], v => res1 P σ w r v
 | [r, s], v => ∃ a b, v = .tuple #[a, b] ∧ res1 P σ w r a ∧ res1 P σ w s b
 | [r, s, t], v => ∃ a b c, v = .tuple #[a, b, c] ∧ res1 P σ w r a ∧ res1 P σ w s b ∧ res1 P σ w t c
 | _, _ => False
theorem ZD {r : ResultVar} {v : Value} (h : res1 P σ w r v) : resR P σ w [r] v := h
theorem Qd {r s : ResultVar} {v u : Value} (h : res1 P σ w r v) (k : res1 P σ w s u) : resR P σ w [r, s] (.tuple #[v, u]) := ⟨_, _, rfl, h, k⟩
theorem resR3 {r s t : ResultVar} {v u x : Value} (h : res1 P σ w r v) (k : res1 P σ w s u) (l : res1 P σ w t x) : resR P σ w [r, s, t] (.tuple #[v, u, x]) := ⟨_, _, _, rfl, h, k, l⟩
def resS (a : Act) : ResultVar → Sem Value
 | .tmp t => pure (a.tmps.getD t undef)
 | .cell ad t => do loadVar t (← asAddr (a.tmps.getD ad undef))
theorem J6 {a : Act} {r : ResultVar} {v : Value} (hs : Sim n a σ) (h : res1 P σ w r v) : (resS a r).run P w = .ok v w := by
 cases r with
 | tmp t => rw [resS, hs.agree]; simp; exact h
 | cell ad t =>
  obtain ⟨addr, h1, h2⟩ := h
  rw [resS, hs.agree, h1]; simp [asAddr, h2]
theorem run_results {fn : Func} {a : Act} {v : Value} (hs : Sim n a σ) (h : resR P σ w fn.results.toList v) : (results fn a.tmps).run P w = .ok v w := by
 have e : results fn a.tmps = (do let vs ← fn.results.mapM (resS a); pure (if h : vs.size = 1 then vs[0] else .tuple vs)) := by
  unfold results
  congr 2
 rw [e]
 obtain ⟨rs, hr⟩ : ∃ rs, fn.results = List.toArray rs := ⟨fn.results.toList, by simp⟩
 rw [hr] at h ⊢
 simp only [List.toList_toArray] at h
 match rs, h with
 | [], h => simp only [resR] at h; subst h; simp
 | [r], h => simp [J6 hs h]
 | [r, s], h =>
  obtain ⟨x, y, rfl, h1, h2⟩ := h
  simp [J6 hs h1, J6 hs h2]
 | [r, s, t], h =>
  obtain ⟨x, y, z, rfl, h1, h2, h3⟩ := h
  simp [J6 hs h1, J6 hs h2, J6 hs h3]
 | _ :: _ :: _ :: _ :: _, h => exact h.elim
def Leave (P : Program) (rs : List ResultVar) (R : Value → World → Prop) (σ : Env) : List Deferred → World → Prop
 | [], w => ∃ v, resR P σ w rs v ∧ R v w
 | d :: ds, w => ∃ r, d.target = .collected r ∧ w.heap[r]? = some (.deferred (some [])) ∧ Leave P rs R σ ds (w.putObj r (.deferred none))
theorem leave_sound {fn : Func} {a : Act} {R : Value → World → Prop} {R' : Ending → World → Prop} (hs : Sim n a σ) (hR : ∀ v w, R v w → R' (.returned v) w) : ∀ (ds : List Deferred) (w : World), Leave P fn.results.toList R σ ds w →
  LeavesInM Fence.wide 0 P fn a.tmps R' ds .returning w
 | [], w, h => by
  obtain ⟨v, h1, h2⟩ := h
  exact ⟨v, run_results hs h1, hR _ _ h2⟩
 | d :: ds, w, h => by
  obtain ⟨r, h1, h2, h3⟩ := h
  exact ⟨by simp, .inl ⟨r, _, h1, run_takeDeferred h2, leave_sound hs hR ds _ h3⟩⟩
def RetQ (P : Program) (rs : List ResultVar) (R : Value → World → Prop) : QH
 | .normal, σ, D, w | .ret, σ, D, w => Leave P rs R σ D w
 | _, _, _, _ => False
theorem sim0 {n : Nat} (args : List Value) (h : args.length ≤ n) : Sim n { tmps := args.toArray ++ Array.replicate (n - args.length) undef, defers := [] } (env0 args) := by
 refine ⟨by simp; omega, fun i => ?_⟩
 simp only [Array.getD_eq_getD_getElem?, env0, List.getD_eq_getElem?_getD]
 by_cases h1 : i < args.length
 ·simp [Array.getElem?_append, h1]
 ·by_cases h2 : i < n
  ·rw [List.getElem?_eq_none (by omega), Array.getElem?_append_right (by simp; omega)]
   have h3 : i - args.length < n - args.length := by omega
   simp [Array.getElem?_replicate, h3]
  ·rw [List.getElem?_eq_none (by omega), Array.getElem?_eq_none (by simp; omega)]
theorem Q2 {f : FuncId} {fn : Func} {c : Code} {args : List Value} {R : Value → World → Prop} (hf : P.funcs[f]? = some fn) (hb : fn.body = some c) (hk : okc fn.ntmps c = true) (hl' : Nat.ble args.length fn.ntmps = true)
  (h : W none P fn.ntmps c (RetQ P fn.results.toList R) (env0 args) [] w) : Calls P f args.toArray w fun e w' => ∃ v, e = .returned v ∧ R v w' := by
 have hl : args.length ≤ fn.ntmps := Nat.le_of_ble_eq_true hl'
 have key : CallsIn Fence.wide 0 P f args.toArray w (fun e w' => ∃ v, e = .returned v ∧ R v w') := by
  refine callsIn_of_wp_marks hf hb trivial ?_ rfl
  have := h hk _ (sim0 (n := fn.ntmps) args hl) rfl
  simp only [List.size_toArray] at *
  refine wpIn_mono this ?_
  rintro e a' w' ⟨σ', hs, hq⟩
  cases e with
  | normal => exact leave_sound hs (fun v w h => ⟨v, rfl, h⟩) _ _ hq
  | ret => exact leave_sound hs (fun v w h => ⟨v, rfl, h⟩) _ _ hq
  | _ => exact hq.elim
 exact callsIn_wide.1 key
theorem fn_of_W {f : FuncId} {fn : Func} {c : Code} {args : List Value} {R : Value → World → Prop} (hf : P.funcs[f]? = some fn) (hb : fn.body = some c) (hk : okc fn.ntmps c = true) (hl' : Nat.ble args.length fn.ntmps = true)
  (h : W none P fn.ntmps c (RetQ P fn.results.toList (fun v w' => Ext Non w w' ∧ R v w')) (env0 args) [] w) : Fn P f args.toArray w R :=
 Q2 hf hb hk hl' h
theorem Zfw {P : Program} {w : World} {f : FuncId} {fn : Func} {c : Code} {args : List Value} {R : Value → World → Prop} (hf : P.funcs[f]? = some fn) (hb : fn.body = some c) (hl' : Nat.ble args.length fn.ntmps = true) (h : W none P fn.ntmps c (RetQ P fn.results.toList (fun v w' => Ext Non w w' ∧ R v w')) (env0 args) [] w) (hk : okc fn.ntmps c = true := by kernel_rfl) : Fn P f args.toArray w R := fn_of_W hf hb hk hl' h
end
section
variable {ro : Option Nat} {P : Program} {n : Nat} {Q : QH} {σ : Env} {D : List Deferred} {w : World} {dst : Option Nat} {ty : TypeId} {pos : String} {af : Array Edge} {g : Option (Nat × Bool)}
variable {ops rest : List Oper} {K : Ops}
abbrev big : Nat := 9223372036854775807
structure Sl (M : Nat → Prop) (w : World) (v : Value) (k : Nat) (rows : List (List Value)) : Prop where
 ex : ∃ a c, v = .slice a rows.length c ∧ rows.length ≤ c ∧ c ≤ big ∧ (rows = [] ∨ ∃ b o, a = some ⟨b, o, none⟩ ∧ b < w.heap.size ∧ ¬ M b ∧ ∀ j, j < rows.flatten.length → w.cell? ⟨b, o + j, none⟩ = rows.flatten[j]?)
 each : ∀ r ∈ rows, r.length = k
theorem XN {k : Nat} {rows : List (List Value)} (h : ∀ r ∈ rows, r.length = k) : rows.flatten.length = rows.length * k := by
 induction rows with
 | nil => simp
 | cons r rs ih => simp [ih (fun x hx => h x (by simp [hx])), h r (by simp), Nat.add_mul, Nat.add_comm]
theorem flat_at {k : Nat} {rows : List (List Value)} (h : ∀ r ∈ rows, r.length = k) (i d : Nat) (hi : i < rows.length) (hd : d < k) : rows.flatten[i * k + d]? = rows[i][d]? := by
 induction rows generalizing i with
 | nil => simp at hi
 | cons r rs ih =>
  have hr := h r (by simp)
  cases i with
  | zero => simp only [Nat.zero_mul, Nat.zero_add, List.flatten_cons, List.getElem_cons_zero]; rw [List.getElem?_append_left (by omega)]
  | succ i =>
   simp only [List.flatten_cons, List.getElem_cons_succ]
   rw [List.getElem?_append_right (by rw [hr, Nat.add_mul]; omega), hr]
   rw [show (i + 1) * k + d - k = i * k + d from by rw [Nat.add_mul]; omega]
   exact ih (fun x hx => h x (by simp [hx])) i (by simpa using hi)
theorem Sl.nil (M : Nat → Prop) (w : World) (k : Nat) : Sl M w (.slice none 0 0) k [] := ⟨⟨none, 0, rfl, by simp, by decide, .inl rfl⟩, by simp⟩
theorem Sl.len {M : Nat → Prop} {v : Value} {k : Nat} {rows : List (List Value)} (h : Sl M w v k rows) : ∃ a c, v = .slice a rows.length c ∧ rows.length ≤ big := by
 obtain ⟨⟨a, c, h1, h2, h3, _⟩, _⟩ := h; exact ⟨a, c, h1, Zle h2 h3⟩
theorem Sl.ext {M M' : Nat → Prop} {w' : World} {v : Value} {k : Nat} {rows : List (List Value)} (h : Sl M w v k rows) (hE : Ext M' w w') (hm : ∀ i, M' i → M i) : Sl M w' v k rows := by
 obtain ⟨⟨a, c, h1, h2, h3, h4⟩, h5⟩ := h
 refine ⟨⟨a, c, h1, h2, h3, ?_⟩, h5⟩
 rcases h4 with h4 | ⟨b, o, ha, hb, hn, hc⟩
 ·exact .inl h4
 ·refine .inr ⟨b, o, ha, Zlt hb hE.size, hn, fun j hj => ?_⟩
  have h6 := hc j hj
  rw [List.getElem?_eq_getElem hj] at h6 ⊢
  exact hE.cell h6 (fun h => hn (hm _ h))
theorem Sl.sub {M M' : Nat → Prop} {v : Value} {k : Nat} {rows : List (List Value)} (h : Sl M w v k rows) (hm : ∀ i, M' i → i < w.heap.size → M i) : Sl M' w v k rows := by
 obtain ⟨⟨a, c, h1, h2, h3, h4⟩, h5⟩ := h
 refine ⟨⟨a, c, h1, h2, h3, ?_⟩, h5⟩
 rcases h4 with h4 | ⟨b, o, ha, hb, hn, hc⟩
 ·exact .inl h4
 ·exact .inr ⟨b, o, ha, hb, fun h => hn (hm _ h hb), hc⟩
theorem Sl.cell {M : Nat → Prop} {a : Addr} {m c k : Nat} {rows : List (List Value)} (h : Sl M w (.slice (some a) m c) k rows) {i d : Nat} {r : List Value} {u : Value} (hi : rows[i]? = some r) (hd : r[d]? = some u) : w.cell? (a.add (i * k + d)) = some u := by
 obtain ⟨⟨a', c', h1, h2, h3, h4⟩, h5⟩ := h
 have hi' := List.getElem?_eq_some_iff.1 hi
 obtain ⟨hlt, hr⟩ := hi'
 rcases h4 with h4 | ⟨b, o, ha, hb, hn, hc⟩
 ·subst h4; simp at hlt
 ·simp only [Value.slice.injEq] at h1
  obtain ⟨rfl, _, _⟩ := h1
  cases ha
  have hk : r.length = k := h5 r (List.mem_of_getElem? hi)
  have hdk : d < k := by have := (List.getElem?_eq_some_iff.1 hd).1; omega
  have e1 : rows.flatten[i * k + d]? = some u := by rw [flat_at h5 i d hlt hdk, hr]; exact hd
  rw [XF, hc _ (List.getElem?_eq_some_iff.1 e1).1, e1]
theorem Sl.base {M : Nat → Prop} {a : Option Addr} {m c k : Nat} {rows : List (List Value)} (h : Sl M w (.slice a m c) k rows) (hr : rows ≠ []) : ∃ b o, a = some ⟨b, o, none⟩ := by
 obtain ⟨⟨a', c', h1, h2, h3, h4⟩, h5⟩ := h
 rcases h4 with h4 | ⟨b, o, ha, _⟩
 ·exact absurd h4 hr
 ·simp only [Value.slice.injEq] at h1
  exact ⟨b, o, h1.1.trans ha⟩
theorem Sl.first {M : Nat → Prop} {a : Option Addr} {m c k : Nat} {rows : List (List Value)} (h : Sl M w (.slice a m c) k rows) : (Builtin.firstCells k rows.length (.slice a m c)).run P w = .ok rows.flatten.toArray w := by
 obtain ⟨⟨a', c', h1, h2, h3, h4⟩, h5⟩ := h
 simp only [Value.slice.injEq] at h1
 obtain ⟨rfl, rfl, rfl⟩ := h1
 rcases h4 with h4 | ⟨b, o, ha, hb, hn, hc⟩
 ·subst h4
  cases a <;> simp [Builtin.firstCells, loadCells, loadCellsFrom]
 ·subst ha
  have := J0 (P := P) (w := w) ⟨b, o, none⟩ rows.flatten 0 #[] (fun j hj => by rw [XF, Nat.zero_add]; exact hc j hj)
  simp only [Builtin.firstCells, loadCells]
  rw [XN h5] at this
  simpa using this
def eI (x : Int) : List Value := [.int .i64 x]
def eB (x : Bool) : List Value := [.bool x]
structure Ow (w : World) (v : Value) (b k : Nat) (rows : List (List Value)) (spare : List Value) : Prop where
 val : ∃ c, v = .slice (some ⟨b, 0, none⟩) rows.length c ∧ rows.length ≤ c ∧ c ≤ big ∧ spare.length = (c - rows.length) * k
 box : Zj w b (rows.flatten ++ spare)
 each : ∀ r ∈ rows, r.length = k
theorem Ow.sl {v : Value} {b k : Nat} {rows : List (List Value)} {spare : List Value} (h : Ow w v b k rows spare) {M : Nat → Prop} (hm : ¬ M b) : Sl M w v k rows := by
 obtain ⟨⟨c, h1, h2, h3, h4⟩, h5, h6⟩ := h
 refine ⟨⟨_, c, h1, h2, h3, .inr ⟨b, 0, rfl, h5.lt, hm, fun j hj => ?_⟩⟩, h6⟩
 rw [Nat.zero_add]
 have e : (rows.flatten ++ spare)[j]? = rows.flatten[j]? := List.getElem?_append_left hj
 rw [List.getElem?_eq_getElem hj] at e ⊢
 exact h5.cell e
theorem Ow.ext {v : Value} {b k : Nat} {rows : List (List Value)} {spare : List Value} (h : Ow w v b k rows spare) {M : Nat → Prop} {w' : World} (hE : Ext M w w') (hm : ¬ M b) : Ow w' v b k rows spare :=
 ⟨h.val, h.box.ext hE hm, h.each⟩
theorem zero_len (z : Array Value) (m : Nat) : (Builtin.zeroCells z m).size = m * z.size := by simp [Builtin.zeroCells]
theorem QP {t e : TypeId} {k bytes : Nat} {z : List Value} (hT : XA P t e k bytes z) (hz : z.length = k) {M M' : Nat → Prop} {a a2 : Option Addr} {m c m2 c2 : Nat} {rows rows2 : List (List Value)}
  (hs : Sl M w (.slice a m c) k rows) (hx : Sl M' w (.slice a2 m2 c2) k rows2) (hg : c < rows.length + rows2.length) (hb : (rows.length + rows2.length) * bytes ≤ 140737488355328) (h63 : rows.length + rows2.length ≤ big) (ty : TypeId) :
  ∃ v' w' spare, (Builtin.append_ #[t, t] ty #[.slice a m c, .slice a2 m2 c2]).run P w = .ok v' w' ∧ Ext Non w w' ∧ Ow w' v' w.heap.size k (rows ++ rows2) spare := by
 obtain ⟨inf, v0, h1, h2, h3, h4, h5⟩ := hT.inf
 have hm : m = rows.length := by obtain ⟨⟨_, _, h, _⟩, _⟩ := hs; simp only [Value.slice.injEq] at h; exact h.2.1
 have hm2 : m2 = rows2.length := by obtain ⟨⟨_, _, h, _⟩, _⟩ := hx; simp only [Value.slice.injEq] at h; exact h.2.1
 subst hm; subst hm2
 have hf1 := hs.first (P := P) (w := w)
 have hgrow := growslice_fits hg hb
 have hq : ¬ (281474976710656 < Builtin.nextslicecap (rows.length + rows2.length) c * inf.bytes) := by rw [h3]; omega
 have hb63 : ¬ ((9223372036854775807 : Int) < (rows.length : Int) + (rows2.length : Int)) := by simp only [big] at h63; omega
 have hroom : ¬ (rows.length + rows2.length ≤ c) := by omega
 have hf1' : ∀ d, (Builtin.firstCells k rows.length (.slice a rows.length c)).run P { w with drawn := d } = .ok rows.flatten.toArray { w with drawn := d } := fun d =>
  (Sl.first (w := { w with drawn := d }) ⟨hs.ex, hs.each⟩)
 have hf2' : ∀ d, (Builtin.firstCells k rows2.length (.slice a2 rows2.length c2)).run P { w with drawn := d } = .ok rows2.flatten.toArray { w with drawn := d } := fun d =>
  (Sl.first (w := { w with drawn := d }) ⟨hx.ex, hx.each⟩)
 have hcap := grownCap_ge w (rows.length + rows2.length) c e
 have hcap2 := grownCap_le_maxLen w (rows.length + rows2.length) c e (by simp only [maxLen, big] at *; omega)
 refine ⟨.slice (some ⟨w.heap.size, 0, none⟩) (rows.length + rows2.length) (grownCap w (rows.length + rows2.length) c e),
  ({ w with drawn := w.drawn + 1 } : World).alloc (.cells (rows.flatten.toArray ++ rows2.flatten.toArray ++ Builtin.zeroCells v0.cells (grownCap w (rows.length + rows2.length) c e - (rows.length + rows2.length))) e),
  (Builtin.zeroCells v0.cells (grownCap w (rows.length + rows2.length) c e - (rows.length + rows2.length))).toList, ?_, ?_, ?_⟩
 ·simp only [Builtin.append_]
  have hmax : IntKind.i64.max = 9223372036854775807 := by decide
  have hd1 : (Builtin.firstCells k rows.length (.slice a rows.length c)).run P w.drew = .ok rows.flatten.toArray w.drew := hf1' _
  have hd2 : (Builtin.firstCells k rows2.length (.slice a2 rows2.length c2)).run P w.drew = .ok rows2.flatten.toArray w.drew := hf2' _
  simp [run_underlying hT.under, XB h1, h2, Builtin.lenOf, hroom, typeInfo, h1, hq, hmax, hb63, hd1, hd2, zeroValue, h4, newRow, grownCap, Question.forced]
  congr 2
  rw [← Array.append_assoc]
  congr 1
  simp
 ·exact (Ext.alloc { w with drawn := w.drawn + 1 } _).trans (Ext.refl _ _) |> fun h => ⟨h.os, h.tape, h.output, h.size, h.block⟩
 ·refine ⟨⟨grownCap w (rows.length + rows2.length) c e, by simp, by simpa using hcap, by simp only [maxLen, big] at *; omega, ?_⟩, ?_, ?_⟩
  ·have : v0.cells.size = k := by rw [← hz, ← h5]; simp
   simp [zero_len, this]
  ·have := JD { w with drawn := w.drawn + 1 } (rows.flatten.toArray ++ rows2.flatten.toArray ++ Builtin.zeroCells v0.cells (grownCap w (rows.length + rows2.length) c e - (rows.length + rows2.length))) e
   simpa using this
  ·intro r hr
   rcases List.mem_append.1 hr with hr | hr
   ·exact hs.each r hr
   ·exact hx.each r hr
theorem patch_room {xs ys sp : List Value} (h : ys.length ≤ sp.length) : XZ (xs ++ sp) xs.length ys = xs ++ ys ++ sp.drop ys.length := by
 simp [XZ, List.drop_append]
theorem J7 {t e : TypeId} {k bytes : Nat} {z : List Value} (hT : XA P t e k bytes z) {M' : Nat → Prop} {v : Value} {b : Nat} {a2 : Option Addr} {m2 c2 : Nat} {rows rows2 : List (List Value)} {spare : List Value}
  (hs : Ow w v b k rows spare) (hx : Sl M' w (.slice a2 m2 c2) k rows2) (h1 : ∀ r ∈ rows2, ∀ u ∈ r, u.oneCell' = true) (hg : ∃ m c, v = .slice (some ⟨b, 0, none⟩) m c ∧ rows.length + rows2.length ≤ c) (ty : TypeId) :
  ∃ v' w' spare', (Builtin.append_ #[t, t] ty #[v, .slice a2 m2 c2]).run P w = .ok v' w' ∧ Ext (fun i => i = b) w w' ∧ Ow w' v' b k (rows ++ rows2) spare' := by
 obtain ⟨inf, v0, i1, i2, i3, i4, i5⟩ := hT.inf
 obtain ⟨⟨c, hv, hc1, hc2, hc3⟩, hbox, heach⟩ := hs
 obtain ⟨m', c', hv', hroom⟩ := hg
 have hm2 : m2 = rows2.length := by obtain ⟨⟨_, _, h, _⟩, _⟩ := hx; simp only [Value.slice.injEq] at h; exact h.2.1
 subst hm2
 rw [hv] at hv'
 simp only [Value.slice.injEq, true_and] at hv'
 obtain ⟨rfl, rfl⟩ := hv'
 subst hv
 have hf2 := hx.first (P := P) (w := w)
 have hfl := XN heach
 have hfl2 := XN hx.each
 obtain ⟨T, hbox⟩ := hbox
 have hsp : rows2.flatten.length ≤ spare.length := by rw [hfl2, hc3]; exact Nat.mul_le_mul_right _ (by omega)
 obtain ⟨w', h2, h3, h4, h5⟩ := QO (P := P) b T rows2.flatten (rows.length * k) 0 (rows.flatten ++ spare) w hbox (fun u hu => by obtain ⟨r, hr, hu⟩ := List.mem_flatten.1 hu; exact h1 r hr u hu)
  (by simp only [List.length_append]; omega)
 rw [Nat.add_zero, ← hfl, patch_room hsp] at h4
 refine ⟨.slice (some ⟨b, 0, none⟩) (rows.length + rows2.length) c, w', spare.drop rows2.flatten.length, ?_, h3, ⟨⟨c, by simp, by simpa using hroom, hc2, ?_⟩, ⟨T, by simpa using h4⟩, ?_⟩⟩
 ·have e : ((⟨b, 0, none⟩ : Addr).add (rows.length * k)) = ⟨b, rows.length * k, none⟩ := by rw [XF, Nat.zero_add]
  simp [Builtin.append_, run_underlying hT.under, XB i1, i2, Builtin.lenOf, hroom, hf2, e, h2]
 ·rw [List.length_drop, hc3, hfl2, List.length_append, ← Nat.sub_mul]; congr 1; omega
 ·intro r hr
  rcases List.mem_append.1 hr with hr | hr
  ·exact heach r hr
  ·exact hx.each r hr
def OwN (w : World) (v : Value) (B k : Nat) (rows : List (List Value)) : Prop :=
 (v = .slice none 0 0 ∧ rows = []) ∨ ∃ b spare, B ≤ b ∧ Ow w v b k rows spare
theorem OwN.nil (w : World) (B k : Nat) : OwN w (.slice none 0 0) B k [] := .inl ⟨rfl, rfl⟩
theorem run_append_own' {t e : TypeId} {k bytes : Nat} {z : List Value} (hT : XA P t e k bytes z) (hz : z.length = k) {M' : Nat → Prop} {v : Value} {B : Nat} {a2 : Option Addr} {m2 c2 : Nat} {rows rows2 : List (List Value)}
  (hs : OwN w v B k rows) (hx : Sl M' w (.slice a2 m2 c2) k rows2) (h1 : ∀ r ∈ rows2, ∀ u ∈ r, u.oneCell' = true) (hB : B ≤ w.heap.size) (hb : (rows.length + rows2.length) * bytes ≤ 140737488355328) (h63 : rows.length + rows2.length ≤ big) (ty : TypeId) :
  ∃ v' w', (Builtin.append_ #[t, t] ty #[v, .slice a2 m2 c2]).run P w = .ok v' w' ∧ Ext (fun i => B ≤ i) w w' ∧ OwN w' v' B k (rows ++ rows2) := by
 rcases hs with ⟨rfl, rfl⟩ | ⟨b, spare, hBb, h⟩
 ·by_cases h0 : rows2 = []
  ·subst h0
   have hm2 : m2 = 0 := by obtain ⟨⟨_, _, h, _⟩, _⟩ := hx; simp only [Value.slice.injEq] at h; exact h.2.1
   subst hm2
   obtain ⟨inf, v0, i1, i2, i3, i4, i5⟩ := hT.inf
   have hf2 := hx.first (P := P) (w := w)
   refine ⟨.slice none 0 0, w, ?_, Ext.refl _ _, .inl ⟨rfl, rfl⟩⟩
   have hf2' : (Builtin.firstCells k 0 (.slice a2 0 c2)).run P w = .ok #[] w := by simpa using hf2
   simp [Builtin.append_, run_underlying hT.under, XB i1, i2, Builtin.lenOf, hf2']
  ·obtain ⟨v', w', sp, h2, h3, h4⟩ := QP hT hz (Sl.nil Non w k) hx (by have := List.length_pos_iff.2 h0; simpa using this) hb h63 ty
   exact ⟨v', w', h2, h3.of_non, .inr ⟨_, sp, hB, h4⟩⟩
 ·obtain ⟨c, hv, hc1, hc2, hc3⟩ := h.val
  by_cases hroom : rows.length + rows2.length ≤ c
  ·obtain ⟨v', w', sp, h2, h3, h4⟩ := J7 hT h hx h1 ⟨_, c, hv, hroom⟩ ty
   exact ⟨v', w', h2, h3.mono (fun i e => by rw [e]; exact hBb), .inr ⟨b, sp, hBb, h4⟩⟩
  ·have hsl := h.sl (M := Non) id
   subst hv
   obtain ⟨v', w', sp, h2, h3, h4⟩ := QP hT hz hsl hx (by omega) hb h63 ty
   exact ⟨v', w', h2, h3.of_non, .inr ⟨_, sp, hB, h4⟩⟩
theorem foldl_set (off : Nat) : ∀ (vs : List Value) (j : Nat) (cs : Array Value), off + j + vs.length ≤ cs.size →
  ((vs.zipIdx j).foldl (fun cs (p : Value × Nat) => cs.setIfInBounds (off + p.2) p.1) cs).toList = XZ cs.toList (off + j) vs
 | [], j, cs, _ => by simp [XZ]
 | v :: vs, j, cs, h => by
  simp only [List.length_cons] at h
  rw [List.zipIdx_cons, List.foldl_cons, foldl_set off vs (j + 1) _ (by simp; omega)]
  rw [Array.toList_setIfInBounds, show off + (j + 1) = off + j + 1 from by omega, patch_step (by simp; omega)]
theorem fill_spec (k : Nat) : ∀ (parts : List (Nat × Value)) (cs : Array Value), (∀ p ∈ parts, p.2.cells.size = k ∧ p.1 * k + k ≤ cs.size) →
  ∃ cs', Instr.fill (fun i => some (i * k, k)) cs parts = some cs' ∧ cs'.toList = parts.foldl (fun acc p => XZ acc (p.1 * k) p.2.cells.toList) cs.toList
 | [], cs, _ => ⟨cs, rfl, rfl⟩
 | (i, v) :: parts, cs, h => by
  obtain ⟨h1, h2⟩ := h (i, v) (by simp)
  simp only at h1 h2
  have hf := foldl_set (i * k) v.cells.toList 0 cs (by simp; omega)
  have e1 : (v.cells.zipIdx.foldl (fun cs (x : Value × Nat) => cs.setIfInBounds (i * k + x.2) x.1) cs).toList = XZ cs.toList (i * k) v.cells.toList := by
   rw [← Array.foldl_toList, Array.toList_zipIdx]; simpa using hf
  have hlen : (v.cells.zipIdx.foldl (fun cs (x : Value × Nat) => cs.setIfInBounds (i * k + x.2) x.1) cs).size = cs.size := by
   rw [← Array.length_toList, e1, patch_length (by simp; omega)]; simp
  obtain ⟨cs', h3, h4⟩ := fill_spec k parts _ (fun p hp => by rw [hlen]; exact h p (by simp [hp]))
  refine ⟨cs', ?_, ?_⟩
  ·simp only [Instr.fill]
   rw [if_neg (by simp; omega)]
   exact h3
  ·rw [h4, e1]; rfl
theorem wl_lit {t e : TypeId} {k bytes : Nat} {z : List Value} (hT : XA P t e k bytes z) (hz : z.length = k) {len d : Nat} {parts : List (Nat × Operand)} {vals : List (Nat × Value)} {rows : List (List Value)} (hk : len * k ≤ 16777216) (hlen : len ≤ 16777216)
  (hv : parts.map (fun p => (p.1, ev σ p.2)) = vals) (hl : rows.length = len) (he : ∀ r ∈ rows, r.length = k) (hp : ∀ p ∈ vals, p.2.cells.size = k ∧ p.1 * k + k ≤ len * k)
  (hr : vals.foldl (fun acc p => XZ acc (p.1 * k) p.2.cells.toList) (List.replicate len z).flatten = rows.flatten)
  (kk : ∀ v w' b, w.heap.size ≤ b → Ext Non w w' → Ow w' v b k rows [] → wl P ops rest K (upd σ d v) w') : wl P ops (⟨some d, .buildSlice t len parts.toArray, ty, pos, af, none⟩ :: rest) K σ w := by
 obtain ⟨inf, v0, i1, i2, i3, i4, i5⟩ := hT.inf
 have hzs : v0.cells.size = k := by rw [← hz, ← i5]; simp
 obtain ⟨zr, hzr0, hzr1, hzt⟩ : ∃ zr : Array Value, (len * k = 0 → zr = #[]) ∧ (¬ len * k = 0 → zr = v0.cells) ∧ ((Array.range (len * k)).map (zr[· % zr.size]!)).toList = (List.replicate len z).flatten := by
  by_cases h0 : len * k = 0
  ·refine ⟨#[], fun _ => rfl, fun h => absurd h0 h, ?_⟩
   have : (List.replicate len z).flatten.length = 0 := by simp [hz, h0]
   rw [List.length_eq_zero_iff.1 this, h0]; simp
  ·refine ⟨v0.cells, fun h => absurd h h0, fun _ => rfl, ?_⟩
   apply List.ext_getElem
   ·simp [hz]
   ·intro i h1 h2
    simp only [List.length_flatten, List.map_replicate, hz, List.sum_replicate_nat] at h2
    have hk0 : 0 < k := Nat.pos_of_ne_zero (fun e => h0 (by simp [e]))
    have hik : i / k < len := Nat.div_lt_of_lt_mul (by rw [Nat.mul_comm]; exact h2)
    have e1 : (List.replicate len z).flatten[i / k * k + i % k]? = ((List.replicate len z)[i / k]'(by simpa using hik))[i % k]? := flat_at (k := k) (fun r hr => by rw [List.eq_of_mem_replicate hr, hz]) (i / k) (i % k) (by simpa using hik) (Nat.mod_lt _ hk0)
    rw [Nat.div_add_mod' i k] at e1
    have e2 : (List.replicate len z).flatten[i]? = some (z[i % k]'(by rw [hz]; exact Nat.mod_lt _ hk0)) := by
     rw [e1]; simp
    have e3 := List.getElem?_eq_some_iff.1 e2
    obtain ⟨_, e3⟩ := e3
    rw [e3]
    have hlt : i % v0.cells.size < v0.cells.size := Nat.mod_lt _ (by omega)
    simp only [Array.getElem_toList, Array.getElem_map, Array.getElem_range]
    have e5 : v0.cells[i % v0.cells.size]! = v0.cells[i % v0.cells.size]'hlt := by simp [hlt]
    rw [e5]
    subst i5
    simp [hzs]
 have hsz : ((Array.range (len * k)).map (zr[· % zr.size]!)).size = len * k := by simp
 obtain ⟨cs', hf1, hf2⟩ := fill_spec k vals ((Array.range (len * k)).map (zr[· % zr.size]!)) (fun p hp' => by rw [hsz]; exact hp p hp')
 rw [hzt, hr] at hf2
 refine QR (w' := w.alloc (.cells cs' e)) (v := .slice (some ⟨w.heap.size, 0, none⟩) len len) ?_ (kk _ _ _ (Nat.le_refl _) (Ext.alloc _ _) ⟨⟨len, by rw [hl], by omega, ?_, by simp [hl]⟩, ?_, he⟩)
 ·show (execOp (ev σ) _).run P w = _
  have hparts : (parts.toArray.map fun (x : Nat × Operand) => (x.1, ev σ x.2)) = vals.toArray := by rw [← hv]; simp
  have hng : ¬ (len * k > 2 ^ 24) := by omega
  simp only [execOp, Instr.buildSlice, hparts, Sem.run_bind, run_underlying hT.under, Result.andThen_ok, XB i1, i2, if_neg hng]
  by_cases h0 : len * k = 0
  ·have := hzr0 h0; subst this
   rw [if_pos h0]
   simp only [Sem.run_bind, Sem.run_pure, Result.andThen_ok, hf1]
   simp [newRow]
  ·have := hzr1 h0; subst this
   rw [if_neg h0]
   simp [zeroValue, typeInfo, i1, i4, hf1, newRow]
 ·simp only [big]; omega
 ·rw [List.append_nil, ← hf2]; exact JD _ _ _
end
end Go.Proofs.YtjklgohpminefaaGreatDoorC
