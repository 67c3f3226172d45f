/- The walk of code by temporaries as a function: rules for sequences, tests, blocks, loops, regions; each holds of whatever program. -/
import Derived.Test.YthcclgoidchkdaaDoorCoreA
import Derived.TacticsIn
set_option linter.unusedVariables false
set_option linter.unusedSimpArgs false
namespace Go.Proofs.YthcclgoidchkdaaDoorC
open Go.RowKit

/-- The fence that asks nothing, outside a round, or within loop l's. -/
def fz : Option Nat → Fence
  | none => Fence.wide
  | some l => Fence.wide.inRound l
theorem fz_fn (ro : Option Nat) (f : FuncId) : (fz ro).fn f := by cases ro <;> trivial
theorem fz_depth (ro : Option Nat) : (fz ro).depth = none := by cases ro <;> rfl
theorem fz_calls {ro : Option Nat} {n : Nat} {P : Program} {f : FuncId} {args : Array Value} {w : World} {R : Ending → World → Prop} : CallsIn (fz ro) n P f args w R ↔ Calls P f args w R := by
  cases ro
  · exact callsIn_wide
  · exact ⟨fun h => callsIn_wide.1 (CallsIn.outOfRound h), fun h => CallsIn.inRound _ (callsIn_wide.2 h)⟩

/-! ### every temporary that is written lies in the frame -/
def okOps (n : Nat) (ops : List Oper) : Bool := ops.all fun o => match o.dst with | some d => decide (d < n) | none => true
def noDefer (ops : List Oper) : Bool := ops.all fun o => match o.op with | .defer _ => false | _ => true
def okc (n : Nat) : Code → Bool
  | .region _ ops _ => okOps n ops.toList && noDefer ops.toList
  | .seq a b => okc n a && okc n b
  | .cond _ a b => okc n a && okc n b
  | .block _ b => okc n b
  | .loop b => okc n b
  | .scope b => okc n b
  | .rangeFunc _ ps a b => okc n a && okc n b && ps.toList.all (fun p => decide (p < n))
  | _ => true

abbrev Post := Exit → Env → List Deferred → World → Prop
/-- The code, walked from temporaries σ, deferred marks D, world w. -/
def W (ro : Option Nat) (P : Program) (n : Nat) (c : Code) (Q : Post) (σ : Env) (D : List Deferred) (w : World) : Prop :=
  okc n c = true → ∀ a, Sim n a σ → a.defers = D → c.wpIn (fz ro) 0 P (fun e a' w' => ∃ σ', Sim n a' σ' ∧ Q e σ' a'.defers w') a w

variable {ro : Option Nat} {P : Program} {n : Nat} {Q : Post} {σ : Env} {D : List Deferred} {w : World}
theorem W.mono {c : Code} {Q' : Post} (h : W ro P n c Q σ D w) (hq : ∀ e σ D w, Q e σ D w → Q' e σ D w) : W ro P n c Q' σ D w :=
  fun hk a hs hd => wpIn_mono (h hk a hs hd) fun e a' w' ⟨σ', h1, h2⟩ => ⟨σ', h1, hq _ _ _ _ h2⟩
def Then (K : Env → List Deferred → World → Prop) (Q : Post) : Post
  | .normal => K
  | e => Q e
theorem W_seq {x y : Code} (h : W ro P n x (Then (W ro P n y Q) Q) σ D w) : W ro P n (.seq x y) Q σ D w := by
  intro hk a hs hd
  simp only [okc, Bool.and_eq_true] at hk
  refine wpIn_seq (wpIn_mono (h hk.1 a hs hd) fun e a' w' ⟨σ', h1, h2⟩ => ?_)
  cases e with
  | normal => exact h2 hk.2 a' h1 rfl
  | _ => exact ⟨σ', h1, h2⟩
theorem W_skip (h : Q .normal σ D w) : W ro P n .skip Q σ D w := fun _ a hs hd => wpIn_skip ⟨σ, hs, hd ▸ h⟩
theorem W_ret (h : Q .ret σ D w) : W ro P n .ret Q σ D w := fun _ a hs hd => wpIn_ret ⟨σ, hs, hd ▸ h⟩
theorem W_exit {id : Nat} (h : Q (.exit id) σ D w) : W ro P n (.exit id) Q σ D w := fun _ a hs hd => wpIn_exit ⟨σ, hs, hd ▸ h⟩
theorem W_cond {c : Operand} {x y : Code} {t : Bool} (hc : ev σ c = .bool t) (ht : t = true → W ro P n x Q σ D w) (hf : t = false → W ro P n y Q σ D w) : W ro P n (.cond c x y) Q σ D w := by
  intro hk a hs hd
  simp only [okc, Bool.and_eq_true] at hk
  exact wpIn_cond_split (t := t) (by rw [hs.eval]; exact hc) (fun e => ht e hk.1 a hs hd) (fun e => hf e hk.2 a hs hd)
def InB (id : Nat) (Q : Post) : Post
  | .normal => Q .normal
  | .exit id' => if id' = id then Q .normal else Q (.exit id')
  | e => Q e
theorem W_block {id : Nat} {c : Code} (h : W ro P n c (InB id Q) σ D w) : W ro P n (.block id c) Q σ D w := by
  intro hk a hs hd
  refine wpIn_block (wpIn_mono (h hk a hs hd) fun e a' w' ⟨σ', h1, h2⟩ => ?_)
  cases e with
  | exit id' =>
    simp only [InB] at h2
    simp only [Exit.inBlock]
    split at h2 <;> rename_i hid <;> simp only [hid, if_true, if_false] <;> exact ⟨σ', h1, h2⟩
  | _ => exact ⟨σ', h1, h2⟩
/-- A loop: I at each round's head, μ lowered by each round. -/
theorem W_loop {c : Code} (I : Env → List Deferred → World → Prop) (μ : Env → World → Nat) (h0 : I σ D w)
    (hr : ∀ σ D w, I σ D w → W ro P n c (Then (fun σ' D' w' => I σ' D' w' ∧ μ σ' w' < μ σ w) Q) σ D w) : W ro P n (.loop c) Q σ D w := by
  intro hk a hs hd
  have hk' : okc n c = true := hk
  refine wpIn_loop (fun a w => ∃ σ, Sim n a σ ∧ I σ a.defers w) (fun a w => μ (fun i => a.tmps.getD i undef) w) ⟨σ, hs, hd ▸ h0⟩ ?_
  rintro a w ⟨σ, hs, hi⟩
  have e1 : (fun i => a.tmps.getD i undef) = σ := funext hs.agree
  refine wpIn_mono (hr σ _ w hi hk' a hs rfl) fun e a' w' ⟨σ', h1, h2⟩ => ?_
  have e2 : (fun i => a'.tmps.getD i undef) = σ' := funext h1.agree
  cases e with
  | normal => exact ⟨⟨σ', h1, h2.1⟩, by simp only [e1, e2]; exact h2.2⟩
  | _ => exact ⟨σ', h1, h2⟩

/-! ### operations -/
/-- The operation yields v and leaves the world alone. -/
def Rn (P : Program) (σ : Env) (w : World) (o : Oper) (v : Value) : Prop := (execOp (ev σ) o).run P w = .ok (.value v) w
/-- The operation yields v and leaves world w'. -/
def Rw (P : Program) (σ : Env) (w : World) (o : Oper) (v : Value) (w' : World) : Prop := (execOp (ev σ) o).run P w = .ok (.value v) w'
/-- It yields nothing, and leaves world w'. -/
def Rs (P : Program) (σ : Env) (w : World) (o : Oper) (w' : World) : Prop := (execOp (ev σ) o).run P w = .ok .skip w'
abbrev Ops := Env → World → Prop
/-- What one operation must achieve. -/
def op1 (P : Program) (o : Oper) (σ : Env) (w : World) (K : Ops) : Prop :=
  match (execOp (ev σ) o).run P w with
  | .ok (.value v) w' => K (put σ o.dst v) w'
  | .ok .skip w' => K (put σ o.dst undef) w'
  | .ok (.enter f args) w' => Calls P f args w' fun e w'' => ∃ v, e = .returned v ∧ K (put σ o.dst v) w''
  | .ok (.round l f tmps assign body) w' => RoundIn Fence.wide 0 P l f tmps assign body w' fun e w'' => ∃ v, e = .returned v ∧ K (put σ o.dst v) w''
  | _ => False
def wantedBy (ops : List Oper) (σ : Env) (o : Oper) : Bool :=
  match o.guard with
  | none => true
  | some (j, want) => match (ops[j]?).bind (·.dst) with
    | some d => (match σ d with | .bool b => b == want | _ => false)
    | none => false
def step1 (P : Program) (ops : List Oper) (o : Oper) (σ : Env) (w : World) (K : Ops) : Prop :=
  if wantedBy ops σ o then op1 P o σ w K else K (put σ o.dst undef) w
/-- Operations one behind the other. -/
def wl (P : Program) (ops : List Oper) : List Oper → Ops → Env → World → Prop
  | [], K, σ, w => K σ w
  | o :: rest, K, σ, w => step1 P ops o σ w (wl P ops rest K)

theorem op1_mono {o : Oper} {K K' : Ops} (h : ∀ σ w, K σ w → K' σ w) (hh : op1 P o σ w K) : op1 P o σ w K' := by
  unfold op1 at *
  generalize (execOp (ev σ) o).run P w = r at *
  cases r with
  | ok x w' =>
    cases x
    case value v => exact h _ _ hh
    case skip => exact h _ _ hh
    case enter f args => exact Calls.mono hh fun e w'' hx => by obtain ⟨v, h1, h2⟩ := hx; exact ⟨v, h1, h _ _ h2⟩
    case round => exact RoundIn.mono hh fun e w'' hx => by obtain ⟨v, h1, h2⟩ := hx; exact ⟨v, h1, h _ _ h2⟩
    all_goals exact hh.elim
  | halt x w' => exact hh.elim
theorem step1_mono {ops : List Oper} {o : Oper} {K K' : Ops} (h : ∀ σ w, K σ w → K' σ w) (hh : step1 P ops o σ w K) : step1 P ops o σ w K' := by
  unfold step1 at *; split at hh
  · rename_i hw; simp only [hw, if_true]; exact op1_mono h hh
  · rename_i hw; simp only [hw, if_false]; exact h _ _ hh

theorem semAt_plain (ro : Option Nat) (ρ : Operand → Value) (o : Oper) (h : (match o.op with | .defer _ => false | _ => true) = true) : o.semAt ro ρ = execOp ρ o := by
  cases ro with
  | none => rfl
  | some l => exact Oper.semAt_some l ρ o fun c hc => by rw [hc] at h; cases h

theorem op1_sound {o : Oper} {a : Act} {K : Ops} {Q' : Exit → Act → World → Prop} {K' : Act → World → Prop} (hs : Sim n a σ) (hdst : ∀ d, o.dst = some d → d < n)
    (hnd : (match o.op with | .defer _ => false | _ => true) = true) (hK : ∀ a' σ' w', Sim n a' σ' → a'.defers = a.defers → K σ' w' → K' a' w')
    (h : op1 P o σ w K) : o.wpIn (fz ro) 0 P a w K' Q' := by
  refine ⟨fun f _ => fz_fn ro f, ?_⟩
  rw [semAt_plain _ _ _ hnd, hs.eval]
  unfold op1 at h
  have hd : ∀ v, (a.put o.dst v).defers = a.defers := fun v => by cases o.dst <;> rfl
  generalize (execOp (ev σ) o).run P w = r at *
  cases r with
  | ok x w' =>
    cases x
    case value v => exact hK _ _ _ (hs.put _ _ hdst) (hd _) h
    case skip => exact hK _ _ _ (hs.put _ _ hdst) (hd _) h
    case enter f args =>
      refine ⟨fun hx => (by rw [fz_depth] at hx; cases hx), fz_calls.2 (Calls.mono h ?_)⟩
      intro e w'' hx
      obtain ⟨v, rfl, hk⟩ := hx
      exact hK _ _ _ (hs.put _ _ hdst) (hd _) hk
    case round l f tmps assign body =>
      refine ⟨fun hx => (by rw [fz_depth] at hx; cases hx), ?_⟩
      have h' : RoundIn (fz ro) 0 P l f tmps assign body w' (fun e w'' => ∃ v, e = .returned v ∧ K (YthcclgoidchkdaaDoorC.put σ o.dst v) w'') := by cases ro <;> exact h
      refine RoundIn.mono h' ?_
      intro e w'' hx
      obtain ⟨v, rfl, hk⟩ := hx
      exact hK _ _ _ (hs.put _ _ hdst) (hd _) hk
    all_goals exact h.elim
  | halt x w' => exact h.elim

theorem wanted_sim {a : Act} {ops : List Oper} {o : Oper} (hs : Sim n a σ) (hops : okOps n ops = true) : Region.wanted o (yielded ops.toArray a.tmps) = wantedBy ops σ o := by
  unfold Region.wanted wantedBy
  cases hg : o.guard with
  | none => rfl
  | some g =>
    obtain ⟨j, want⟩ := g
    simp only [yielded]
    cases hj : ops[j]? with
    | none => simp [hj]
    | some oj =>
      cases hd : oj.dst with
      | none => simp [hj, hd]
      | some d =>
        have hlt : d < n := by
          unfold okOps at hops
          rw [List.all_eq_true] at hops
          have := hops oj (List.mem_of_getElem? hj)
          rw [hd] at this; simpa using this
        have h2 := hs.agree d
        have h3 : a.tmps[d]? = some (σ d) := by
          rw [Array.getD_eq_getD_getElem?] at h2
          rw [Array.getElem?_eq_getElem (by rw [hs.size]; exact hlt)] at h2 ⊢
          exact congrArg some h2
        simp only [List.getElem?_toArray, hj, Option.bind_some, hd, h3]
        cases σ d <;> simp <;> rfl
theorem wl_sound {ops : List Oper} (hops : okOps n ops = true) : ∀ (l : List Oper) (K : Ops) (σ : Env) (a : Act) (w : World), okOps n l = true → noDefer l = true → Sim n a σ → wl P ops l K σ w →
    wpListIn (fz ro) 0 P ops.toArray (fun e a' w' => e = .normal ∧ ∃ σ', Sim n a' σ' ∧ a'.defers = a.defers ∧ K σ' w') l a w
  | [], K, σ, a, w, _, _, hs, h => ⟨rfl, σ, hs, rfl, h⟩
  | o :: rest, K, σ, a, w, hl, hn, hs, h => by
    simp only [okOps, noDefer, List.all_cons, Bool.and_eq_true] at hl hn
    have hdst : ∀ d, o.dst = some d → d < n := fun d e => by have := hl.1; rw [e] at this; simpa using this
    have ih := fun (σ' : Env) (a' : Act) (w' : World) (hs' : Sim n a' σ') => wl_sound hops rest K σ' a' w' hl.2 hn.2 hs'
    have hd : ∀ v, (a.put o.dst v).defers = a.defers := fun v => by cases o.dst <;> rfl
    unfold wpListIn
    rw [wanted_sim hs hops]
    unfold wl step1 at h
    by_cases hw : wantedBy ops σ o = true
    · rw [if_pos hw] at h ⊢
      refine op1_sound hs hdst hn.1 (fun a' σ' w' hs' hd' hk => ?_) h
      have := ih σ' a' w' hs' hk
      rw [hd'] at this; exact this
    · rw [if_neg hw] at h ⊢
      refine ⟨fun f _ => fz_fn ro f, ?_⟩
      have := ih _ _ w (hs.put o.dst undef hdst) h
      rw [hd] at this; exact this
theorem W_region {id : Nat} {l : List Oper} (h : wl P l l (fun σ' w' => Q .normal σ' D w') σ w) : W ro P n (.region id l.toArray false) Q σ D w := by
  intro hk a hs hd
  simp only [okc, Bool.and_eq_true] at hk
  refine wpIn_mono (wpIn_region_lit (wl_sound hk.1 l _ σ a w hk.1 hk.2 hs h)) ?_
  rintro e a' w' ⟨rfl, σ', hs', hd', hk'⟩
  exact ⟨σ', hs', by rw [hd', hd]; exact hk'⟩
end Go.Proofs.YthcclgoidchkdaaDoorC
