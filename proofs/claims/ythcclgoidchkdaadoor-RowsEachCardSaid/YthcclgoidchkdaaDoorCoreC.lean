/- A region that draws its order, in the calculus: an operation that yields one value in each world of a class may be taken first; each rule holds of whatever program. -/
import Derived.Test.YthcclgoidchkdaaDoorCoreB
set_option linter.unusedVariables false
set_option linter.unusedSimpArgs false
namespace Go.Proofs.YthcclgoidchkdaaDoorC
open Go.RowKit
variable {ro : Option Nat} {P : Program} {n : Nat} {Q : Post} {σ : Env} {D : List Deferred} {w : World} {S : World → Prop} {K : Ops}

/-- Whatever order is picked from here on; S holds behind each operation. -/
def wd (P : Program) (ops : List Oper) (S : World → Prop) (K : Ops) : Nat → Array Bool → Env → World → Prop
  | 0, listed, σ, w => Region.ready .any ops.toArray listed = [] ∧ K σ w
  | f + 1, listed, σ, w => (Region.ready .any ops.toArray listed = [] → K σ w) ∧
    ∀ i ∈ Region.ready .any ops.toArray listed, ∀ o, ops[i]? = some o → step1 P ops o σ w (fun σ' w' => S w' ∧ wd P ops S K f (listed.setIfInBounds i true) σ' w')
theorem wd_sound {ops : List Oper} (hops : okOps n ops = true) (hnd : noDefer ops = true) : ∀ (f : Nat) (listed : Array Bool) (σ : Env) (a : Act) (w : World), Sim n a σ → wd P ops S K f listed σ w →
    wpAnyIn (fz ro) 0 P .any ops.toArray (fun e a' w' => e = .normal ∧ ∃ σ', Sim n a' σ' ∧ a'.defers = a.defers ∧ K σ' w') f listed a w
  | 0, listed, σ, a, w, hs, h => ⟨h.1, rfl, σ, hs, rfl, h.2⟩
  | f + 1, listed, σ, a, w, hs, h => by
    refine ⟨fun h0 => ⟨rfl, σ, hs, rfl, h.1 h0⟩, fun i hi => ?_⟩
    unfold wpOpIn
    cases ho : ops.toArray[i]? with
    | none => obtain ⟨_, o, ho', _⟩ := mem_ready.1 hi; rw [ho] at ho'; cases ho'
    | some o =>
      have ho' : ops[i]? = some o := by simpa using ho
      have hmem := List.mem_of_getElem? ho'
      have hdst : ∀ d, o.dst = some d → d < n := fun d e => by
        have := List.all_eq_true.1 hops o hmem; rw [e] at this; simpa using this
      have hd : ∀ v, (a.put o.dst v).defers = a.defers := fun v => by cases o.dst <;> rfl
      have h1 := h.2 i hi o ho'
      simp only
      rw [wanted_sim hs hops]
      unfold step1 at h1
      by_cases hw : wantedBy ops σ o = true
      · rw [if_pos hw] at h1 ⊢
        refine op1_sound hs hdst (List.all_eq_true.1 hnd o hmem) (fun a' σ' w' hs' hd' hk => ?_) h1
        have := wd_sound hops hnd f _ σ' a' w' hs' hk.2
        rw [hd'] at this; exact this
      · rw [if_neg hw] at h1 ⊢
        refine ⟨fun f _ => fz_fn ro f, ?_⟩
        have := wd_sound hops hnd f _ _ _ w (hs.put o.dst undef hdst) h1.2
        rw [hd] at this; exact this
theorem W_draw {id : Nat} {l : List Oper} (S : World → Prop) (hm : P.follows .mixedOrders = true)
    (h : wd P l S (fun σ' w' => Q .normal σ' D w') l.length (Array.replicate l.length false) σ { w with drawn := w.drawn + 1 }) : W ro P n (.region id l.toArray true) Q σ D w := by
  intro hk a hs hd
  simp only [okc, Bool.and_eq_true] at hk
  refine wpIn_mono (wpIn_region_any hm (by simpa using wd_sound (ro := ro) hk.1 hk.2 _ _ _ a _ hs h)) ?_
  rintro e a' w' ⟨rfl, σ', hs', hd', hk'⟩
  exact ⟨σ', hs', by rw [hd', hd]; exact hk'⟩

/-- In whatever world of S the operation yields v (or is passed over). -/
def Yd (P : Program) (ops : List Oper) (S : World → Prop) (o : Oper) (v : Value) (σ : Env) : Prop :=
  (wantedBy ops σ o = true ∧ ∀ w, S w → Rn P σ w o v) ∨ (wantedBy ops σ o = false ∧ v = undef)
theorem ev_put {dst : Option Nat} {v : Value} {x : Operand} (h : ∀ d, dst = some d → x ≠ .tmp d) : ev (put σ dst v) x = ev σ x := by
  cases dst with
  | none => rfl
  | some d =>
    cases x with
    | tmp t => exact upd_ne _ _ _ _ (fun e => h d rfl (by rw [e]))
    | _ => rfl
theorem exec_put {ops : List Oper} (o : Oper) (hs : ∀ cs b, o.op ≠ .select cs b) (dst : Option Nat) (v : Value) (h : ∀ d, dst = some d → d ∉ o.looksAt ops.toArray) :
    execOp (ev (put σ dst v)) o = execOp (ev σ) o :=
  execOp_congr o hs fun x hx => ev_put fun d hd hxd => h d hd (by
    subst hxd
    exact List.mem_append_left _ (List.mem_filterMap.2 ⟨.tmp d, by simpa using hx, rfl⟩))
theorem wantedBy_put {ops : List Oper} (o : Oper) (dst : Option Nat) (v : Value) (h : ∀ d, dst = some d → d ∉ o.looksAt ops.toArray) : wantedBy ops (put σ dst v) o = wantedBy ops σ o := by
  unfold wantedBy
  cases hg : o.guard with
  | none => rfl
  | some gw =>
    obtain ⟨g, want⟩ := gw
    simp only
    cases ht : (ops[g]?).bind (·.dst) with
    | none => rfl
    | some t =>
      have e : put σ dst v t = σ t := by
        cases dst with
        | none => rfl
        | some d =>
          refine upd_ne _ _ _ _ fun e => h d rfl ?_
          subst e
          have ht' : (ops.toArray[g]?).bind (·.dst) = some t := by simpa using ht
          simp only [Oper.looksAt, hg, ht']; simp
      simp only [e]
theorem put_comm {x y : Option Nat} (v u : Value) (h : ∀ d, x = some d → y ≠ some d) : put (put σ x v) y u = put (put σ y u) x v := by
  cases x with
  | none => rfl
  | some d =>
    cases y with
    | none => rfl
    | some d' =>
      have hne : d ≠ d' := fun e => h d rfl (by rw [e])
      funext i
      show upd (upd σ d v) d' u i = upd (upd σ d' u) d v i
      by_cases e1 : i = d'
      · subst e1; rw [upd_eq, upd_ne _ _ _ _ (Ne.symm hne), upd_eq]
      · rw [upd_ne _ _ _ _ e1]
        by_cases e2 : i = d
        · subst e2; rw [upd_eq, upd_eq]
        · rw [upd_ne _ _ _ _ e2, upd_ne _ _ _ _ e2, upd_ne _ _ _ _ e1]
theorem op1_congr {o o' : Oper} {σ' : Env} (K K' : Ops) (he : execOp (ev σ') o = execOp (ev σ) o) (hK : ∀ v w, K (put σ' o.dst v) w → K' (put σ o.dst v) w) (h : op1 P o σ' w K) : op1 P o σ w K' := by
  unfold op1 at *
  rw [he] at h
  generalize (execOp (ev σ) o).run P w = r at *
  cases r with
  | ok x w' =>
    cases x
    case value v => exact hK _ _ h
    case skip => exact hK _ _ h
    case enter f args => exact Calls.mono h fun e w'' hx => by obtain ⟨v, h1, h2⟩ := hx; exact ⟨v, h1, hK _ _ h2⟩
    case round => exact RoundIn.mono h fun e w'' hx => by obtain ⟨v, h1, h2⟩ := hx; exact ⟨v, h1, hK _ _ h2⟩
    all_goals exact h.elim
  | halt x w' => exact h.elim
theorem Yd.keep {ops : List Oper} {oi oj : Oper} {v u : Value} (hsi : ∀ cs b, oi.op ≠ .select cs b) (h3 : ∀ d, oj.dst = some d → d ∉ oi.looksAt ops.toArray) (hy : Yd P ops S oi v σ) : Yd P ops S oi v (put σ oj.dst u) := by
  unfold Yd Rn at *
  rw [wantedBy_put oi oj.dst u h3, exec_put oi hsi oj.dst u h3]
  exact hy
theorem step1_swap {ops : List Oper} {oi oj : Oper} {v : Value} (hap : oi.apart ops.toArray oj = true) (hsi : ∀ cs b, oi.op ≠ .select cs b) (hsj : ∀ cs b, oj.op ≠ .select cs b)
    (hy : Yd P ops S oi v σ) (h : step1 P ops oj (put σ oi.dst v) w K) : step1 P ops oj σ w (fun σ' w' => Yd P ops S oi v σ' ∧ K (put σ' oi.dst v) w') := by
  obtain ⟨h1, h2, h3⟩ := Oper.apart_spec hap
  unfold step1 at *
  rw [wantedBy_put oj oi.dst v h1] at h
  have hc : ∀ u, put (put σ oi.dst v) oj.dst u = put (put σ oj.dst u) oi.dst v := fun u => put_comm v u h2
  split
  · rename_i hw
    rw [if_pos hw] at h
    exact op1_congr (o' := oj) _ _ (exec_put oj hsj oi.dst v h1) (fun u w' hk => ⟨hy.keep hsi h3, by rw [hc] at hk; exact hk⟩) h
  · rename_i hw
    rw [if_neg hw] at h
    exact ⟨hy.keep hsi h3, by rw [hc] at h; exact h⟩
theorem Yd.step {ops : List Oper} {o : Oper} {v : Value} (hy : Yd P ops S o v σ) (hS : S w) (h : K (put σ o.dst v) w) : step1 P ops o σ w K := by
  unfold step1
  rcases hy with ⟨hw, hv⟩ | ⟨hw, rfl⟩
  · rw [if_pos hw]; unfold op1; rw [show (execOp (ev σ) o).run P w = _ from hv w hS]; exact h
  · rw [if_neg (by rw [hw]; simp)]; exact h
theorem wd_first {ops : List Oper} {i : Nat} {oi : Oper} {v : Value} (hi : ops[i]? = some oi) (hsel : Region.noSelect ops.toArray = true) : ∀ (f : Nat) (listed : Array Bool) (σ : Env) (w : World),
    (∀ j oj, ops.toArray[j]? = some oj → j ≠ i → listed.getD j true = false → (∀ e ∈ oj.after, Region.binds .any e = true → e.on ≠ i) → oi.apart ops.toArray oj = true) →
    i ∈ Region.ready .any ops.toArray listed → Yd P ops S oi v σ → S w →
    wd P ops S K f (listed.setIfInBounds i true) (put σ oi.dst v) w → wd P ops S K (f + 1) listed σ w
  | 0, listed, σ, w, _, hr, hy, hS, H => by
    refine ⟨fun h => (by rw [h] at hr; cases hr), fun j hj o ho => ?_⟩
    by_cases hji : j = i
    · subst hji; rw [hi] at ho; cases ho; exact hy.step hS ⟨hS, H⟩
    · have := ready_mono hj hji
      rw [H.1] at this; cases this
  | f + 1, listed, σ, w, hfree, hr, hy, hS, H => by
    refine ⟨fun h => (by rw [h] at hr; cases hr), fun j hj oj hoj => ?_⟩
    by_cases hji : j = i
    · subst hji; rw [hi] at hoj; cases hoj; exact hy.step hS ⟨hS, H⟩
    · have hoj' : ops.toArray[j]? = some oj := by simpa using hoj
      have h1 := H.2 j (ready_mono hj hji) oj hoj
      obtain ⟨hjun, oj', hoj2, hall⟩ := mem_ready.1 hj
      rw [hoj'] at hoj2; cases hoj2
      have hnot : ∀ e ∈ oj.after, Region.binds .any e = true → e.on ≠ i := fun e he hb heq => by
        have h1 := hall e he hb
        have h0 := (mem_ready.1 hr).1
        rw [heq] at h1
        rcases Nat.lt_or_ge i listed.size with h' | h'
        · simp [h'] at h0 h1; rw [h0] at h1; cases h1
        · simp [Array.getElem?_eq_none h'] at h1
      have h2 := step1_swap (hfree j oj hoj' hji hjun hnot) (fun cs b => Region.noSelect_spec hsel i oi cs b (by simpa using hi)) (fun cs b => Region.noSelect_spec hsel j oj cs b hoj') hy h1
      have hfree' : ∀ k ok, ops.toArray[k]? = some ok → k ≠ i → (listed.setIfInBounds j true).getD k true = false →
          (∀ e ∈ ok.after, Region.binds .any e = true → e.on ≠ i) → oi.apart ops.toArray ok = true := fun k ok hk hki hun hno => by
        refine hfree k ok hk hki ?_ hno
        by_cases hjk : j = k
        · subst hjk; exact hjun
        · rw [getD_set_ne true hjk] at hun; exact hun
      refine step1_mono (fun σ' w' h3 => ⟨h3.2.1, wd_first hi hsel f (listed.setIfInBounds j true) σ' w' hfree' (ready_mono hr (Ne.symm hji)) h3.1 h3.2.1 ?_⟩) h2
      rw [Array.setIfInBounds_comm _ _ hji]
      exact h3.2.2
/-- Take number i first. 'side' is for the kernel to reckon. -/
theorem wd_take {ops : List Oper} {f : Nat} {listed : Array Bool} (i : Nat) (oi : Oper) (v : Value) (hi : ops[i]? = some oi)
    (side : (Region.noSelect ops.toArray && Region.free .any ops.toArray listed i && (Region.ready .any ops.toArray listed).contains i) = true)
    (hS : S w) (hy : Yd P ops S oi v σ) (h : wd P ops S K f (listed.setIfInBounds i true) (put σ oi.dst v) w) : wd P ops S K (f + 1) listed σ w := by
  simp only [Bool.and_eq_true] at side
  exact wd_first hi side.1.1 f listed σ w (Region.free_spec (by simpa using hi) side.1.2) (by simpa using side.2) hy hS h
/-- Number i is the only one that may come up. -/
theorem wd_only {ops : List Oper} {f : Nat} {listed : Array Bool} (i : Nat) (oi : Oper) (hi : ops[i]? = some oi) (side : (Region.ready .any ops.toArray listed == [i]) = true)
    (h : step1 P ops oi σ w (fun σ' w' => S w' ∧ wd P ops S K f (listed.setIfInBounds i true) σ' w')) : wd P ops S K (f + 1) listed σ w := by
  have e : Region.ready .any ops.toArray listed = [i] := by simpa using side
  refine ⟨fun h0 => (by rw [e] at h0; cases h0), fun j hj o ho => ?_⟩
  rw [e] at hj
  obtain rfl : j = i := by simpa using hj
  rw [hi] at ho; cases ho
  exact h
theorem wd_done {ops : List Oper} {listed : Array Bool} (side : (Region.ready .any ops.toArray listed == []) = true) (h : K σ w) : ∀ f, wd P ops S K f listed σ w
  | 0 => ⟨by simpa using side, h⟩
  | _ + 1 => ⟨fun _ => h, by rw [show Region.ready .any ops.toArray listed = [] by simpa using side]; simp⟩
end Go.Proofs.YthcclgoidchkdaaDoorC
