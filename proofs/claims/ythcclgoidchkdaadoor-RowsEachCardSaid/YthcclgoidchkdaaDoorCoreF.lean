/- A function's contract out of the walk of its body; each rule holds of whatever program. -/
import Derived.Test.YthcclgoidchkdaaDoorCoreE
set_option linter.unusedVariables false
set_option linter.unusedSimpArgs false
namespace Go.Proofs.YthcclgoidchkdaaDoorC
open Go.RowKit
variable {ro : Option Nat} {P : Program} {n : Nat} {Q : Post} {σ : Env} {D : List Deferred} {w : World}

/-- The temporaries at a call's begin. -/
def env0 (args : List Value) : Env := fun i => args.getD i undef
/-- A result variable's value. -/
def res1 (P : Program) (σ : Env) (w : World) : ResultVar → Value → Prop
  | .tmp t, v => σ t = v
  | .cell a t, v => ∃ ad, σ a = .pointer (some ad) ∧ (loadVar t ad).run P w = .ok v w
theorem res1_tmp {t : Nat} {v : Value} (h : σ t = v) : res1 P σ w (.tmp t) v := h
theorem res1_cell {a : Nat} {t : TypeId} {b : Nat} {v : Value} (hT : plainT P t) (ha : σ a = .pointer (some ⟨b, 0, none⟩)) (hb : IsBox w b [v]) : res1 P σ w (.cell a t) v :=
  ⟨_, ha, by simp [loadVar, hT.agg, hb.cell (i := 0) rfl]⟩
theorem res1_box {a : Nat} {t : TypeId} {b k : Nat} {vs : List Value} (hT : structT P t k) (ha : σ a = .pointer (some ⟨b, 0, none⟩)) (hb : IsBox w b vs) (hk : vs.length = k) : res1 P σ w (.cell a t) (.agg vs.toArray) := by
  refine ⟨_, ha, ?_⟩
  subst hk
  have h1 := run_loadCells (P := P) (w := w) ⟨b, 0, none⟩ vs 0 #[] (fun j hj => by
    rw [add_at, Nat.zero_add, Nat.zero_add]
    have h1 : vs[j]? = some vs[j] := List.getElem?_eq_getElem (by omega)
    rw [hb.cell h1, h1])
  simp [loadVar, hT.agg, run_size hT.2, loadCells, h1]
def resR (P : Program) (σ : Env) (w : World) : List ResultVar → Value → Prop
  | [], v => v = .tuple #[]
  | [r], v => res1 P σ w r v
  | [r, s], v => ∃ a b, v = .tuple #[a, b] ∧ res1 P σ w r a ∧ res1 P σ w s b
  | [r, s, t], v => ∃ a b c, v = .tuple #[a, b, c] ∧ res1 P σ w r a ∧ res1 P σ w s b ∧ res1 P σ w t c
  | _, _ => False
theorem resR1 {r : ResultVar} {v : Value} (h : res1 P σ w r v) : resR P σ w [r] v := h
theorem resR2 {r s : ResultVar} {v u : Value} (h : res1 P σ w r v) (k : res1 P σ w s u) : resR P σ w [r, s] (.tuple #[v, u]) := ⟨_, _, rfl, h, k⟩
def resS (a : Act) : ResultVar → Sem Value
  | .tmp t => pure (a.tmps.getD t undef)
  | .cell ad t => do loadVar t (← asAddr (a.tmps.getD ad undef))
theorem run_resS {a : Act} {r : ResultVar} {v : Value} (hs : Sim n a σ) (h : res1 P σ w r v) : (resS a r).run P w = .ok v w := by
  cases r with
  | tmp t => rw [resS, hs.agree]; simp; exact h
  | cell ad t =>
    obtain ⟨addr, h1, h2⟩ := h
    rw [resS, hs.agree, h1]; simp [asAddr, h2]
theorem run_results {fn : Func} {a : Act} {v : Value} (hs : Sim n a σ) (h : resR P σ w fn.results.toList v) : (results fn a.tmps).run P w = .ok v w := by
  have e : results fn a.tmps = (do let vs ← fn.results.mapM (resS a); pure (if h : vs.size = 1 then vs[0] else .tuple vs)) := by
    unfold results
    congr 2
  rw [e]
  obtain ⟨rs, hr⟩ : ∃ rs, fn.results = List.toArray rs := ⟨fn.results.toList, by simp⟩
  rw [hr] at h ⊢
  simp only [List.toList_toArray] at h
  match rs, h with
  | [], h => simp only [resR] at h; subst h; simp
  | [r], h => simp [run_resS hs h]
  | [r, s], h =>
    obtain ⟨x, y, rfl, h1, h2⟩ := h
    simp [run_resS hs h1, run_resS hs h2]
  | [r, s, t], h =>
    obtain ⟨x, y, z, rfl, h1, h2, h3⟩ := h
    simp [run_resS hs h1, run_resS hs h2, run_resS hs h3]
  | _ :: _ :: _ :: _ :: _, h => exact h.elim
/-- What is asked where a function ends: the marks of its loops over functions are taken off, its results are read. -/
def Leave (P : Program) (rs : List ResultVar) (R : Value → World → Prop) (σ : Env) : List Deferred → World → Prop
  | [], w => ∃ v, resR P σ w rs v ∧ R v w
  | d :: ds, w => ∃ r, d.target = .collected r ∧ w.heap[r]? = some (.deferred (some [])) ∧ Leave P rs R σ ds (w.putObj r (.deferred none))
theorem leave_sound {fn : Func} {a : Act} {R : Value → World → Prop} {R' : Ending → World → Prop} (hs : Sim n a σ) (hR : ∀ v w, R v w → R' (.returned v) w) : ∀ (ds : List Deferred) (w : World), Leave P fn.results.toList R σ ds w →
    LeavesInM Fence.wide 0 P fn a.tmps R' ds .returning w
  | [], w, h => by
    obtain ⟨v, h1, h2⟩ := h
    exact ⟨v, run_results hs h1, hR _ _ h2⟩
  | d :: ds, w, h => by
    obtain ⟨r, h1, h2, h3⟩ := h
    exact ⟨by simp, .inl ⟨r, _, h1, run_takeDeferred h2, leave_sound hs hR ds _ h3⟩⟩
def RetQ (P : Program) (rs : List ResultVar) (R : Value → World → Prop) : Post
  | .normal, σ, D, w | .ret, σ, D, w => Leave P rs R σ D w
  | _, _, _, _ => False
theorem sim0 {n : Nat} (args : List Value) (h : args.length ≤ n) : Sim n { tmps := args.toArray ++ Array.replicate (n - args.length) undef, defers := [] } (env0 args) := by
  refine ⟨by simp; omega, fun i => ?_⟩
  simp only [Array.getD_eq_getD_getElem?, env0, List.getD_eq_getElem?_getD]
  by_cases h1 : i < args.length
  · simp [Array.getElem?_append, h1]
  · by_cases h2 : i < n
    · rw [List.getElem?_eq_none (by omega), Array.getElem?_append_right (by simp; omega)]
      have h3 : i - args.length < n - args.length := by omega
      simp [Array.getElem?_replicate, h3]
    · rw [List.getElem?_eq_none (by omega), Array.getElem?_eq_none (by simp; omega)]
/-- **A function's contract out of its body's walk.** -/
theorem calls_of_W {f : FuncId} {fn : Func} {c : Code} {args : List Value} {R : Value → World → Prop} (hf : P.funcs[f]? = some fn) (hb : fn.body = some c) (hk : okc fn.ntmps c = true) (hl' : Nat.ble args.length fn.ntmps = true)
    (h : W none P fn.ntmps c (RetQ P fn.results.toList R) (env0 args) [] w) : Calls P f args.toArray w fun e w' => ∃ v, e = .returned v ∧ R v w' := by
  have hl : args.length ≤ fn.ntmps := Nat.le_of_ble_eq_true hl'
  have key : CallsIn Fence.wide 0 P f args.toArray w (fun e w' => ∃ v, e = .returned v ∧ R v w') := by
    refine callsIn_of_wp_marks hf hb trivial ?_ rfl
    have := h hk _ (sim0 (n := fn.ntmps) args hl) rfl
    simp only [List.size_toArray] at *
    refine wpIn_mono this ?_
    rintro e a' w' ⟨σ', hs, hq⟩
    cases e with
    | normal => exact leave_sound hs (fun v w h => ⟨v, rfl, h⟩) _ _ hq
    | ret => exact leave_sound hs (fun v w h => ⟨v, rfl, h⟩) _ _ hq
    | _ => exact hq.elim
  exact callsIn_wide.1 key
theorem fn_of_W {f : FuncId} {fn : Func} {c : Code} {args : List Value} {R : Value → World → Prop} (hf : P.funcs[f]? = some fn) (hb : fn.body = some c) (hk : okc fn.ntmps c = true) (hl' : Nat.ble args.length fn.ntmps = true)
    (h : W none P fn.ntmps c (RetQ P fn.results.toList (fun v w' => Ext Non w w' ∧ R v w')) (env0 args) [] w) : Fn P f args.toArray w R :=
  calls_of_W hf hb hk hl' h
end Go.Proofs.YthcclgoidchkdaaDoorC
