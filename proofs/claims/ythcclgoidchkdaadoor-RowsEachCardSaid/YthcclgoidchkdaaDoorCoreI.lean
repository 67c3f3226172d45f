/- Loops by what stands in the temporaries that live on, in the calculus. -/
import Derived.Test.YthcclgoidchkdaaDoorCoreH
set_option linter.unusedVariables false
set_option linter.unusedSimpArgs false
namespace Go.Proofs.YthcclgoidchkdaaDoorC
open Go.RowKit
variable {ro : Option Nat} {P : Program} {n : Nat} {Q : Post} {σ : Env} {D : List Deferred} {w : World}

/-- These temporaries hold these values. -/
def Holds : List Nat → List Value → Env → Prop
  | d :: ds, v :: vs, σ => σ d = v ∧ Holds ds vs σ
  | _, _, _ => True
theorem upd_self {σ : Env} {d : Nat} {v : Value} (h : σ d = v) : upd σ d v = σ := by
  funext i
  by_cases e : i = d
  · subst e; rw [upd_eq, h]
  · rw [upd_ne _ _ _ _ e]
theorem updN_self : ∀ (ds : List Nat) (vs : List Value) (σ : Env), Holds ds vs σ → updN σ ds vs = σ
  | [], _, _, _ => rfl
  | _ :: _, [], _, _ => rfl
  | d :: ds, v :: vs, σ, h => by
    unfold updN
    rw [upd_self h.1]
    exact updN_self ds vs σ h.2
theorem least_ex (p : Nat → Prop) (k : Nat) (h : p k) : ∃ m, p m ∧ ∀ j, p j → m ≤ j := by
  induction k using Nat.strongRecOn with
  | _ k ih =>
    by_cases h2 : ∃ j, j < k ∧ p j
    · obtain ⟨j, h3, h4⟩ := h2; exact ih j h3 h4
    · exact ⟨k, h, fun j hj => Nat.le_of_not_lt fun h3 => h2 ⟨j, h3, hj⟩⟩
open Classical in
noncomputable def least (p : Nat → Prop) : Nat := if h : ∃ m, p m ∧ ∀ j, p j → m ≤ j then Classical.choose h else 0
theorem least_spec {p : Nat → Prop} {k : Nat} (h : p k) : p (least p) ∧ least p ≤ k := by
  have h1 := least_ex p k h
  unfold least
  rw [dif_pos h1]
  have := Classical.choose_spec h1
  exact ⟨this.1, this.2 k h⟩
/-- A loop: s is what it stands at; f s stands in the temporaries ls; I s holds of the world; μ is lowered by each round. -/
theorem W_loopS {S : Type} {c : Code} (ls : List Nat) (f : S → List Value) (I : S → World → Prop) (μ : S → Nat) (s0 : S) (h0 : Holds ls (f s0) σ) (hi : I s0 w)
    (hr : ∀ τ s A, I s A → W ro P n c (Then (fun σ' D' A' => D' = D ∧ ∃ s', Holds ls (f s') σ' ∧ I s' A' ∧ μ s' < μ s) Q) (updN τ ls (f s)) D A) : W ro P n (.loop c) Q σ D w := by
  let R : Env → World → Nat → Prop := fun σ w k => ∃ s, Holds ls (f s) σ ∧ I s w ∧ μ s = k
  refine W_loop (fun σ' D' w' => D' = D ∧ ∃ k, R σ' w' k) (fun σ' w' => least (R σ' w')) ⟨rfl, _, s0, h0, hi, rfl⟩ ?_
  rintro σ1 D1 w1 ⟨rfl, k, hk⟩
  obtain ⟨⟨s, hs1, hs2, hs3⟩, _⟩ := least_spec hk
  have := hr σ1 s w1 hs2
  rw [updN_self _ _ _ hs1] at this
  refine this.mono ?_
  intro e σ2 D2 w2 hq
  cases e with
  | normal =>
    obtain ⟨hD, s', h1, h2, h3⟩ := hq
    have hk2 : R σ2 w2 (μ s') := ⟨s', h1, h2, rfl⟩
    have := (least_spec hk2).2
    exact ⟨⟨hD, _, hk2⟩, by show least (R σ2 w2) < least (R σ1 w1); omega⟩
  | _ => exact hq
end Go.Proofs.YthcclgoidchkdaaDoorC
