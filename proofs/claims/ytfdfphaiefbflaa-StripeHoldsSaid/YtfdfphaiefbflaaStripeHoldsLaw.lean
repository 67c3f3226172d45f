/- StripeHolds: its row. -/
import Derived.Test.YtfdfphaiefbflaaSetRow
import Derived.Test.YtfdfphaiefbflaaStr6
set_option linter.unusedVariables false
set_option linter.unusedSimpArgs false
namespace Go.Proofs.Ytfdfphaiefbflaa
open Go.RowKit Go.Proofs.YtfdfphaiefbflaaC Go.ChangeShapes
set_option maxHeartbeats 800000 in
set_option maxRecDepth 100000 in
theorem stripeHolds_lifted (os : Os) (started : os.Started) (H : Type) (enc : TypeId × Value → H) :
    ReturnsInHanded {} Try.checked os 4 .any (Rows.stripeHoldsSpec.pre6 enc Try.prog Try.f4 Rows.stripeHoldsRow.domain false) (Rows.stripeHoldsSpec.post enc Try.prog Try.f4 false true false false) := by
  refine law_lifted (tb := 4) own3 started (by kernel_rfl) Try.func4
    (ChangeSpec.witness6 (enc := enc) (C := Try.checked) false ⟨#[], #[.string ⟨#[]⟩, .string ⟨#[]⟩], []⟩ 8 (by kernel_rfl) (by kernel_rfl) (by kernel_rfl) (by kernel_rfl))
    laidOut3 (by kernel_rfl) (by kernel_rfl) (by kernel_rfl) rfl ?_ ?_
  · intro ds h
    match ds, h with
    | [_, _], _ => rfl
  · intro W base args ds ps hval hA
    have hA' : DataW.TrodAll enc Try.prog W 0 (fun _ => true) true Try.f4.params.toList args.toList ds ps := hA
    have hval' : ∀ (j : Nat) t v, Try.f4.params[j]? = some t → args[j]? = some v → Value.okWide Try.prog W .any base t v := hval
    rw [Try.params4] at hA' hval'
    obtain ⟨v0, v1, d0, d1, p0, p1, rfl, rfl, rfl, h0, h1⟩ := trodAll_two hA'
    obtain ⟨f, rfl, hw0⟩ := open_text us_9 h0 (WideShapes.okWide_string us_9 (hval' 0 _ v0 rfl rfl))
    obtain ⟨t, rfl, hw1⟩ := open_text us_9 h1 (WideShapes.okWide_string us_9 (hval' 1 _ v1 rfl rfl))
    exact stripeHolds_ok W f t
/-- THE ROW HOLDS. -/
theorem stripeHolds_holds : Rows.StripeHoldsSaid :=
  OpenClaim.holds_of_wide 4 Try.f4 rfl rfl rfl rfl rfl rfl rfl ⟨rfl, rfl, rfl, rfl, rfl⟩ rfl rfl rfl rfl rfl (by kernel_rfl) Try.func4 (by kernel_rfl)
    (of_decide_eq_true (by kernel_rfl)) (by unfold Func.isWrapper; first | (rw [if_pos (by decide +kernel)]; kernel_rfl) | (rw [if_neg (by decide +kernel)]; exact ⟨rfl, rfl⟩))
    (fun os started H enc _ => stripeHolds_lifted os started H enc)
#print axioms stripeHolds_holds
end Go.Proofs.Ytfdfphaiefbflaa
