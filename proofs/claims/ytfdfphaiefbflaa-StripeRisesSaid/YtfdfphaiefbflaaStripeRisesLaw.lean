/- StripeRises: its row. -/
import Derived.Test.YtfdfphaiefbflaaSetRow
import Derived.Test.YtfdfphaiefbflaaStr5
set_option linter.unusedVariables false
set_option linter.unusedSimpArgs false
namespace Go.Proofs.Ytfdfphaiefbflaa
open Go.RowKit Go.Proofs.YtfdfphaiefbflaaC Go.ChangeShapes
set_option maxHeartbeats 800000 in
set_option maxRecDepth 100000 in
theorem stripeRises_lifted (os : Os) (started : os.Started) (H : Type) (enc : TypeId × Value → H) :
    ReturnsInHanded {} Try.checked os 11 .any (Rows.stripeRisesSpec.pre6 enc Try.prog Try.f11 Rows.stripeRisesRow.domain false) (Rows.stripeRisesSpec.post enc Try.prog Try.f11 false true false false) := by
  refine law_lifted (tb := 4) own3 started (by kernel_rfl) Try.func11
    (ChangeSpec.witness6 (enc := enc) (C := Try.checked) false ⟨#[], #[.slice none 0 0, .slice none 0 0], []⟩ 8 (by kernel_rfl) (by kernel_rfl) (by kernel_rfl) (by kernel_rfl))
    laidOut3 (by kernel_rfl) (by kernel_rfl) (by kernel_rfl) rfl ?_ ?_
  · intro ds h
    match ds, h with
    | [_, _], _ => rfl
  · intro W base args ds ps hval hA
    have hA' : DataW.TrodAll enc Try.prog W 0 (fun _ => true) true Try.f11.params.toList args.toList ds ps := hA
    have hval' : ∀ (j : Nat) t v, Try.f11.params[j]? = some t → args[j]? = some v → Value.okWide Try.prog W .any base t v := hval
    rw [Try.params11] at hA' hval'
    obtain ⟨v0, v1, d0, d1, p0, p1, rfl, rfl, rfl, h0, h1⟩ := trodAll_two hA'
    obtain ⟨rows0, hs0, hr0⟩ := open_rows sl_36 int_flat rfl (by decide) h0 (WideShapes.okWide_slice sl_36.under (hval' 0 _ v0 rfl rfl))
    obtain ⟨st, rfl⟩ := ints_of rows0 hr0
    obtain ⟨rows1, hs1, hr1⟩ := open_rows sl_36 int_flat rfl (by decide) h1 (WideShapes.okWide_slice sl_36.under (hval' 1 _ v1 rfl rfl))
    obtain ⟨subs, rfl⟩ := ints_of rows1 hr1
    exact stripeRises_ok W st subs hs0 hs1
/-- THE ROW HOLDS. -/
theorem stripeRises_holds : Rows.StripeRisesSaid :=
  OpenClaim.holds_of_wide 11 Try.f11 rfl rfl rfl rfl rfl rfl rfl ⟨rfl, rfl, rfl, rfl, rfl⟩ rfl rfl rfl rfl rfl (by kernel_rfl) Try.func11 (by kernel_rfl)
    (of_decide_eq_true (by kernel_rfl)) (by unfold Func.isWrapper; first | (rw [if_pos (by decide +kernel)]; kernel_rfl) | (rw [if_neg (by decide +kernel)]; exact ⟨rfl, rfl⟩))
    (fun os started H enc _ => stripeRises_lifted os started H enc)
#print axioms stripeRises_holds
end Go.Proofs.Ytfdfphaiefbflaa
