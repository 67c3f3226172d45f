/- SetOrder: its row. -/
import Derived.Test.YtfdfphaiefbflaaSetRow
set_option linter.unusedVariables false
set_option linter.unusedSimpArgs false
namespace Go.Proofs.Ytfdfphaiefbflaa
open Go.RowKit Go.Proofs.YtfdfphaiefbflaaC Go.ChangeShapes
set_option maxHeartbeats 800000 in
set_option maxRecDepth 100000 in
theorem setOrder_lifted (os : Os) (started : os.Started) (H : Type) (enc : TypeId × Value → H) :
    ReturnsInHanded {} Try.checked os 5 .any (Rows.setOrderSpec.pre6 enc Try.prog Try.f5 Rows.setOrderRow.domain false) (Rows.setOrderSpec.post enc Try.prog Try.f5 false true false false) := by
  refine law_lifted (tb := 4) own3 started (by kernel_rfl) Try.func5
    (ChangeSpec.witness6 (enc := enc) (C := Try.checked) false ⟨#[], #[.slice none 0 0], []⟩ 8 (by kernel_rfl) (by kernel_rfl) (by kernel_rfl) (by kernel_rfl))
    laidOut3 (by kernel_rfl) (by kernel_rfl) (by kernel_rfl) rfl ?_ ?_
  · intro ds h
    match ds, h with
    | [_], _ => rfl
  · intro W base args ds ps hval hA
    have hA' : DataW.TrodAll enc Try.prog W 0 (fun _ => true) true Try.f5.params.toList args.toList ds ps := hA
    have hval' : ∀ (j : Nat) t v, Try.f5.params[j]? = some t → args[j]? = some v → Value.okWide Try.prog W .any base t v := hval
    rw [Try.params5] at hA' hval'
    obtain ⟨v0, d0, rfl, rfl, h0⟩ := trodAll_one hA'
    obtain ⟨rows0, hs0, hr0⟩ := open_rows sl_36 int_flat rfl (by decide) h0 (WideShapes.okWide_slice sl_36.under (hval' 0 _ v0 rfl rfl))
    obtain ⟨l, rfl⟩ := ints_of rows0 hr0
    exact setOrder_ok W l hs0
/-- THE ROW HOLDS. -/
theorem setOrder_holds : Rows.SetOrderSaid :=
  OpenClaim.holds_of_wide 5 Try.f5 rfl rfl rfl rfl rfl rfl rfl ⟨rfl, rfl, rfl, rfl, rfl⟩ rfl rfl rfl rfl rfl (by kernel_rfl) Try.func5 (by kernel_rfl)
    (of_decide_eq_true (by kernel_rfl)) (by unfold Func.isWrapper; first | (rw [if_pos (by decide +kernel)]; kernel_rfl) | (rw [if_neg (by decide +kernel)]; exact ⟨rfl, rfl⟩))
    (fun os started H enc _ => setOrder_lifted os started H enc)
#print axioms setOrder_holds
end Go.Proofs.Ytfdfphaiefbflaa
