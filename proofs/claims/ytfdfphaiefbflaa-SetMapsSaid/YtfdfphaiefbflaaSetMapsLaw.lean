/- SetMaps: its row. -/
import Derived.Test.YtfdfphaiefbflaaSetRow
import Derived.Test.YtfdfphaiefbflaaMapsRow
import Derived.Test.YtfdfphaiefbflaaSet10
set_option linter.unusedVariables false
set_option linter.unusedSimpArgs false
namespace Go.Proofs.Ytfdfphaiefbflaa
open Go.RowKit Go.Proofs.YtfdfphaiefbflaaC Go.ChangeShapes
set_option maxHeartbeats 800000 in
set_option maxRecDepth 100000 in
theorem setMaps_lifted (os : Os) (started : os.Started) (H : Type) (enc : TypeId × Value → H) :
    ReturnsInHanded {} Try.checked os 7 .any (Rows.setMapsSpec.pre6 enc Try.prog Try.f7 Rows.setMapsRow.domain false) (Rows.setMapsSpec.post enc Try.prog Try.f7 false true false false) := by
  refine law_lifted (tb := 4) own3 started (by kernel_rfl) Try.func7
    (ChangeSpec.witness6 (enc := enc) (C := Try.checked) false ⟨#[], #[.slice none 0 0, .slice none 0 0, .slice none 0 0], []⟩ 8 (by kernel_rfl) (by kernel_rfl) (by kernel_rfl) (by kernel_rfl))
    laidOut3 (by kernel_rfl) (by kernel_rfl) (by kernel_rfl) rfl ?_ ?_
  · intro ds h
    match ds, h with
    | [_, _, _], _ => rfl
  · intro W base args ds ps hval hA
    have hA' : DataW.TrodAll enc Try.prog W 0 (fun _ => true) true Try.f7.params.toList args.toList ds ps := hA
    have hval' : ∀ (j : Nat) t v, Try.f7.params[j]? = some t → args[j]? = some v → Value.okWide Try.prog W .any base t v := hval
    rw [Try.params7] at hA' hval'
    obtain ⟨v0, v1, v2, d0, d1, d2, p0, p1, p2, rfl, rfl, rfl, h0, h1, h2⟩ := trodAll_three hA'
    obtain ⟨rows0, hs0, hr0⟩ := open_rows sl_52 str_flat rfl (by decide) h0 (WideShapes.okWide_slice sl_52.under (hval' 0 _ v0 rfl rfl))
    obtain ⟨keys, rfl, hw0⟩ := strs_of rows0 hr0
    obtain ⟨rows1, hs1, hr1⟩ := open_rows sl_36 int_flat rfl (by decide) h1 (WideShapes.okWide_slice sl_36.under (hval' 1 _ v1 rfl rfl))
    obtain ⟨vals, rfl⟩ := ints_of rows1 hr1
    obtain ⟨rows2, hs2, hr2⟩ := open_rows sl_53 bool_flat rfl (by decide) h2 (WideShapes.okWide_slice sl_53.under (hval' 2 _ v2 rfl rfl))
    obtain ⟨puts, rfl⟩ := bools_of rows2 hr2
    exact setMaps_ok W keys vals puts hs0 hs1 hs2
/-- THE ROW HOLDS. -/
theorem setMaps_holds : Rows.SetMapsSaid :=
  OpenClaim.holds_of_wide 7 Try.f7 rfl rfl rfl rfl rfl rfl rfl ⟨rfl, rfl, rfl, rfl, rfl⟩ rfl rfl rfl rfl rfl (by kernel_rfl) Try.func7 (by kernel_rfl)
    (of_decide_eq_true (by kernel_rfl)) (by unfold Func.isWrapper; first | (rw [if_pos (by decide +kernel)]; kernel_rfl) | (rw [if_neg (by decide +kernel)]; exact ⟨rfl, rfl⟩))
    (fun os started H enc _ => setMaps_lifted os started H enc)
#print axioms setMaps_holds
end Go.Proofs.Ytfdfphaiefbflaa
