/- StripeTells: its row. -/
import Derived.Test.YtfdfphaiefbflaaSetRow
import Derived.Test.YtfdfphaiefbflaaStr6
set_option linter.unusedVariables false
set_option linter.unusedSimpArgs false
namespace Go.Proofs.Ytfdfphaiefbflaa
open Go.RowKit Go.Proofs.YtfdfphaiefbflaaC Go.ChangeShapes
set_option maxHeartbeats 800000 in
set_option maxRecDepth 100000 in
theorem stripeTells_lifted (os : Os) (started : os.Started) (H : Type) (enc : TypeId × Value → H) :
    ReturnsInHanded {} Try.checked os 12 .any (Rows.stripeTellsSpec.pre6 enc Try.prog Try.f12 Rows.stripeTellsRow.domain false) (Rows.stripeTellsSpec.post enc Try.prog Try.f12 false true false false) := by
  refine law_lifted (tb := 4) own3 started (by kernel_rfl) Try.func12
    (ChangeSpec.witness6 (enc := enc) (C := Try.checked) false ⟨#[], #[.string ⟨#[]⟩, .int .i64 0, .slice none 0 0, .slice none 0 0], []⟩ 8 (by kernel_rfl) (by kernel_rfl) (by kernel_rfl) (by kernel_rfl))
    laidOut3 (by kernel_rfl) (by kernel_rfl) (by kernel_rfl) rfl ?_ ?_
  · intro ds h
    match ds, h with
    | [_, _, _, _], _ => rfl
  · intro W base args ds ps hval hA
    have hA' : DataW.TrodAll enc Try.prog W 0 (fun _ => true) true Try.f12.params.toList args.toList ds ps := hA
    have hval' : ∀ (j : Nat) t v, Try.f12.params[j]? = some t → args[j]? = some v → Value.okWide Try.prog W .any base t v := hval
    rw [Try.params12] at hA' hval'
    obtain ⟨v0, v1, v2, v3, d0, d1, d2, d3, p0, p1, p2, p3, rfl, rfl, rfl, h0, h1, h2, h3⟩ := trodAll_four hA'
    obtain ⟨s, rfl, hw0⟩ := open_text us_9 h0 (WideShapes.okWide_string us_9 (hval' 0 _ v0 rfl rfl))
    obtain ⟨sub, rfl, hw1⟩ := open_num ui_3 h1 (WideShapes.okWide_int ui_3 (hval' 1 _ v1 rfl rfl))
    obtain ⟨rows2, hs2, hr2⟩ := open_rows sl_36 int_flat rfl (by decide) h2 (WideShapes.okWide_slice sl_36.under (hval' 2 _ v2 rfl rfl))
    obtain ⟨st, rfl⟩ := ints_of rows2 hr2
    obtain ⟨rows3, hs3, hr3⟩ := open_rows sl_36 int_flat rfl (by decide) h3 (WideShapes.okWide_slice sl_36.under (hval' 3 _ v3 rfl rfl))
    obtain ⟨subs, rfl⟩ := ints_of rows3 hr3
    exact stripeTells_ok W s sub st subs hs2 hs3
/-- THE ROW HOLDS. -/
theorem stripeTells_holds : Rows.StripeTellsSaid :=
  OpenClaim.holds_of_wide 12 Try.f12 rfl rfl rfl rfl rfl rfl rfl ⟨rfl, rfl, rfl, rfl, rfl⟩ rfl rfl rfl rfl rfl (by kernel_rfl) Try.func12 (by kernel_rfl)
    (of_decide_eq_true (by kernel_rfl)) (by unfold Func.isWrapper; first | (rw [if_pos (by decide +kernel)]; kernel_rfl) | (rw [if_neg (by decide +kernel)]; exact ⟨rfl, rfl⟩))
    (fun os started H enc _ => stripeTells_lifted os started H enc)
#print axioms stripeTells_holds
end Go.Proofs.Ytfdfphaiefbflaa
