/- What the rows of the laws of layer 3 share: how their arguments read. -/
import Derived.Test.YtfdfphaiefbflaaSet6
import Derived.Test.YtfdfphaiefbflaaRows
set_option linter.unusedVariables false
set_option linter.unusedSimpArgs false
namespace Go.Proofs.Ytfdfphaiefbflaa
open Go.RowKit Go.Proofs.YtfdfphaiefbflaaC Go.ChangeShapes
theorem int_flat : flatT Try.prog 1 3 = some [.int .i64] := by kernel_rfl
theorem ints_of : ∀ (rows : List (List Value)), (∀ r ∈ rows, flatOk [.int .i64] r) → ∃ l : List Int, rows = l.map eI1
  | [], _ => ⟨[], rfl⟩
  | r :: rows, h => by
    obtain ⟨l, hl⟩ := ints_of rows (fun x hx => h x (by simp [hx]))
    obtain ⟨_, r1, e1, ⟨a1, rfl, _⟩, h1⟩ := (h r (by simp)).cons
    have e2 := h1.nil
    exact ⟨a1 :: l, by rw [hl, e1, e2]; rfl⟩
theorem own3 : ownKnob Try.prog.godebug = none := by kernel_rfl
theorem laidOut3 : laidOutB Try.prog = true := by kernel_rfl
end Go.Proofs.Ytfdfphaiefbflaa
