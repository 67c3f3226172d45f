/- KeepLast: its row, and its tied card. -/
import Derived.Test.YtfdfphaiefbflaaDoorStrsRow
import Derived.Test.YtfdfphaiefbflaaDoorKeep4
import Derived.Test.YtfdfphaiefbflaaDoorTie
import Derived.Test.YtfdfphaiefbflaaDoorCards
import Derived.SevenTiedAt
set_option linter.unusedVariables false
set_option linter.unusedSimpArgs false
namespace Go.Proofs.YtfdfphaiefbflaaDoor
open Go.RowKit Go.Proofs.YtfdfphaiefbflaaDoorC Go.ChangeShapes
set_option maxHeartbeats 1600000 in
set_option maxRecDepth 100000 in
theorem keepLast_lifted (os : Os) (started : os.Started) (H : Type) (enc : TypeId × Value → H) :
    ReturnsInHanded {} Tryd.checked os 13 .any (fun w args => (Rows.keepLastSpec.pre enc Tryd.prog Tryd.f13 Rows.keepLastRow.domain false w args ∧ laidMetH Tryd.prog Rows.keepLastRow.laid w) ∧ sizedMet enc Tryd.prog Tryd.f13 (OpenSpec.ofChange Rows.keepLastSpec) false w args) (Rows.keepLastSpec.post enc Tryd.prog Tryd.f13 false true false false) := by
  refine law_liftedL (laidL := Rows.keepLastRow.laid) (tb := 4) own3 started (by kernel_rfl) Tryd.func13
    (ChangeSpec.witness_shaped (enc := enc) (C := Tryd.checked) (os := os) (X := fun w _ => laidMetH Tryd.prog Rows.keepLastRow.laid w) false (World.laidAll Tryd.prog os Rows.keepLastRow.laid) #[.slice none 0 0, .slice none 0 0] 8 (World.laidAll_os _ _ _)
      (World.shaped_of_ZipB (by kernel_rfl) (by kernel_rfl)) (by kernel_rfl) (by kernel_rfl) (by kernel_rfl)
      (by rw [MakeChecks.laidMetH_plain _ _ _ (by kernel_rfl)]; exact laidMet_laidAll _ (by kernel_rfl) (by kernel_rfl)))
    laidOut3 (by kernel_rfl) (by kernel_rfl) (by kernel_rfl) rfl ?_ ?_
  · intro ds h
    match ds, h with
    | [_, _], _ => rfl
  · intro W base args ds ps hval hA hL
    have hA' : DataW.TrodAll enc Tryd.prog W 0 (fun _ => true) true Tryd.f13.params.toList args.toList ds ps := hA
    have hval' : ∀ (j : Nat) t v, Tryd.f13.params[j]? = some t → args[j]? = some v → Value.okWide Tryd.prog W .any base t v := hval
    rw [Tryd.params13] at hA' hval'
    obtain ⟨v0, v1, d0, d1, p0, p1, rfl, rfl, rfl, h0, h1⟩ := trodAll_two hA'
    obtain ⟨rows0, hs0, hr0⟩ := open_rows sl_24 str_flat rfl (by decide) h0 (WideShapes.okWide_slice sl_24.under (hval' 0 _ v0 rfl rfl))
    obtain ⟨topics, rfl, hw0⟩ := strs_of rows0 hr0
    obtain ⟨rows1, hs1, hr1⟩ := open_rows sl_24 str_flat rfl (by decide) h1 (WideShapes.okWide_slice sl_24.under (hval' 1 _ v1 rfl rfl))
    obtain ⟨payloads, rfl, hw1⟩ := strs_of rows1 hr1
    exact keepLast_ok W topics payloads hs0 hs1
/-- THE ROW HOLDS. -/
theorem keepLast_row : Rows.KeepLastSaid :=
  OpenClaim.holds_of_wide 13 Tryd.f13 rfl rfl rfl rfl rfl rfl rfl ⟨rfl, rfl, rfl, rfl, rfl⟩ rfl rfl rfl rfl rfl (by kernel_rfl) Tryd.func13 (by kernel_rfl)
    (of_decide_eq_true (by kernel_rfl)) (by unfold Func.isWrapper; first | (rw [if_pos (by decide +kernel)]; kernel_rfl) | (rw [if_neg (by decide +kernel)]; exact ⟨rfl, rfl⟩))
    (fun os started H enc _ => keepLast_lifted os started H enc)
/-- THE CARD HOLDS. -/
theorem keepLast_holds : Rows.KeepLastCardSaid :=
  Claim7.holds_tied_plain_at .later [] [.data, .pinned] true (true, "c48dfcc952c3d163d969d6380c1f0bb0606c058798cc0f87b5f07e2287a274e7") false
    keepLast_row (fun _ h => by cases h) (by kernel_rfl) (fun _ h => by cases h) keepLast_row_tie rfl ⟨rfl, rfl⟩ (by kernel_rfl) rfl
    (fun f fn hf hfn => by
      obtain rfl : f = 13 := Option.some.inj ((show Tryd.prog.funcNamed Rows.keepLastRow.func = some 13 by kernel_rfl).symm.trans hf) |>.symm
      obtain rfl : fn = Tryd.f13 := (Option.some.inj (Tryd.func13.symm.trans hfn)).symm
      exact ⟨by kernel_rfl, fun j t ht => by
        rw [Tryd.params13] at ht
        have hm : t ∈ [24, 24] := by simpa using Array.mem_of_getElem? ht
        have hall : ([24, 24].all fun u => !Tryd.prog.wantsStandIn u) = true := by kernel_rfl
        exact (show Tryd.prog.wantsStandIn t = false by simpa using List.all_eq_true.1 hall t hm)⟩)
    (by kernel_rfl)
#print axioms keepLast_holds
end Go.Proofs.YtfdfphaiefbflaaDoor
