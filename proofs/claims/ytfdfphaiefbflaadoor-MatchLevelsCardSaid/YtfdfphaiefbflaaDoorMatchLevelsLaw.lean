/- MatchLevels: its row, and its tied card. -/
import Derived.Test.YtfdfphaiefbflaaDoorTopRow
import Derived.Test.YtfdfphaiefbflaaDoorMat2
import Derived.Test.YtfdfphaiefbflaaDoorTie
import Derived.Test.YtfdfphaiefbflaaDoorCards
import Derived.SevenTiedAt
set_option linter.unusedVariables false
set_option linter.unusedSimpArgs false
namespace Go.Proofs.YtfdfphaiefbflaaDoor
open Go.RowKit Go.Proofs.YtfdfphaiefbflaaDoorC Go.ChangeShapes
set_option maxHeartbeats 1600000 in
set_option maxRecDepth 100000 in
theorem matchLevels_lifted (os : Os) (started : os.Started) (H : Type) (enc : TypeId × Value → H) :
    ReturnsInHanded {} Tryd.checked os 9 .any (fun w args => (Rows.matchLevelsSpec.pre enc Tryd.prog Tryd.f9 Rows.matchLevelsRow.domain false w args ∧ laidMetH Tryd.prog Rows.matchLevelsRow.laid w) ∧ sizedMet enc Tryd.prog Tryd.f9 (OpenSpec.ofChange Rows.matchLevelsSpec) false w args) (Rows.matchLevelsSpec.post enc Tryd.prog Tryd.f9 false true false false) := by
  refine law_liftedL (laidL := Rows.matchLevelsRow.laid) (tb := 4) own3 started (by kernel_rfl) Tryd.func9
    (ChangeSpec.witness_shaped (enc := enc) (C := Tryd.checked) (os := os) (X := fun w _ => laidMetH Tryd.prog Rows.matchLevelsRow.laid w) false (World.laidAll Tryd.prog os Rows.matchLevelsRow.laid) #[.string ⟨#[]⟩, .int .u8 0] 8 (World.laidAll_os _ _ _)
      (World.shaped_of_ZipB (by kernel_rfl) (by kernel_rfl)) (by kernel_rfl) (by kernel_rfl) (by kernel_rfl)
      (by rw [MakeChecks.laidMetH_plain _ _ _ (by kernel_rfl)]; exact laidMet_laidAll _ (by kernel_rfl) (by kernel_rfl)))
    laidOut3 (by kernel_rfl) (by kernel_rfl) (by kernel_rfl) rfl ?_ ?_
  · intro ds h
    match ds, h with
    | [_, _], _ => rfl
  · intro W base args ds ps hval hA hL
    have hA' : DataW.TrodAll enc Tryd.prog W 0 (fun _ => true) true Tryd.f9.params.toList args.toList ds ps := hA
    have hval' : ∀ (j : Nat) t v, Tryd.f9.params[j]? = some t → args[j]? = some v → Value.okWide Tryd.prog W .any base t v := hval
    rw [Tryd.params9] at hA' hval'
    obtain ⟨v0, v1, d0, d1, p0, p1, rfl, rfl, rfl, h0, h1⟩ := trodAll_two hA'
    obtain ⟨t, rfl, hw0⟩ := open_text us_9 h0 (WideShapes.okWide_string us_9 (hval' 0 _ v0 rfl rfl))
    obtain ⟨n, rfl, hw1⟩ := open_num ui_5 h1 (WideShapes.okWide_int ui_5 (hval' 1 _ v1 rfl rfl))
    exact (by obtain ⟨q, rfl⟩ := Int.eq_ofNat_of_zero_le (u8_rng hw1).1; exact matchLevels_ok W t q (by have := (u8_rng hw1).2; omega))
/-- THE ROW HOLDS. -/
theorem matchLevels_row : Rows.MatchLevelsSaid :=
  OpenClaim.holds_of_wide 9 Tryd.f9 rfl rfl rfl rfl rfl rfl rfl ⟨rfl, rfl, rfl, rfl, rfl⟩ rfl rfl rfl rfl rfl (by kernel_rfl) Tryd.func9 (by kernel_rfl)
    (of_decide_eq_true (by kernel_rfl)) (by unfold Func.isWrapper; first | (rw [if_pos (by decide +kernel)]; kernel_rfl) | (rw [if_neg (by decide +kernel)]; exact ⟨rfl, rfl⟩))
    (fun os started H enc _ => matchLevels_lifted os started H enc)
/-- THE CARD HOLDS. -/
theorem matchLevels_holds : Rows.MatchLevelsCardSaid :=
  Claim7.holds_tied_plain_at .later [] [.data, .pinned] true (true, "c48dfcc952c3d163d969d6380c1f0bb0606c058798cc0f87b5f07e2287a274e7") false
    matchLevels_row (fun _ h => by cases h) (by kernel_rfl) (fun _ h => by cases h) matchLevels_row_tie rfl ⟨rfl, rfl⟩ (by kernel_rfl) rfl
    (fun f fn hf hfn => by
      obtain rfl : f = 9 := Option.some.inj ((show Tryd.prog.funcNamed Rows.matchLevelsRow.func = some 9 by kernel_rfl).symm.trans hf) |>.symm
      obtain rfl : fn = Tryd.f9 := (Option.some.inj (Tryd.func9.symm.trans hfn)).symm
      exact ⟨by kernel_rfl, fun j t ht => by
        rw [Tryd.params9] at ht
        have hm : t ∈ [9, 5] := by simpa using Array.mem_of_getElem? ht
        have hall : ([9, 5].all fun u => !Tryd.prog.wantsStandIn u) = true := by kernel_rfl
        exact (show Tryd.prog.wantsStandIn t = false by simpa using List.all_eq_true.1 hall t hm)⟩)
    (by kernel_rfl)
#print axioms matchLevels_holds
end Go.Proofs.YtfdfphaiefbflaaDoor
