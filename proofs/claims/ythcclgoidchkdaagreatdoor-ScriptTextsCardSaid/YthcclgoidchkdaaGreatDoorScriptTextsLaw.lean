/- ScriptTexts: its row, and its tied card. -/
import Derived.Test.YthcclgoidchkdaaGreatDoorBunZ11
import Derived.Test.YthcclgoidchkdaaGreatDoorBunZ2
import Derived.LaidMore
import Derived.Lay
import Derived.OpenShut
import Derived.Stop.Joined
import Derived.Test.YthcclgoidchkdaaGreatDoorBunZ10
import Derived.Test.YthcclgoidchkdaaGreatDoorBunZ12
import Derived.Test.YthcclgoidchkdaaGreatDoorTie
import Derived.Test.YthcclgoidchkdaaGreatDoorCards
import Derived.SevenTiedAt
set_option linter.unusedVariables false
set_option linter.unusedSimpArgs false
namespace Go.Proofs.YthcclgoidchkdaaGreatDoor
open Go.RowKit Go.Proofs.YthcclgoidchkdaaGreatDoorC Go.ChangeShapes
set_option maxHeartbeats 1600000 in
set_option maxRecDepth 100000 in
theorem scriptTexts_lifted (os : Os) (started : os.Started) (H : Type) (enc : TypeId × Value → H) :
    ReturnsInHanded {} Tryz.checked os 6 .any (fun w args => (Rows.scriptTextsSpec.pre enc Tryz.prog Tryz.f6 Rows.scriptTextsRow.domain false w args ∧ laidMetH Tryz.prog Rows.scriptTextsRow.laid w) ∧ sizedMet enc Tryz.prog Tryz.f6 (OpenSpec.ofChange Rows.scriptTextsSpec) false w args) (Rows.scriptTextsSpec.post enc Tryz.prog Tryz.f6 false true false false) := by
  refine law_liftedW (laidL := Rows.scriptTextsRow.laid) (tb := 4) own3 started (by kernel_rfl) Tryz.func6
    (ChangeSpec.witness_shaped (enc := enc) (C := Tryz.checked) (os := os) (X := fun w _ => laidMetH Tryz.prog Rows.scriptTextsRow.laid w) false (World.laidAll Tryz.prog os Rows.scriptTextsRow.laid) #[.agg #[.int .i64 0, .int .i64 0, .slice none 0 0, .slice none 0 0]] 8 (World.laidAll_os _ _ _)
      (World.shaped_of_ZipB (by kernel_rfl) (by kernel_rfl)) (by kernel_rfl) (by kernel_rfl) (by kernel_rfl)
      (by rw [MakeChecks.laidMetH_plain _ _ _ (by kernel_rfl)]; exact laidMet_laidAll _ (by kernel_rfl) (by kernel_rfl)))
    laidOut3 (by kernel_rfl) (by kernel_rfl) (by kernel_rfl) rfl ?_ ?_
  · intro ds h
    match ds, h with
    | [_], _ => rfl
  · intro W base args ds ps hval hA hwt hL
    have hA' : DataW.TrodAll enc Tryz.prog W 0 (fun _ => true) true Tryz.f6.params.toList args.toList ds ps := hA
    have hval' : ∀ (j : Nat) t v, Tryz.f6.params[j]? = some t → args[j]? = some v → Value.okWide Tryz.prog W .any base t v := hval
    have hwt' : (DataW.weightsEach Tryz.prog Tryz.f6.params.toList ds).all (· ≤ reachBytes) = true := hwt
    rw [Tryz.params6] at hA' hval' hwt'
    obtain ⟨v0, d0, rfl, rfl, h0⟩ := trodAll_one hA'
    have hw0 : (d0.weights Tryz.prog 72).all (· ≤ reachBytes) = true := by (simp only [DataW.weightsEach, List.all_append, Bool.and_eq_true] at hwt'; exact hwt'.1)
    obtain ⟨cs0, s, rfl, hsc, hbt⟩ := script_of h0 (hval' 0 _ v0 rfl rfl) hw0
    exact scriptTexts_ok W s hsc hbt (tab_of (by kernel_rfl) hL (by simp [Rows.scriptTextsRow])) (errs_of (by kernel_rfl) hL (by simp [Rows.scriptTextsRow]) (by simp [Rows.scriptTextsRow]))
/-- THE ROW HOLDS. -/
theorem scriptTexts_row : Rows.ScriptTextsSaid :=
  OpenClaim.holds_of_wide 6 Tryz.f6 rfl rfl rfl rfl rfl rfl rfl ⟨rfl, rfl, rfl, rfl, rfl⟩ rfl rfl rfl rfl rfl (by kernel_rfl) Tryz.func6 (by kernel_rfl)
    (of_decide_eq_true (by kernel_rfl)) (by unfold Func.isWrapper; first | (rw [if_pos (by decide +kernel)]; kernel_rfl) | (rw [if_neg (by decide +kernel)]; exact ⟨rfl, rfl⟩))
    (fun os started H enc _ => scriptTexts_lifted os started H enc)
/-- THE CARD HOLDS. -/
theorem scriptTexts_holds : Rows.ScriptTextsCardSaid :=
  Claim7.holds_tied_plain_at .later [] [.data, .data, .data, .data, .sentinel, .sentinel, .pinned] true (true, "c9ca920686c792b7d062106cc13be79904831ca07c39b1f03cd298b9b67ac498") true
    scriptTexts_row (fun _ h => by cases h) (by kernel_rfl) (fun _ h => by cases h) scriptTexts_row_tie rfl ⟨rfl, rfl⟩ (by kernel_rfl) rfl
    (fun f fn hf hfn => by
      obtain rfl : f = 6 := Option.some.inj ((show Tryz.prog.funcNamed Rows.scriptTextsRow.func = some 6 by kernel_rfl).symm.trans hf) |>.symm
      obtain rfl : fn = Tryz.f6 := (Option.some.inj (Tryz.func6.symm.trans hfn)).symm
      exact ⟨by kernel_rfl, fun j t ht => by
        rw [Tryz.params6] at ht
        have hm : t ∈ [72] := by simpa using Array.mem_of_getElem? ht
        have hall : ([72].all fun u => !Tryz.prog.wantsStandIn u) = true := by kernel_rfl
        exact (show Tryz.prog.wantsStandIn t = false by simpa using List.all_eq_true.1 hall t hm)⟩)
    (by kernel_rfl)
#print axioms scriptTexts_holds
end Go.Proofs.YthcclgoidchkdaaGreatDoor
