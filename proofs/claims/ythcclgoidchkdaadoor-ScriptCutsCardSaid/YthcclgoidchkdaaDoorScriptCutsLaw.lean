/- ScriptCuts: its row, and its tied card. -/
import Derived.Test.YthcclgoidchkdaaDoorBunT11
import Derived.Test.YthcclgoidchkdaaDoorBunT10
import Derived.Test.YthcclgoidchkdaaDoorTie
import Derived.Test.YthcclgoidchkdaaDoorCards
import Derived.SevenTiedAt
set_option linter.unusedVariables false
set_option linter.unusedSimpArgs false
namespace Go.Proofs.YthcclgoidchkdaaDoor
open Go.RowKit Go.Proofs.YthcclgoidchkdaaDoorC Go.ChangeShapes
set_option maxHeartbeats 1600000 in
set_option maxRecDepth 100000 in
theorem scriptCuts_lifted (os : Os) (started : os.Started) (H : Type) (enc : TypeId × Value → H) :
    ReturnsInHanded {} Tryd.checked os 13 .any (fun w args => (Rows.scriptCutsSpec.pre enc Tryd.prog Tryd.f13 Rows.scriptCutsRow.domain false w args ∧ laidMetH Tryd.prog Rows.scriptCutsRow.laid w) ∧ sizedMet enc Tryd.prog Tryd.f13 (OpenSpec.ofChange Rows.scriptCutsSpec) false w args) (Rows.scriptCutsSpec.post enc Tryd.prog Tryd.f13 false true false false) := by
  refine law_liftedW (laidL := Rows.scriptCutsRow.laid) (tb := 4) own3 started (by kernel_rfl) Tryd.func13
    (ChangeSpec.witness_shaped (enc := enc) (C := Tryd.checked) (os := os) (X := fun w _ => laidMetH Tryd.prog Rows.scriptCutsRow.laid w) false (World.laidAll Tryd.prog os Rows.scriptCutsRow.laid) #[.agg #[.int .i64 0, .int .i64 0, .slice none 0 0, .slice none 0 0], .int .u8 0] 8 (World.laidAll_os _ _ _)
      (World.shaped_of_ZipB (by kernel_rfl) (by kernel_rfl)) (by kernel_rfl) (by kernel_rfl) (by kernel_rfl)
      (by rw [MakeChecks.laidMetH_plain _ _ _ (by kernel_rfl)]; exact laidMet_laidAll _ (by kernel_rfl) (by kernel_rfl)))
    laidOut3 (by kernel_rfl) (by kernel_rfl) (by kernel_rfl) rfl ?_ ?_
  · intro ds h
    match ds, h with
    | [_, _], _ => rfl
  · intro W base args ds ps hval hA hwt hL
    have hA' : DataW.TrodAll enc Tryd.prog W 0 (fun _ => true) true Tryd.f13.params.toList args.toList ds ps := hA
    have hval' : ∀ (j : Nat) t v, Tryd.f13.params[j]? = some t → args[j]? = some v → Value.okWide Tryd.prog W .any base t v := hval
    have hwt' : (DataW.weightsEach Tryd.prog Tryd.f13.params.toList ds).all (· ≤ reachBytes) = true := hwt
    rw [Tryd.params13] at hA' hval' hwt'
    obtain ⟨v0, v1, d0, d1, p0, p1, rfl, rfl, rfl, h0, h1⟩ := trodAll_two hA'
    have hw0 : (d0.weights Tryd.prog 107).all (· ≤ reachBytes) = true := by (simp only [DataW.weightsEach, List.all_append, Bool.and_eq_true] at hwt'; exact hwt'.1)
    obtain ⟨cs0, s, rfl, hsc, hbt⟩ := script_of h0 (hval' 0 _ v0 rfl rfl) hw0
    obtain ⟨a, rfl, hw1⟩ := open_num ui_5 h1 (WideShapes.okWide_int ui_5 (hval' 1 _ v1 rfl rfl))
    exact scriptCuts_ok W s hsc hbt a (u8_rng hw1).1 (u8_rng hw1).2 (tab_of (by kernel_rfl) hL (by simp [Rows.scriptCutsRow])) (errs_of (by kernel_rfl) hL (by simp [Rows.scriptCutsRow]) (by simp [Rows.scriptCutsRow]))
/-- THE ROW HOLDS. -/
theorem scriptCuts_row : Rows.ScriptCutsSaid :=
  OpenClaim.holds_of_wide 13 Tryd.f13 rfl rfl rfl rfl rfl rfl rfl ⟨rfl, rfl, rfl, rfl, rfl⟩ rfl rfl rfl rfl rfl (by kernel_rfl) Tryd.func13 (by kernel_rfl)
    (of_decide_eq_true (by kernel_rfl)) (by unfold Func.isWrapper; first | (rw [if_pos (by decide +kernel)]; kernel_rfl) | (rw [if_neg (by decide +kernel)]; exact ⟨rfl, rfl⟩))
    (fun os started H enc _ => scriptCuts_lifted os started H enc)
/-- THE CARD HOLDS. -/
theorem scriptCuts_holds : Rows.ScriptCutsCardSaid :=
  Claim7.holds_tied_plain_at .later [] [.data, .data, .data, .data, .sentinel, .sentinel, .pinned] true (true, "dcfea059b96daabca6727404355fd4033103d74510e583df854e7115075281f3") true
    scriptCuts_row (fun _ h => by cases h) (by kernel_rfl) (fun _ h => by cases h) scriptCuts_row_tie rfl ⟨rfl, rfl⟩ (by kernel_rfl) rfl
    (fun f fn hf hfn => by
      obtain rfl : f = 13 := Option.some.inj ((show Tryd.prog.funcNamed Rows.scriptCutsRow.func = some 13 by kernel_rfl).symm.trans hf) |>.symm
      obtain rfl : fn = Tryd.f13 := (Option.some.inj (Tryd.func13.symm.trans hfn)).symm
      exact ⟨by kernel_rfl, fun j t ht => by
        rw [Tryd.params13] at ht
        have hm : t ∈ [107, 5] := by simpa using Array.mem_of_getElem? ht
        have hall : ([107, 5].all fun u => !Tryd.prog.wantsStandIn u) = true := by kernel_rfl
        exact (show Tryd.prog.wantsStandIn t = false by simpa using List.all_eq_true.1 hall t hm)⟩)
    (by kernel_rfl)
#print axioms scriptCuts_holds
end Go.Proofs.YthcclgoidchkdaaDoor
