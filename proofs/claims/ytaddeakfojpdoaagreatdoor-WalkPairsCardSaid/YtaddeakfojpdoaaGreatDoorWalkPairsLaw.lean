/- WalkPairs: its row, and its tied card. -/
import Derived.Test.YtaddeakfojpdoaaGreatDoorBunP13
import Derived.Test.YtaddeakfojpdoaaGreatDoorTie
import Derived.Test.YtaddeakfojpdoaaGreatDoorCards
import Derived.SevenTiedAt
set_option linter.unusedVariables false
set_option linter.unusedSimpArgs false
namespace Go.Proofs.YtaddeakfojpdoaaGreatDoor
open Go.RowKit Go.Proofs.YtaddeakfojpdoaaGreatDoorC Go.ChangeShapes
set_option maxHeartbeats 1600000 in
set_option maxRecDepth 100000 in
theorem walkPairs_lifted (os : Os) (started : os.Started) (H : Type) (enc : TypeId × Value → H) :
    ReturnsInHanded {} Tryz.checked os 4 .any (fun w args => (Rows.walkPairsSpec.pre enc Tryz.prog Tryz.f4 Rows.walkPairsRow.domain false w args ∧ laidMetH Tryz.prog Rows.walkPairsRow.laid w) ∧ sizedMet enc Tryz.prog Tryz.f4 (OpenSpec.ofChange Rows.walkPairsSpec) false w args) (Rows.walkPairsSpec.post enc Tryz.prog Tryz.f4 false true false false) := by
  refine law_liftedL (laidL := Rows.walkPairsRow.laid) (tb := 4) own3 started (by kernel_rfl) Tryz.func4
    (ChangeSpec.witness_shaped (enc := enc) (C := Tryz.checked) (os := os) (X := fun w _ => laidMetH Tryz.prog Rows.walkPairsRow.laid w) false (World.laidAll Tryz.prog os Rows.walkPairsRow.laid) #[.slice none 0 0, .slice none 0 0, .int .i64 0, .string ⟨#[]⟩] 8 (World.laidAll_os _ _ _)
      (World.shaped_of_ZipB (by kernel_rfl) (by kernel_rfl)) (by kernel_rfl) (by kernel_rfl) (by kernel_rfl)
      (by rw [MakeChecks.laidMetH_plain _ _ _ (by kernel_rfl)]; exact laidMet_laidAll _ (by kernel_rfl) (by kernel_rfl)))
    laidOut3 (by kernel_rfl) (by kernel_rfl) (by kernel_rfl) rfl ?_ ?_
  · intro ds h
    match ds, h with
    | [_, _, _, _], _ => rfl
  · intro W base args ds ps hval hA hL
    have hA' : DataW.TrodAll enc Tryz.prog W 0 (fun _ => true) true Tryz.f4.params.toList args.toList ds ps := hA
    have hval' : ∀ (j : Nat) t v, Tryz.f4.params[j]? = some t → args[j]? = some v → Value.okWide Tryz.prog W .any base t v := hval
    rw [Tryz.params4] at hA' hval'
    obtain ⟨v0, v1, v2, v3, d0, d1, d2, d3, p0, p1, p2, p3, rfl, rfl, rfl, h0, h1, h2, h3⟩ := trodAll_four hA'
    obtain ⟨rows0, hs0, hr0⟩ := open_rows sl_22 str_flat rfl (by decide) h0 (WideShapes.okWide_slice sl_22.under (hval' 0 _ v0 rfl rfl))
    obtain ⟨ks, rfl, hw0⟩ := strs_of rows0 hr0
    obtain ⟨rows1, hs1, hr1⟩ := open_rows sl_23 int_flat rfl (by decide) h1 (WideShapes.okWide_slice sl_23.under (hval' 1 _ v1 rfl rfl))
    obtain ⟨ys, rfl⟩ := ints_of rows1 hr1
    obtain ⟨sub, rfl, hw2⟩ := open_num ui_3 h2 (WideShapes.okWide_int ui_3 (hval' 2 _ v2 rfl rfl))
    obtain ⟨f, rfl, hw3⟩ := open_text us_9 h3 (WideShapes.okWide_string us_9 (hval' 3 _ v3 rfl rfl))
    exact walkPairs_ok W ks ys sub f hs0 hs1
/-- THE ROW HOLDS. -/
theorem walkPairs_row : Rows.WalkPairsSaid :=
  OpenClaim.holds_of_wide 4 Tryz.f4 rfl rfl rfl rfl rfl rfl rfl ⟨rfl, rfl, rfl, rfl, rfl⟩ rfl rfl rfl rfl rfl (by kernel_rfl) Tryz.func4 (by kernel_rfl)
    (of_decide_eq_true (by kernel_rfl)) (by unfold Func.isWrapper; first | (rw [if_pos (by decide +kernel)]; kernel_rfl) | (rw [if_neg (by decide +kernel)]; exact ⟨rfl, rfl⟩))
    (fun os started H enc _ => walkPairs_lifted os started H enc)
/-- THE CARD HOLDS. -/
theorem walkPairs_holds : Rows.WalkPairsCardSaid :=
  Claim7.holds_tied_plain_at .later [] [.data, .pinned] true (true, "4f35ac1e17f343f54db06256f3908921250d5e01a6e084f7330906b985697700") false
    walkPairs_row (fun _ h => by cases h) (by kernel_rfl) (fun _ h => by cases h) walkPairs_row_tie rfl ⟨rfl, rfl⟩ (by kernel_rfl) rfl
    (fun f fn hf hfn => by
      obtain rfl : f = 4 := Option.some.inj ((show Tryz.prog.funcNamed Rows.walkPairsRow.func = some 4 by kernel_rfl).symm.trans hf) |>.symm
      obtain rfl : fn = Tryz.f4 := (Option.some.inj (Tryz.func4.symm.trans hfn)).symm
      exact ⟨by kernel_rfl, fun j t ht => by
        rw [Tryz.params4] at ht
        have hm : t ∈ [22, 23, 3, 9] := by simpa using Array.mem_of_getElem? ht
        have hall : ([22, 23, 3, 9].all fun u => !Tryz.prog.wantsStandIn u) = true := by kernel_rfl
        exact (show Tryz.prog.wantsStandIn t = false by simpa using List.all_eq_true.1 hall t hm)⟩)
    (by kernel_rfl)
#print axioms walkPairs_holds
end Go.Proofs.YtaddeakfojpdoaaGreatDoor
