/- ModelFifo: its row, and its tied card. -/
import Derived.Test.YtaddeakfojpdoaaGreatDoorBunM15
import Derived.Test.YtaddeakfojpdoaaGreatDoorTie
import Derived.Test.YtaddeakfojpdoaaGreatDoorCards
import Derived.SevenTiedAt
set_option linter.unusedVariables false
set_option linter.unusedSimpArgs false
namespace Go.Proofs.YtaddeakfojpdoaaGreatDoor
open Go.RowKit Go.Proofs.YtaddeakfojpdoaaGreatDoorC Go.ChangeShapes
set_option maxHeartbeats 1600000 in
set_option maxRecDepth 100000 in
theorem modelFifo_lifted (os : Os) (started : os.Started) (H : Type) (enc : TypeId × Value → H) :
    ReturnsInHanded {} Tryz.checked os 5 .any (fun w args => (Rows.modelFifoSpec.pre enc Tryz.prog Tryz.f5 Rows.modelFifoRow.domain false w args ∧ laidMetH Tryz.prog Rows.modelFifoRow.laid w) ∧ sizedMet enc Tryz.prog Tryz.f5 (OpenSpec.ofChange Rows.modelFifoSpec) false w args) (Rows.modelFifoSpec.post enc Tryz.prog Tryz.f5 false true false false) := by
  refine law_liftedL (laidL := Rows.modelFifoRow.laid) (tb := 4) own3 started (by kernel_rfl) Tryz.func5
    (ChangeSpec.witness_shaped (enc := enc) (C := Tryz.checked) (os := os) (X := fun w _ => laidMetH Tryz.prog Rows.modelFifoRow.laid w) false (World.laidAll Tryz.prog os Rows.modelFifoRow.laid) #[.slice none 0 0] 8 (World.laidAll_os _ _ _)
      (World.shaped_of_ZipB (by kernel_rfl) (by kernel_rfl)) (by kernel_rfl) (by kernel_rfl) (by kernel_rfl)
      (by rw [MakeChecks.laidMetH_plain _ _ _ (by kernel_rfl)]; exact laidMet_laidAll _ (by kernel_rfl) (by kernel_rfl)))
    laidOut3 (by kernel_rfl) (by kernel_rfl) (by kernel_rfl) rfl ?_ ?_
  · intro ds h
    match ds, h with
    | [_], _ => rfl
  · intro W base args ds ps hval hA hL
    have hA' : DataW.TrodAll enc Tryz.prog W 0 (fun _ => true) true Tryz.f5.params.toList args.toList ds ps := hA
    have hval' : ∀ (j : Nat) t v, Tryz.f5.params[j]? = some t → args[j]? = some v → Value.okWide Tryz.prog W .any base t v := hval
    rw [Tryz.params5] at hA' hval'
    obtain ⟨v0, d0, rfl, rfl, h0⟩ := trodAll_one hA'
    obtain ⟨rows0, hs0, hr0⟩ := open_rows sl_22 str_flat rfl (by decide) h0 (WideShapes.okWide_slice sl_22.under (hval' 0 _ v0 rfl rfl))
    obtain ⟨topics, rfl, hw0⟩ := strs_of rows0 hr0
    exact modelFifo_ok W topics hs0
/-- THE ROW HOLDS. -/
theorem modelFifo_row : Rows.ModelFifoSaid :=
  OpenClaim.holds_of_wide 5 Tryz.f5 rfl rfl rfl rfl rfl rfl rfl ⟨rfl, rfl, rfl, rfl, rfl⟩ rfl rfl rfl rfl rfl (by kernel_rfl) Tryz.func5 (by kernel_rfl)
    (of_decide_eq_true (by kernel_rfl)) (by unfold Func.isWrapper; first | (rw [if_pos (by decide +kernel)]; kernel_rfl) | (rw [if_neg (by decide +kernel)]; exact ⟨rfl, rfl⟩))
    (fun os started H enc _ => modelFifo_lifted os started H enc)
/-- THE CARD HOLDS. -/
theorem modelFifo_holds : Rows.ModelFifoCardSaid :=
  Claim7.holds_tied_plain_at .later [] [.data, .pinned] true (true, "4f35ac1e17f343f54db06256f3908921250d5e01a6e084f7330906b985697700") false
    modelFifo_row (fun _ h => by cases h) (by kernel_rfl) (fun _ h => by cases h) modelFifo_row_tie rfl ⟨rfl, rfl⟩ (by kernel_rfl) rfl
    (fun f fn hf hfn => by
      obtain rfl : f = 5 := Option.some.inj ((show Tryz.prog.funcNamed Rows.modelFifoRow.func = some 5 by kernel_rfl).symm.trans hf) |>.symm
      obtain rfl : fn = Tryz.f5 := (Option.some.inj (Tryz.func5.symm.trans hfn)).symm
      exact ⟨by kernel_rfl, fun j t ht => by
        rw [Tryz.params5] at ht
        have hm : t ∈ [22] := by simpa using Array.mem_of_getElem? ht
        have hall : ([22].all fun u => !Tryz.prog.wantsStandIn u) = true := by kernel_rfl
        exact (show Tryz.prog.wantsStandIn t = false by simpa using List.all_eq_true.1 hall t hm)⟩)
    (by kernel_rfl)
#print axioms modelFifo_holds
end Go.Proofs.YtaddeakfojpdoaaGreatDoor
