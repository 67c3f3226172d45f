/- LinFinds: its row, and its tied card. -/
import Derived.Test.YthcclgoidchkdaaDoorLin10
import Derived.Test.YthcclgoidchkdaaDoorCoreS
import Derived.Test.YthcclgoidchkdaaDoorTopRow
import Derived.Test.YthcclgoidchkdaaDoorLinRow
import Derived.Test.YthcclgoidchkdaaDoorLinU
import Derived.Test.YthcclgoidchkdaaDoorTie
import Derived.Test.YthcclgoidchkdaaDoorCards
import Derived.SevenTiedAt
set_option linter.unusedVariables false
set_option linter.unusedSimpArgs false
namespace Go.Proofs.YthcclgoidchkdaaDoor
open Go.RowKit Go.Proofs.YthcclgoidchkdaaDoorC Go.ChangeShapes
set_option maxHeartbeats 1600000 in
set_option maxRecDepth 100000 in
theorem linFinds_lifted (os : Os) (started : os.Started) (H : Type) (enc : TypeId × Value → H) :
    ReturnsInHanded {} Tryd.checked os 3 .any (fun w args => (Rows.linFindsSpec.pre enc Tryd.prog Tryd.f3 Rows.linFindsRow.domain false w args ∧ laidMetH Tryd.prog Rows.linFindsRow.laid w) ∧ sizedMet enc Tryd.prog Tryd.f3 (OpenSpec.ofChange Rows.linFindsSpec) false w args) (Rows.linFindsSpec.post enc Tryd.prog Tryd.f3 false true false false) := by
  refine law_liftedL (laidL := Rows.linFindsRow.laid) (tb := 4) own3 started (by kernel_rfl) Tryd.func3
    (ChangeSpec.witness_shaped (enc := enc) (C := Tryd.checked) (os := os) (X := fun w _ => laidMetH Tryd.prog Rows.linFindsRow.laid w) false (World.laidAll Tryd.prog os Rows.linFindsRow.laid) #[.slice none 0 0, .slice none 0 0] 8 (World.laidAll_os _ _ _)
      (World.shaped_of_ZipB (by kernel_rfl) (by kernel_rfl)) (by kernel_rfl) (by kernel_rfl) (by kernel_rfl)
      (by rw [MakeChecks.laidMetH_plain _ _ _ (by kernel_rfl)]; exact laidMet_laidAll _ (by kernel_rfl) (by kernel_rfl)))
    laidOut3 (by kernel_rfl) (by kernel_rfl) (by kernel_rfl) rfl ?_ ?_
  · intro ds h
    match ds, h with
    | [_, _], _ => rfl
  · intro W base args ds ps hval hA hL
    have hA' : DataW.TrodAll enc Tryd.prog W 0 (fun _ => true) true Tryd.f3.params.toList args.toList ds ps := hA
    have hval' : ∀ (j : Nat) t v, Tryd.f3.params[j]? = some t → args[j]? = some v → Value.okWide Tryd.prog W .any base t v := hval
    rw [Tryd.params3] at hA' hval'
    obtain ⟨v0, v1, d0, d1, p0, p1, rfl, rfl, rfl, h0, h1⟩ := trodAll_two hA'
    obtain ⟨rows0, hs0, hr0⟩ := open_rows sl_22 op_flat rfl (by decide) h0 (WideShapes.okWide_slice sl_22.under (hval' 0 _ v0 rfl rfl))
    obtain ⟨ops, rfl⟩ := ops_of rows0 hr0
    obtain ⟨rows1, hs1, hr1⟩ := open_rows sl_23 u8_flat rfl (by decide) h1 (WideShapes.okWide_slice sl_23.under (hval' 1 _ v1 rfl rfl))
    obtain ⟨spans, rfl, hw1⟩ := u8s_of rows1 hr1
    exact linFinds_ok W ops spans hw1 hs0 hs1 (tab_of (by kernel_rfl) hL (by simp [Rows.linFindsRow]))
/-- THE ROW HOLDS. -/
theorem linFinds_row : Rows.LinFindsSaid :=
  OpenClaim.holds_of_wide 3 Tryd.f3 rfl rfl rfl rfl rfl rfl rfl ⟨rfl, rfl, rfl, rfl, rfl⟩ rfl rfl rfl rfl rfl (by kernel_rfl) Tryd.func3 (by kernel_rfl)
    (of_decide_eq_true (by kernel_rfl)) (by unfold Func.isWrapper; first | (rw [if_pos (by decide +kernel)]; kernel_rfl) | (rw [if_neg (by decide +kernel)]; exact ⟨rfl, rfl⟩))
    (fun os started H enc _ => linFinds_lifted os started H enc)
/-- THE CARD HOLDS. -/
theorem linFinds_holds : Rows.LinFindsCardSaid :=
  Claim7.holds_tied_plain_at .later [] [.data, .data, .data] true (true, "dcfea059b96daabca6727404355fd4033103d74510e583df854e7115075281f3") true
    linFinds_row (fun _ h => by cases h) (by kernel_rfl) (fun _ h => by cases h) linFinds_row_tie rfl ⟨rfl, rfl⟩ (by kernel_rfl) rfl
    (fun f fn hf hfn => by
      obtain rfl : f = 3 := Option.some.inj ((show Tryd.prog.funcNamed Rows.linFindsRow.func = some 3 by kernel_rfl).symm.trans hf) |>.symm
      obtain rfl : fn = Tryd.f3 := (Option.some.inj (Tryd.func3.symm.trans hfn)).symm
      exact ⟨by kernel_rfl, fun j t ht => by
        rw [Tryd.params3] at ht
        have hm : t ∈ [22, 23] := by simpa using Array.mem_of_getElem? ht
        have hall : ([22, 23].all fun u => !Tryd.prog.wantsStandIn u) = true := by kernel_rfl
        exact (show Tryd.prog.wantsStandIn t = false by simpa using List.all_eq_true.1 hall t hm)⟩)
    (by kernel_rfl)
#print axioms linFinds_holds
end Go.Proofs.YthcclgoidchkdaaDoor
