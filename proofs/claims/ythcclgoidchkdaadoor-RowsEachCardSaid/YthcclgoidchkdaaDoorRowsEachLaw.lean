/- RowsEach: its row, and its tied card. -/
import Derived.Test.YthcclgoidchkdaaDoorBunV12
import Derived.Test.YthcclgoidchkdaaDoorBunV11
import Derived.Test.YthcclgoidchkdaaDoorTie
import Derived.Test.YthcclgoidchkdaaDoorCards
import Derived.SevenTiedAt
set_option linter.unusedVariables false
set_option linter.unusedSimpArgs false
namespace Go.Proofs.YthcclgoidchkdaaDoor
open Go.RowKit Go.Proofs.YthcclgoidchkdaaDoorC Go.ChangeShapes
set_option maxHeartbeats 1600000 in
set_option maxRecDepth 100000 in
theorem rowsEach_lifted (os : Os) (started : os.Started) (H : Type) (enc : TypeId × Value → H) :
    ReturnsInHanded {} Tryd.checked os 6 .any (fun w args => (Rows.rowsEachSpec.pre enc Tryd.prog Tryd.f6 Rows.rowsEachRow.domain false w args ∧ laidMetH Tryd.prog Rows.rowsEachRow.laid w) ∧ sizedMet enc Tryd.prog Tryd.f6 (OpenSpec.ofChange Rows.rowsEachSpec) false w args) (Rows.rowsEachSpec.post enc Tryd.prog Tryd.f6 false true false false) := by
  refine law_liftedL (laidL := Rows.rowsEachRow.laid) (tb := 4) own3 started (by kernel_rfl) Tryd.func6
    (ChangeSpec.witness_shaped (enc := enc) (C := Tryd.checked) (os := os) (X := fun w _ => laidMetH Tryd.prog Rows.rowsEachRow.laid w) false (World.laidAll Tryd.prog os Rows.rowsEachRow.laid) #[.slice none 0 0, .int .u8 0] 8 (World.laidAll_os _ _ _)
      (World.shaped_of_ZipB (by kernel_rfl) (by kernel_rfl)) (by kernel_rfl) (by kernel_rfl) (by kernel_rfl)
      (by rw [MakeChecks.laidMetH_plain _ _ _ (by kernel_rfl)]; exact laidMet_laidAll _ (by kernel_rfl) (by kernel_rfl)))
    laidOut3 (by kernel_rfl) (by kernel_rfl) (by kernel_rfl) rfl ?_ ?_
  · intro ds h
    match ds, h with
    | [_, _], _ => rfl
  · intro W base args ds ps hval hA hL
    have hA' : DataW.TrodAll enc Tryd.prog W 0 (fun _ => true) true Tryd.f6.params.toList args.toList ds ps := hA
    have hval' : ∀ (j : Nat) t v, Tryd.f6.params[j]? = some t → args[j]? = some v → Value.okWide Tryd.prog W .any base t v := hval
    rw [Tryd.params6] at hA' hval'
    obtain ⟨v0, v1, d0, d1, p0, p1, rfl, rfl, rfl, h0, h1⟩ := trodAll_two hA'
    obtain ⟨rows0, hs0, hr0⟩ := open_rows sl_25 call_flat rfl (by decide) h0 (WideShapes.okWide_slice sl_25.under (hval' 0 _ v0 rfl rfl))
    obtain ⟨cs, rfl, hw0⟩ := callsW_of rows0 hr0
    obtain ⟨few, rfl, hw1⟩ := open_num ui_5 h1 (WideShapes.okWide_int ui_5 (hval' 1 _ v1 rfl rfl))
    exact rowsEach_ok W cs hw0 few (u8_rng hw1).1 (u8_rng hw1).2 hs0 (tab_of (by kernel_rfl) hL (by simp [Rows.rowsEachRow]))
/-- THE ROW HOLDS. -/
theorem rowsEach_row : Rows.RowsEachSaid :=
  OpenClaim.holds_of_wide 6 Tryd.f6 rfl rfl rfl rfl rfl rfl rfl ⟨rfl, rfl, rfl, rfl, rfl⟩ rfl rfl rfl rfl rfl (by kernel_rfl) Tryd.func6 (by kernel_rfl)
    (of_decide_eq_true (by kernel_rfl)) (by unfold Func.isWrapper; first | (rw [if_pos (by decide +kernel)]; kernel_rfl) | (rw [if_neg (by decide +kernel)]; exact ⟨rfl, rfl⟩))
    (fun os started H enc _ => rowsEach_lifted os started H enc)
/-- THE CARD HOLDS. -/
theorem rowsEach_holds : Rows.RowsEachCardSaid :=
  Claim7.holds_tied_plain_at .later [] [.data, .data, .data] true (true, "dcfea059b96daabca6727404355fd4033103d74510e583df854e7115075281f3") true
    rowsEach_row (fun _ h => by cases h) (by kernel_rfl) (fun _ h => by cases h) rowsEach_row_tie rfl ⟨rfl, rfl⟩ (by kernel_rfl) rfl
    (fun f fn hf hfn => by
      obtain rfl : f = 6 := Option.some.inj ((show Tryd.prog.funcNamed Rows.rowsEachRow.func = some 6 by kernel_rfl).symm.trans hf) |>.symm
      obtain rfl : fn = Tryd.f6 := (Option.some.inj (Tryd.func6.symm.trans hfn)).symm
      exact ⟨by kernel_rfl, fun j t ht => by
        rw [Tryd.params6] at ht
        have hm : t ∈ [25, 5] := by simpa using Array.mem_of_getElem? ht
        have hall : ([25, 5].all fun u => !Tryd.prog.wantsStandIn u) = true := by kernel_rfl
        exact (show Tryd.prog.wantsStandIn t = false by simpa using List.all_eq_true.1 hall t hm)⟩)
    (by kernel_rfl)
#print axioms rowsEach_holds
end Go.Proofs.YthcclgoidchkdaaDoor
