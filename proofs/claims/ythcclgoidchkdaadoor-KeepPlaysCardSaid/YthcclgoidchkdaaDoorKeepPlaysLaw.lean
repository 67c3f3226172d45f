/- KeepPlays: its row, and its tied card. -/
import Derived.Test.YthcclgoidchkdaaDoorStrsRow
import Derived.Test.YthcclgoidchkdaaDoorKeep6
import Derived.Test.YthcclgoidchkdaaDoorTie
import Derived.Test.YthcclgoidchkdaaDoorCards
import Derived.SevenTiedAt
set_option linter.unusedVariables false
set_option linter.unusedSimpArgs false
namespace Go.Proofs.YthcclgoidchkdaaDoor
open Go.RowKit Go.Proofs.YthcclgoidchkdaaDoorC Go.ChangeShapes
set_option maxHeartbeats 1600000 in
set_option maxRecDepth 100000 in
theorem keepPlays_lifted (os : Os) (started : os.Started) (H : Type) (enc : TypeId × Value → H) :
    ReturnsInHanded {} Tryd.checked os 7 .any (fun w args => (Rows.keepPlaysSpec.pre enc Tryd.prog Tryd.f7 Rows.keepPlaysRow.domain false w args ∧ laidMetH Tryd.prog Rows.keepPlaysRow.laid w) ∧ sizedMet enc Tryd.prog Tryd.f7 (OpenSpec.ofChange Rows.keepPlaysSpec) false w args) (Rows.keepPlaysSpec.post enc Tryd.prog Tryd.f7 false true false false) := by
  refine law_liftedL (laidL := Rows.keepPlaysRow.laid) (tb := 4) own3 started (by kernel_rfl) Tryd.func7
    (ChangeSpec.witness_shaped (enc := enc) (C := Tryd.checked) (os := os) (X := fun w _ => laidMetH Tryd.prog Rows.keepPlaysRow.laid w) false (World.laidAll Tryd.prog os Rows.keepPlaysRow.laid) #[.slice none 0 0, .slice none 0 0, .string ⟨#[]⟩, .string ⟨#[]⟩] 8 (World.laidAll_os _ _ _)
      (World.shaped_of_ZipB (by kernel_rfl) (by kernel_rfl)) (by kernel_rfl) (by kernel_rfl) (by kernel_rfl)
      (by rw [MakeChecks.laidMetH_plain _ _ _ (by kernel_rfl)]; exact laidMet_laidAll _ (by kernel_rfl) (by kernel_rfl)))
    laidOut3 (by kernel_rfl) (by kernel_rfl) (by kernel_rfl) rfl ?_ ?_
  · intro ds h
    match ds, h with
    | [_, _, _, _], _ => rfl
  · intro W base args ds ps hval hA hL
    have hA' : DataW.TrodAll enc Tryd.prog W 0 (fun _ => true) true Tryd.f7.params.toList args.toList ds ps := hA
    have hval' : ∀ (j : Nat) t v, Tryd.f7.params[j]? = some t → args[j]? = some v → Value.okWide Tryd.prog W .any base t v := hval
    rw [Tryd.params7] at hA' hval'
    obtain ⟨v0, v1, v2, v3, d0, d1, d2, d3, p0, p1, p2, p3, rfl, rfl, rfl, h0, h1, h2, h3⟩ := trodAll_four hA'
    obtain ⟨rows0, hs0, hr0⟩ := open_rows sl_68 str_flat rfl (by decide) h0 (WideShapes.okWide_slice sl_68.under (hval' 0 _ v0 rfl rfl))
    obtain ⟨topics, rfl, hw0⟩ := strs_of rows0 hr0
    obtain ⟨rows1, hs1, hr1⟩ := open_rows sl_68 str_flat rfl (by decide) h1 (WideShapes.okWide_slice sl_68.under (hval' 1 _ v1 rfl rfl))
    obtain ⟨payloads, rfl, hw1⟩ := strs_of rows1 hr1
    obtain ⟨f, rfl, hw2⟩ := open_text us_9 h2 (WideShapes.okWide_string us_9 (hval' 2 _ v2 rfl rfl))
    obtain ⟨q, rfl, hw3⟩ := open_text us_9 h3 (WideShapes.okWide_string us_9 (hval' 3 _ v3 rfl rfl))
    exact keepPlays_ok W topics payloads f q hs0 hs1
/-- THE ROW HOLDS. -/
theorem keepPlays_row : Rows.KeepPlaysSaid :=
  OpenClaim.holds_of_wide 7 Tryd.f7 rfl rfl rfl rfl rfl rfl rfl ⟨rfl, rfl, rfl, rfl, rfl⟩ rfl rfl rfl rfl rfl (by kernel_rfl) Tryd.func7 (by kernel_rfl)
    (of_decide_eq_true (by kernel_rfl)) (by unfold Func.isWrapper; first | (rw [if_pos (by decide +kernel)]; kernel_rfl) | (rw [if_neg (by decide +kernel)]; exact ⟨rfl, rfl⟩))
    (fun os started H enc _ => keepPlays_lifted os started H enc)
/-- THE CARD HOLDS. -/
theorem keepPlays_holds : Rows.KeepPlaysCardSaid :=
  Claim7.holds_tied_plain_at .later [] [.data, .pinned] true (true, "dcfea059b96daabca6727404355fd4033103d74510e583df854e7115075281f3") true
    keepPlays_row (fun _ h => by cases h) (by kernel_rfl) (fun _ h => by cases h) keepPlays_row_tie rfl ⟨rfl, rfl⟩ (by kernel_rfl) rfl
    (fun f fn hf hfn => by
      obtain rfl : f = 7 := Option.some.inj ((show Tryd.prog.funcNamed Rows.keepPlaysRow.func = some 7 by kernel_rfl).symm.trans hf) |>.symm
      obtain rfl : fn = Tryd.f7 := (Option.some.inj (Tryd.func7.symm.trans hfn)).symm
      exact ⟨by kernel_rfl, fun j t ht => by
        rw [Tryd.params7] at ht
        have hm : t ∈ [68, 68, 9, 9] := by simpa using Array.mem_of_getElem? ht
        have hall : ([68, 68, 9, 9].all fun u => !Tryd.prog.wantsStandIn u) = true := by kernel_rfl
        exact (show Tryd.prog.wantsStandIn t = false by simpa using List.all_eq_true.1 hall t hm)⟩)
    (by kernel_rfl)
#print axioms keepPlays_holds
end Go.Proofs.YthcclgoidchkdaaDoor
