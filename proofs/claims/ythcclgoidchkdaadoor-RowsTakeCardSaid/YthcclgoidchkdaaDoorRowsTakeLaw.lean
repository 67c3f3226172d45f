/- RowsTake: its row, and its tied card. -/
import Derived.Test.YthcclgoidchkdaaDoorBunV11
import Derived.Test.YthcclgoidchkdaaDoorTie
import Derived.Test.YthcclgoidchkdaaDoorCards
import Derived.SevenTiedAt
set_option linter.unusedVariables false
set_option linter.unusedSimpArgs false
namespace Go.Proofs.YthcclgoidchkdaaDoor
open Go.RowKit Go.Proofs.YthcclgoidchkdaaDoorC Go.ChangeShapes
set_option maxHeartbeats 1600000 in
set_option maxRecDepth 100000 in
theorem rowsTake_lifted (os : Os) (started : os.Started) (H : Type) (enc : TypeId × Value → H) :
    ReturnsInHanded {} Tryd.checked os 12 .any (fun w args => (Rows.rowsTakeSpec.pre enc Tryd.prog Tryd.f12 Rows.rowsTakeRow.domain false w args ∧ laidMetH Tryd.prog Rows.rowsTakeRow.laid w) ∧ sizedMet enc Tryd.prog Tryd.f12 (OpenSpec.ofChange Rows.rowsTakeSpec) false w args) (Rows.rowsTakeSpec.post enc Tryd.prog Tryd.f12 false true false false) := by
  refine law_liftedL (laidL := Rows.rowsTakeRow.laid) (tb := 4) own3 started (by kernel_rfl) Tryd.func12
    (ChangeSpec.witness_shaped (enc := enc) (C := Tryd.checked) (os := os) (X := fun w _ => laidMetH Tryd.prog Rows.rowsTakeRow.laid w) false (World.laidAll Tryd.prog os Rows.rowsTakeRow.laid) #[.string ⟨#[]⟩] 8 (World.laidAll_os _ _ _)
      (World.shaped_of_ZipB (by kernel_rfl) (by kernel_rfl)) (by kernel_rfl) (by kernel_rfl) (by kernel_rfl)
      (by rw [MakeChecks.laidMetH_plain _ _ _ (by kernel_rfl)]; exact laidMet_laidAll _ (by kernel_rfl) (by kernel_rfl)))
    laidOut3 (by kernel_rfl) (by kernel_rfl) (by kernel_rfl) rfl ?_ ?_
  · intro ds h
    match ds, h with
    | [_], _ => rfl
  · intro W base args ds ps hval hA hL
    have hA' : DataW.TrodAll enc Tryd.prog W 0 (fun _ => true) true Tryd.f12.params.toList args.toList ds ps := hA
    have hval' : ∀ (j : Nat) t v, Tryd.f12.params[j]? = some t → args[j]? = some v → Value.okWide Tryd.prog W .any base t v := hval
    rw [Tryd.params12] at hA' hval'
    obtain ⟨v0, d0, rfl, rfl, h0⟩ := trodAll_one hA'
    obtain ⟨s, rfl, hw0⟩ := open_text us_9 h0 (WideShapes.okWide_string us_9 (hval' 0 _ v0 rfl rfl))
    exact rowsTake_ok W s (tab_of (by kernel_rfl) hL (by simp [Rows.rowsTakeRow])) (errs_of (by kernel_rfl) hL (by simp [Rows.rowsTakeRow]) (by simp [Rows.rowsTakeRow]))
/-- THE ROW HOLDS. -/
theorem rowsTake_row : Rows.RowsTakeSaid :=
  OpenClaim.holds_of_wide 12 Tryd.f12 rfl rfl rfl rfl rfl rfl rfl ⟨rfl, rfl, rfl, rfl, rfl⟩ rfl rfl rfl rfl rfl (by kernel_rfl) Tryd.func12 (by kernel_rfl)
    (of_decide_eq_true (by kernel_rfl)) (by unfold Func.isWrapper; first | (rw [if_pos (by decide +kernel)]; kernel_rfl) | (rw [if_neg (by decide +kernel)]; exact ⟨rfl, rfl⟩))
    (fun os started H enc _ => rowsTake_lifted os started H enc)
/-- THE CARD HOLDS. -/
theorem rowsTake_holds : Rows.RowsTakeCardSaid :=
  Claim7.holds_tied_plain_at .later [] [.data, .data, .data, .data, .sentinel, .sentinel, .pinned] true (true, "dcfea059b96daabca6727404355fd4033103d74510e583df854e7115075281f3") true
    rowsTake_row (fun _ h => by cases h) (by kernel_rfl) (fun _ h => by cases h) rowsTake_row_tie rfl ⟨rfl, rfl⟩ (by kernel_rfl) rfl
    (fun f fn hf hfn => by
      obtain rfl : f = 12 := Option.some.inj ((show Tryd.prog.funcNamed Rows.rowsTakeRow.func = some 12 by kernel_rfl).symm.trans hf) |>.symm
      obtain rfl : fn = Tryd.f12 := (Option.some.inj (Tryd.func12.symm.trans hfn)).symm
      exact ⟨by kernel_rfl, fun j t ht => by
        rw [Tryd.params12] at ht
        have hm : t ∈ [9] := by simpa using Array.mem_of_getElem? ht
        have hall : ([9].all fun u => !Tryd.prog.wantsStandIn u) = true := by kernel_rfl
        exact (show Tryd.prog.wantsStandIn t = false by simpa using List.all_eq_true.1 hall t hm)⟩)
    (by kernel_rfl)
#print axioms rowsTake_holds
end Go.Proofs.YthcclgoidchkdaaDoor
