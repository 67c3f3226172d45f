/- LinNone: its row, and its tied card. -/
import Derived.Test.YthcclgoidchkdaaDoorLin9
import Derived.Test.YthcclgoidchkdaaDoorCoreS
import Derived.Test.YthcclgoidchkdaaDoorTopRow
import Derived.Test.YthcclgoidchkdaaDoorLinRow
import Derived.Test.YthcclgoidchkdaaDoorTie
import Derived.Test.YthcclgoidchkdaaDoorCards
import Derived.SevenTiedAt
set_option linter.unusedVariables false
set_option linter.unusedSimpArgs false
namespace Go.Proofs.YthcclgoidchkdaaDoor
open Go.RowKit Go.Proofs.YthcclgoidchkdaaDoorC Go.ChangeShapes
set_option maxHeartbeats 1600000 in
set_option maxRecDepth 100000 in
theorem linNone_lifted (os : Os) (started : os.Started) (H : Type) (enc : TypeId × Value → H) :
    ReturnsInHanded {} Tryd.checked os 5 .any (fun w args => (Rows.linNoneSpec.pre enc Tryd.prog Tryd.f5 Rows.linNoneRow.domain false w args ∧ laidMetH Tryd.prog Rows.linNoneRow.laid w) ∧ sizedMet enc Tryd.prog Tryd.f5 (OpenSpec.ofChange Rows.linNoneSpec) false w args) (Rows.linNoneSpec.post enc Tryd.prog Tryd.f5 false true false false) := by
  refine law_liftedL (laidL := Rows.linNoneRow.laid) (tb := 4) own3 started (by kernel_rfl) Tryd.func5
    (ChangeSpec.witness_shaped (enc := enc) (C := Tryd.checked) (os := os) (X := fun w _ => laidMetH Tryd.prog Rows.linNoneRow.laid w) false (World.laidAll Tryd.prog os Rows.linNoneRow.laid) #[.int .u8 0] 8 (World.laidAll_os _ _ _)
      (World.shaped_of_ZipB (by kernel_rfl) (by kernel_rfl)) (by kernel_rfl) (by kernel_rfl) (by kernel_rfl)
      (by rw [MakeChecks.laidMetH_plain _ _ _ (by kernel_rfl)]; exact laidMet_laidAll _ (by kernel_rfl) (by kernel_rfl)))
    laidOut3 (by kernel_rfl) (by kernel_rfl) (by kernel_rfl) rfl ?_ ?_
  · intro ds h
    match ds, h with
    | [_], _ => rfl
  · intro W base args ds ps hval hA hL
    have hA' : DataW.TrodAll enc Tryd.prog W 0 (fun _ => true) true Tryd.f5.params.toList args.toList ds ps := hA
    have hval' : ∀ (j : Nat) t v, Tryd.f5.params[j]? = some t → args[j]? = some v → Value.okWide Tryd.prog W .any base t v := hval
    rw [Tryd.params5] at hA' hval'
    obtain ⟨v0, d0, rfl, rfl, h0⟩ := trodAll_one hA'
    obtain ⟨n, rfl, hw0⟩ := open_num ui_5 h0 (WideShapes.okWide_int ui_5 (hval' 0 _ v0 rfl rfl))
    exact (by obtain ⟨m, rfl⟩ : ∃ m : Nat, n = (m : Int) := ⟨n.toNat, by have := u8_rng hw0; omega⟩; exact linNone_ok W m (by have := u8_rng hw0; omega) (tab_of (by kernel_rfl) hL (by simp [Rows.linNoneRow])))
/-- THE ROW HOLDS. -/
theorem linNone_row : Rows.LinNoneSaid :=
  OpenClaim.holds_of_wide 5 Tryd.f5 rfl rfl rfl rfl rfl rfl rfl ⟨rfl, rfl, rfl, rfl, rfl⟩ rfl rfl rfl rfl rfl (by kernel_rfl) Tryd.func5 (by kernel_rfl)
    (of_decide_eq_true (by kernel_rfl)) (by unfold Func.isWrapper; first | (rw [if_pos (by decide +kernel)]; kernel_rfl) | (rw [if_neg (by decide +kernel)]; exact ⟨rfl, rfl⟩))
    (fun os started H enc _ => linNone_lifted os started H enc)
/-- THE CARD HOLDS. -/
theorem linNone_holds : Rows.LinNoneCardSaid :=
  Claim7.holds_tied_plain_at .later [] [.data, .data, .data] true (true, "dcfea059b96daabca6727404355fd4033103d74510e583df854e7115075281f3") true
    linNone_row (fun _ h => by cases h) (by kernel_rfl) (fun _ h => by cases h) linNone_row_tie rfl ⟨rfl, rfl⟩ (by kernel_rfl) rfl
    (fun f fn hf hfn => by
      obtain rfl : f = 5 := Option.some.inj ((show Tryd.prog.funcNamed Rows.linNoneRow.func = some 5 by kernel_rfl).symm.trans hf) |>.symm
      obtain rfl : fn = Tryd.f5 := (Option.some.inj (Tryd.func5.symm.trans hfn)).symm
      exact ⟨by kernel_rfl, fun j t ht => by
        rw [Tryd.params5] at ht
        have hm : t ∈ [5] := by simpa using Array.mem_of_getElem? ht
        have hall : ([5].all fun u => !Tryd.prog.wantsStandIn u) = true := by kernel_rfl
        exact (show Tryd.prog.wantsStandIn t = false by simpa using List.all_eq_true.1 hall t hm)⟩)
    (by kernel_rfl)
#print axioms linNone_holds
end Go.Proofs.YthcclgoidchkdaaDoor
