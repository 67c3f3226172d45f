/- Proved here: PubOnce as its tied card says (PubOnceCardSaid): of many threads that publish one message each to a subscriber of all each message comes once, as far as its queue has room, and the rest are drops, whatever the picks. Conditions: none beyond what the statement itself says. -/
import Derived.Test.YtjklgohpminefaaGreatDoorBunQ19
import Derived.Test.YtjklgohpminefaaGreatDoorTie
import Derived.Test.YtjklgohpminefaaGreatDoorCards
import Derived.SevenTiedAt

set_option linter.unusedVariables false
set_option linter.unusedSimpArgs false
set_option maxRecDepth 1000000
namespace Go.Proofs.YtjklgohpminefaaGreatDoor
open Go.RowKit Go.Proofs.YtjklgohpminefaaGreatDoorC Go.ChangeShapes
set_option maxHeartbeats 1600000 in
set_option maxRecDepth 100000 in
theorem pubOnce_lifted (os : Os) (started : os.Started) (H : Type) (enc : TypeId × Value → H) :
  ReturnsInHanded {} Tryz.checked os 4 .any (fun w args => (Rows.pubOnceSpec.pre enc Tryz.prog Tryz.f4 Rows.pubOnceRow.domain false w args ∧ laidMetH Tryz.prog Rows.pubOnceRow.laid w) ∧ sizedMet enc Tryz.prog Tryz.f4 (OpenSpec.ofChange Rows.pubOnceSpec) false w args) (Rows.pubOnceSpec.post enc Tryz.prog Tryz.f4 false true false false) := by
 refine law_liftedL (laidL := Rows.pubOnceRow.laid) (tb := 4) own3 started (by kernel_rfl) Tryz.func4
  (ChangeSpec.witness_shaped (enc := enc) (C := Tryz.checked) (os := os) (X := fun w _ => laidMetH Tryz.prog Rows.pubOnceRow.laid w) false (World.laidAll Tryz.prog os Rows.pubOnceRow.laid) #[.int .u8 0, .int .u8 0, .slice none 0 0] 8 (World.laidAll_os _ _ _)
   (World.shaped_of_ZipB (by kernel_rfl) (by kernel_rfl)) (by kernel_rfl) (by kernel_rfl) (by kernel_rfl)
   (by rw [MakeChecks.laidMetH_plain _ _ _ (by kernel_rfl)]; exact laidMet_laidAll _ (by kernel_rfl) (by kernel_rfl)))
  laidOut3 (by kernel_rfl) (by kernel_rfl) (by kernel_rfl) rfl ?_ ?_
 ·intro ds h
  match ds, h with
  | [_, _, _], _ => rfl
 ·intro W base args ds ps hval hA hL
  have hA' : DataW.TrodAll enc Tryz.prog W 0 (fun _ => true) true Tryz.f4.params.toList args.toList ds ps := hA
  have hval' : ∀ (j : Nat) t v, Tryz.f4.params[j]? = some t → args[j]? = some v → Value.okWide Tryz.prog W .any base t v := hval
  rw [Tryz.params4] at hA' hval'
  obtain ⟨v0, v1, v2, d0, d1, d2, p0, p1, p2, rfl, rfl, rfl, h0, h1, h2⟩ := trodAll_three hA'
  obtain ⟨cap, rfl, hw0⟩ := open_num ui_5 h0 (WideShapes.okWide_int ui_5 (hval' 0 _ v0 rfl rfl))
  obtain ⟨threads, rfl, hw1⟩ := open_num ui_5 h1 (WideShapes.okWide_int ui_5 (hval' 1 _ v1 rfl rfl))
  obtain ⟨rows2, hs2, hr2⟩ := open_rows Xe int_flat rfl (by decide) h2 (WideShapes.okWide_slice Xe.under (hval' 2 _ v2 rfl rfl))
  obtain ⟨picks, rfl⟩ := ints_of rows2 hr2
  exact (by obtain ⟨a, rfl⟩ := Int.eq_ofNat_of_zero_le (u8_rng hw0).1; obtain ⟨b, rfl⟩ := Int.eq_ofNat_of_zero_le (u8_rng hw1).1; exact pubOnce_ok W a b (by have := (u8_rng hw0).2; omega) (by have := (u8_rng hw1).2; omega) picks hs2)
theorem pubOnce_j0 : (Rows.pubOnceRow.wf (OpenSpec.ofChange Rows.pubOnceSpec)) = true := by kernel_rfl
theorem pubOnce_j1 : (laidOutB Tryz.prog) = true := by kernel_rfl
theorem pubOnce_j2 : (mapsRowed Tryz.prog) = true := by kernel_rfl
theorem pubOnce_j3 : (Tryz.f4.params.all (Tryz.prog.readableRec ·)) = true := by kernel_rfl
theorem pubOnce_j4 : (namedTie Tryz.prog Rows.pubOnceRow.named Rows.pubOnceSpec.vars) = true := by kernel_rfl
theorem pubOnce_j5 : ((Rows.pubOnceRow.stops == [])) = true := by kernel_rfl
theorem pubOnce_j6 : ((Tryz.prog.stops == [])) = true := by kernel_rfl
theorem pubOnce_j7 : ((Rows.pubOnceRow.knobs == [])) = true := by kernel_rfl
theorem pubOnce_j8 : ((Tryz.prog.stopKnobs == [])) = true := by kernel_rfl
theorem pubOnce_j9 : ((Rows.pubOnceRow.inPlace == Tryz.prog.inPlace 4)) = true := by kernel_rfl
theorem pubOnce_j10 : ((Rows.pubOnceRow.unfollowed == Tryz.prog.unfollowed 4)) = true := by kernel_rfl
theorem pubOnce_j11 : ((Rows.pubOnceRow.recurses == Tryz.prog.recurses 4)) = true := by kernel_rfl
theorem pubOnce_j12 : ((Rows.pubOnceRow.named == Tryz.prog.varsNamed 4)) = true := by kernel_rfl
theorem pubOnce_j13 : ((Rows.pubOnceRow.maps == (Tryz.f4.params.toList ++ Rows.pubOnceSpec.plain.varTypes Tryz.prog).any (Tryz.prog.mapsRec ·))) = true := by kernel_rfl
theorem pubOnce_j14 : ((Rows.pubOnceRow.ifaces == (Tryz.f4.params.toList ++ Rows.pubOnceSpec.plain.varTypes Tryz.prog).any (Tryz.prog.ifacesRec ·))) = true := by kernel_rfl
theorem pubOnce_j15 : ((Rows.pubOnceRow.mapsOut == Tryz.prog.mapsAmong Tryz.f4.resultTypes.toList)) = true := by kernel_rfl
theorem pubOnce_j16 : ((Rows.pubOnceRow.loops == (Tryz.f4.params.toList ++ Rows.pubOnceSpec.plain.varTypes Tryz.prog).any (Tryz.prog.loopsFrom ·))) = true := by kernel_rfl
theorem pubOnce_j17 : ((Rows.pubOnceRow.wideKeys == (Tryz.f4.params.toList ++ Rows.pubOnceSpec.plain.varTypes Tryz.prog ++ Tryz.f4.resultTypes.toList).any (Tryz.prog.wideKeysFrom ·))) = true := by kernel_rfl
theorem pubOnce_j18 : (Rows.pubOnceSpec.vars.all (Tryz.prog.varReadable ·)) = true := by kernel_rfl
theorem pubOnce_j19 : (Tryz.f4.resultTypes.all (fun t => Tryz.prog.readableRec t && decide (t < Tryz.prog.types.size))) = true := by kernel_rfl
theorem pubOnce_j20 : ((Rows.pubOnceRow.ifacesOut == Tryz.f4.resultTypes.toList.any (Tryz.prog.ifacesRec ·))) = true := by kernel_rfl
theorem pubOnce_j21 : ((Rows.pubOnceRow.loopsOut == Tryz.f4.resultTypes.toList.any (Tryz.prog.loopsFrom ·))) = true := by kernel_rfl
theorem pubOnce_j22 : ((Rows.pubOnceRow.plainKeys == Tryz.prog.plainKeys)) = true := by kernel_rfl
theorem pubOnce_j23 : (Rows.pubOnceRow.shortTexts.isNone) = true := by kernel_rfl
theorem pubOnce_j24 : (Tryz.prog.stopsHeard) = true := by kernel_rfl
theorem pubOnce_j25 : (Tryz.prog.mayEnter) = true := by kernel_rfl
theorem pubOnce_j26 : ((Rows.pubOnceRow.lifted == Tryz.prog.liftsFinal)) = true := by kernel_rfl
theorem pubOnce_j27 : ((Tryz.prog.make == some Rows.pubOnceRow.make)) = true := by kernel_rfl
theorem pubOnce_j28 : ((Rows.pubOnceRow.kinds == (if Rows.pubOnceRow.domain.isEmpty then [] else Tryz.f4.params.toList.map fun t => match Tryz.prog.underlying t with | some (.int k) => some k | _ => none))) = true := by kernel_rfl
theorem pubOnce_j29 : ((Rows.pubOnceRow.pinned == Rows.pubOnceRow.pinnedBy)) = true := by kernel_rfl
theorem pubOnce_j30 : ((Rows.pubOnceRow.veiled == (Tryz.f4.params.toList ++ Rows.pubOnceSpec.plain.varTypes Tryz.prog ++ Tryz.f4.resultTypes.toList).any (Tryz.prog.veiledRec ·))) = true := by kernel_rfl
theorem pubOnce_j31 : (Rows.pubOnceRow.veiledFits Tryz.prog Tryz.f4.params.toList (Tryz.f4.params.toList ++ Rows.pubOnceSpec.plain.varTypes Tryz.prog ++ Tryz.f4.resultTypes.toList)) = true := by kernel_rfl
theorem pubOnce_and {a b : Bool} (h : a = true) (k : b = true) : (a && b) = true := by rw [h, k]; rfl
set_option maxRecDepth 100000 in
theorem pubOnce_closed : joinedFacts Tryz.prog 4 Tryz.f4 Rows.pubOnceSpec Rows.pubOnceRow = true := (pubOnce_and (pubOnce_and (pubOnce_and (pubOnce_and (pubOnce_and (pubOnce_and (pubOnce_and (pubOnce_and (pubOnce_and (pubOnce_and (pubOnce_and (pubOnce_and (pubOnce_and (pubOnce_and (pubOnce_and (pubOnce_and (pubOnce_and (pubOnce_and (pubOnce_and (pubOnce_and (pubOnce_and (pubOnce_and (pubOnce_and (pubOnce_and (pubOnce_and (pubOnce_and (pubOnce_and (pubOnce_and (pubOnce_and (pubOnce_and (pubOnce_and pubOnce_j0 pubOnce_j1) pubOnce_j2) pubOnce_j3) pubOnce_j4) pubOnce_j5) pubOnce_j6) pubOnce_j7) pubOnce_j8) pubOnce_j9) pubOnce_j10) pubOnce_j11) pubOnce_j12) pubOnce_j13) pubOnce_j14) pubOnce_j15) pubOnce_j16) pubOnce_j17) pubOnce_j18) pubOnce_j19) pubOnce_j20) pubOnce_j21) pubOnce_j22) pubOnce_j23) pubOnce_j24) pubOnce_j25) pubOnce_j26) pubOnce_j27) pubOnce_j28) pubOnce_j29) pubOnce_j30) pubOnce_j31)
theorem pubOnce_named : Tryz.prog.funcNamed Rows.pubOnceRow.func = some 4 := by kernel_rfl
theorem pubOnce_inst : Tryz.f4.isInstance Tryz.prog Rows.pubOnceRow.origin Rows.pubOnceRow.targs := of_decide_eq_true (by kernel_rfl)
theorem pubOnce_wrap : Tryz.f4.isWrapper Tryz.prog Rows.pubOnceRow.wrapper Rows.pubOnceRow.mainSum := by unfold Func.isWrapper; first | (rw [if_pos (by decide +kernel)]; kernel_rfl) | (rw [if_neg (by decide +kernel)]; exact ⟨rfl, rfl⟩)
theorem pubOnce_row : Rows.PubOnceSaid :=
 OpenClaim.holds_of_wide 4 Tryz.f4 rfl rfl rfl rfl rfl rfl rfl ⟨rfl, rfl, rfl, rfl, rfl⟩ rfl rfl rfl rfl rfl pubOnce_named Tryz.func4 pubOnce_closed
  pubOnce_inst pubOnce_wrap (fun os started H enc _ => pubOnce_lifted os started H enc)
theorem pubOnce_text : Rows.pubOnceRow.wfByText (OpenSpec.ofChange Rows.pubOnceSpec) = true := by kernel_rfl
theorem pubOnce_main : Tryz.prog.mainIs = some (true, "287c7bf8528ccd7c3f9ee919b203e9b559a1227c0e1a825b044f480aef88b956".toList) := by kernel_rfl
theorem pubOnce_goes : false = Rows.pubOnceRow.goesBy Tryz.prog := by kernel_rfl
theorem pubOnce_looks : false = Tryz.prog.looks [] := by kernel_rfl
theorem pubOnce_wants : ([5, 5, 27].all fun u => !Tryz.prog.wantsStandIn u) = true := by kernel_rfl
theorem pubOnce_holds : Rows.PubOnceCardSaid :=
 Claim7.holds_tied_plain_at .later [] [.data, .pinned] true (true, "287c7bf8528ccd7c3f9ee919b203e9b559a1227c0e1a825b044f480aef88b956") false
  pubOnce_row (fun _ h => by cases h) pubOnce_text (fun _ h => by cases h) pubOnce_row_tie rfl ⟨rfl, rfl⟩ pubOnce_main rfl
  (fun f fn hf hfn => by
   obtain rfl : f = 4 := Option.some.inj (pubOnce_named.symm.trans hf) |>.symm
   obtain rfl : fn = Tryz.f4 := (Option.some.inj (Tryz.func4.symm.trans hfn)).symm
   exact ⟨pubOnce_looks, fun j t ht => by
    rw [Tryz.params4] at ht
    have hm : t ∈ [5, 5, 27] := by simpa using Array.mem_of_getElem? ht
    exact (show Tryz.prog.wantsStandIn t = false by simpa using List.all_eq_true.1 pubOnce_wants t hm)⟩)
  pubOnce_goes
#print axioms pubOnce_holds
end Go.Proofs.YtjklgohpminefaaGreatDoor
