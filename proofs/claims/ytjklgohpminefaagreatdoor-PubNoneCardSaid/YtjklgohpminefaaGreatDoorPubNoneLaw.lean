/- Proved here: PubNone as its tied card says (PubNoneCardSaid): of a nil core a step hands what the document says. Conditions: none beyond what the statement itself says. -/
import Derived.Test.YtjklgohpminefaaGreatDoorBunP18
import Derived.Test.YtjklgohpminefaaGreatDoorTie
import Derived.Test.YtjklgohpminefaaGreatDoorCards
import Derived.SevenTiedAt

set_option linter.unusedVariables false
set_option linter.unusedSimpArgs false
set_option maxRecDepth 1000000
namespace Go.Proofs.YtjklgohpminefaaGreatDoor
open Go.RowKit Go.Proofs.YtjklgohpminefaaGreatDoorC Go.ChangeShapes
set_option maxHeartbeats 1600000 in
set_option maxRecDepth 100000 in
theorem pubNone_lifted (os : Os) (started : os.Started) (H : Type) (enc : TypeId × Value → H) :
  ReturnsInHanded {} Tryz.checked os 3 .any (fun w args => (Rows.pubNoneSpec.pre enc Tryz.prog Tryz.f3 Rows.pubNoneRow.domain false w args ∧ laidMetH Tryz.prog Rows.pubNoneRow.laid w) ∧ sizedMet enc Tryz.prog Tryz.f3 (OpenSpec.ofChange Rows.pubNoneSpec) false w args) (Rows.pubNoneSpec.post enc Tryz.prog Tryz.f3 false true false false) := by
 refine law_liftedL (laidL := Rows.pubNoneRow.laid) (tb := 4) own3 started (by kernel_rfl) Tryz.func3
  (ChangeSpec.witness_shaped (enc := enc) (C := Tryz.checked) (os := os) (X := fun w _ => laidMetH Tryz.prog Rows.pubNoneRow.laid w) false (World.laidAll Tryz.prog os Rows.pubNoneRow.laid) #[.string ⟨#[]⟩, .string ⟨#[]⟩] 8 (World.laidAll_os _ _ _)
   (World.shaped_of_ZipB (by kernel_rfl) (by kernel_rfl)) (by kernel_rfl) (by kernel_rfl) (by kernel_rfl)
   (by rw [MakeChecks.laidMetH_plain _ _ _ (by kernel_rfl)]; exact laidMet_laidAll _ (by kernel_rfl) (by kernel_rfl)))
  laidOut3 (by kernel_rfl) (by kernel_rfl) (by kernel_rfl) rfl ?_ ?_
 ·intro ds h
  match ds, h with
  | [_, _], _ => rfl
 ·intro W base args ds ps hval hA hL
  have hA' : DataW.TrodAll enc Tryz.prog W 0 (fun _ => true) true Tryz.f3.params.toList args.toList ds ps := hA
  have hval' : ∀ (j : Nat) t v, Tryz.f3.params[j]? = some t → args[j]? = some v → Value.okWide Tryz.prog W .any base t v := hval
  rw [Tryz.params3] at hA' hval'
  obtain ⟨v0, v1, d0, d1, p0, p1, rfl, rfl, rfl, h0, h1⟩ := trodAll_two hA'
  obtain ⟨topic, rfl, hw0⟩ := open_text X7 h0 (WideShapes.okWide_string X7 (hval' 0 _ v0 rfl rfl))
  obtain ⟨payload, rfl, hw1⟩ := open_text X7 h1 (WideShapes.okWide_string X7 (hval' 1 _ v1 rfl rfl))
  exact pubNone_ok W topic payload
theorem pubNone_j0 : (Rows.pubNoneRow.wf (OpenSpec.ofChange Rows.pubNoneSpec)) = true := by kernel_rfl
theorem pubNone_j1 : (laidOutB Tryz.prog) = true := by kernel_rfl
theorem pubNone_j2 : (mapsRowed Tryz.prog) = true := by kernel_rfl
theorem pubNone_j3 : (Tryz.f3.params.all (Tryz.prog.readableRec ·)) = true := by kernel_rfl
theorem pubNone_j4 : (namedTie Tryz.prog Rows.pubNoneRow.named Rows.pubNoneSpec.vars) = true := by kernel_rfl
theorem pubNone_j5 : ((Rows.pubNoneRow.stops == [])) = true := by kernel_rfl
theorem pubNone_j6 : ((Tryz.prog.stops == [])) = true := by kernel_rfl
theorem pubNone_j7 : ((Rows.pubNoneRow.knobs == [])) = true := by kernel_rfl
theorem pubNone_j8 : ((Tryz.prog.stopKnobs == [])) = true := by kernel_rfl
theorem pubNone_j9 : ((Rows.pubNoneRow.inPlace == Tryz.prog.inPlace 3)) = true := by kernel_rfl
theorem pubNone_j10 : ((Rows.pubNoneRow.unfollowed == Tryz.prog.unfollowed 3)) = true := by kernel_rfl
theorem pubNone_j11 : ((Rows.pubNoneRow.recurses == Tryz.prog.recurses 3)) = true := by kernel_rfl
theorem pubNone_j12 : ((Rows.pubNoneRow.named == Tryz.prog.varsNamed 3)) = true := by kernel_rfl
theorem pubNone_j13 : ((Rows.pubNoneRow.maps == (Tryz.f3.params.toList ++ Rows.pubNoneSpec.plain.varTypes Tryz.prog).any (Tryz.prog.mapsRec ·))) = true := by kernel_rfl
theorem pubNone_j14 : ((Rows.pubNoneRow.ifaces == (Tryz.f3.params.toList ++ Rows.pubNoneSpec.plain.varTypes Tryz.prog).any (Tryz.prog.ifacesRec ·))) = true := by kernel_rfl
theorem pubNone_j15 : ((Rows.pubNoneRow.mapsOut == Tryz.prog.mapsAmong Tryz.f3.resultTypes.toList)) = true := by kernel_rfl
theorem pubNone_j16 : ((Rows.pubNoneRow.loops == (Tryz.f3.params.toList ++ Rows.pubNoneSpec.plain.varTypes Tryz.prog).any (Tryz.prog.loopsFrom ·))) = true := by kernel_rfl
theorem pubNone_j17 : ((Rows.pubNoneRow.wideKeys == (Tryz.f3.params.toList ++ Rows.pubNoneSpec.plain.varTypes Tryz.prog ++ Tryz.f3.resultTypes.toList).any (Tryz.prog.wideKeysFrom ·))) = true := by kernel_rfl
theorem pubNone_j18 : (Rows.pubNoneSpec.vars.all (Tryz.prog.varReadable ·)) = true := by kernel_rfl
theorem pubNone_j19 : (Tryz.f3.resultTypes.all (fun t => Tryz.prog.readableRec t && decide (t < Tryz.prog.types.size))) = true := by kernel_rfl
theorem pubNone_j20 : ((Rows.pubNoneRow.ifacesOut == Tryz.f3.resultTypes.toList.any (Tryz.prog.ifacesRec ·))) = true := by kernel_rfl
theorem pubNone_j21 : ((Rows.pubNoneRow.loopsOut == Tryz.f3.resultTypes.toList.any (Tryz.prog.loopsFrom ·))) = true := by kernel_rfl
theorem pubNone_j22 : ((Rows.pubNoneRow.plainKeys == Tryz.prog.plainKeys)) = true := by kernel_rfl
theorem pubNone_j23 : (Rows.pubNoneRow.shortTexts.isNone) = true := by kernel_rfl
theorem pubNone_j24 : (Tryz.prog.stopsHeard) = true := by kernel_rfl
theorem pubNone_j25 : (Tryz.prog.mayEnter) = true := by kernel_rfl
theorem pubNone_j26 : ((Rows.pubNoneRow.lifted == Tryz.prog.liftsFinal)) = true := by kernel_rfl
theorem pubNone_j27 : ((Tryz.prog.make == some Rows.pubNoneRow.make)) = true := by kernel_rfl
theorem pubNone_j28 : ((Rows.pubNoneRow.kinds == (if Rows.pubNoneRow.domain.isEmpty then [] else Tryz.f3.params.toList.map fun t => match Tryz.prog.underlying t with | some (.int k) => some k | _ => none))) = true := by kernel_rfl
theorem pubNone_j29 : ((Rows.pubNoneRow.pinned == Rows.pubNoneRow.pinnedBy)) = true := by kernel_rfl
theorem pubNone_j30 : ((Rows.pubNoneRow.veiled == (Tryz.f3.params.toList ++ Rows.pubNoneSpec.plain.varTypes Tryz.prog ++ Tryz.f3.resultTypes.toList).any (Tryz.prog.veiledRec ·))) = true := by kernel_rfl
theorem pubNone_j31 : (Rows.pubNoneRow.veiledFits Tryz.prog Tryz.f3.params.toList (Tryz.f3.params.toList ++ Rows.pubNoneSpec.plain.varTypes Tryz.prog ++ Tryz.f3.resultTypes.toList)) = true := by kernel_rfl
theorem pubNone_and {a b : Bool} (h : a = true) (k : b = true) : (a && b) = true := by rw [h, k]; rfl
set_option maxRecDepth 100000 in
theorem pubNone_closed : joinedFacts Tryz.prog 3 Tryz.f3 Rows.pubNoneSpec Rows.pubNoneRow = true := (pubNone_and (pubNone_and (pubNone_and (pubNone_and (pubNone_and (pubNone_and (pubNone_and (pubNone_and (pubNone_and (pubNone_and (pubNone_and (pubNone_and (pubNone_and (pubNone_and (pubNone_and (pubNone_and (pubNone_and (pubNone_and (pubNone_and (pubNone_and (pubNone_and (pubNone_and (pubNone_and (pubNone_and (pubNone_and (pubNone_and (pubNone_and (pubNone_and (pubNone_and (pubNone_and (pubNone_and pubNone_j0 pubNone_j1) pubNone_j2) pubNone_j3) pubNone_j4) pubNone_j5) pubNone_j6) pubNone_j7) pubNone_j8) pubNone_j9) pubNone_j10) pubNone_j11) pubNone_j12) pubNone_j13) pubNone_j14) pubNone_j15) pubNone_j16) pubNone_j17) pubNone_j18) pubNone_j19) pubNone_j20) pubNone_j21) pubNone_j22) pubNone_j23) pubNone_j24) pubNone_j25) pubNone_j26) pubNone_j27) pubNone_j28) pubNone_j29) pubNone_j30) pubNone_j31)
theorem pubNone_named : Tryz.prog.funcNamed Rows.pubNoneRow.func = some 3 := by kernel_rfl
theorem pubNone_inst : Tryz.f3.isInstance Tryz.prog Rows.pubNoneRow.origin Rows.pubNoneRow.targs := of_decide_eq_true (by kernel_rfl)
theorem pubNone_wrap : Tryz.f3.isWrapper Tryz.prog Rows.pubNoneRow.wrapper Rows.pubNoneRow.mainSum := by unfold Func.isWrapper; first | (rw [if_pos (by decide +kernel)]; kernel_rfl) | (rw [if_neg (by decide +kernel)]; exact ⟨rfl, rfl⟩)
theorem pubNone_row : Rows.PubNoneSaid :=
 OpenClaim.holds_of_wide 3 Tryz.f3 rfl rfl rfl rfl rfl rfl rfl ⟨rfl, rfl, rfl, rfl, rfl⟩ rfl rfl rfl rfl rfl pubNone_named Tryz.func3 pubNone_closed
  pubNone_inst pubNone_wrap (fun os started H enc _ => pubNone_lifted os started H enc)
theorem pubNone_text : Rows.pubNoneRow.wfByText (OpenSpec.ofChange Rows.pubNoneSpec) = true := by kernel_rfl
theorem pubNone_main : Tryz.prog.mainIs = some (true, "287c7bf8528ccd7c3f9ee919b203e9b559a1227c0e1a825b044f480aef88b956".toList) := by kernel_rfl
theorem pubNone_goes : false = Rows.pubNoneRow.goesBy Tryz.prog := by kernel_rfl
theorem pubNone_looks : false = Tryz.prog.looks [] := by kernel_rfl
theorem pubNone_wants : ([9, 9].all fun u => !Tryz.prog.wantsStandIn u) = true := by kernel_rfl
theorem pubNone_holds : Rows.PubNoneCardSaid :=
 Claim7.holds_tied_plain_at .later [] [.data, .pinned] true (true, "287c7bf8528ccd7c3f9ee919b203e9b559a1227c0e1a825b044f480aef88b956") false
  pubNone_row (fun _ h => by cases h) pubNone_text (fun _ h => by cases h) pubNone_row_tie rfl ⟨rfl, rfl⟩ pubNone_main rfl
  (fun f fn hf hfn => by
   obtain rfl : f = 3 := Option.some.inj (pubNone_named.symm.trans hf) |>.symm
   obtain rfl : fn = Tryz.f3 := (Option.some.inj (Tryz.func3.symm.trans hfn)).symm
   exact ⟨pubNone_looks, fun j t ht => by
    rw [Tryz.params3] at ht
    have hm : t ∈ [9, 9] := by simpa using Array.mem_of_getElem? ht
    exact (show Tryz.prog.wantsStandIn t = false by simpa using List.all_eq_true.1 pubNone_wants t hm)⟩)
  pubNone_goes
#print axioms pubNone_holds
end Go.Proofs.YtjklgohpminefaaGreatDoor
