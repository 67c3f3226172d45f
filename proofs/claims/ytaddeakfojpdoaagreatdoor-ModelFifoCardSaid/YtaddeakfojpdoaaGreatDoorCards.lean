/-
  DERIVED. GIVEN WITH THE SEED: THE CARDS: each row of YtaddeakfojpdoaaGreatDoorRows.lean that lists a variable, with what it lists TIED to the program's text (the seventh form; the later family's looks); each row that meets fmt, with fmt's text TOLD by the authors' own Lean function (tested against real Go, not proved from fmt's source: count such statements apart). THE CARD IS WHAT COUNTS. Prove the row's statement (the work); the ties are given (YtaddeakfojpdoaaGreatDoorTie.lean); close each card by the builder's one call (the guide's Derived/Test/ToyasCard.lean, 'card_holds'). Laid BY PROGRAM, IN A SANDBOX (cutbox-door.mjs). By AI agents, Wed Nov 11 2026. No macro, syntax, notation, axiom, sorry.
-/
import Derived.Test.YtaddeakfojpdoaaGreatDoorRows
import GoSem.ClaimSeven
namespace Go.Proofs.YtaddeakfojpdoaaGreatDoor
namespace Rows

/-- THE TIED CARD OF 'bellmanlaw14.WalkStops'. -/
def walkStopsCard : Claim7 := { stood := { row := walkStopsRow, standIns := [], harness := (true, "4f35ac1e17f343f54db06256f3908921250d5e01a6e084f7330906b985697700"), looks := false }, kinds := [], alts := [], laidByText := true, laidKinds := [.data, .pinned], laidTests := true, laidLooks := .later }
def WalkStopsCardSaid : Prop := Claim7.holds Tryz.pinned (.plain (OpenSpec.ofChange walkStopsSpec)) walkStopsCard

/-- THE TIED CARD OF 'bellmanlaw14.WalkPairs'. -/
def walkPairsCard : Claim7 := { stood := { row := walkPairsRow, standIns := [], harness := (true, "4f35ac1e17f343f54db06256f3908921250d5e01a6e084f7330906b985697700"), looks := false }, kinds := [], alts := [], laidByText := true, laidKinds := [.data, .pinned], laidTests := true, laidLooks := .later }
def WalkPairsCardSaid : Prop := Claim7.holds Tryz.pinned (.plain (OpenSpec.ofChange walkPairsSpec)) walkPairsCard

/-- THE TIED CARD OF 'bellmanlaw18.ModelFifo'. -/
def modelFifoCard : Claim7 := { stood := { row := modelFifoRow, standIns := [], harness := (true, "4f35ac1e17f343f54db06256f3908921250d5e01a6e084f7330906b985697700"), looks := false }, kinds := [], alts := [], laidByText := true, laidKinds := [.data, .pinned], laidTests := true, laidLooks := .later }
def ModelFifoCardSaid : Prop := Claim7.holds Tryz.pinned (.plain (OpenSpec.ofChange modelFifoSpec)) modelFifoCard

/-- THE SECOND FORM's CARD OF 'bellmanlaw14.WalkStops'. -/
def walkStopsUptoCard : Claim7 := { stood := { row := walkStopsUptoRow, standIns := [], harness := (true, "4f35ac1e17f343f54db06256f3908921250d5e01a6e084f7330906b985697700"), looks := false }, kinds := [], alts := [], laidByText := true, laidKinds := [.data, .pinned], laidTests := true, laidLooks := .later }
def WalkStopsUptoCardSaid : Prop := Claim7.holds Tryz.pinned (.plain (OpenSpec.upto walkStopsSpec)) walkStopsUptoCard

/-- THE SECOND FORM's CARD OF 'bellmanlaw14.WalkPairs'. -/
def walkPairsUptoCard : Claim7 := { stood := { row := walkPairsUptoRow, standIns := [], harness := (true, "4f35ac1e17f343f54db06256f3908921250d5e01a6e084f7330906b985697700"), looks := false }, kinds := [], alts := [], laidByText := true, laidKinds := [.data, .pinned], laidTests := true, laidLooks := .later }
def WalkPairsUptoCardSaid : Prop := Claim7.holds Tryz.pinned (.plain (OpenSpec.upto walkPairsSpec)) walkPairsUptoCard

/-- THE SECOND FORM's CARD OF 'bellmanlaw18.ModelFifo'. -/
def modelFifoUptoCard : Claim7 := { stood := { row := modelFifoUptoRow, standIns := [], harness := (true, "4f35ac1e17f343f54db06256f3908921250d5e01a6e084f7330906b985697700"), looks := false }, kinds := [], alts := [], laidByText := true, laidKinds := [.data, .pinned], laidTests := true, laidLooks := .later }
def ModelFifoUptoCardSaid : Prop := Claim7.holds Tryz.pinned (.plain (OpenSpec.upto modelFifoSpec)) modelFifoUptoCard
end Rows
end Go.Proofs.YtaddeakfojpdoaaGreatDoor
