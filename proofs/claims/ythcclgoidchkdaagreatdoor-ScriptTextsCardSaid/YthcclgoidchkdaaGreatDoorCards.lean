/-
  DERIVED. GIVEN WITH THE SEED: THE CARDS: each row of YthcclgoidchkdaaGreatDoorRows.lean that lists a variable, with what it lists TIED to the program's text (the seventh form; the later family's looks); each row that meets fmt, with fmt's text TOLD by the authors' own Lean function (tested against real Go, not proved from fmt's source: count such statements apart). THE CARD IS WHAT COUNTS. Prove the row's statement (the work); the ties are given (YthcclgoidchkdaaGreatDoorTie.lean); close each card by the builder's one call (the guide's Derived/Test/ToyasCard.lean, 'card_holds'). Laid BY PROGRAM, IN A SANDBOX (cutbox-door.mjs). By AI agents, Wed Nov 11 2026. No macro, syntax, notation, axiom, sorry.
-/
import Derived.Test.YthcclgoidchkdaaGreatDoorRows
import GoSem.ClaimSeven
namespace Go.Proofs.YthcclgoidchkdaaGreatDoor
namespace Rows

/-- THE TIED CARD OF 'bellmanlaw14.WalkStops'. -/
def walkStopsCard : Claim7 := { stood := { row := walkStopsRow, standIns := [], harness := (true, "c9ca920686c792b7d062106cc13be79904831ca07c39b1f03cd298b9b67ac498"), looks := true }, kinds := [], alts := [], laidByText := true, laidKinds := [.data, .pinned], laidTests := true, laidLooks := .later }
def WalkStopsCardSaid : Prop := Claim7.holds Tryz.pinned (.plain (OpenSpec.ofChange walkStopsSpec)) walkStopsCard

/-- THE TIED CARD OF 'bellmanlaw14.WalkPairs'. -/
def walkPairsCard : Claim7 := { stood := { row := walkPairsRow, standIns := [], harness := (true, "c9ca920686c792b7d062106cc13be79904831ca07c39b1f03cd298b9b67ac498"), looks := true }, kinds := [], alts := [], laidByText := true, laidKinds := [.data, .pinned], laidTests := true, laidLooks := .later }
def WalkPairsCardSaid : Prop := Claim7.holds Tryz.pinned (.plain (OpenSpec.ofChange walkPairsSpec)) walkPairsCard

/-- THE TIED CARD OF 'bellmanlaw18.ModelFifo'. -/
def modelFifoCard : Claim7 := { stood := { row := modelFifoRow, standIns := [], harness := (true, "c9ca920686c792b7d062106cc13be79904831ca07c39b1f03cd298b9b67ac498"), looks := true }, kinds := [], alts := [], laidByText := true, laidKinds := [.data, .pinned], laidTests := true, laidLooks := .later }
def ModelFifoCardSaid : Prop := Claim7.holds Tryz.pinned (.plain (OpenSpec.ofChange modelFifoSpec)) modelFifoCard

/-- THE TIED CARD OF 'bellmanlaw20.ScriptTexts'. -/
def scriptTextsCard : Claim7 := { stood := { row := scriptTextsRow, standIns := [], harness := (true, "c9ca920686c792b7d062106cc13be79904831ca07c39b1f03cd298b9b67ac498"), looks := true }, kinds := [], alts := [], laidByText := true, laidKinds := [.data, .data, .data, .data, .sentinel, .sentinel, .pinned], laidTests := true, laidLooks := .later }
def ScriptTextsCardSaid : Prop := Claim7.holds Tryz.pinned (.plain (OpenSpec.ofChange scriptTextsSpec)) scriptTextsCard

/-- THE SECOND FORM's CARD OF 'bellmanlaw14.WalkStops'. -/
def walkStopsUptoCard : Claim7 := { stood := { row := walkStopsUptoRow, standIns := [], harness := (true, "c9ca920686c792b7d062106cc13be79904831ca07c39b1f03cd298b9b67ac498"), looks := true }, kinds := [], alts := [], laidByText := true, laidKinds := [.data, .pinned], laidTests := true, laidLooks := .later }
def WalkStopsUptoCardSaid : Prop := Claim7.holds Tryz.pinned (.plain (OpenSpec.upto walkStopsSpec)) walkStopsUptoCard

/-- THE SECOND FORM's CARD OF 'bellmanlaw14.WalkPairs'. -/
def walkPairsUptoCard : Claim7 := { stood := { row := walkPairsUptoRow, standIns := [], harness := (true, "c9ca920686c792b7d062106cc13be79904831ca07c39b1f03cd298b9b67ac498"), looks := true }, kinds := [], alts := [], laidByText := true, laidKinds := [.data, .pinned], laidTests := true, laidLooks := .later }
def WalkPairsUptoCardSaid : Prop := Claim7.holds Tryz.pinned (.plain (OpenSpec.upto walkPairsSpec)) walkPairsUptoCard

/-- THE SECOND FORM's CARD OF 'bellmanlaw18.ModelFifo'. -/
def modelFifoUptoCard : Claim7 := { stood := { row := modelFifoUptoRow, standIns := [], harness := (true, "c9ca920686c792b7d062106cc13be79904831ca07c39b1f03cd298b9b67ac498"), looks := true }, kinds := [], alts := [], laidByText := true, laidKinds := [.data, .pinned], laidTests := true, laidLooks := .later }
def ModelFifoUptoCardSaid : Prop := Claim7.holds Tryz.pinned (.plain (OpenSpec.upto modelFifoSpec)) modelFifoUptoCard

/-- THE SECOND FORM's CARD OF 'bellmanlaw20.ScriptTexts'. -/
def scriptTextsUptoCard : Claim7 := { stood := { row := scriptTextsUptoRow, standIns := [], harness := (true, "c9ca920686c792b7d062106cc13be79904831ca07c39b1f03cd298b9b67ac498"), looks := true }, kinds := [], alts := [], laidByText := true, laidKinds := [.data, .data, .data, .data, .sentinel, .sentinel, .pinned], laidTests := true, laidLooks := .later }
def ScriptTextsUptoCardSaid : Prop := Claim7.holds Tryz.pinned (.plain (OpenSpec.upto scriptTextsSpec)) scriptTextsUptoCard
end Rows
end Go.Proofs.YthcclgoidchkdaaGreatDoor
