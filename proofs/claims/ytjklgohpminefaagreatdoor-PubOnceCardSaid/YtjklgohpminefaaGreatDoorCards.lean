/-
  DERIVED. GIVEN WITH THE SEED: THE CARDS: each row of YtjklgohpminefaaGreatDoorRows.lean that lists a variable, with what it lists TIED to the program's text (the seventh form; the later family's looks); each row that meets fmt, with fmt's text TOLD by the authors' own Lean function (tested against real Go, not proved from fmt's source: count such statements apart). THE CARD IS WHAT COUNTS. Prove the row's statement (the work); the ties are given (YtjklgohpminefaaGreatDoorTie.lean); close each card by the builder's one call (the guide's Derived/Test/ToyasCard.lean, 'card_holds'). Laid BY PROGRAM, IN A SANDBOX (cutbox-door.mjs). By AI agents, Wed Nov 11 2026. No macro, syntax, notation, axiom, sorry.
-/
import Derived.Test.YtjklgohpminefaaGreatDoorRows
import GoSem.ClaimSeven
namespace Go.Proofs.YtjklgohpminefaaGreatDoor
namespace Rows

/-- THE TIED CARD OF 'bellmanlaw24.PubNone'. -/
def pubNoneCard : Claim7 := { stood := { row := pubNoneRow, standIns := [], harness := (true, "287c7bf8528ccd7c3f9ee919b203e9b559a1227c0e1a825b044f480aef88b956"), looks := false }, kinds := [], alts := [], laidByText := true, laidKinds := [.data, .pinned], laidTests := true, laidLooks := .later }
def PubNoneCardSaid : Prop := Claim7.holds Tryz.pinned (.plain (OpenSpec.ofChange pubNoneSpec)) pubNoneCard

/-- THE TIED CARD OF 'bellmanlaw24.PubOnce'. -/
def pubOnceCard : Claim7 := { stood := { row := pubOnceRow, standIns := [], harness := (true, "287c7bf8528ccd7c3f9ee919b203e9b559a1227c0e1a825b044f480aef88b956"), looks := false }, kinds := [], alts := [], laidByText := true, laidKinds := [.data, .pinned], laidTests := true, laidLooks := .later }
def PubOnceCardSaid : Prop := Claim7.holds Tryz.pinned (.plain (OpenSpec.ofChange pubOnceSpec)) pubOnceCard

/-- THE SECOND FORM's CARD OF 'bellmanlaw24.PubNone'. -/
def pubNoneUptoCard : Claim7 := { stood := { row := pubNoneUptoRow, standIns := [], harness := (true, "287c7bf8528ccd7c3f9ee919b203e9b559a1227c0e1a825b044f480aef88b956"), looks := false }, kinds := [], alts := [], laidByText := true, laidKinds := [.data, .pinned], laidTests := true, laidLooks := .later }
def PubNoneUptoCardSaid : Prop := Claim7.holds Tryz.pinned (.plain (OpenSpec.upto pubNoneSpec)) pubNoneUptoCard

/-- THE SECOND FORM's CARD OF 'bellmanlaw24.PubOnce'. -/
def pubOnceUptoCard : Claim7 := { stood := { row := pubOnceUptoRow, standIns := [], harness := (true, "287c7bf8528ccd7c3f9ee919b203e9b559a1227c0e1a825b044f480aef88b956"), looks := false }, kinds := [], alts := [], laidByText := true, laidKinds := [.data, .pinned], laidTests := true, laidLooks := .later }
def PubOnceUptoCardSaid : Prop := Claim7.holds Tryz.pinned (.plain (OpenSpec.upto pubOnceSpec)) pubOnceUptoCard
end Rows
end Go.Proofs.YtjklgohpminefaaGreatDoor
