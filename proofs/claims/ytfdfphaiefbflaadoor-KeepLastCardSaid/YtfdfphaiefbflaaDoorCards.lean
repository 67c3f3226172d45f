/-
  DERIVED. GIVEN WITH THE SEED: THE CARDS: each row of YtfdfphaiefbflaaDoorRows.lean that lists a variable, with what it lists TIED to the program's text (the seventh form; the later family's looks); each row that meets fmt, with fmt's text TOLD by the authors' own Lean function (tested against real Go, not proved from fmt's source: count such statements apart). THE CARD IS WHAT COUNTS. Prove the row's statement (the work); the ties are given (YtfdfphaiefbflaaDoorTie.lean); close each card by the builder's one call (the guide's Derived/Test/ToyasCard.lean, 'card_holds'). Laid BY PROGRAM, IN A SANDBOX (cutbox-door.mjs). By AI agents, Wed Nov 11 2026. No macro, syntax, notation, axiom, sorry.
-/
import Derived.Test.YtfdfphaiefbflaaDoorRows
import GoSem.ClaimSeven
namespace Go.Proofs.YtfdfphaiefbflaaDoor
namespace Rows

/-- THE TIED CARD OF 'bellmanlaw01.TopicEach'. -/
def topicEachCard : Claim7 := { stood := { row := topicEachRow, standIns := [], harness := (true, "c48dfcc952c3d163d969d6380c1f0bb0606c058798cc0f87b5f07e2287a274e7"), looks := false }, kinds := [], alts := [], laidByText := true, laidKinds := [.data, .pinned], laidTests := true, laidLooks := .later }
def TopicEachCardSaid : Prop := Claim7.holds Tryd.pinned (.plain (OpenSpec.ofChange topicEachSpec)) topicEachCard

/-- THE TIED CARD OF 'bellmanlaw08.LinFinds'. -/
def linFindsCard : Claim7 := { stood := { row := linFindsRow, standIns := [], harness := (true, "c48dfcc952c3d163d969d6380c1f0bb0606c058798cc0f87b5f07e2287a274e7"), looks := false }, kinds := [], alts := [], laidByText := true, laidKinds := [.data, .data, .data], laidTests := true, laidLooks := .later }
def LinFindsCardSaid : Prop := Claim7.holds Tryd.pinned (.plain (OpenSpec.ofChange linFindsSpec)) linFindsCard

/-- THE TIED CARD OF 'bellmanlaw08.LinOrders'. -/
def linOrdersCard : Claim7 := { stood := { row := linOrdersRow, standIns := [], harness := (true, "c48dfcc952c3d163d969d6380c1f0bb0606c058798cc0f87b5f07e2287a274e7"), looks := false }, kinds := [], alts := [], laidByText := true, laidKinds := [.data, .data, .data], laidTests := true, laidLooks := .later }
def LinOrdersCardSaid : Prop := Claim7.holds Tryd.pinned (.plain (OpenSpec.ofChange linOrdersSpec)) linOrdersCard

/-- THE TIED CARD OF 'bellmanlaw08.LinNone'. -/
def linNoneCard : Claim7 := { stood := { row := linNoneRow, standIns := [], harness := (true, "c48dfcc952c3d163d969d6380c1f0bb0606c058798cc0f87b5f07e2287a274e7"), looks := false }, kinds := [], alts := [], laidByText := true, laidKinds := [.data, .data, .data], laidTests := true, laidLooks := .later }
def LinNoneCardSaid : Prop := Claim7.holds Tryd.pinned (.plain (OpenSpec.ofChange linNoneSpec)) linNoneCard

/-- THE TIED CARD OF 'bellmanlaw01.TopicTells'. -/
def topicTellsCard : Claim7 := { stood := { row := topicTellsRow, standIns := [], harness := (true, "c48dfcc952c3d163d969d6380c1f0bb0606c058798cc0f87b5f07e2287a274e7"), looks := false }, kinds := [], alts := [], laidByText := true, laidKinds := [.data, .pinned], laidTests := true, laidLooks := .later }
def TopicTellsCardSaid : Prop := Claim7.holds Tryd.pinned (.plain (OpenSpec.ofChange topicTellsSpec)) topicTellsCard

/-- THE TIED CARD OF 'bellmanlaw01.TopicJoins'. -/
def topicJoinsCard : Claim7 := { stood := { row := topicJoinsRow, standIns := [], harness := (true, "c48dfcc952c3d163d969d6380c1f0bb0606c058798cc0f87b5f07e2287a274e7"), looks := false }, kinds := [], alts := [], laidByText := true, laidKinds := [.data, .pinned], laidTests := true, laidLooks := .later }
def TopicJoinsCardSaid : Prop := Claim7.holds Tryd.pinned (.plain (OpenSpec.ofChange topicJoinsSpec)) topicJoinsCard

/-- THE TIED CARD OF 'bellmanlaw02.MatchLevels'. -/
def matchLevelsCard : Claim7 := { stood := { row := matchLevelsRow, standIns := [], harness := (true, "c48dfcc952c3d163d969d6380c1f0bb0606c058798cc0f87b5f07e2287a274e7"), looks := false }, kinds := [], alts := [], laidByText := true, laidKinds := [.data, .pinned], laidTests := true, laidLooks := .later }
def MatchLevelsCardSaid : Prop := Claim7.holds Tryd.pinned (.plain (OpenSpec.ofChange matchLevelsSpec)) matchLevelsCard

/-- THE TIED CARD OF 'bellmanlaw02.MatchCovers'. -/
def matchCoversCard : Claim7 := { stood := { row := matchCoversRow, standIns := [], harness := (true, "c48dfcc952c3d163d969d6380c1f0bb0606c058798cc0f87b5f07e2287a274e7"), looks := false }, kinds := [], alts := [], laidByText := true, laidKinds := [.data, .pinned], laidTests := true, laidLooks := .later }
def MatchCoversCardSaid : Prop := Claim7.holds Tryd.pinned (.plain (OpenSpec.ofChange matchCoversSpec)) matchCoversCard

/-- THE TIED CARD OF 'bellmanlaw02.MatchTells'. -/
def matchTellsCard : Claim7 := { stood := { row := matchTellsRow, standIns := [], harness := (true, "c48dfcc952c3d163d969d6380c1f0bb0606c058798cc0f87b5f07e2287a274e7"), looks := false }, kinds := [], alts := [], laidByText := true, laidKinds := [.data, .pinned], laidTests := true, laidLooks := .later }
def MatchTellsCardSaid : Prop := Claim7.holds Tryd.pinned (.plain (OpenSpec.ofChange matchTellsSpec)) matchTellsCard

/-- THE TIED CARD OF 'bellmanlaw15.KeepPlays'. -/
def keepPlaysCard : Claim7 := { stood := { row := keepPlaysRow, standIns := [], harness := (true, "c48dfcc952c3d163d969d6380c1f0bb0606c058798cc0f87b5f07e2287a274e7"), looks := false }, kinds := [], alts := [], laidByText := true, laidKinds := [.data, .pinned], laidTests := true, laidLooks := .later }
def KeepPlaysCardSaid : Prop := Claim7.holds Tryd.pinned (.plain (OpenSpec.ofChange keepPlaysSpec)) keepPlaysCard

/-- THE TIED CARD OF 'bellmanlaw15.KeepLast'. -/
def keepLastCard : Claim7 := { stood := { row := keepLastRow, standIns := [], harness := (true, "c48dfcc952c3d163d969d6380c1f0bb0606c058798cc0f87b5f07e2287a274e7"), looks := false }, kinds := [], alts := [], laidByText := true, laidKinds := [.data, .pinned], laidTests := true, laidLooks := .later }
def KeepLastCardSaid : Prop := Claim7.holds Tryd.pinned (.plain (OpenSpec.ofChange keepLastSpec)) keepLastCard

/-- THE SECOND FORM's CARD OF 'bellmanlaw01.TopicEach'. -/
def topicEachUptoCard : Claim7 := { stood := { row := topicEachUptoRow, standIns := [], harness := (true, "c48dfcc952c3d163d969d6380c1f0bb0606c058798cc0f87b5f07e2287a274e7"), looks := false }, kinds := [], alts := [], laidByText := true, laidKinds := [.data, .pinned], laidTests := true, laidLooks := .later }
def TopicEachUptoCardSaid : Prop := Claim7.holds Tryd.pinned (.plain (OpenSpec.upto topicEachSpec)) topicEachUptoCard

/-- THE SECOND FORM's CARD OF 'bellmanlaw08.LinFinds'. -/
def linFindsUptoCard : Claim7 := { stood := { row := linFindsUptoRow, standIns := [], harness := (true, "c48dfcc952c3d163d969d6380c1f0bb0606c058798cc0f87b5f07e2287a274e7"), looks := false }, kinds := [], alts := [], laidByText := true, laidKinds := [.data, .data, .data], laidTests := true, laidLooks := .later }
def LinFindsUptoCardSaid : Prop := Claim7.holds Tryd.pinned (.plain (OpenSpec.upto linFindsSpec)) linFindsUptoCard

/-- THE SECOND FORM's CARD OF 'bellmanlaw08.LinOrders'. -/
def linOrdersUptoCard : Claim7 := { stood := { row := linOrdersUptoRow, standIns := [], harness := (true, "c48dfcc952c3d163d969d6380c1f0bb0606c058798cc0f87b5f07e2287a274e7"), looks := false }, kinds := [], alts := [], laidByText := true, laidKinds := [.data, .data, .data], laidTests := true, laidLooks := .later }
def LinOrdersUptoCardSaid : Prop := Claim7.holds Tryd.pinned (.plain (OpenSpec.upto linOrdersSpec)) linOrdersUptoCard

/-- THE SECOND FORM's CARD OF 'bellmanlaw08.LinNone'. -/
def linNoneUptoCard : Claim7 := { stood := { row := linNoneUptoRow, standIns := [], harness := (true, "c48dfcc952c3d163d969d6380c1f0bb0606c058798cc0f87b5f07e2287a274e7"), looks := false }, kinds := [], alts := [], laidByText := true, laidKinds := [.data, .data, .data], laidTests := true, laidLooks := .later }
def LinNoneUptoCardSaid : Prop := Claim7.holds Tryd.pinned (.plain (OpenSpec.upto linNoneSpec)) linNoneUptoCard

/-- THE SECOND FORM's CARD OF 'bellmanlaw01.TopicTells'. -/
def topicTellsUptoCard : Claim7 := { stood := { row := topicTellsUptoRow, standIns := [], harness := (true, "c48dfcc952c3d163d969d6380c1f0bb0606c058798cc0f87b5f07e2287a274e7"), looks := false }, kinds := [], alts := [], laidByText := true, laidKinds := [.data, .pinned], laidTests := true, laidLooks := .later }
def TopicTellsUptoCardSaid : Prop := Claim7.holds Tryd.pinned (.plain (OpenSpec.upto topicTellsSpec)) topicTellsUptoCard

/-- THE SECOND FORM's CARD OF 'bellmanlaw01.TopicJoins'. -/
def topicJoinsUptoCard : Claim7 := { stood := { row := topicJoinsUptoRow, standIns := [], harness := (true, "c48dfcc952c3d163d969d6380c1f0bb0606c058798cc0f87b5f07e2287a274e7"), looks := false }, kinds := [], alts := [], laidByText := true, laidKinds := [.data, .pinned], laidTests := true, laidLooks := .later }
def TopicJoinsUptoCardSaid : Prop := Claim7.holds Tryd.pinned (.plain (OpenSpec.upto topicJoinsSpec)) topicJoinsUptoCard

/-- THE SECOND FORM's CARD OF 'bellmanlaw02.MatchLevels'. -/
def matchLevelsUptoCard : Claim7 := { stood := { row := matchLevelsUptoRow, standIns := [], harness := (true, "c48dfcc952c3d163d969d6380c1f0bb0606c058798cc0f87b5f07e2287a274e7"), looks := false }, kinds := [], alts := [], laidByText := true, laidKinds := [.data, .pinned], laidTests := true, laidLooks := .later }
def MatchLevelsUptoCardSaid : Prop := Claim7.holds Tryd.pinned (.plain (OpenSpec.upto matchLevelsSpec)) matchLevelsUptoCard

/-- THE SECOND FORM's CARD OF 'bellmanlaw02.MatchCovers'. -/
def matchCoversUptoCard : Claim7 := { stood := { row := matchCoversUptoRow, standIns := [], harness := (true, "c48dfcc952c3d163d969d6380c1f0bb0606c058798cc0f87b5f07e2287a274e7"), looks := false }, kinds := [], alts := [], laidByText := true, laidKinds := [.data, .pinned], laidTests := true, laidLooks := .later }
def MatchCoversUptoCardSaid : Prop := Claim7.holds Tryd.pinned (.plain (OpenSpec.upto matchCoversSpec)) matchCoversUptoCard

/-- THE SECOND FORM's CARD OF 'bellmanlaw02.MatchTells'. -/
def matchTellsUptoCard : Claim7 := { stood := { row := matchTellsUptoRow, standIns := [], harness := (true, "c48dfcc952c3d163d969d6380c1f0bb0606c058798cc0f87b5f07e2287a274e7"), looks := false }, kinds := [], alts := [], laidByText := true, laidKinds := [.data, .pinned], laidTests := true, laidLooks := .later }
def MatchTellsUptoCardSaid : Prop := Claim7.holds Tryd.pinned (.plain (OpenSpec.upto matchTellsSpec)) matchTellsUptoCard

/-- THE SECOND FORM's CARD OF 'bellmanlaw15.KeepPlays'. -/
def keepPlaysUptoCard : Claim7 := { stood := { row := keepPlaysUptoRow, standIns := [], harness := (true, "c48dfcc952c3d163d969d6380c1f0bb0606c058798cc0f87b5f07e2287a274e7"), looks := false }, kinds := [], alts := [], laidByText := true, laidKinds := [.data, .pinned], laidTests := true, laidLooks := .later }
def KeepPlaysUptoCardSaid : Prop := Claim7.holds Tryd.pinned (.plain (OpenSpec.upto keepPlaysSpec)) keepPlaysUptoCard

/-- THE SECOND FORM's CARD OF 'bellmanlaw15.KeepLast'. -/
def keepLastUptoCard : Claim7 := { stood := { row := keepLastUptoRow, standIns := [], harness := (true, "c48dfcc952c3d163d969d6380c1f0bb0606c058798cc0f87b5f07e2287a274e7"), looks := false }, kinds := [], alts := [], laidByText := true, laidKinds := [.data, .pinned], laidTests := true, laidLooks := .later }
def KeepLastUptoCardSaid : Prop := Claim7.holds Tryd.pinned (.plain (OpenSpec.upto keepLastSpec)) keepLastUptoCard
end Rows
end Go.Proofs.YtfdfphaiefbflaaDoor
