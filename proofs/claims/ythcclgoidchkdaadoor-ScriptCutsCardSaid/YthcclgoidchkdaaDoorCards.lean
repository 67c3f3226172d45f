/-
  DERIVED. GIVEN WITH THE SEED: THE CARDS: each row of YthcclgoidchkdaaDoorRows.lean that lists a variable, with what it lists TIED to the program's text (the seventh form; the later family's looks); each row that meets fmt, with fmt's text TOLD by the authors' own Lean function (tested against real Go, not proved from fmt's source: count such statements apart). THE CARD IS WHAT COUNTS. Prove the row's statement (the work); the ties are given (YthcclgoidchkdaaDoorTie.lean); close each card by the builder's one call (the guide's Derived/Test/ToyasCard.lean, 'card_holds'). Laid BY PROGRAM, IN A SANDBOX (cutbox-door.mjs). By AI agents, Wed Nov 11 2026. No macro, syntax, notation, axiom, sorry.
-/
import Derived.Test.YthcclgoidchkdaaDoorRows
import GoSem.ClaimSeven
namespace Go.Proofs.YthcclgoidchkdaaDoor
namespace Rows

/-- THE TIED CARD OF 'bellmanlaw08.LinFinds'. -/
def linFindsCard : Claim7 := { stood := { row := linFindsRow, standIns := [], harness := (true, "dcfea059b96daabca6727404355fd4033103d74510e583df854e7115075281f3"), looks := true }, kinds := [], alts := [], laidByText := true, laidKinds := [.data, .data, .data], laidTests := true, laidLooks := .later }
def LinFindsCardSaid : Prop := Claim7.holds Tryd.pinned (.plain (OpenSpec.ofChange linFindsSpec)) linFindsCard

/-- THE TIED CARD OF 'bellmanlaw08.LinOrders'. -/
def linOrdersCard : Claim7 := { stood := { row := linOrdersRow, standIns := [], harness := (true, "dcfea059b96daabca6727404355fd4033103d74510e583df854e7115075281f3"), looks := true }, kinds := [], alts := [], laidByText := true, laidKinds := [.data, .data, .data], laidTests := true, laidLooks := .later }
def LinOrdersCardSaid : Prop := Claim7.holds Tryd.pinned (.plain (OpenSpec.ofChange linOrdersSpec)) linOrdersCard

/-- THE TIED CARD OF 'bellmanlaw08.LinNone'. -/
def linNoneCard : Claim7 := { stood := { row := linNoneRow, standIns := [], harness := (true, "dcfea059b96daabca6727404355fd4033103d74510e583df854e7115075281f3"), looks := true }, kinds := [], alts := [], laidByText := true, laidKinds := [.data, .data, .data], laidTests := true, laidLooks := .later }
def LinNoneCardSaid : Prop := Claim7.holds Tryd.pinned (.plain (OpenSpec.ofChange linNoneSpec)) linNoneCard

/-- THE TIED CARD OF 'bellmanlaw27.RowsEach'. -/
def rowsEachCard : Claim7 := { stood := { row := rowsEachRow, standIns := [], harness := (true, "dcfea059b96daabca6727404355fd4033103d74510e583df854e7115075281f3"), looks := true }, kinds := [], alts := [], laidByText := true, laidKinds := [.data, .data, .data], laidTests := true, laidLooks := .later }
def RowsEachCardSaid : Prop := Claim7.holds Tryd.pinned (.plain (OpenSpec.ofChange rowsEachSpec)) rowsEachCard

/-- THE TIED CARD OF 'bellmanlaw15.KeepPlays'. -/
def keepPlaysCard : Claim7 := { stood := { row := keepPlaysRow, standIns := [], harness := (true, "dcfea059b96daabca6727404355fd4033103d74510e583df854e7115075281f3"), looks := true }, kinds := [], alts := [], laidByText := true, laidKinds := [.data, .pinned], laidTests := true, laidLooks := .later }
def KeepPlaysCardSaid : Prop := Claim7.holds Tryd.pinned (.plain (OpenSpec.ofChange keepPlaysSpec)) keepPlaysCard

/-- THE TIED CARD OF 'bellmanlaw19.OpWords'. -/
def opWordsCard : Claim7 := { stood := { row := opWordsRow, standIns := [], harness := (true, "dcfea059b96daabca6727404355fd4033103d74510e583df854e7115075281f3"), looks := true }, kinds := [], alts := [], laidByText := true, laidKinds := [.data, .data, .data, .data, .sentinel, .sentinel, .pinned], laidTests := true, laidLooks := .later }
def OpWordsCardSaid : Prop := Claim7.holds Tryd.pinned (.plain (OpenSpec.ofChange opWordsSpec)) opWordsCard

/-- THE TIED CARD OF 'bellmanlaw19.OpLines'. -/
def opLinesCard : Claim7 := { stood := { row := opLinesRow, standIns := [], harness := (true, "dcfea059b96daabca6727404355fd4033103d74510e583df854e7115075281f3"), looks := true }, kinds := [], alts := [], laidByText := true, laidKinds := [.data, .data, .data, .data, .sentinel, .sentinel, .pinned], laidTests := true, laidLooks := .later }
def OpLinesCardSaid : Prop := Claim7.holds Tryd.pinned (.plain (OpenSpec.ofChange opLinesSpec)) opLinesCard

/-- THE TIED CARD OF 'bellmanlaw19.OpParses'. -/
def opParsesCard : Claim7 := { stood := { row := opParsesRow, standIns := [], harness := (true, "dcfea059b96daabca6727404355fd4033103d74510e583df854e7115075281f3"), looks := true }, kinds := [], alts := [], laidByText := true, laidKinds := [.data, .data, .data, .data, .sentinel, .sentinel, .pinned], laidTests := true, laidLooks := .later }
def OpParsesCardSaid : Prop := Claim7.holds Tryd.pinned (.plain (OpenSpec.ofChange opParsesSpec)) opParsesCard

/-- THE TIED CARD OF 'bellmanlaw27.RowsTell'. -/
def rowsTellCard : Claim7 := { stood := { row := rowsTellRow, standIns := [], harness := (true, "dcfea059b96daabca6727404355fd4033103d74510e583df854e7115075281f3"), looks := true }, kinds := [], alts := [], laidByText := true, laidKinds := [.data, .data, .data, .data, .sentinel, .sentinel, .pinned], laidTests := true, laidLooks := .later }
def RowsTellCardSaid : Prop := Claim7.holds Tryd.pinned (.plain (OpenSpec.ofChange rowsTellSpec)) rowsTellCard

/-- THE TIED CARD OF 'bellmanlaw27.RowsTake'. -/
def rowsTakeCard : Claim7 := { stood := { row := rowsTakeRow, standIns := [], harness := (true, "dcfea059b96daabca6727404355fd4033103d74510e583df854e7115075281f3"), looks := true }, kinds := [], alts := [], laidByText := true, laidKinds := [.data, .data, .data, .data, .sentinel, .sentinel, .pinned], laidTests := true, laidLooks := .later }
def RowsTakeCardSaid : Prop := Claim7.holds Tryd.pinned (.plain (OpenSpec.ofChange rowsTakeSpec)) rowsTakeCard

/-- THE TIED CARD OF 'bellmanlaw20.ScriptCuts'. -/
def scriptCutsCard : Claim7 := { stood := { row := scriptCutsRow, standIns := [], harness := (true, "dcfea059b96daabca6727404355fd4033103d74510e583df854e7115075281f3"), looks := true }, kinds := [], alts := [], laidByText := true, laidKinds := [.data, .data, .data, .data, .sentinel, .sentinel, .pinned], laidTests := true, laidLooks := .later }
def ScriptCutsCardSaid : Prop := Claim7.holds Tryd.pinned (.plain (OpenSpec.ofChange scriptCutsSpec)) scriptCutsCard

/-- THE SECOND FORM's CARD OF 'bellmanlaw08.LinFinds'. -/
def linFindsUptoCard : Claim7 := { stood := { row := linFindsUptoRow, standIns := [], harness := (true, "dcfea059b96daabca6727404355fd4033103d74510e583df854e7115075281f3"), looks := true }, kinds := [], alts := [], laidByText := true, laidKinds := [.data, .data, .data], laidTests := true, laidLooks := .later }
def LinFindsUptoCardSaid : Prop := Claim7.holds Tryd.pinned (.plain (OpenSpec.upto linFindsSpec)) linFindsUptoCard

/-- THE SECOND FORM's CARD OF 'bellmanlaw08.LinOrders'. -/
def linOrdersUptoCard : Claim7 := { stood := { row := linOrdersUptoRow, standIns := [], harness := (true, "dcfea059b96daabca6727404355fd4033103d74510e583df854e7115075281f3"), looks := true }, kinds := [], alts := [], laidByText := true, laidKinds := [.data, .data, .data], laidTests := true, laidLooks := .later }
def LinOrdersUptoCardSaid : Prop := Claim7.holds Tryd.pinned (.plain (OpenSpec.upto linOrdersSpec)) linOrdersUptoCard

/-- THE SECOND FORM's CARD OF 'bellmanlaw08.LinNone'. -/
def linNoneUptoCard : Claim7 := { stood := { row := linNoneUptoRow, standIns := [], harness := (true, "dcfea059b96daabca6727404355fd4033103d74510e583df854e7115075281f3"), looks := true }, kinds := [], alts := [], laidByText := true, laidKinds := [.data, .data, .data], laidTests := true, laidLooks := .later }
def LinNoneUptoCardSaid : Prop := Claim7.holds Tryd.pinned (.plain (OpenSpec.upto linNoneSpec)) linNoneUptoCard

/-- THE SECOND FORM's CARD OF 'bellmanlaw27.RowsEach'. -/
def rowsEachUptoCard : Claim7 := { stood := { row := rowsEachUptoRow, standIns := [], harness := (true, "dcfea059b96daabca6727404355fd4033103d74510e583df854e7115075281f3"), looks := true }, kinds := [], alts := [], laidByText := true, laidKinds := [.data, .data, .data], laidTests := true, laidLooks := .later }
def RowsEachUptoCardSaid : Prop := Claim7.holds Tryd.pinned (.plain (OpenSpec.upto rowsEachSpec)) rowsEachUptoCard

/-- THE SECOND FORM's CARD OF 'bellmanlaw15.KeepPlays'. -/
def keepPlaysUptoCard : Claim7 := { stood := { row := keepPlaysUptoRow, standIns := [], harness := (true, "dcfea059b96daabca6727404355fd4033103d74510e583df854e7115075281f3"), looks := true }, kinds := [], alts := [], laidByText := true, laidKinds := [.data, .pinned], laidTests := true, laidLooks := .later }
def KeepPlaysUptoCardSaid : Prop := Claim7.holds Tryd.pinned (.plain (OpenSpec.upto keepPlaysSpec)) keepPlaysUptoCard

/-- THE SECOND FORM's CARD OF 'bellmanlaw19.OpWords'. -/
def opWordsUptoCard : Claim7 := { stood := { row := opWordsUptoRow, standIns := [], harness := (true, "dcfea059b96daabca6727404355fd4033103d74510e583df854e7115075281f3"), looks := true }, kinds := [], alts := [], laidByText := true, laidKinds := [.data, .data, .data, .data, .sentinel, .sentinel, .pinned], laidTests := true, laidLooks := .later }
def OpWordsUptoCardSaid : Prop := Claim7.holds Tryd.pinned (.plain (OpenSpec.upto opWordsSpec)) opWordsUptoCard

/-- THE SECOND FORM's CARD OF 'bellmanlaw19.OpLines'. -/
def opLinesUptoCard : Claim7 := { stood := { row := opLinesUptoRow, standIns := [], harness := (true, "dcfea059b96daabca6727404355fd4033103d74510e583df854e7115075281f3"), looks := true }, kinds := [], alts := [], laidByText := true, laidKinds := [.data, .data, .data, .data, .sentinel, .sentinel, .pinned], laidTests := true, laidLooks := .later }
def OpLinesUptoCardSaid : Prop := Claim7.holds Tryd.pinned (.plain (OpenSpec.upto opLinesSpec)) opLinesUptoCard

/-- THE SECOND FORM's CARD OF 'bellmanlaw19.OpParses'. -/
def opParsesUptoCard : Claim7 := { stood := { row := opParsesUptoRow, standIns := [], harness := (true, "dcfea059b96daabca6727404355fd4033103d74510e583df854e7115075281f3"), looks := true }, kinds := [], alts := [], laidByText := true, laidKinds := [.data, .data, .data, .data, .sentinel, .sentinel, .pinned], laidTests := true, laidLooks := .later }
def OpParsesUptoCardSaid : Prop := Claim7.holds Tryd.pinned (.plain (OpenSpec.upto opParsesSpec)) opParsesUptoCard

/-- THE SECOND FORM's CARD OF 'bellmanlaw27.RowsTell'. -/
def rowsTellUptoCard : Claim7 := { stood := { row := rowsTellUptoRow, standIns := [], harness := (true, "dcfea059b96daabca6727404355fd4033103d74510e583df854e7115075281f3"), looks := true }, kinds := [], alts := [], laidByText := true, laidKinds := [.data, .data, .data, .data, .sentinel, .sentinel, .pinned], laidTests := true, laidLooks := .later }
def RowsTellUptoCardSaid : Prop := Claim7.holds Tryd.pinned (.plain (OpenSpec.upto rowsTellSpec)) rowsTellUptoCard

/-- THE SECOND FORM's CARD OF 'bellmanlaw27.RowsTake'. -/
def rowsTakeUptoCard : Claim7 := { stood := { row := rowsTakeUptoRow, standIns := [], harness := (true, "dcfea059b96daabca6727404355fd4033103d74510e583df854e7115075281f3"), looks := true }, kinds := [], alts := [], laidByText := true, laidKinds := [.data, .data, .data, .data, .sentinel, .sentinel, .pinned], laidTests := true, laidLooks := .later }
def RowsTakeUptoCardSaid : Prop := Claim7.holds Tryd.pinned (.plain (OpenSpec.upto rowsTakeSpec)) rowsTakeUptoCard

/-- THE SECOND FORM's CARD OF 'bellmanlaw20.ScriptCuts'. -/
def scriptCutsUptoCard : Claim7 := { stood := { row := scriptCutsUptoRow, standIns := [], harness := (true, "dcfea059b96daabca6727404355fd4033103d74510e583df854e7115075281f3"), looks := true }, kinds := [], alts := [], laidByText := true, laidKinds := [.data, .data, .data, .data, .sentinel, .sentinel, .pinned], laidTests := true, laidLooks := .later }
def ScriptCutsUptoCardSaid : Prop := Claim7.holds Tryd.pinned (.plain (OpenSpec.upto scriptCutsSpec)) scriptCutsUptoCard
end Rows
end Go.Proofs.YthcclgoidchkdaaDoor
