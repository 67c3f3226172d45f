/-
  NARROWER THAN 'FOR EVERY INPUT', by the rows' own cells (each row's printed sentence says how): WalkStops: laid · WalkPairs: laid · ModelFifo: laid.
  DERIVED. THE GIVEN ROWS OF THIS SEAT. 3 by the template 'for every input the law returns true; each argument reads behind the call as it read before'; 0 by the template 'total and deterministic' (their statements: YtaddeakfojpdoaaGreatDoorTotals.lean).
  GIVEN WITH THE SEED: the statements are not yours to turn. If you find one false, say at which input.
  Laid BY PROGRAM, IN A SANDBOX (cutbox-rows.mjs): the forced cells as the released guide's own fill.sh prints them over the translation 788695712fc41f22… (all of the seat's roots in one cut). By AI agents, Wed Nov 11 2026. No macro, syntax, notation, axiom, sorry.
-/
import Derived.Test.YtaddeakfojpdoaaGreatDoorChecked
import GoSem.PinnedTables
import GoSem.Claim
import GoSem.ClaimJoined
import GoSem.ClaimMapViews
import Derived.JoinedTies
import Derived.KernelRfl
namespace Go.Proofs.YtaddeakfojpdoaaGreatDoor
/- THE CELL 'sum', in the pinned program and in every row, IS THE sha256 OF THE DUMP (.gsa) THAT YtaddeakfojpdoaaGreatDoorProg.lean LOADS. Nothing in Lean hashes anything: it is a label: what it is worth is what the hold of that sum in a sandbox is worth. -/
noncomputable def Tryz.pinned : Pinned := { name := "ytaddeakfojpdoaagreatdoor", sum := "788695712fc41f2264ab7138452dd9c29c39ac27c334da81515b8d296370f80e", checked := Tryz.checked }
namespace Rows
def none {H : Type} : Left H := { results := [], args := [] }

/- WHAT THE LISTED PACKAGE-LEVEL VARIABLES READ AS WHEN THE CALL BEGINS. Each datum BY PROGRAM (the guide's laid-datum.mjs) off the statement by which the dump's own 'gosem.cut.vars' lays the variable. In a bare row this is a premise. The card (YtaddeakfojpdoaaGreatDoorCards.lean) ties it to the program's text. -/
def laid_unicode_utf8_acceptRanges {H : Type} : DataW H := .agg [.agg [.lit (.int .u8 128), .lit (.int .u8 191)], .agg [.lit (.int .u8 160), .lit (.int .u8 191)], .agg [.lit (.int .u8 128), .lit (.int .u8 159)], .agg [.lit (.int .u8 144), .lit (.int .u8 191)], .agg [.lit (.int .u8 128), .lit (.int .u8 143)], .agg [.lit (.int .u8 0), .lit (.int .u8 0)], .agg [.lit (.int .u8 0), .lit (.int .u8 0)], .agg [.lit (.int .u8 0), .lit (.int .u8 0)], .agg [.lit (.int .u8 0), .lit (.int .u8 0)], .agg [.lit (.int .u8 0), .lit (.int .u8 0)], .agg [.lit (.int .u8 0), .lit (.int .u8 0)], .agg [.lit (.int .u8 0), .lit (.int .u8 0)], .agg [.lit (.int .u8 0), .lit (.int .u8 0)], .agg [.lit (.int .u8 0), .lit (.int .u8 0)], .agg [.lit (.int .u8 0), .lit (.int .u8 0)], .agg [.lit (.int .u8 0), .lit (.int .u8 0)]]
/-- One of Go's own tables, pinned by name: the form's constant. -/
def laid_unicode_utf8_first : DataW Unit := Go.Pinned.utf8First

/-- 'bellmanlaw14.WalkStops': WHATEVER THE INPUT: true; the input reads as it did. -/
def walkStopsSpec : ChangeSpec := { name := "walkStops", fn := fun _ => fun
  | [d1, d2, d3] => { results := [.lit (.bool true)], args := [d1, d2, d3] }
  | _ => none }
def walkStopsRow : OpenClaim := { program := "ytaddeakfojpdoaagreatdoor", sum := "788695712fc41f2264ab7138452dd9c29c39ac27c334da81515b8d296370f80e", func := "bellman/bellmanlaw14.WalkStops", spec := "walkStops", inPlace := ["internal/bytealg.IndexByteString", "internal/bytealg.IndexString", "slices.overlaps[int]", "slices.overlaps[struct{}]", "slices.overlaps[string]", "slices.overlaps[*bellman/node.Node]", "internal/bytealg.CountString"], unfollowed := true, recurses := true, named := ["unicode/utf8.first", "unicode/utf8.acceptRanges", "internal/bytealg.MaxLen"], apart := false, laid := [("unicode/utf8.acceptRanges", laid_unicode_utf8_acceptRanges), ("unicode/utf8.first", laid_unicode_utf8_first)] }
def WalkStopsSaid : Prop := walkStopsRow.holds Tryz.pinned (OpenSpec.ofChange walkStopsSpec)

/-- ITS FALSE NEIGHBOUR: 'it returns false'. Refute it at one input. -/
def walkStopsWrong : ChangeSpec := { name := "walkStops", fn := fun _ => fun
  | [d1, d2, d3] => { results := [.lit (.bool false)], args := [d1, d2, d3] }
  | _ => none }
def WalkStopsWrongFalsely : Prop := walkStopsRow.holds Tryz.pinned (OpenSpec.ofChange walkStopsWrong)

/-- 'bellmanlaw14.WalkPairs': WHATEVER THE INPUT: true; the input reads as it did. -/
def walkPairsSpec : ChangeSpec := { name := "walkPairs", fn := fun _ => fun
  | [d1, d2, d3, d4] => { results := [.lit (.bool true)], args := [d1, d2, d3, d4] }
  | _ => none }
def walkPairsRow : OpenClaim := { program := "ytaddeakfojpdoaagreatdoor", sum := "788695712fc41f2264ab7138452dd9c29c39ac27c334da81515b8d296370f80e", func := "bellman/bellmanlaw14.WalkPairs", spec := "walkPairs", inPlace := ["internal/bytealg.IndexByteString", "internal/bytealg.IndexString", "slices.overlaps[int]", "slices.overlaps[struct{}]", "slices.overlaps[string]", "slices.overlaps[*bellman/node.Node]", "internal/bytealg.CountString"], unfollowed := true, recurses := true, named := ["unicode/utf8.first", "unicode/utf8.acceptRanges", "internal/bytealg.MaxLen"], apart := false, laid := [("unicode/utf8.acceptRanges", laid_unicode_utf8_acceptRanges), ("unicode/utf8.first", laid_unicode_utf8_first)] }
def WalkPairsSaid : Prop := walkPairsRow.holds Tryz.pinned (OpenSpec.ofChange walkPairsSpec)

/-- ITS FALSE NEIGHBOUR: 'it returns false'. Refute it at one input. -/
def walkPairsWrong : ChangeSpec := { name := "walkPairs", fn := fun _ => fun
  | [d1, d2, d3, d4] => { results := [.lit (.bool false)], args := [d1, d2, d3, d4] }
  | _ => none }
def WalkPairsWrongFalsely : Prop := walkPairsRow.holds Tryz.pinned (OpenSpec.ofChange walkPairsWrong)

/-- 'bellmanlaw18.ModelFifo': WHATEVER THE INPUT: true; the input reads as it did. -/
def modelFifoSpec : ChangeSpec := { name := "modelFifo", fn := fun _ => fun
  | [d] => { results := [.lit (.bool true)], args := [d] }
  | _ => none }
def modelFifoRow : OpenClaim := { program := "ytaddeakfojpdoaagreatdoor", sum := "788695712fc41f2264ab7138452dd9c29c39ac27c334da81515b8d296370f80e", func := "bellman/bellmanlaw18.ModelFifo", spec := "modelFifo", inPlace := ["internal/bytealg.IndexByteString", "internal/bytealg.CountString", "internal/bytealg.IndexString", "slices.overlaps[int]", "slices.overlaps[struct{}]", "slices.overlaps[string]", "slices.overlaps[*bellman/node.Node]", "slices.overlaps[bellman/set.Set[string]]", "slices.overlaps[bellman/model.box]", "slices.overlaps[bellman/keep.entry]"], unfollowed := true, recurses := true, named := ["internal/bytealg.MaxLen", "unicode/utf8.first", "unicode/utf8.acceptRanges"], apart := false, laid := [("unicode/utf8.acceptRanges", laid_unicode_utf8_acceptRanges), ("unicode/utf8.first", laid_unicode_utf8_first)] }
def ModelFifoSaid : Prop := modelFifoRow.holds Tryz.pinned (OpenSpec.ofChange modelFifoSpec)

/-- ITS FALSE NEIGHBOUR: 'it returns false'. Refute it at one input. -/
def modelFifoWrong : ChangeSpec := { name := "modelFifo", fn := fun _ => fun
  | [d] => { results := [.lit (.bool false)], args := [d] }
  | _ => none }
def ModelFifoWrongFalsely : Prop := modelFifoRow.holds Tryz.pinned (OpenSpec.ofChange modelFifoWrong)

/- THE SECOND FORM. 'bulk': how many values and letters a reading holds, each counted each time it is reached (what is shared counts as often as it is met; a slice's spare places count too). A statement '..UptoSaid' is the law's where the arguments, and the package variables that the reading takes, are together of bulk at most 1048576: NARROWER than '..Said'. Prove '..Said' where nothing that the law and all that it calls make is longer than what came in: it says more and counts as full. Else prove '..UptoSaid'. A law counts once. -/
mutual
def uptoBulk {H : Type} : DataW H → Nat
  | .lit (.string bytes) => bytes.length + 1
  | .lit _ => 1
  | .nil => 1
  | .ptr d => uptoBulk d + 1
  | .slice elems spare => uptoBulkAll elems + uptoBulkAll spare + 1
  | .agg parts => uptoBulkAll parts + 1
  | .iface _ d => uptoBulk d + 1
  | .map entries => uptoBulkEntries entries + 1
  | .held _ => 1
def uptoBulkAll {H : Type} : List (DataW H) → Nat
  | [] => 0
  | d :: r => uptoBulk d + uptoBulkAll r
def uptoBulkEntries {H : Type} : List (Lit × DataW H) → Nat
  | [] => 0
  | x :: r => uptoBulkEntry x + uptoBulkEntries r
def uptoBulkEntry {H : Type} : Lit × DataW H → Nat
  | (.string bytes, d) => bytes.length + uptoBulk d + 1
  | (_, d) => uptoBulk d + 1
 end
def uptoSmall : (H : Type) → List (DataW H) → Bool := fun _ ds => decide (uptoBulkAll ds ≤ 1048576)
def OpenSpec.upto (s : _root_.Go.ChangeSpec) : _root_.Go.OpenSpec := { _root_.Go.OpenSpec.ofChange s with cond := some uptoSmall }

/-- 'bellmanlaw14.WalkStops', WHERE WHAT IT READS IS OF BULK AT MOST 1048576: true; the input reads as it did. -/
def walkStopsUptoRow : OpenClaim := { program := "ytaddeakfojpdoaagreatdoor", sum := "788695712fc41f2264ab7138452dd9c29c39ac27c334da81515b8d296370f80e", func := "bellman/bellmanlaw14.WalkStops", spec := "walkStops", inPlace := ["internal/bytealg.IndexByteString", "internal/bytealg.IndexString", "slices.overlaps[int]", "slices.overlaps[struct{}]", "slices.overlaps[string]", "slices.overlaps[*bellman/node.Node]", "internal/bytealg.CountString"], unfollowed := true, recurses := true, named := ["unicode/utf8.first", "unicode/utf8.acceptRanges", "internal/bytealg.MaxLen"], apart := false, laid := [("unicode/utf8.acceptRanges", laid_unicode_utf8_acceptRanges), ("unicode/utf8.first", laid_unicode_utf8_first)], narrowed := true }
def WalkStopsUptoSaid : Prop := walkStopsUptoRow.holds Tryz.pinned (OpenSpec.upto walkStopsSpec)

/-- 'bellmanlaw14.WalkPairs', WHERE WHAT IT READS IS OF BULK AT MOST 1048576: true; the input reads as it did. -/
def walkPairsUptoRow : OpenClaim := { program := "ytaddeakfojpdoaagreatdoor", sum := "788695712fc41f2264ab7138452dd9c29c39ac27c334da81515b8d296370f80e", func := "bellman/bellmanlaw14.WalkPairs", spec := "walkPairs", inPlace := ["internal/bytealg.IndexByteString", "internal/bytealg.IndexString", "slices.overlaps[int]", "slices.overlaps[struct{}]", "slices.overlaps[string]", "slices.overlaps[*bellman/node.Node]", "internal/bytealg.CountString"], unfollowed := true, recurses := true, named := ["unicode/utf8.first", "unicode/utf8.acceptRanges", "internal/bytealg.MaxLen"], apart := false, laid := [("unicode/utf8.acceptRanges", laid_unicode_utf8_acceptRanges), ("unicode/utf8.first", laid_unicode_utf8_first)], narrowed := true }
def WalkPairsUptoSaid : Prop := walkPairsUptoRow.holds Tryz.pinned (OpenSpec.upto walkPairsSpec)

/-- 'bellmanlaw18.ModelFifo', WHERE WHAT IT READS IS OF BULK AT MOST 1048576: true; the input reads as it did. -/
def modelFifoUptoRow : OpenClaim := { program := "ytaddeakfojpdoaagreatdoor", sum := "788695712fc41f2264ab7138452dd9c29c39ac27c334da81515b8d296370f80e", func := "bellman/bellmanlaw18.ModelFifo", spec := "modelFifo", inPlace := ["internal/bytealg.IndexByteString", "internal/bytealg.CountString", "internal/bytealg.IndexString", "slices.overlaps[int]", "slices.overlaps[struct{}]", "slices.overlaps[string]", "slices.overlaps[*bellman/node.Node]", "slices.overlaps[bellman/set.Set[string]]", "slices.overlaps[bellman/model.box]", "slices.overlaps[bellman/keep.entry]"], unfollowed := true, recurses := true, named := ["internal/bytealg.MaxLen", "unicode/utf8.first", "unicode/utf8.acceptRanges"], apart := false, laid := [("unicode/utf8.acceptRanges", laid_unicode_utf8_acceptRanges), ("unicode/utf8.first", laid_unicode_utf8_first)], narrowed := true }
def ModelFifoUptoSaid : Prop := modelFifoUptoRow.holds Tryz.pinned (OpenSpec.upto modelFifoSpec)

end Rows
end Go.Proofs.YtaddeakfojpdoaaGreatDoor
