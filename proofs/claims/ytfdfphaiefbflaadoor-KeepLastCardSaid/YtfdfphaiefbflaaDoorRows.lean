/-
  NARROWER THAN 'FOR EVERY INPUT', by the rows' own cells (each row's printed sentence says how): TopicEach: laid · LinFinds: laid · LinOrders: laid · LinNone: laid · TopicTells: laid · TopicJoins: laid · MatchLevels: laid · MatchCovers: laid · MatchTells: laid · KeepPlays: laid · KeepLast: laid.
  DERIVED. THE GIVEN ROWS OF THIS SEAT. 11 by the template 'for every input the law returns true; each argument reads behind the call as it read before'; 0 by the template 'total and deterministic' (their statements: YtfdfphaiefbflaaDoorTotals.lean).
  GIVEN WITH THE SEED: the statements are not yours to turn. If you find one false, say at which input.
  Laid BY PROGRAM, IN A SANDBOX (cutbox-rows.mjs): the forced cells as the released guide's own fill.sh prints them over the translation 073d8cd0b818ba7e… (all of the seat's roots in one cut). By AI agents, Wed Nov 11 2026. No macro, syntax, notation, axiom, sorry.
-/
import Derived.Test.YtfdfphaiefbflaaDoorChecked
import GoSem.PinnedTables
import GoSem.Claim
import GoSem.ClaimJoined
import GoSem.ClaimMapViews
import Derived.JoinedTies
import Derived.KernelRfl
namespace Go.Proofs.YtfdfphaiefbflaaDoor
/- THE CELL 'sum', in the pinned program and in every row, IS THE sha256 OF THE DUMP (.gsa) THAT YtfdfphaiefbflaaDoorProg.lean LOADS. Nothing in Lean hashes anything: it is a label: what it is worth is what the hold of that sum in a sandbox is worth. -/
noncomputable def Tryd.pinned : Pinned := { name := "ytfdfphaiefbflaadoor", sum := "073d8cd0b818ba7e7e73b40ab9526e1db95b317ae66e46ca86c4201a64e91e39", checked := Tryd.checked }
namespace Rows
def none {H : Type} : Left H := { results := [], args := [] }

/- WHAT THE LISTED PACKAGE-LEVEL VARIABLES READ AS WHEN THE CALL BEGINS. Each datum BY PROGRAM (the guide's laid-datum.mjs) off the statement by which the dump's own 'gosem.cut.vars' lays the variable. In a bare row this is a premise. The card (YtfdfphaiefbflaaDoorCards.lean) ties it to the program's text. -/
def laid_unicode_utf8_acceptRanges {H : Type} : DataW H := .agg [.agg [.lit (.int .u8 128), .lit (.int .u8 191)], .agg [.lit (.int .u8 160), .lit (.int .u8 191)], .agg [.lit (.int .u8 128), .lit (.int .u8 159)], .agg [.lit (.int .u8 144), .lit (.int .u8 191)], .agg [.lit (.int .u8 128), .lit (.int .u8 143)], .agg [.lit (.int .u8 0), .lit (.int .u8 0)], .agg [.lit (.int .u8 0), .lit (.int .u8 0)], .agg [.lit (.int .u8 0), .lit (.int .u8 0)], .agg [.lit (.int .u8 0), .lit (.int .u8 0)], .agg [.lit (.int .u8 0), .lit (.int .u8 0)], .agg [.lit (.int .u8 0), .lit (.int .u8 0)], .agg [.lit (.int .u8 0), .lit (.int .u8 0)], .agg [.lit (.int .u8 0), .lit (.int .u8 0)], .agg [.lit (.int .u8 0), .lit (.int .u8 0)], .agg [.lit (.int .u8 0), .lit (.int .u8 0)], .agg [.lit (.int .u8 0), .lit (.int .u8 0)]]
/-- One of Go's own tables, pinned by name: the form's constant. -/
def laid_unicode_utf8_first : DataW Unit := Go.Pinned.utf8First
def laid_math_bits_deBruijn32tab {H : Type} : DataW H := .agg [.lit (.int .u8 0), .lit (.int .u8 1), .lit (.int .u8 28), .lit (.int .u8 2), .lit (.int .u8 29), .lit (.int .u8 14), .lit (.int .u8 24), .lit (.int .u8 3), .lit (.int .u8 30), .lit (.int .u8 22), .lit (.int .u8 20), .lit (.int .u8 15), .lit (.int .u8 25), .lit (.int .u8 17), .lit (.int .u8 4), .lit (.int .u8 8), .lit (.int .u8 31), .lit (.int .u8 27), .lit (.int .u8 13), .lit (.int .u8 23), .lit (.int .u8 21), .lit (.int .u8 19), .lit (.int .u8 16), .lit (.int .u8 7), .lit (.int .u8 26), .lit (.int .u8 12), .lit (.int .u8 18), .lit (.int .u8 6), .lit (.int .u8 11), .lit (.int .u8 5), .lit (.int .u8 10), .lit (.int .u8 9)]
def laid_math_bits_deBruijn64tab {H : Type} : DataW H := .agg [.lit (.int .u8 0), .lit (.int .u8 1), .lit (.int .u8 56), .lit (.int .u8 2), .lit (.int .u8 57), .lit (.int .u8 49), .lit (.int .u8 28), .lit (.int .u8 3), .lit (.int .u8 61), .lit (.int .u8 58), .lit (.int .u8 42), .lit (.int .u8 50), .lit (.int .u8 38), .lit (.int .u8 29), .lit (.int .u8 17), .lit (.int .u8 4), .lit (.int .u8 62), .lit (.int .u8 47), .lit (.int .u8 59), .lit (.int .u8 36), .lit (.int .u8 45), .lit (.int .u8 43), .lit (.int .u8 51), .lit (.int .u8 22), .lit (.int .u8 53), .lit (.int .u8 39), .lit (.int .u8 33), .lit (.int .u8 30), .lit (.int .u8 24), .lit (.int .u8 18), .lit (.int .u8 12), .lit (.int .u8 5), .lit (.int .u8 63), .lit (.int .u8 55), .lit (.int .u8 48), .lit (.int .u8 27), .lit (.int .u8 60), .lit (.int .u8 41), .lit (.int .u8 37), .lit (.int .u8 16), .lit (.int .u8 46), .lit (.int .u8 35), .lit (.int .u8 44), .lit (.int .u8 21), .lit (.int .u8 52), .lit (.int .u8 32), .lit (.int .u8 23), .lit (.int .u8 11), .lit (.int .u8 54), .lit (.int .u8 26), .lit (.int .u8 40), .lit (.int .u8 15), .lit (.int .u8 34), .lit (.int .u8 20), .lit (.int .u8 31), .lit (.int .u8 10), .lit (.int .u8 25), .lit (.int .u8 14), .lit (.int .u8 19), .lit (.int .u8 9), .lit (.int .u8 13), .lit (.int .u8 8), .lit (.int .u8 7), .lit (.int .u8 6)]
def laid_internal_strconv_uint64pow10 {H : Type} : DataW H := .agg [.lit (.int .u64 1), .lit (.int .u64 10), .lit (.int .u64 100), .lit (.int .u64 1000), .lit (.int .u64 10000), .lit (.int .u64 100000), .lit (.int .u64 1000000), .lit (.int .u64 10000000), .lit (.int .u64 100000000), .lit (.int .u64 1000000000), .lit (.int .u64 10000000000), .lit (.int .u64 100000000000), .lit (.int .u64 1000000000000), .lit (.int .u64 10000000000000), .lit (.int .u64 100000000000000), .lit (.int .u64 1000000000000000), .lit (.int .u64 10000000000000000), .lit (.int .u64 100000000000000000), .lit (.int .u64 1000000000000000000), .lit (.int .u64 10000000000000000000)]

/-- 'bellmanlaw01.TopicEach': WHATEVER THE INPUT: true; the input reads as it did. -/
def topicEachSpec : ChangeSpec := { name := "topicEach", fn := fun _ => fun
  | [d1, d2] => { results := [.lit (.bool true)], args := [d1, d2] }
  | _ => none }
def topicEachRow : OpenClaim := { program := "ytfdfphaiefbflaadoor", sum := "073d8cd0b818ba7e7e73b40ab9526e1db95b317ae66e46ca86c4201a64e91e39", func := "bellman/bellmanlaw01.TopicEach", spec := "topicEach", inPlace := ["internal/bytealg.IndexByteString", "internal/bytealg.CountString", "internal/bytealg.IndexString"], unfollowed := true, recurses := true, named := ["internal/bytealg.MaxLen", "unicode/utf8.first", "unicode/utf8.acceptRanges"], apart := false, laid := [("unicode/utf8.acceptRanges", laid_unicode_utf8_acceptRanges), ("unicode/utf8.first", laid_unicode_utf8_first)] }
def TopicEachSaid : Prop := topicEachRow.holds Tryd.pinned (OpenSpec.ofChange topicEachSpec)

/-- ITS FALSE NEIGHBOUR: 'it returns false'. Refute it at one input. -/
def topicEachWrong : ChangeSpec := { name := "topicEach", fn := fun _ => fun
  | [d1, d2] => { results := [.lit (.bool false)], args := [d1, d2] }
  | _ => none }
def TopicEachWrongFalsely : Prop := topicEachRow.holds Tryd.pinned (OpenSpec.ofChange topicEachWrong)

/-- 'bellmanlaw08.LinFinds': WHATEVER THE INPUT: true; the input reads as it did. -/
def linFindsSpec : ChangeSpec := { name := "linFinds", fn := fun _ => fun
  | [d1, d2] => { results := [.lit (.bool true)], args := [d1, d2] }
  | _ => none }
def linFindsRow : OpenClaim := { program := "ytfdfphaiefbflaadoor", sum := "073d8cd0b818ba7e7e73b40ab9526e1db95b317ae66e46ca86c4201a64e91e39", func := "bellman/bellmanlaw08.LinFinds", spec := "linFinds", unfollowed := true, recurses := true, named := ["internal/strconv.uint64pow10", "math/bits.deBruijn32tab", "math/bits.deBruijn64tab"], apart := false, laid := [("math/bits.deBruijn32tab", laid_math_bits_deBruijn32tab), ("math/bits.deBruijn64tab", laid_math_bits_deBruijn64tab), ("internal/strconv.uint64pow10", laid_internal_strconv_uint64pow10)] }
def LinFindsSaid : Prop := linFindsRow.holds Tryd.pinned (OpenSpec.ofChange linFindsSpec)

/-- ITS FALSE NEIGHBOUR: 'it returns false'. Refute it at one input. -/
def linFindsWrong : ChangeSpec := { name := "linFinds", fn := fun _ => fun
  | [d1, d2] => { results := [.lit (.bool false)], args := [d1, d2] }
  | _ => none }
def LinFindsWrongFalsely : Prop := linFindsRow.holds Tryd.pinned (OpenSpec.ofChange linFindsWrong)

/-- 'bellmanlaw08.LinOrders': WHATEVER THE INPUT: true; the input reads as it did. -/
def linOrdersSpec : ChangeSpec := { name := "linOrders", fn := fun _ => fun
  | [d1, d2] => { results := [.lit (.bool true)], args := [d1, d2] }
  | _ => none }
def linOrdersRow : OpenClaim := { program := "ytfdfphaiefbflaadoor", sum := "073d8cd0b818ba7e7e73b40ab9526e1db95b317ae66e46ca86c4201a64e91e39", func := "bellman/bellmanlaw08.LinOrders", spec := "linOrders", unfollowed := true, recurses := true, named := ["internal/strconv.uint64pow10", "math/bits.deBruijn32tab", "math/bits.deBruijn64tab"], apart := false, laid := [("math/bits.deBruijn32tab", laid_math_bits_deBruijn32tab), ("math/bits.deBruijn64tab", laid_math_bits_deBruijn64tab), ("internal/strconv.uint64pow10", laid_internal_strconv_uint64pow10)] }
def LinOrdersSaid : Prop := linOrdersRow.holds Tryd.pinned (OpenSpec.ofChange linOrdersSpec)

/-- ITS FALSE NEIGHBOUR: 'it returns false'. Refute it at one input. -/
def linOrdersWrong : ChangeSpec := { name := "linOrders", fn := fun _ => fun
  | [d1, d2] => { results := [.lit (.bool false)], args := [d1, d2] }
  | _ => none }
def LinOrdersWrongFalsely : Prop := linOrdersRow.holds Tryd.pinned (OpenSpec.ofChange linOrdersWrong)

/-- 'bellmanlaw08.LinNone': WHATEVER THE INPUT: true; the input reads as it did. -/
def linNoneSpec : ChangeSpec := { name := "linNone", fn := fun _ => fun
  | [d] => { results := [.lit (.bool true)], args := [d] }
  | _ => none }
def linNoneRow : OpenClaim := { program := "ytfdfphaiefbflaadoor", sum := "073d8cd0b818ba7e7e73b40ab9526e1db95b317ae66e46ca86c4201a64e91e39", func := "bellman/bellmanlaw08.LinNone", spec := "linNone", unfollowed := true, recurses := true, named := ["internal/strconv.uint64pow10", "math/bits.deBruijn32tab", "math/bits.deBruijn64tab"], apart := false, laid := [("math/bits.deBruijn32tab", laid_math_bits_deBruijn32tab), ("math/bits.deBruijn64tab", laid_math_bits_deBruijn64tab), ("internal/strconv.uint64pow10", laid_internal_strconv_uint64pow10)] }
def LinNoneSaid : Prop := linNoneRow.holds Tryd.pinned (OpenSpec.ofChange linNoneSpec)

/-- ITS FALSE NEIGHBOUR: 'it returns false'. Refute it at one input. -/
def linNoneWrong : ChangeSpec := { name := "linNone", fn := fun _ => fun
  | [d] => { results := [.lit (.bool false)], args := [d] }
  | _ => none }
def LinNoneWrongFalsely : Prop := linNoneRow.holds Tryd.pinned (OpenSpec.ofChange linNoneWrong)

/-- 'bellmanlaw01.TopicTells': WHATEVER THE INPUT: true; the input reads as it did. -/
def topicTellsSpec : ChangeSpec := { name := "topicTells", fn := fun _ => fun
  | [d] => { results := [.lit (.bool true)], args := [d] }
  | _ => none }
def topicTellsRow : OpenClaim := { program := "ytfdfphaiefbflaadoor", sum := "073d8cd0b818ba7e7e73b40ab9526e1db95b317ae66e46ca86c4201a64e91e39", func := "bellman/bellmanlaw01.TopicTells", spec := "topicTells", inPlace := ["internal/bytealg.IndexByteString", "internal/bytealg.CountString", "internal/bytealg.IndexString"], unfollowed := true, recurses := true, named := ["internal/bytealg.MaxLen", "unicode/utf8.first", "unicode/utf8.acceptRanges"], apart := false, laid := [("unicode/utf8.acceptRanges", laid_unicode_utf8_acceptRanges), ("unicode/utf8.first", laid_unicode_utf8_first)] }
def TopicTellsSaid : Prop := topicTellsRow.holds Tryd.pinned (OpenSpec.ofChange topicTellsSpec)

/-- ITS FALSE NEIGHBOUR: 'it returns false'. Refute it at one input. -/
def topicTellsWrong : ChangeSpec := { name := "topicTells", fn := fun _ => fun
  | [d] => { results := [.lit (.bool false)], args := [d] }
  | _ => none }
def TopicTellsWrongFalsely : Prop := topicTellsRow.holds Tryd.pinned (OpenSpec.ofChange topicTellsWrong)

/-- 'bellmanlaw01.TopicJoins': WHATEVER THE INPUT: true; the input reads as it did. -/
def topicJoinsSpec : ChangeSpec := { name := "topicJoins", fn := fun _ => fun
  | [d] => { results := [.lit (.bool true)], args := [d] }
  | _ => none }
def topicJoinsRow : OpenClaim := { program := "ytfdfphaiefbflaadoor", sum := "073d8cd0b818ba7e7e73b40ab9526e1db95b317ae66e46ca86c4201a64e91e39", func := "bellman/bellmanlaw01.TopicJoins", spec := "topicJoins", inPlace := ["internal/bytealg.IndexByteString", "internal/bytealg.CountString", "internal/bytealg.IndexString"], unfollowed := true, recurses := true, named := ["internal/bytealg.MaxLen", "unicode/utf8.first", "unicode/utf8.acceptRanges"], apart := false, laid := [("unicode/utf8.acceptRanges", laid_unicode_utf8_acceptRanges), ("unicode/utf8.first", laid_unicode_utf8_first)] }
def TopicJoinsSaid : Prop := topicJoinsRow.holds Tryd.pinned (OpenSpec.ofChange topicJoinsSpec)

/-- ITS FALSE NEIGHBOUR: 'it returns false'. Refute it at one input. -/
def topicJoinsWrong : ChangeSpec := { name := "topicJoins", fn := fun _ => fun
  | [d] => { results := [.lit (.bool false)], args := [d] }
  | _ => none }
def TopicJoinsWrongFalsely : Prop := topicJoinsRow.holds Tryd.pinned (OpenSpec.ofChange topicJoinsWrong)

/-- 'bellmanlaw02.MatchLevels': WHATEVER THE INPUT: true; the input reads as it did. -/
def matchLevelsSpec : ChangeSpec := { name := "matchLevels", fn := fun _ => fun
  | [d1, d2] => { results := [.lit (.bool true)], args := [d1, d2] }
  | _ => none }
def matchLevelsRow : OpenClaim := { program := "ytfdfphaiefbflaadoor", sum := "073d8cd0b818ba7e7e73b40ab9526e1db95b317ae66e46ca86c4201a64e91e39", func := "bellman/bellmanlaw02.MatchLevels", spec := "matchLevels", inPlace := ["internal/bytealg.IndexByteString", "internal/bytealg.CountString", "internal/bytealg.IndexString"], unfollowed := true, recurses := true, named := ["internal/bytealg.MaxLen", "unicode/utf8.first", "unicode/utf8.acceptRanges"], apart := false, laid := [("unicode/utf8.acceptRanges", laid_unicode_utf8_acceptRanges), ("unicode/utf8.first", laid_unicode_utf8_first)] }
def MatchLevelsSaid : Prop := matchLevelsRow.holds Tryd.pinned (OpenSpec.ofChange matchLevelsSpec)

/-- ITS FALSE NEIGHBOUR: 'it returns false'. Refute it at one input. -/
def matchLevelsWrong : ChangeSpec := { name := "matchLevels", fn := fun _ => fun
  | [d1, d2] => { results := [.lit (.bool false)], args := [d1, d2] }
  | _ => none }
def MatchLevelsWrongFalsely : Prop := matchLevelsRow.holds Tryd.pinned (OpenSpec.ofChange matchLevelsWrong)

/-- 'bellmanlaw02.MatchCovers': WHATEVER THE INPUT: true; the input reads as it did. -/
def matchCoversSpec : ChangeSpec := { name := "matchCovers", fn := fun _ => fun
  | [d1, d2, d3] => { results := [.lit (.bool true)], args := [d1, d2, d3] }
  | _ => none }
def matchCoversRow : OpenClaim := { program := "ytfdfphaiefbflaadoor", sum := "073d8cd0b818ba7e7e73b40ab9526e1db95b317ae66e46ca86c4201a64e91e39", func := "bellman/bellmanlaw02.MatchCovers", spec := "matchCovers", inPlace := ["internal/bytealg.IndexByteString", "internal/bytealg.CountString", "internal/bytealg.IndexString"], unfollowed := true, recurses := true, named := ["internal/bytealg.MaxLen", "unicode/utf8.first", "unicode/utf8.acceptRanges"], apart := false, laid := [("unicode/utf8.acceptRanges", laid_unicode_utf8_acceptRanges), ("unicode/utf8.first", laid_unicode_utf8_first)] }
def MatchCoversSaid : Prop := matchCoversRow.holds Tryd.pinned (OpenSpec.ofChange matchCoversSpec)

/-- ITS FALSE NEIGHBOUR: 'it returns false'. Refute it at one input. -/
def matchCoversWrong : ChangeSpec := { name := "matchCovers", fn := fun _ => fun
  | [d1, d2, d3] => { results := [.lit (.bool false)], args := [d1, d2, d3] }
  | _ => none }
def MatchCoversWrongFalsely : Prop := matchCoversRow.holds Tryd.pinned (OpenSpec.ofChange matchCoversWrong)

/-- 'bellmanlaw02.MatchTells': WHATEVER THE INPUT: true; the input reads as it did. -/
def matchTellsSpec : ChangeSpec := { name := "matchTells", fn := fun _ => fun
  | [d1, d2, d3, d4] => { results := [.lit (.bool true)], args := [d1, d2, d3, d4] }
  | _ => none }
def matchTellsRow : OpenClaim := { program := "ytfdfphaiefbflaadoor", sum := "073d8cd0b818ba7e7e73b40ab9526e1db95b317ae66e46ca86c4201a64e91e39", func := "bellman/bellmanlaw02.MatchTells", spec := "matchTells", inPlace := ["internal/bytealg.IndexByteString", "internal/bytealg.CountString", "internal/bytealg.IndexString"], unfollowed := true, recurses := true, named := ["internal/bytealg.MaxLen", "unicode/utf8.first", "unicode/utf8.acceptRanges"], apart := false, laid := [("unicode/utf8.acceptRanges", laid_unicode_utf8_acceptRanges), ("unicode/utf8.first", laid_unicode_utf8_first)] }
def MatchTellsSaid : Prop := matchTellsRow.holds Tryd.pinned (OpenSpec.ofChange matchTellsSpec)

/-- ITS FALSE NEIGHBOUR: 'it returns false'. Refute it at one input. -/
def matchTellsWrong : ChangeSpec := { name := "matchTells", fn := fun _ => fun
  | [d1, d2, d3, d4] => { results := [.lit (.bool false)], args := [d1, d2, d3, d4] }
  | _ => none }
def MatchTellsWrongFalsely : Prop := matchTellsRow.holds Tryd.pinned (OpenSpec.ofChange matchTellsWrong)

/-- 'bellmanlaw15.KeepPlays': WHATEVER THE INPUT: true; the input reads as it did. -/
def keepPlaysSpec : ChangeSpec := { name := "keepPlays", fn := fun _ => fun
  | [d1, d2, d3, d4] => { results := [.lit (.bool true)], args := [d1, d2, d3, d4] }
  | _ => none }
def keepPlaysRow : OpenClaim := { program := "ytfdfphaiefbflaadoor", sum := "073d8cd0b818ba7e7e73b40ab9526e1db95b317ae66e46ca86c4201a64e91e39", func := "bellman/bellmanlaw15.KeepPlays", spec := "keepPlays", inPlace := ["internal/bytealg.IndexByteString", "internal/bytealg.IndexString", "slices.overlaps[string]", "slices.overlaps[bellman/keep.entry]", "internal/bytealg.CountString"], unfollowed := true, recurses := true, named := ["internal/bytealg.MaxLen", "unicode/utf8.first", "unicode/utf8.acceptRanges"], apart := false, laid := [("unicode/utf8.acceptRanges", laid_unicode_utf8_acceptRanges), ("unicode/utf8.first", laid_unicode_utf8_first)] }
def KeepPlaysSaid : Prop := keepPlaysRow.holds Tryd.pinned (OpenSpec.ofChange keepPlaysSpec)

/-- ITS FALSE NEIGHBOUR: 'it returns false'. Refute it at one input. -/
def keepPlaysWrong : ChangeSpec := { name := "keepPlays", fn := fun _ => fun
  | [d1, d2, d3, d4] => { results := [.lit (.bool false)], args := [d1, d2, d3, d4] }
  | _ => none }
def KeepPlaysWrongFalsely : Prop := keepPlaysRow.holds Tryd.pinned (OpenSpec.ofChange keepPlaysWrong)

/-- 'bellmanlaw15.KeepLast': WHATEVER THE INPUT: true; the input reads as it did. -/
def keepLastSpec : ChangeSpec := { name := "keepLast", fn := fun _ => fun
  | [d1, d2] => { results := [.lit (.bool true)], args := [d1, d2] }
  | _ => none }
def keepLastRow : OpenClaim := { program := "ytfdfphaiefbflaadoor", sum := "073d8cd0b818ba7e7e73b40ab9526e1db95b317ae66e46ca86c4201a64e91e39", func := "bellman/bellmanlaw15.KeepLast", spec := "keepLast", inPlace := ["internal/bytealg.IndexByteString", "internal/bytealg.IndexString", "slices.overlaps[string]", "slices.overlaps[bellman/keep.entry]", "internal/bytealg.CountString"], unfollowed := true, recurses := true, named := ["internal/bytealg.MaxLen", "unicode/utf8.first", "unicode/utf8.acceptRanges"], apart := false, laid := [("unicode/utf8.acceptRanges", laid_unicode_utf8_acceptRanges), ("unicode/utf8.first", laid_unicode_utf8_first)] }
def KeepLastSaid : Prop := keepLastRow.holds Tryd.pinned (OpenSpec.ofChange keepLastSpec)

/-- ITS FALSE NEIGHBOUR: 'it returns false'. Refute it at one input. -/
def keepLastWrong : ChangeSpec := { name := "keepLast", fn := fun _ => fun
  | [d1, d2] => { results := [.lit (.bool false)], args := [d1, d2] }
  | _ => none }
def KeepLastWrongFalsely : Prop := keepLastRow.holds Tryd.pinned (OpenSpec.ofChange keepLastWrong)

/- THE SECOND FORM. 'bulk': how many values and letters a reading holds, each counted each time it is reached (what is shared counts as often as it is met; a slice's spare places count too). A statement '..UptoSaid' is the law's where the arguments, and the package variables that the reading takes, are together of bulk at most 1048576: NARROWER than '..Said'. Prove '..Said' where nothing that the law and all that it calls make is longer than what came in: it says more and counts as full. Else prove '..UptoSaid'. A law counts once. -/
mutual
def uptoBulk {H : Type} : DataW H → Nat
  | .lit (.string bytes) => bytes.length + 1
  | .lit _ => 1
  | .nil => 1
  | .ptr d => uptoBulk d + 1
  | .slice elems spare => uptoBulkAll elems + uptoBulkAll spare + 1
  | .agg parts => uptoBulkAll parts + 1
  | .iface _ d => uptoBulk d + 1
  | .map entries => uptoBulkEntries entries + 1
  | .held _ => 1
def uptoBulkAll {H : Type} : List (DataW H) → Nat
  | [] => 0
  | d :: r => uptoBulk d + uptoBulkAll r
def uptoBulkEntries {H : Type} : List (Lit × DataW H) → Nat
  | [] => 0
  | x :: r => uptoBulkEntry x + uptoBulkEntries r
def uptoBulkEntry {H : Type} : Lit × DataW H → Nat
  | (.string bytes, d) => bytes.length + uptoBulk d + 1
  | (_, d) => uptoBulk d + 1
 end
def uptoSmall : (H : Type) → List (DataW H) → Bool := fun _ ds => decide (uptoBulkAll ds ≤ 1048576)
def OpenSpec.upto (s : _root_.Go.ChangeSpec) : _root_.Go.OpenSpec := { _root_.Go.OpenSpec.ofChange s with cond := some uptoSmall }

/-- 'bellmanlaw01.TopicEach', WHERE WHAT IT READS IS OF BULK AT MOST 1048576: true; the input reads as it did. -/
def topicEachUptoRow : OpenClaim := { program := "ytfdfphaiefbflaadoor", sum := "073d8cd0b818ba7e7e73b40ab9526e1db95b317ae66e46ca86c4201a64e91e39", func := "bellman/bellmanlaw01.TopicEach", spec := "topicEach", inPlace := ["internal/bytealg.IndexByteString", "internal/bytealg.CountString", "internal/bytealg.IndexString"], unfollowed := true, recurses := true, named := ["internal/bytealg.MaxLen", "unicode/utf8.first", "unicode/utf8.acceptRanges"], apart := false, laid := [("unicode/utf8.acceptRanges", laid_unicode_utf8_acceptRanges), ("unicode/utf8.first", laid_unicode_utf8_first)], narrowed := true }
def TopicEachUptoSaid : Prop := topicEachUptoRow.holds Tryd.pinned (OpenSpec.upto topicEachSpec)

/-- 'bellmanlaw08.LinFinds', WHERE WHAT IT READS IS OF BULK AT MOST 1048576: true; the input reads as it did. -/
def linFindsUptoRow : OpenClaim := { program := "ytfdfphaiefbflaadoor", sum := "073d8cd0b818ba7e7e73b40ab9526e1db95b317ae66e46ca86c4201a64e91e39", func := "bellman/bellmanlaw08.LinFinds", spec := "linFinds", unfollowed := true, recurses := true, named := ["internal/strconv.uint64pow10", "math/bits.deBruijn32tab", "math/bits.deBruijn64tab"], apart := false, laid := [("math/bits.deBruijn32tab", laid_math_bits_deBruijn32tab), ("math/bits.deBruijn64tab", laid_math_bits_deBruijn64tab), ("internal/strconv.uint64pow10", laid_internal_strconv_uint64pow10)], narrowed := true }
def LinFindsUptoSaid : Prop := linFindsUptoRow.holds Tryd.pinned (OpenSpec.upto linFindsSpec)

/-- 'bellmanlaw08.LinOrders', WHERE WHAT IT READS IS OF BULK AT MOST 1048576: true; the input reads as it did. -/
def linOrdersUptoRow : OpenClaim := { program := "ytfdfphaiefbflaadoor", sum := "073d8cd0b818ba7e7e73b40ab9526e1db95b317ae66e46ca86c4201a64e91e39", func := "bellman/bellmanlaw08.LinOrders", spec := "linOrders", unfollowed := true, recurses := true, named := ["internal/strconv.uint64pow10", "math/bits.deBruijn32tab", "math/bits.deBruijn64tab"], apart := false, laid := [("math/bits.deBruijn32tab", laid_math_bits_deBruijn32tab), ("math/bits.deBruijn64tab", laid_math_bits_deBruijn64tab), ("internal/strconv.uint64pow10", laid_internal_strconv_uint64pow10)], narrowed := true }
def LinOrdersUptoSaid : Prop := linOrdersUptoRow.holds Tryd.pinned (OpenSpec.upto linOrdersSpec)

/-- 'bellmanlaw08.LinNone', WHERE WHAT IT READS IS OF BULK AT MOST 1048576: true; the input reads as it did. -/
def linNoneUptoRow : OpenClaim := { program := "ytfdfphaiefbflaadoor", sum := "073d8cd0b818ba7e7e73b40ab9526e1db95b317ae66e46ca86c4201a64e91e39", func := "bellman/bellmanlaw08.LinNone", spec := "linNone", unfollowed := true, recurses := true, named := ["internal/strconv.uint64pow10", "math/bits.deBruijn32tab", "math/bits.deBruijn64tab"], apart := false, laid := [("math/bits.deBruijn32tab", laid_math_bits_deBruijn32tab), ("math/bits.deBruijn64tab", laid_math_bits_deBruijn64tab), ("internal/strconv.uint64pow10", laid_internal_strconv_uint64pow10)], narrowed := true }
def LinNoneUptoSaid : Prop := linNoneUptoRow.holds Tryd.pinned (OpenSpec.upto linNoneSpec)

/-- 'bellmanlaw01.TopicTells', WHERE WHAT IT READS IS OF BULK AT MOST 1048576: true; the input reads as it did. -/
def topicTellsUptoRow : OpenClaim := { program := "ytfdfphaiefbflaadoor", sum := "073d8cd0b818ba7e7e73b40ab9526e1db95b317ae66e46ca86c4201a64e91e39", func := "bellman/bellmanlaw01.TopicTells", spec := "topicTells", inPlace := ["internal/bytealg.IndexByteString", "internal/bytealg.CountString", "internal/bytealg.IndexString"], unfollowed := true, recurses := true, named := ["internal/bytealg.MaxLen", "unicode/utf8.first", "unicode/utf8.acceptRanges"], apart := false, laid := [("unicode/utf8.acceptRanges", laid_unicode_utf8_acceptRanges), ("unicode/utf8.first", laid_unicode_utf8_first)], narrowed := true }
def TopicTellsUptoSaid : Prop := topicTellsUptoRow.holds Tryd.pinned (OpenSpec.upto topicTellsSpec)

/-- 'bellmanlaw01.TopicJoins', WHERE WHAT IT READS IS OF BULK AT MOST 1048576: true; the input reads as it did. -/
def topicJoinsUptoRow : OpenClaim := { program := "ytfdfphaiefbflaadoor", sum := "073d8cd0b818ba7e7e73b40ab9526e1db95b317ae66e46ca86c4201a64e91e39", func := "bellman/bellmanlaw01.TopicJoins", spec := "topicJoins", inPlace := ["internal/bytealg.IndexByteString", "internal/bytealg.CountString", "internal/bytealg.IndexString"], unfollowed := true, recurses := true, named := ["internal/bytealg.MaxLen", "unicode/utf8.first", "unicode/utf8.acceptRanges"], apart := false, laid := [("unicode/utf8.acceptRanges", laid_unicode_utf8_acceptRanges), ("unicode/utf8.first", laid_unicode_utf8_first)], narrowed := true }
def TopicJoinsUptoSaid : Prop := topicJoinsUptoRow.holds Tryd.pinned (OpenSpec.upto topicJoinsSpec)

/-- 'bellmanlaw02.MatchLevels', WHERE WHAT IT READS IS OF BULK AT MOST 1048576: true; the input reads as it did. -/
def matchLevelsUptoRow : OpenClaim := { program := "ytfdfphaiefbflaadoor", sum := "073d8cd0b818ba7e7e73b40ab9526e1db95b317ae66e46ca86c4201a64e91e39", func := "bellman/bellmanlaw02.MatchLevels", spec := "matchLevels", inPlace := ["internal/bytealg.IndexByteString", "internal/bytealg.CountString", "internal/bytealg.IndexString"], unfollowed := true, recurses := true, named := ["internal/bytealg.MaxLen", "unicode/utf8.first", "unicode/utf8.acceptRanges"], apart := false, laid := [("unicode/utf8.acceptRanges", laid_unicode_utf8_acceptRanges), ("unicode/utf8.first", laid_unicode_utf8_first)], narrowed := true }
def MatchLevelsUptoSaid : Prop := matchLevelsUptoRow.holds Tryd.pinned (OpenSpec.upto matchLevelsSpec)

/-- 'bellmanlaw02.MatchCovers', WHERE WHAT IT READS IS OF BULK AT MOST 1048576: true; the input reads as it did. -/
def matchCoversUptoRow : OpenClaim := { program := "ytfdfphaiefbflaadoor", sum := "073d8cd0b818ba7e7e73b40ab9526e1db95b317ae66e46ca86c4201a64e91e39", func := "bellman/bellmanlaw02.MatchCovers", spec := "matchCovers", inPlace := ["internal/bytealg.IndexByteString", "internal/bytealg.CountString", "internal/bytealg.IndexString"], unfollowed := true, recurses := true, named := ["internal/bytealg.MaxLen", "unicode/utf8.first", "unicode/utf8.acceptRanges"], apart := false, laid := [("unicode/utf8.acceptRanges", laid_unicode_utf8_acceptRanges), ("unicode/utf8.first", laid_unicode_utf8_first)], narrowed := true }
def MatchCoversUptoSaid : Prop := matchCoversUptoRow.holds Tryd.pinned (OpenSpec.upto matchCoversSpec)

/-- 'bellmanlaw02.MatchTells', WHERE WHAT IT READS IS OF BULK AT MOST 1048576: true; the input reads as it did. -/
def matchTellsUptoRow : OpenClaim := { program := "ytfdfphaiefbflaadoor", sum := "073d8cd0b818ba7e7e73b40ab9526e1db95b317ae66e46ca86c4201a64e91e39", func := "bellman/bellmanlaw02.MatchTells", spec := "matchTells", inPlace := ["internal/bytealg.IndexByteString", "internal/bytealg.CountString", "internal/bytealg.IndexString"], unfollowed := true, recurses := true, named := ["internal/bytealg.MaxLen", "unicode/utf8.first", "unicode/utf8.acceptRanges"], apart := false, laid := [("unicode/utf8.acceptRanges", laid_unicode_utf8_acceptRanges), ("unicode/utf8.first", laid_unicode_utf8_first)], narrowed := true }
def MatchTellsUptoSaid : Prop := matchTellsUptoRow.holds Tryd.pinned (OpenSpec.upto matchTellsSpec)

/-- 'bellmanlaw15.KeepPlays', WHERE WHAT IT READS IS OF BULK AT MOST 1048576: true; the input reads as it did. -/
def keepPlaysUptoRow : OpenClaim := { program := "ytfdfphaiefbflaadoor", sum := "073d8cd0b818ba7e7e73b40ab9526e1db95b317ae66e46ca86c4201a64e91e39", func := "bellman/bellmanlaw15.KeepPlays", spec := "keepPlays", inPlace := ["internal/bytealg.IndexByteString", "internal/bytealg.IndexString", "slices.overlaps[string]", "slices.overlaps[bellman/keep.entry]", "internal/bytealg.CountString"], unfollowed := true, recurses := true, named := ["internal/bytealg.MaxLen", "unicode/utf8.first", "unicode/utf8.acceptRanges"], apart := false, laid := [("unicode/utf8.acceptRanges", laid_unicode_utf8_acceptRanges), ("unicode/utf8.first", laid_unicode_utf8_first)], narrowed := true }
def KeepPlaysUptoSaid : Prop := keepPlaysUptoRow.holds Tryd.pinned (OpenSpec.upto keepPlaysSpec)

/-- 'bellmanlaw15.KeepLast', WHERE WHAT IT READS IS OF BULK AT MOST 1048576: true; the input reads as it did. -/
def keepLastUptoRow : OpenClaim := { program := "ytfdfphaiefbflaadoor", sum := "073d8cd0b818ba7e7e73b40ab9526e1db95b317ae66e46ca86c4201a64e91e39", func := "bellman/bellmanlaw15.KeepLast", spec := "keepLast", inPlace := ["internal/bytealg.IndexByteString", "internal/bytealg.IndexString", "slices.overlaps[string]", "slices.overlaps[bellman/keep.entry]", "internal/bytealg.CountString"], unfollowed := true, recurses := true, named := ["internal/bytealg.MaxLen", "unicode/utf8.first", "unicode/utf8.acceptRanges"], apart := false, laid := [("unicode/utf8.acceptRanges", laid_unicode_utf8_acceptRanges), ("unicode/utf8.first", laid_unicode_utf8_first)], narrowed := true }
def KeepLastUptoSaid : Prop := keepLastUptoRow.holds Tryd.pinned (OpenSpec.upto keepLastSpec)

end Rows
end Go.Proofs.YtfdfphaiefbflaaDoor
