/-
  No cell of these rows narrows 'for every input' (looked for: loops, veiled, ifaces, maps, wideKeys, modest, calm, conditions, laid).
  DERIVED. THE GIVEN ROWS OF THIS SEAT. 10 by the template 'for every input the law returns true; each argument reads behind the call as it read before'; 0 by the template 'total and deterministic' (their statements: YtfdfphaiefbflaaTotals.lean).
  GIVEN WITH THE SEED: the statements are not yours to turn. If you find one false, say at which input.
  Laid BY PROGRAM, IN A SANDBOX (cutbox-rows.mjs): the forced cells as the released guide's own fill.sh prints them over the translation bd76091f28460e1b… (all of the seat's roots in one cut). By AI agents, Wed Nov 11 2026. No macro, syntax, notation, axiom, sorry.
-/
import Derived.Test.YtfdfphaiefbflaaChecked
import GoSem.Claim
import GoSem.ClaimJoined
import GoSem.ClaimMapViews
import Derived.JoinedTies
import Derived.KernelRfl
namespace Go.Proofs.Ytfdfphaiefbflaa
/- THE CELL 'sum', in the pinned program and in every row, IS THE sha256 OF THE DUMP (.gsa) THAT YtfdfphaiefbflaaProg.lean LOADS. Nothing in Lean hashes anything: it is a label: what it is worth is what the hold of that sum in a sandbox is worth. -/
noncomputable def Try.pinned : Pinned := { name := "ytfdfphaiefbflaa", sum := "bd76091f28460e1b28f6e2057192fca720fcbb05f34abc1030935a3b7c22c6a1", checked := Try.checked }
namespace Rows
def none {H : Type} : Left H := { results := [], args := [] }

/-- 'bellmanlaw26.AuditCounts': WHATEVER THE INPUT: true; the input reads as it did. -/
def auditCountsSpec : ChangeSpec := { name := "auditCounts", fn := fun _ => fun
  | [d1, d2, d3] => { results := [.lit (.bool true)], args := [d1, d2, d3] }
  | _ => none }
def auditCountsRow : OpenClaim := { program := "ytfdfphaiefbflaa", sum := "bd76091f28460e1b28f6e2057192fca720fcbb05f34abc1030935a3b7c22c6a1", func := "bellman/bellmanlaw26.AuditCounts", spec := "auditCounts", unfollowed := true, recurses := true, apart := false }
def AuditCountsSaid : Prop := auditCountsRow.holds Try.pinned (OpenSpec.ofChange auditCountsSpec)

/-- ITS FALSE NEIGHBOUR: 'it returns false'. Refute it at one input. -/
def auditCountsWrong : ChangeSpec := { name := "auditCounts", fn := fun _ => fun
  | [d1, d2, d3] => { results := [.lit (.bool false)], args := [d1, d2, d3] }
  | _ => none }
def AuditCountsWrongFalsely : Prop := auditCountsRow.holds Try.pinned (OpenSpec.ofChange auditCountsWrong)

/-- 'bellmanlaw16.StripeHolds': WHATEVER THE INPUT: true; the input reads as it did. -/
def stripeHoldsSpec : ChangeSpec := { name := "stripeHolds", fn := fun _ => fun
  | [d1, d2] => { results := [.lit (.bool true)], args := [d1, d2] }
  | _ => none }
def stripeHoldsRow : OpenClaim := { program := "ytfdfphaiefbflaa", sum := "bd76091f28460e1b28f6e2057192fca720fcbb05f34abc1030935a3b7c22c6a1", func := "bellman/bellmanlaw16.StripeHolds", spec := "stripeHolds", inPlace := ["internal/bytealg.IndexByteString", "internal/bytealg.IndexString"], named := ["internal/bytealg.MaxLen"], apart := false }
def StripeHoldsSaid : Prop := stripeHoldsRow.holds Try.pinned (OpenSpec.ofChange stripeHoldsSpec)

/-- ITS FALSE NEIGHBOUR: 'it returns false'. Refute it at one input. -/
def stripeHoldsWrong : ChangeSpec := { name := "stripeHolds", fn := fun _ => fun
  | [d1, d2] => { results := [.lit (.bool false)], args := [d1, d2] }
  | _ => none }
def StripeHoldsWrongFalsely : Prop := stripeHoldsRow.holds Try.pinned (OpenSpec.ofChange stripeHoldsWrong)

/-- 'bellmanlaw03.SetOrder': WHATEVER THE INPUT: true; the input reads as it did. -/
def setOrderSpec : ChangeSpec := { name := "setOrder", fn := fun _ => fun
  | [d] => { results := [.lit (.bool true)], args := [d] }
  | _ => none }
def setOrderRow : OpenClaim := { program := "ytfdfphaiefbflaa", sum := "bd76091f28460e1b28f6e2057192fca720fcbb05f34abc1030935a3b7c22c6a1", func := "bellman/bellmanlaw03.SetOrder", spec := "setOrder", inPlace := ["slices.overlaps[int]", "slices.overlaps[struct{}]"], unfollowed := true, recurses := true, apart := false }
def SetOrderSaid : Prop := setOrderRow.holds Try.pinned (OpenSpec.ofChange setOrderSpec)

/-- ITS FALSE NEIGHBOUR: 'it returns false'. Refute it at one input. -/
def setOrderWrong : ChangeSpec := { name := "setOrder", fn := fun _ => fun
  | [d] => { results := [.lit (.bool false)], args := [d] }
  | _ => none }
def SetOrderWrongFalsely : Prop := setOrderRow.holds Try.pinned (OpenSpec.ofChange setOrderWrong)

/-- 'bellmanlaw03.SetJoins': WHATEVER THE INPUT: true; the input reads as it did. -/
def setJoinsSpec : ChangeSpec := { name := "setJoins", fn := fun _ => fun
  | [d1, d2, d3] => { results := [.lit (.bool true)], args := [d1, d2, d3] }
  | _ => none }
def setJoinsRow : OpenClaim := { program := "ytfdfphaiefbflaa", sum := "bd76091f28460e1b28f6e2057192fca720fcbb05f34abc1030935a3b7c22c6a1", func := "bellman/bellmanlaw03.SetJoins", spec := "setJoins", inPlace := ["slices.overlaps[int]", "slices.overlaps[struct{}]"], unfollowed := true, recurses := true, apart := false }
def SetJoinsSaid : Prop := setJoinsRow.holds Try.pinned (OpenSpec.ofChange setJoinsSpec)

/-- ITS FALSE NEIGHBOUR: 'it returns false'. Refute it at one input. -/
def setJoinsWrong : ChangeSpec := { name := "setJoins", fn := fun _ => fun
  | [d1, d2, d3] => { results := [.lit (.bool false)], args := [d1, d2, d3] }
  | _ => none }
def SetJoinsWrongFalsely : Prop := setJoinsRow.holds Try.pinned (OpenSpec.ofChange setJoinsWrong)

/-- 'bellmanlaw03.SetMaps': WHATEVER THE INPUT: true; the input reads as it did. -/
def setMapsSpec : ChangeSpec := { name := "setMaps", fn := fun _ => fun
  | [d1, d2, d3] => { results := [.lit (.bool true)], args := [d1, d2, d3] }
  | _ => none }
def setMapsRow : OpenClaim := { program := "ytfdfphaiefbflaa", sum := "bd76091f28460e1b28f6e2057192fca720fcbb05f34abc1030935a3b7c22c6a1", func := "bellman/bellmanlaw03.SetMaps", spec := "setMaps", inPlace := ["slices.overlaps[int]", "slices.overlaps[struct{}]", "slices.overlaps[string]"], unfollowed := true, recurses := true, apart := false }
def SetMapsSaid : Prop := setMapsRow.holds Try.pinned (OpenSpec.ofChange setMapsSpec)

/-- ITS FALSE NEIGHBOUR: 'it returns false'. Refute it at one input. -/
def setMapsWrong : ChangeSpec := { name := "setMaps", fn := fun _ => fun
  | [d1, d2, d3] => { results := [.lit (.bool false)], args := [d1, d2, d3] }
  | _ => none }
def SetMapsWrongFalsely : Prop := setMapsRow.holds Try.pinned (OpenSpec.ofChange setMapsWrong)

/-- 'bellmanlaw03.SetSets': WHATEVER THE INPUT: true; the input reads as it did. -/
def setSetsSpec : ChangeSpec := { name := "setSets", fn := fun _ => fun
  | [d1, d2, d3, d4] => { results := [.lit (.bool true)], args := [d1, d2, d3, d4] }
  | _ => none }
def setSetsRow : OpenClaim := { program := "ytfdfphaiefbflaa", sum := "bd76091f28460e1b28f6e2057192fca720fcbb05f34abc1030935a3b7c22c6a1", func := "bellman/bellmanlaw03.SetSets", spec := "setSets", inPlace := ["slices.overlaps[int]", "slices.overlaps[struct{}]"], unfollowed := true, recurses := true, apart := false }
def SetSetsSaid : Prop := setSetsRow.holds Try.pinned (OpenSpec.ofChange setSetsSpec)

/-- ITS FALSE NEIGHBOUR: 'it returns false'. Refute it at one input. -/
def setSetsWrong : ChangeSpec := { name := "setSets", fn := fun _ => fun
  | [d1, d2, d3, d4] => { results := [.lit (.bool false)], args := [d1, d2, d3, d4] }
  | _ => none }
def SetSetsWrongFalsely : Prop := setSetsRow.holds Try.pinned (OpenSpec.ofChange setSetsWrong)

/-- 'bellmanlaw12.NodeNone': WHATEVER THE INPUT: true; the input reads as it did. -/
def nodeNoneSpec : ChangeSpec := { name := "nodeNone", fn := fun _ => fun
  | [d1, d2] => { results := [.lit (.bool true)], args := [d1, d2] }
  | _ => none }
def nodeNoneRow : OpenClaim := { program := "ytfdfphaiefbflaa", sum := "bd76091f28460e1b28f6e2057192fca720fcbb05f34abc1030935a3b7c22c6a1", func := "bellman/bellmanlaw12.NodeNone", spec := "nodeNone", inPlace := ["slices.overlaps[int]", "slices.overlaps[struct{}]", "slices.overlaps[string]", "slices.overlaps[*bellman/node.Node]"], unfollowed := true, recurses := true, apart := false }
def NodeNoneSaid : Prop := nodeNoneRow.holds Try.pinned (OpenSpec.ofChange nodeNoneSpec)

/-- ITS FALSE NEIGHBOUR: 'it returns false'. Refute it at one input. -/
def nodeNoneWrong : ChangeSpec := { name := "nodeNone", fn := fun _ => fun
  | [d1, d2] => { results := [.lit (.bool false)], args := [d1, d2] }
  | _ => none }
def NodeNoneWrongFalsely : Prop := nodeNoneRow.holds Try.pinned (OpenSpec.ofChange nodeNoneWrong)

/-- 'bellmanlaw12.NodePlays': WHATEVER THE INPUT: true; the input reads as it did. -/
def nodePlaysSpec : ChangeSpec := { name := "nodePlays", fn := fun _ => fun
  | [d1, d2] => { results := [.lit (.bool true)], args := [d1, d2] }
  | _ => none }
def nodePlaysRow : OpenClaim := { program := "ytfdfphaiefbflaa", sum := "bd76091f28460e1b28f6e2057192fca720fcbb05f34abc1030935a3b7c22c6a1", func := "bellman/bellmanlaw12.NodePlays", spec := "nodePlays", inPlace := ["slices.overlaps[int]", "slices.overlaps[struct{}]", "slices.overlaps[string]", "slices.overlaps[*bellman/node.Node]"], unfollowed := true, recurses := true, apart := false }
def NodePlaysSaid : Prop := nodePlaysRow.holds Try.pinned (OpenSpec.ofChange nodePlaysSpec)

/-- ITS FALSE NEIGHBOUR: 'it returns false'. Refute it at one input. -/
def nodePlaysWrong : ChangeSpec := { name := "nodePlays", fn := fun _ => fun
  | [d1, d2] => { results := [.lit (.bool false)], args := [d1, d2] }
  | _ => none }
def NodePlaysWrongFalsely : Prop := nodePlaysRow.holds Try.pinned (OpenSpec.ofChange nodePlaysWrong)

/-- 'bellmanlaw16.StripeRises': WHATEVER THE INPUT: true; the input reads as it did. -/
def stripeRisesSpec : ChangeSpec := { name := "stripeRises", fn := fun _ => fun
  | [d1, d2] => { results := [.lit (.bool true)], args := [d1, d2] }
  | _ => none }
def stripeRisesRow : OpenClaim := { program := "ytfdfphaiefbflaa", sum := "bd76091f28460e1b28f6e2057192fca720fcbb05f34abc1030935a3b7c22c6a1", func := "bellman/bellmanlaw16.StripeRises", spec := "stripeRises", inPlace := ["internal/bytealg.IndexByteString", "internal/bytealg.IndexString", "slices.overlaps[int]", "slices.overlaps[struct{}]"], unfollowed := true, recurses := true, named := ["internal/bytealg.MaxLen"], apart := false }
def StripeRisesSaid : Prop := stripeRisesRow.holds Try.pinned (OpenSpec.ofChange stripeRisesSpec)

/-- ITS FALSE NEIGHBOUR: 'it returns false'. Refute it at one input. -/
def stripeRisesWrong : ChangeSpec := { name := "stripeRises", fn := fun _ => fun
  | [d1, d2] => { results := [.lit (.bool false)], args := [d1, d2] }
  | _ => none }
def StripeRisesWrongFalsely : Prop := stripeRisesRow.holds Try.pinned (OpenSpec.ofChange stripeRisesWrong)

/-- 'bellmanlaw16.StripeTells': WHATEVER THE INPUT: true; the input reads as it did. -/
def stripeTellsSpec : ChangeSpec := { name := "stripeTells", fn := fun _ => fun
  | [d1, d2, d3, d4] => { results := [.lit (.bool true)], args := [d1, d2, d3, d4] }
  | _ => none }
def stripeTellsRow : OpenClaim := { program := "ytfdfphaiefbflaa", sum := "bd76091f28460e1b28f6e2057192fca720fcbb05f34abc1030935a3b7c22c6a1", func := "bellman/bellmanlaw16.StripeTells", spec := "stripeTells", inPlace := ["internal/bytealg.IndexByteString", "internal/bytealg.IndexString", "slices.overlaps[int]", "slices.overlaps[struct{}]"], unfollowed := true, recurses := true, named := ["internal/bytealg.MaxLen"], apart := false }
def StripeTellsSaid : Prop := stripeTellsRow.holds Try.pinned (OpenSpec.ofChange stripeTellsSpec)

/-- ITS FALSE NEIGHBOUR: 'it returns false'. Refute it at one input. -/
def stripeTellsWrong : ChangeSpec := { name := "stripeTells", fn := fun _ => fun
  | [d1, d2, d3, d4] => { results := [.lit (.bool false)], args := [d1, d2, d3, d4] }
  | _ => none }
def StripeTellsWrongFalsely : Prop := stripeTellsRow.holds Try.pinned (OpenSpec.ofChange stripeTellsWrong)

/- THE SECOND FORM. 'bulk': how many values and letters a reading holds, each counted each time it is reached (what is shared counts as often as it is met; a slice's spare places count too). A statement '..UptoSaid' is the law's where the arguments, and the package variables that the reading takes, are together of bulk at most 1048576: NARROWER than '..Said'. Prove '..Said' where nothing that the law and all that it calls make is longer than what came in: it says more and counts as full. Else prove '..UptoSaid'. A law counts once. -/
mutual
def uptoBulk {H : Type} : DataW H → Nat
  | .lit (.string bytes) => bytes.length + 1
  | .lit _ => 1
  | .nil => 1
  | .ptr d => uptoBulk d + 1
  | .slice elems spare => uptoBulkAll elems + uptoBulkAll spare + 1
  | .agg parts => uptoBulkAll parts + 1
  | .iface _ d => uptoBulk d + 1
  | .map entries => uptoBulkEntries entries + 1
  | .held _ => 1
def uptoBulkAll {H : Type} : List (DataW H) → Nat
  | [] => 0
  | d :: r => uptoBulk d + uptoBulkAll r
def uptoBulkEntries {H : Type} : List (Lit × DataW H) → Nat
  | [] => 0
  | x :: r => uptoBulkEntry x + uptoBulkEntries r
def uptoBulkEntry {H : Type} : Lit × DataW H → Nat
  | (.string bytes, d) => bytes.length + uptoBulk d + 1
  | (_, d) => uptoBulk d + 1
 end
def uptoSmall : (H : Type) → List (DataW H) → Bool := fun _ ds => decide (uptoBulkAll ds ≤ 1048576)
def OpenSpec.upto (s : _root_.Go.ChangeSpec) : _root_.Go.OpenSpec := { _root_.Go.OpenSpec.ofChange s with cond := some uptoSmall }

/-- 'bellmanlaw26.AuditCounts', WHERE WHAT IT READS IS OF BULK AT MOST 1048576: true; the input reads as it did. -/
def auditCountsUptoRow : OpenClaim := { program := "ytfdfphaiefbflaa", sum := "bd76091f28460e1b28f6e2057192fca720fcbb05f34abc1030935a3b7c22c6a1", func := "bellman/bellmanlaw26.AuditCounts", spec := "auditCounts", unfollowed := true, recurses := true, apart := false, narrowed := true }
def AuditCountsUptoSaid : Prop := auditCountsUptoRow.holds Try.pinned (OpenSpec.upto auditCountsSpec)

/-- 'bellmanlaw16.StripeHolds', WHERE WHAT IT READS IS OF BULK AT MOST 1048576: true; the input reads as it did. -/
def stripeHoldsUptoRow : OpenClaim := { program := "ytfdfphaiefbflaa", sum := "bd76091f28460e1b28f6e2057192fca720fcbb05f34abc1030935a3b7c22c6a1", func := "bellman/bellmanlaw16.StripeHolds", spec := "stripeHolds", inPlace := ["internal/bytealg.IndexByteString", "internal/bytealg.IndexString"], named := ["internal/bytealg.MaxLen"], apart := false, narrowed := true }
def StripeHoldsUptoSaid : Prop := stripeHoldsUptoRow.holds Try.pinned (OpenSpec.upto stripeHoldsSpec)

/-- 'bellmanlaw03.SetOrder', WHERE WHAT IT READS IS OF BULK AT MOST 1048576: true; the input reads as it did. -/
def setOrderUptoRow : OpenClaim := { program := "ytfdfphaiefbflaa", sum := "bd76091f28460e1b28f6e2057192fca720fcbb05f34abc1030935a3b7c22c6a1", func := "bellman/bellmanlaw03.SetOrder", spec := "setOrder", inPlace := ["slices.overlaps[int]", "slices.overlaps[struct{}]"], unfollowed := true, recurses := true, apart := false, narrowed := true }
def SetOrderUptoSaid : Prop := setOrderUptoRow.holds Try.pinned (OpenSpec.upto setOrderSpec)

/-- 'bellmanlaw03.SetJoins', WHERE WHAT IT READS IS OF BULK AT MOST 1048576: true; the input reads as it did. -/
def setJoinsUptoRow : OpenClaim := { program := "ytfdfphaiefbflaa", sum := "bd76091f28460e1b28f6e2057192fca720fcbb05f34abc1030935a3b7c22c6a1", func := "bellman/bellmanlaw03.SetJoins", spec := "setJoins", inPlace := ["slices.overlaps[int]", "slices.overlaps[struct{}]"], unfollowed := true, recurses := true, apart := false, narrowed := true }
def SetJoinsUptoSaid : Prop := setJoinsUptoRow.holds Try.pinned (OpenSpec.upto setJoinsSpec)

/-- 'bellmanlaw03.SetMaps', WHERE WHAT IT READS IS OF BULK AT MOST 1048576: true; the input reads as it did. -/
def setMapsUptoRow : OpenClaim := { program := "ytfdfphaiefbflaa", sum := "bd76091f28460e1b28f6e2057192fca720fcbb05f34abc1030935a3b7c22c6a1", func := "bellman/bellmanlaw03.SetMaps", spec := "setMaps", inPlace := ["slices.overlaps[int]", "slices.overlaps[struct{}]", "slices.overlaps[string]"], unfollowed := true, recurses := true, apart := false, narrowed := true }
def SetMapsUptoSaid : Prop := setMapsUptoRow.holds Try.pinned (OpenSpec.upto setMapsSpec)

/-- 'bellmanlaw03.SetSets', WHERE WHAT IT READS IS OF BULK AT MOST 1048576: true; the input reads as it did. -/
def setSetsUptoRow : OpenClaim := { program := "ytfdfphaiefbflaa", sum := "bd76091f28460e1b28f6e2057192fca720fcbb05f34abc1030935a3b7c22c6a1", func := "bellman/bellmanlaw03.SetSets", spec := "setSets", inPlace := ["slices.overlaps[int]", "slices.overlaps[struct{}]"], unfollowed := true, recurses := true, apart := false, narrowed := true }
def SetSetsUptoSaid : Prop := setSetsUptoRow.holds Try.pinned (OpenSpec.upto setSetsSpec)

/-- 'bellmanlaw12.NodeNone', WHERE WHAT IT READS IS OF BULK AT MOST 1048576: true; the input reads as it did. -/
def nodeNoneUptoRow : OpenClaim := { program := "ytfdfphaiefbflaa", sum := "bd76091f28460e1b28f6e2057192fca720fcbb05f34abc1030935a3b7c22c6a1", func := "bellman/bellmanlaw12.NodeNone", spec := "nodeNone", inPlace := ["slices.overlaps[int]", "slices.overlaps[struct{}]", "slices.overlaps[string]", "slices.overlaps[*bellman/node.Node]"], unfollowed := true, recurses := true, apart := false, narrowed := true }
def NodeNoneUptoSaid : Prop := nodeNoneUptoRow.holds Try.pinned (OpenSpec.upto nodeNoneSpec)

/-- 'bellmanlaw12.NodePlays', WHERE WHAT IT READS IS OF BULK AT MOST 1048576: true; the input reads as it did. -/
def nodePlaysUptoRow : OpenClaim := { program := "ytfdfphaiefbflaa", sum := "bd76091f28460e1b28f6e2057192fca720fcbb05f34abc1030935a3b7c22c6a1", func := "bellman/bellmanlaw12.NodePlays", spec := "nodePlays", inPlace := ["slices.overlaps[int]", "slices.overlaps[struct{}]", "slices.overlaps[string]", "slices.overlaps[*bellman/node.Node]"], unfollowed := true, recurses := true, apart := false, narrowed := true }
def NodePlaysUptoSaid : Prop := nodePlaysUptoRow.holds Try.pinned (OpenSpec.upto nodePlaysSpec)

/-- 'bellmanlaw16.StripeRises', WHERE WHAT IT READS IS OF BULK AT MOST 1048576: true; the input reads as it did. -/
def stripeRisesUptoRow : OpenClaim := { program := "ytfdfphaiefbflaa", sum := "bd76091f28460e1b28f6e2057192fca720fcbb05f34abc1030935a3b7c22c6a1", func := "bellman/bellmanlaw16.StripeRises", spec := "stripeRises", inPlace := ["internal/bytealg.IndexByteString", "internal/bytealg.IndexString", "slices.overlaps[int]", "slices.overlaps[struct{}]"], unfollowed := true, recurses := true, named := ["internal/bytealg.MaxLen"], apart := false, narrowed := true }
def StripeRisesUptoSaid : Prop := stripeRisesUptoRow.holds Try.pinned (OpenSpec.upto stripeRisesSpec)

/-- 'bellmanlaw16.StripeTells', WHERE WHAT IT READS IS OF BULK AT MOST 1048576: true; the input reads as it did. -/
def stripeTellsUptoRow : OpenClaim := { program := "ytfdfphaiefbflaa", sum := "bd76091f28460e1b28f6e2057192fca720fcbb05f34abc1030935a3b7c22c6a1", func := "bellman/bellmanlaw16.StripeTells", spec := "stripeTells", inPlace := ["internal/bytealg.IndexByteString", "internal/bytealg.IndexString", "slices.overlaps[int]", "slices.overlaps[struct{}]"], unfollowed := true, recurses := true, named := ["internal/bytealg.MaxLen"], apart := false, narrowed := true }
def StripeTellsUptoSaid : Prop := stripeTellsUptoRow.holds Try.pinned (OpenSpec.upto stripeTellsSpec)

end Rows
end Go.Proofs.Ytfdfphaiefbflaa
