/-
  No cell of these rows narrows 'for every input' (looked for: loops, veiled, ifaces, maps, wideKeys, modest, calm, conditions, laid).
  DERIVED. THE GIVEN ROWS OF THIS SEAT. 7 by the template 'for every input the law returns true; each argument reads behind the call as it read before'; 0 by the template 'total and deterministic' (their statements: YtephimmamkafoaaTotals.lean).
  GIVEN WITH THE SEED: the statements are not yours to turn. If you find one false, say at which input.
  Laid BY PROGRAM, IN A SANDBOX (cutbox-rows.mjs): the forced cells as the released guide's own fill.sh prints them over the translation b9f6902040271c87… (all of the seat's roots in one cut). By AI agents, Wed Nov 11 2026. No macro, syntax, notation, axiom, sorry.
-/
import Derived.Test.YtephimmamkafoaaChecked
import GoSem.Claim
import GoSem.ClaimJoined
import GoSem.ClaimMapViews
import Derived.JoinedTies
import Derived.KernelRfl
namespace Go.Proofs.Ytephimmamkafoaa
/- THE CELL 'sum', in the pinned program and in every row, IS THE sha256 OF THE DUMP (.gsa) THAT YtephimmamkafoaaProg.lean LOADS. Nothing in Lean hashes anything: it is a label: what it is worth is what the hold of that sum in a sandbox is worth. -/
noncomputable def Try.pinned : Pinned := { name := "ytephimmamkafoaa", sum := "b9f6902040271c87d3f24e8f197068cf9a4b09dd7faa6a8845239180e35570f5", checked := Try.checked }
namespace Rows
def none {H : Type} : Left H := { results := [], args := [] }

/-- 'moonpoollaw05.FixNets': WHATEVER THE INPUT: true; the input reads as it did. -/
def fixNetsSpec : ChangeSpec := { name := "fixNets", fn := fun _ => fun
  | [d1, d2, d3] => { results := [.lit (.bool true)], args := [d1, d2, d3] }
  | _ => none }
def fixNetsRow : OpenClaim := { program := "ytephimmamkafoaa", sum := "b9f6902040271c87d3f24e8f197068cf9a4b09dd7faa6a8845239180e35570f5", func := "moonpool/moonpoollaw05.FixNets", spec := "fixNets", unfollowed := true, recurses := true, apart := false }
def FixNetsSaid : Prop := fixNetsRow.holds Try.pinned (OpenSpec.ofChange fixNetsSpec)

/-- ITS FALSE NEIGHBOUR: 'it returns false'. Refute it at one input. -/
def fixNetsWrong : ChangeSpec := { name := "fixNets", fn := fun _ => fun
  | [d1, d2, d3] => { results := [.lit (.bool false)], args := [d1, d2, d3] }
  | _ => none }
def FixNetsWrongFalsely : Prop := fixNetsRow.holds Try.pinned (OpenSpec.ofChange fixNetsWrong)

/-- 'moonpoollaw05.FixBoxes': WHATEVER THE INPUT: true; the input reads as it did. -/
def fixBoxesSpec : ChangeSpec := { name := "fixBoxes", fn := fun _ => fun
  | [d1, d2, d3] => { results := [.lit (.bool true)], args := [d1, d2, d3] }
  | _ => none }
def fixBoxesRow : OpenClaim := { program := "ytephimmamkafoaa", sum := "b9f6902040271c87d3f24e8f197068cf9a4b09dd7faa6a8845239180e35570f5", func := "moonpool/moonpoollaw05.FixBoxes", spec := "fixBoxes", unfollowed := true, recurses := true, apart := false }
def FixBoxesSaid : Prop := fixBoxesRow.holds Try.pinned (OpenSpec.ofChange fixBoxesSpec)

/-- ITS FALSE NEIGHBOUR: 'it returns false'. Refute it at one input. -/
def fixBoxesWrong : ChangeSpec := { name := "fixBoxes", fn := fun _ => fun
  | [d1, d2, d3] => { results := [.lit (.bool false)], args := [d1, d2, d3] }
  | _ => none }
def FixBoxesWrongFalsely : Prop := fixBoxesRow.holds Try.pinned (OpenSpec.ofChange fixBoxesWrong)

/-- 'moonpoollaw05.FixReckoned': WHATEVER THE INPUT: true; the input reads as it did. -/
def fixReckonedSpec : ChangeSpec := { name := "fixReckoned", fn := fun _ => fun
  | [d1, d2, d3] => { results := [.lit (.bool true)], args := [d1, d2, d3] }
  | _ => none }
def fixReckonedRow : OpenClaim := { program := "ytephimmamkafoaa", sum := "b9f6902040271c87d3f24e8f197068cf9a4b09dd7faa6a8845239180e35570f5", func := "moonpool/moonpoollaw05.FixReckoned", spec := "fixReckoned", unfollowed := true, recurses := true, apart := false }
def FixReckonedSaid : Prop := fixReckonedRow.holds Try.pinned (OpenSpec.ofChange fixReckonedSpec)

/-- ITS FALSE NEIGHBOUR: 'it returns false'. Refute it at one input. -/
def fixReckonedWrong : ChangeSpec := { name := "fixReckoned", fn := fun _ => fun
  | [d1, d2, d3] => { results := [.lit (.bool false)], args := [d1, d2, d3] }
  | _ => none }
def FixReckonedWrongFalsely : Prop := fixReckonedRow.holds Try.pinned (OpenSpec.ofChange fixReckonedWrong)

/-- 'moonpoollaw05.FixReadings': WHATEVER THE INPUT: true; the input reads as it did. -/
def fixReadingsSpec : ChangeSpec := { name := "fixReadings", fn := fun _ => fun
  | [d1, d2, d3] => { results := [.lit (.bool true)], args := [d1, d2, d3] }
  | _ => none }
def fixReadingsRow : OpenClaim := { program := "ytephimmamkafoaa", sum := "b9f6902040271c87d3f24e8f197068cf9a4b09dd7faa6a8845239180e35570f5", func := "moonpool/moonpoollaw05.FixReadings", spec := "fixReadings", unfollowed := true, recurses := true, apart := false }
def FixReadingsSaid : Prop := fixReadingsRow.holds Try.pinned (OpenSpec.ofChange fixReadingsSpec)

/-- ITS FALSE NEIGHBOUR: 'it returns false'. Refute it at one input. -/
def fixReadingsWrong : ChangeSpec := { name := "fixReadings", fn := fun _ => fun
  | [d1, d2, d3] => { results := [.lit (.bool false)], args := [d1, d2, d3] }
  | _ => none }
def FixReadingsWrongFalsely : Prop := fixReadingsRow.holds Try.pinned (OpenSpec.ofChange fixReadingsWrong)

/-- 'moonpoollaw05.FixWrong': WHATEVER THE INPUT: true; the input reads as it did. -/
def fixWrongSpec : ChangeSpec := { name := "fixWrong", fn := fun _ => fun
  | [d1, d2, d3] => { results := [.lit (.bool true)], args := [d1, d2, d3] }
  | _ => none }
def fixWrongRow : OpenClaim := { program := "ytephimmamkafoaa", sum := "b9f6902040271c87d3f24e8f197068cf9a4b09dd7faa6a8845239180e35570f5", func := "moonpool/moonpoollaw05.FixWrong", spec := "fixWrong", unfollowed := true, recurses := true, apart := false }
def FixWrongSaid : Prop := fixWrongRow.holds Try.pinned (OpenSpec.ofChange fixWrongSpec)

/-- ITS FALSE NEIGHBOUR: 'it returns false'. Refute it at one input. -/
def fixWrongWrong : ChangeSpec := { name := "fixWrong", fn := fun _ => fun
  | [d1, d2, d3] => { results := [.lit (.bool false)], args := [d1, d2, d3] }
  | _ => none }
def FixWrongWrongFalsely : Prop := fixWrongRow.holds Try.pinned (OpenSpec.ofChange fixWrongWrong)

/-- 'moonpoollaw05.FixMoves': WHATEVER THE INPUT: true; the input reads as it did. -/
def fixMovesSpec : ChangeSpec := { name := "fixMoves", fn := fun _ => fun
  | [d1, d2, d3] => { results := [.lit (.bool true)], args := [d1, d2, d3] }
  | _ => none }
def fixMovesRow : OpenClaim := { program := "ytephimmamkafoaa", sum := "b9f6902040271c87d3f24e8f197068cf9a4b09dd7faa6a8845239180e35570f5", func := "moonpool/moonpoollaw05.FixMoves", spec := "fixMoves", unfollowed := true, recurses := true, apart := false }
def FixMovesSaid : Prop := fixMovesRow.holds Try.pinned (OpenSpec.ofChange fixMovesSpec)

/-- ITS FALSE NEIGHBOUR: 'it returns false'. Refute it at one input. -/
def fixMovesWrong : ChangeSpec := { name := "fixMoves", fn := fun _ => fun
  | [d1, d2, d3] => { results := [.lit (.bool false)], args := [d1, d2, d3] }
  | _ => none }
def FixMovesWrongFalsely : Prop := fixMovesRow.holds Try.pinned (OpenSpec.ofChange fixMovesWrong)

/-- 'moonpoollaw05.FixTrue': WHATEVER THE INPUT: true; the input reads as it did. -/
def fixTrueSpec : ChangeSpec := { name := "fixTrue", fn := fun _ => fun
  | [d1, d2, d3] => { results := [.lit (.bool true)], args := [d1, d2, d3] }
  | _ => none }
def fixTrueRow : OpenClaim := { program := "ytephimmamkafoaa", sum := "b9f6902040271c87d3f24e8f197068cf9a4b09dd7faa6a8845239180e35570f5", func := "moonpool/moonpoollaw05.FixTrue", spec := "fixTrue", unfollowed := true, recurses := true, apart := false }
def FixTrueSaid : Prop := fixTrueRow.holds Try.pinned (OpenSpec.ofChange fixTrueSpec)

/-- ITS FALSE NEIGHBOUR: 'it returns false'. Refute it at one input. -/
def fixTrueWrong : ChangeSpec := { name := "fixTrue", fn := fun _ => fun
  | [d1, d2, d3] => { results := [.lit (.bool false)], args := [d1, d2, d3] }
  | _ => none }
def FixTrueWrongFalsely : Prop := fixTrueRow.holds Try.pinned (OpenSpec.ofChange fixTrueWrong)

/- THE SECOND FORM. 'bulk': how many values and letters a reading holds, each counted each time it is reached (what is shared counts as often as it is met; a slice's spare places count too). A statement '..UptoSaid' is the law's where the arguments, and the package variables that the reading takes, are together of bulk at most 1048576: NARROWER than '..Said'. Prove '..Said' where nothing that the law and all that it calls make is longer than what came in: it says more and counts as full. Else prove '..UptoSaid'. A law counts once. -/
mutual
def uptoBulk {H : Type} : DataW H → Nat
  | .lit (.string bytes) => bytes.length + 1
  | .lit _ => 1
  | .nil => 1
  | .ptr d => uptoBulk d + 1
  | .slice elems spare => uptoBulkAll elems + uptoBulkAll spare + 1
  | .agg parts => uptoBulkAll parts + 1
  | .iface _ d => uptoBulk d + 1
  | .map entries => uptoBulkEntries entries + 1
  | .held _ => 1
def uptoBulkAll {H : Type} : List (DataW H) → Nat
  | [] => 0
  | d :: r => uptoBulk d + uptoBulkAll r
def uptoBulkEntries {H : Type} : List (Lit × DataW H) → Nat
  | [] => 0
  | x :: r => uptoBulkEntry x + uptoBulkEntries r
def uptoBulkEntry {H : Type} : Lit × DataW H → Nat
  | (.string bytes, d) => bytes.length + uptoBulk d + 1
  | (_, d) => uptoBulk d + 1
 end
def uptoSmall : (H : Type) → List (DataW H) → Bool := fun _ ds => decide (uptoBulkAll ds ≤ 1048576)
def OpenSpec.upto (s : _root_.Go.ChangeSpec) : _root_.Go.OpenSpec := { _root_.Go.OpenSpec.ofChange s with cond := some uptoSmall }

/-- 'moonpoollaw05.FixNets', WHERE WHAT IT READS IS OF BULK AT MOST 1048576: true; the input reads as it did. -/
def fixNetsUptoRow : OpenClaim := { program := "ytephimmamkafoaa", sum := "b9f6902040271c87d3f24e8f197068cf9a4b09dd7faa6a8845239180e35570f5", func := "moonpool/moonpoollaw05.FixNets", spec := "fixNets", unfollowed := true, recurses := true, apart := false, narrowed := true }
def FixNetsUptoSaid : Prop := fixNetsUptoRow.holds Try.pinned (OpenSpec.upto fixNetsSpec)

/-- 'moonpoollaw05.FixBoxes', WHERE WHAT IT READS IS OF BULK AT MOST 1048576: true; the input reads as it did. -/
def fixBoxesUptoRow : OpenClaim := { program := "ytephimmamkafoaa", sum := "b9f6902040271c87d3f24e8f197068cf9a4b09dd7faa6a8845239180e35570f5", func := "moonpool/moonpoollaw05.FixBoxes", spec := "fixBoxes", unfollowed := true, recurses := true, apart := false, narrowed := true }
def FixBoxesUptoSaid : Prop := fixBoxesUptoRow.holds Try.pinned (OpenSpec.upto fixBoxesSpec)

/-- 'moonpoollaw05.FixReckoned', WHERE WHAT IT READS IS OF BULK AT MOST 1048576: true; the input reads as it did. -/
def fixReckonedUptoRow : OpenClaim := { program := "ytephimmamkafoaa", sum := "b9f6902040271c87d3f24e8f197068cf9a4b09dd7faa6a8845239180e35570f5", func := "moonpool/moonpoollaw05.FixReckoned", spec := "fixReckoned", unfollowed := true, recurses := true, apart := false, narrowed := true }
def FixReckonedUptoSaid : Prop := fixReckonedUptoRow.holds Try.pinned (OpenSpec.upto fixReckonedSpec)

/-- 'moonpoollaw05.FixReadings', WHERE WHAT IT READS IS OF BULK AT MOST 1048576: true; the input reads as it did. -/
def fixReadingsUptoRow : OpenClaim := { program := "ytephimmamkafoaa", sum := "b9f6902040271c87d3f24e8f197068cf9a4b09dd7faa6a8845239180e35570f5", func := "moonpool/moonpoollaw05.FixReadings", spec := "fixReadings", unfollowed := true, recurses := true, apart := false, narrowed := true }
def FixReadingsUptoSaid : Prop := fixReadingsUptoRow.holds Try.pinned (OpenSpec.upto fixReadingsSpec)

/-- 'moonpoollaw05.FixWrong', WHERE WHAT IT READS IS OF BULK AT MOST 1048576: true; the input reads as it did. -/
def fixWrongUptoRow : OpenClaim := { program := "ytephimmamkafoaa", sum := "b9f6902040271c87d3f24e8f197068cf9a4b09dd7faa6a8845239180e35570f5", func := "moonpool/moonpoollaw05.FixWrong", spec := "fixWrong", unfollowed := true, recurses := true, apart := false, narrowed := true }
def FixWrongUptoSaid : Prop := fixWrongUptoRow.holds Try.pinned (OpenSpec.upto fixWrongSpec)

/-- 'moonpoollaw05.FixMoves', WHERE WHAT IT READS IS OF BULK AT MOST 1048576: true; the input reads as it did. -/
def fixMovesUptoRow : OpenClaim := { program := "ytephimmamkafoaa", sum := "b9f6902040271c87d3f24e8f197068cf9a4b09dd7faa6a8845239180e35570f5", func := "moonpool/moonpoollaw05.FixMoves", spec := "fixMoves", unfollowed := true, recurses := true, apart := false, narrowed := true }
def FixMovesUptoSaid : Prop := fixMovesUptoRow.holds Try.pinned (OpenSpec.upto fixMovesSpec)

/-- 'moonpoollaw05.FixTrue', WHERE WHAT IT READS IS OF BULK AT MOST 1048576: true; the input reads as it did. -/
def fixTrueUptoRow : OpenClaim := { program := "ytephimmamkafoaa", sum := "b9f6902040271c87d3f24e8f197068cf9a4b09dd7faa6a8845239180e35570f5", func := "moonpool/moonpoollaw05.FixTrue", spec := "fixTrue", unfollowed := true, recurses := true, apart := false, narrowed := true }
def FixTrueUptoSaid : Prop := fixTrueUptoRow.holds Try.pinned (OpenSpec.upto fixTrueSpec)

end Rows
end Go.Proofs.Ytephimmamkafoaa
