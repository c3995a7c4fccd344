/-
  NARROWER THAN 'FOR EVERY INPUT', by the rows' own cells (each row's printed sentence says how): BusSilence: laid · BusFrames: laid · BusFound: laid · BusCuts: laid · BusNeverLate: laid · BusNets: laid · BusCarried: laid · BusDemands: laid · BusFaults: laid · BusNumbers: laid · BusOnce: laid · BusEarliest: laid.
  DERIVED. THE GIVEN ROWS OF THIS SEAT. 12 by the template 'for every input the law returns true; each argument reads behind the call as it read before'; 0 by the template 'total and deterministic' (their statements: YtdlmkblmljhbfaaDoorTotals.lean).
  GIVEN WITH THE SEED: the statements are not yours to turn. If you find one false, say at which input.
  Laid BY PROGRAM, IN A SANDBOX (cutbox-rows.mjs): the forced cells as the released guide's own fill.sh prints them over the translation ac89a3e397a312db… (all of the seat's roots in one cut). By AI agents, Wed Nov 11 2026. No macro, syntax, notation, axiom, sorry.
-/
import Derived.Test.YtdlmkblmljhbfaaDoorChecked
import GoSem.Claim
import GoSem.ClaimJoined
import GoSem.ClaimMapViews
import Derived.JoinedTies
import Derived.KernelRfl
namespace Go.Proofs.YtdlmkblmljhbfaaDoor
/- THE CELL 'sum', in the pinned program and in every row, IS THE sha256 OF THE DUMP (.gsa) THAT YtdlmkblmljhbfaaDoorProg.lean LOADS. Nothing in Lean hashes anything: it is a label: what it is worth is what the hold of that sum in a sandbox is worth. -/
noncomputable def Tryd.pinned : Pinned := { name := "ytdlmkblmljhbfaadoor", sum := "ac89a3e397a312dbc80da2b7c8ac7b2853d1f2e7618b429c197415bd47ca7dae", checked := Tryd.checked }
namespace Rows
def none {H : Type} : Left H := { results := [], args := [] }

/- WHAT THE LISTED PACKAGE-LEVEL VARIABLES READ AS WHEN THE CALL BEGINS. Each datum BY PROGRAM (the guide's laid-datum.mjs) off the statement by which the dump's own 'gosem.cut.vars' lays the variable. In a bare row this is a premise. The card (YtdlmkblmljhbfaaDoorCards.lean) ties it to the program's text. -/
def laid_math_bits_deBruijn32tab {H : Type} : DataW H := .agg [.lit (.int .u8 0), .lit (.int .u8 1), .lit (.int .u8 28), .lit (.int .u8 2), .lit (.int .u8 29), .lit (.int .u8 14), .lit (.int .u8 24), .lit (.int .u8 3), .lit (.int .u8 30), .lit (.int .u8 22), .lit (.int .u8 20), .lit (.int .u8 15), .lit (.int .u8 25), .lit (.int .u8 17), .lit (.int .u8 4), .lit (.int .u8 8), .lit (.int .u8 31), .lit (.int .u8 27), .lit (.int .u8 13), .lit (.int .u8 23), .lit (.int .u8 21), .lit (.int .u8 19), .lit (.int .u8 16), .lit (.int .u8 7), .lit (.int .u8 26), .lit (.int .u8 12), .lit (.int .u8 18), .lit (.int .u8 6), .lit (.int .u8 11), .lit (.int .u8 5), .lit (.int .u8 10), .lit (.int .u8 9)]
def laid_math_bits_deBruijn64tab {H : Type} : DataW H := .agg [.lit (.int .u8 0), .lit (.int .u8 1), .lit (.int .u8 56), .lit (.int .u8 2), .lit (.int .u8 57), .lit (.int .u8 49), .lit (.int .u8 28), .lit (.int .u8 3), .lit (.int .u8 61), .lit (.int .u8 58), .lit (.int .u8 42), .lit (.int .u8 50), .lit (.int .u8 38), .lit (.int .u8 29), .lit (.int .u8 17), .lit (.int .u8 4), .lit (.int .u8 62), .lit (.int .u8 47), .lit (.int .u8 59), .lit (.int .u8 36), .lit (.int .u8 45), .lit (.int .u8 43), .lit (.int .u8 51), .lit (.int .u8 22), .lit (.int .u8 53), .lit (.int .u8 39), .lit (.int .u8 33), .lit (.int .u8 30), .lit (.int .u8 24), .lit (.int .u8 18), .lit (.int .u8 12), .lit (.int .u8 5), .lit (.int .u8 63), .lit (.int .u8 55), .lit (.int .u8 48), .lit (.int .u8 27), .lit (.int .u8 60), .lit (.int .u8 41), .lit (.int .u8 37), .lit (.int .u8 16), .lit (.int .u8 46), .lit (.int .u8 35), .lit (.int .u8 44), .lit (.int .u8 21), .lit (.int .u8 52), .lit (.int .u8 32), .lit (.int .u8 23), .lit (.int .u8 11), .lit (.int .u8 54), .lit (.int .u8 26), .lit (.int .u8 40), .lit (.int .u8 15), .lit (.int .u8 34), .lit (.int .u8 20), .lit (.int .u8 31), .lit (.int .u8 10), .lit (.int .u8 25), .lit (.int .u8 14), .lit (.int .u8 19), .lit (.int .u8 9), .lit (.int .u8 13), .lit (.int .u8 8), .lit (.int .u8 7), .lit (.int .u8 6)]

/-- 'moonpoollaw07.BusSilence': WHATEVER THE INPUT: true; the input reads as it did. -/
def busSilenceSpec : ChangeSpec := { name := "busSilence", fn := fun _ => fun
  | [d1, d2, d3] => { results := [.lit (.bool true)], args := [d1, d2, d3] }
  | _ => none }
def busSilenceRow : OpenClaim := { program := "ytdlmkblmljhbfaadoor", sum := "ac89a3e397a312dbc80da2b7c8ac7b2853d1f2e7618b429c197415bd47ca7dae", func := "moonpool/moonpoollaw07.BusSilence", spec := "busSilence", unfollowed := true, recurses := true, named := ["math/bits.deBruijn32tab", "math/bits.deBruijn64tab"], apart := false, laid := [("math/bits.deBruijn32tab", laid_math_bits_deBruijn32tab), ("math/bits.deBruijn64tab", laid_math_bits_deBruijn64tab)] }
def BusSilenceSaid : Prop := busSilenceRow.holds Tryd.pinned (OpenSpec.ofChange busSilenceSpec)

/-- ITS FALSE NEIGHBOUR: 'it returns false'. Refute it at one input. -/
def busSilenceWrong : ChangeSpec := { name := "busSilence", fn := fun _ => fun
  | [d1, d2, d3] => { results := [.lit (.bool false)], args := [d1, d2, d3] }
  | _ => none }
def BusSilenceWrongFalsely : Prop := busSilenceRow.holds Tryd.pinned (OpenSpec.ofChange busSilenceWrong)

/-- 'moonpoollaw07.BusFrames': WHATEVER THE INPUT: true; the input reads as it did. -/
def busFramesSpec : ChangeSpec := { name := "busFrames", fn := fun _ => fun
  | [d1, d2, d3] => { results := [.lit (.bool true)], args := [d1, d2, d3] }
  | _ => none }
def busFramesRow : OpenClaim := { program := "ytdlmkblmljhbfaadoor", sum := "ac89a3e397a312dbc80da2b7c8ac7b2853d1f2e7618b429c197415bd47ca7dae", func := "moonpool/moonpoollaw07.BusFrames", spec := "busFrames", unfollowed := true, recurses := true, named := ["math/bits.deBruijn32tab", "math/bits.deBruijn64tab"], apart := false, laid := [("math/bits.deBruijn32tab", laid_math_bits_deBruijn32tab), ("math/bits.deBruijn64tab", laid_math_bits_deBruijn64tab)] }
def BusFramesSaid : Prop := busFramesRow.holds Tryd.pinned (OpenSpec.ofChange busFramesSpec)

/-- ITS FALSE NEIGHBOUR: 'it returns false'. Refute it at one input. -/
def busFramesWrong : ChangeSpec := { name := "busFrames", fn := fun _ => fun
  | [d1, d2, d3] => { results := [.lit (.bool false)], args := [d1, d2, d3] }
  | _ => none }
def BusFramesWrongFalsely : Prop := busFramesRow.holds Tryd.pinned (OpenSpec.ofChange busFramesWrong)

/-- 'moonpoollaw07.BusFound': WHATEVER THE INPUT: true; the input reads as it did. -/
def busFoundSpec : ChangeSpec := { name := "busFound", fn := fun _ => fun
  | [d1, d2, d3] => { results := [.lit (.bool true)], args := [d1, d2, d3] }
  | _ => none }
def busFoundRow : OpenClaim := { program := "ytdlmkblmljhbfaadoor", sum := "ac89a3e397a312dbc80da2b7c8ac7b2853d1f2e7618b429c197415bd47ca7dae", func := "moonpool/moonpoollaw07.BusFound", spec := "busFound", unfollowed := true, recurses := true, named := ["math/bits.deBruijn32tab", "math/bits.deBruijn64tab"], apart := false, laid := [("math/bits.deBruijn32tab", laid_math_bits_deBruijn32tab), ("math/bits.deBruijn64tab", laid_math_bits_deBruijn64tab)] }
def BusFoundSaid : Prop := busFoundRow.holds Tryd.pinned (OpenSpec.ofChange busFoundSpec)

/-- ITS FALSE NEIGHBOUR: 'it returns false'. Refute it at one input. -/
def busFoundWrong : ChangeSpec := { name := "busFound", fn := fun _ => fun
  | [d1, d2, d3] => { results := [.lit (.bool false)], args := [d1, d2, d3] }
  | _ => none }
def BusFoundWrongFalsely : Prop := busFoundRow.holds Tryd.pinned (OpenSpec.ofChange busFoundWrong)

/-- 'moonpoollaw07.BusCuts': WHATEVER THE INPUT: true; the input reads as it did. -/
def busCutsSpec : ChangeSpec := { name := "busCuts", fn := fun _ => fun
  | [d1, d2, d3] => { results := [.lit (.bool true)], args := [d1, d2, d3] }
  | _ => none }
def busCutsRow : OpenClaim := { program := "ytdlmkblmljhbfaadoor", sum := "ac89a3e397a312dbc80da2b7c8ac7b2853d1f2e7618b429c197415bd47ca7dae", func := "moonpool/moonpoollaw07.BusCuts", spec := "busCuts", unfollowed := true, recurses := true, named := ["math/bits.deBruijn32tab", "math/bits.deBruijn64tab"], apart := false, laid := [("math/bits.deBruijn32tab", laid_math_bits_deBruijn32tab), ("math/bits.deBruijn64tab", laid_math_bits_deBruijn64tab)] }
def BusCutsSaid : Prop := busCutsRow.holds Tryd.pinned (OpenSpec.ofChange busCutsSpec)

/-- ITS FALSE NEIGHBOUR: 'it returns false'. Refute it at one input. -/
def busCutsWrong : ChangeSpec := { name := "busCuts", fn := fun _ => fun
  | [d1, d2, d3] => { results := [.lit (.bool false)], args := [d1, d2, d3] }
  | _ => none }
def BusCutsWrongFalsely : Prop := busCutsRow.holds Tryd.pinned (OpenSpec.ofChange busCutsWrong)

/-- 'moonpoollaw07.BusNeverLate': WHATEVER THE INPUT: true; the input reads as it did. -/
def busNeverLateSpec : ChangeSpec := { name := "busNeverLate", fn := fun _ => fun
  | [d1, d2, d3] => { results := [.lit (.bool true)], args := [d1, d2, d3] }
  | _ => none }
def busNeverLateRow : OpenClaim := { program := "ytdlmkblmljhbfaadoor", sum := "ac89a3e397a312dbc80da2b7c8ac7b2853d1f2e7618b429c197415bd47ca7dae", func := "moonpool/moonpoollaw07.BusNeverLate", spec := "busNeverLate", unfollowed := true, recurses := true, named := ["math/bits.deBruijn32tab", "math/bits.deBruijn64tab"], apart := false, laid := [("math/bits.deBruijn32tab", laid_math_bits_deBruijn32tab), ("math/bits.deBruijn64tab", laid_math_bits_deBruijn64tab)] }
def BusNeverLateSaid : Prop := busNeverLateRow.holds Tryd.pinned (OpenSpec.ofChange busNeverLateSpec)

/-- ITS FALSE NEIGHBOUR: 'it returns false'. Refute it at one input. -/
def busNeverLateWrong : ChangeSpec := { name := "busNeverLate", fn := fun _ => fun
  | [d1, d2, d3] => { results := [.lit (.bool false)], args := [d1, d2, d3] }
  | _ => none }
def BusNeverLateWrongFalsely : Prop := busNeverLateRow.holds Tryd.pinned (OpenSpec.ofChange busNeverLateWrong)

/-- 'moonpoollaw07.BusNets': WHATEVER THE INPUT: true; the input reads as it did. -/
def busNetsSpec : ChangeSpec := { name := "busNets", fn := fun _ => fun
  | [d1, d2] => { results := [.lit (.bool true)], args := [d1, d2] }
  | _ => none }
def busNetsRow : OpenClaim := { program := "ytdlmkblmljhbfaadoor", sum := "ac89a3e397a312dbc80da2b7c8ac7b2853d1f2e7618b429c197415bd47ca7dae", func := "moonpool/moonpoollaw07.BusNets", spec := "busNets", unfollowed := true, recurses := true, named := ["math/bits.deBruijn32tab", "math/bits.deBruijn64tab"], apart := false, laid := [("math/bits.deBruijn32tab", laid_math_bits_deBruijn32tab), ("math/bits.deBruijn64tab", laid_math_bits_deBruijn64tab)] }
def BusNetsSaid : Prop := busNetsRow.holds Tryd.pinned (OpenSpec.ofChange busNetsSpec)

/-- ITS FALSE NEIGHBOUR: 'it returns false'. Refute it at one input. -/
def busNetsWrong : ChangeSpec := { name := "busNets", fn := fun _ => fun
  | [d1, d2] => { results := [.lit (.bool false)], args := [d1, d2] }
  | _ => none }
def BusNetsWrongFalsely : Prop := busNetsRow.holds Tryd.pinned (OpenSpec.ofChange busNetsWrong)

/-- 'moonpoollaw07.BusCarried': WHATEVER THE INPUT: true; the input reads as it did. -/
def busCarriedSpec : ChangeSpec := { name := "busCarried", fn := fun _ => fun
  | [d1, d2, d3] => { results := [.lit (.bool true)], args := [d1, d2, d3] }
  | _ => none }
def busCarriedRow : OpenClaim := { program := "ytdlmkblmljhbfaadoor", sum := "ac89a3e397a312dbc80da2b7c8ac7b2853d1f2e7618b429c197415bd47ca7dae", func := "moonpool/moonpoollaw07.BusCarried", spec := "busCarried", unfollowed := true, recurses := true, named := ["math/bits.deBruijn32tab", "math/bits.deBruijn64tab"], apart := false, laid := [("math/bits.deBruijn32tab", laid_math_bits_deBruijn32tab), ("math/bits.deBruijn64tab", laid_math_bits_deBruijn64tab)] }
def BusCarriedSaid : Prop := busCarriedRow.holds Tryd.pinned (OpenSpec.ofChange busCarriedSpec)

/-- ITS FALSE NEIGHBOUR: 'it returns false'. Refute it at one input. -/
def busCarriedWrong : ChangeSpec := { name := "busCarried", fn := fun _ => fun
  | [d1, d2, d3] => { results := [.lit (.bool false)], args := [d1, d2, d3] }
  | _ => none }
def BusCarriedWrongFalsely : Prop := busCarriedRow.holds Tryd.pinned (OpenSpec.ofChange busCarriedWrong)

/-- 'moonpoollaw07.BusDemands': WHATEVER THE INPUT: true; the input reads as it did. -/
def busDemandsSpec : ChangeSpec := { name := "busDemands", fn := fun _ => fun
  | [d1, d2] => { results := [.lit (.bool true)], args := [d1, d2] }
  | _ => none }
def busDemandsRow : OpenClaim := { program := "ytdlmkblmljhbfaadoor", sum := "ac89a3e397a312dbc80da2b7c8ac7b2853d1f2e7618b429c197415bd47ca7dae", func := "moonpool/moonpoollaw07.BusDemands", spec := "busDemands", unfollowed := true, recurses := true, named := ["math/bits.deBruijn32tab", "math/bits.deBruijn64tab"], apart := false, laid := [("math/bits.deBruijn32tab", laid_math_bits_deBruijn32tab), ("math/bits.deBruijn64tab", laid_math_bits_deBruijn64tab)] }
def BusDemandsSaid : Prop := busDemandsRow.holds Tryd.pinned (OpenSpec.ofChange busDemandsSpec)

/-- ITS FALSE NEIGHBOUR: 'it returns false'. Refute it at one input. -/
def busDemandsWrong : ChangeSpec := { name := "busDemands", fn := fun _ => fun
  | [d1, d2] => { results := [.lit (.bool false)], args := [d1, d2] }
  | _ => none }
def BusDemandsWrongFalsely : Prop := busDemandsRow.holds Tryd.pinned (OpenSpec.ofChange busDemandsWrong)

/-- 'moonpoollaw07.BusFaults': WHATEVER THE INPUT: true; the input reads as it did. -/
def busFaultsSpec : ChangeSpec := { name := "busFaults", fn := fun _ => fun
  | [d1, d2, d3] => { results := [.lit (.bool true)], args := [d1, d2, d3] }
  | _ => none }
def busFaultsRow : OpenClaim := { program := "ytdlmkblmljhbfaadoor", sum := "ac89a3e397a312dbc80da2b7c8ac7b2853d1f2e7618b429c197415bd47ca7dae", func := "moonpool/moonpoollaw07.BusFaults", spec := "busFaults", unfollowed := true, recurses := true, named := ["math/bits.deBruijn32tab", "math/bits.deBruijn64tab"], apart := false, laid := [("math/bits.deBruijn32tab", laid_math_bits_deBruijn32tab), ("math/bits.deBruijn64tab", laid_math_bits_deBruijn64tab)] }
def BusFaultsSaid : Prop := busFaultsRow.holds Tryd.pinned (OpenSpec.ofChange busFaultsSpec)

/-- ITS FALSE NEIGHBOUR: 'it returns false'. Refute it at one input. -/
def busFaultsWrong : ChangeSpec := { name := "busFaults", fn := fun _ => fun
  | [d1, d2, d3] => { results := [.lit (.bool false)], args := [d1, d2, d3] }
  | _ => none }
def BusFaultsWrongFalsely : Prop := busFaultsRow.holds Tryd.pinned (OpenSpec.ofChange busFaultsWrong)

/-- 'moonpoollaw07.BusNumbers': WHATEVER THE INPUT: true; the input reads as it did. -/
def busNumbersSpec : ChangeSpec := { name := "busNumbers", fn := fun _ => fun
  | [d1, d2] => { results := [.lit (.bool true)], args := [d1, d2] }
  | _ => none }
def busNumbersRow : OpenClaim := { program := "ytdlmkblmljhbfaadoor", sum := "ac89a3e397a312dbc80da2b7c8ac7b2853d1f2e7618b429c197415bd47ca7dae", func := "moonpool/moonpoollaw07.BusNumbers", spec := "busNumbers", unfollowed := true, recurses := true, named := ["math/bits.deBruijn32tab", "math/bits.deBruijn64tab"], apart := false, laid := [("math/bits.deBruijn32tab", laid_math_bits_deBruijn32tab), ("math/bits.deBruijn64tab", laid_math_bits_deBruijn64tab)] }
def BusNumbersSaid : Prop := busNumbersRow.holds Tryd.pinned (OpenSpec.ofChange busNumbersSpec)

/-- ITS FALSE NEIGHBOUR: 'it returns false'. Refute it at one input. -/
def busNumbersWrong : ChangeSpec := { name := "busNumbers", fn := fun _ => fun
  | [d1, d2] => { results := [.lit (.bool false)], args := [d1, d2] }
  | _ => none }
def BusNumbersWrongFalsely : Prop := busNumbersRow.holds Tryd.pinned (OpenSpec.ofChange busNumbersWrong)

/-- 'moonpoollaw07.BusOnce': WHATEVER THE INPUT: true; the input reads as it did. -/
def busOnceSpec : ChangeSpec := { name := "busOnce", fn := fun _ => fun
  | [d1, d2] => { results := [.lit (.bool true)], args := [d1, d2] }
  | _ => none }
def busOnceRow : OpenClaim := { program := "ytdlmkblmljhbfaadoor", sum := "ac89a3e397a312dbc80da2b7c8ac7b2853d1f2e7618b429c197415bd47ca7dae", func := "moonpool/moonpoollaw07.BusOnce", spec := "busOnce", unfollowed := true, recurses := true, named := ["math/bits.deBruijn32tab", "math/bits.deBruijn64tab"], apart := false, laid := [("math/bits.deBruijn32tab", laid_math_bits_deBruijn32tab), ("math/bits.deBruijn64tab", laid_math_bits_deBruijn64tab)] }
def BusOnceSaid : Prop := busOnceRow.holds Tryd.pinned (OpenSpec.ofChange busOnceSpec)

/-- ITS FALSE NEIGHBOUR: 'it returns false'. Refute it at one input. -/
def busOnceWrong : ChangeSpec := { name := "busOnce", fn := fun _ => fun
  | [d1, d2] => { results := [.lit (.bool false)], args := [d1, d2] }
  | _ => none }
def BusOnceWrongFalsely : Prop := busOnceRow.holds Tryd.pinned (OpenSpec.ofChange busOnceWrong)

/-- 'moonpoollaw07.BusEarliest': WHATEVER THE INPUT: true; the input reads as it did. -/
def busEarliestSpec : ChangeSpec := { name := "busEarliest", fn := fun _ => fun
  | [d1, d2, d3] => { results := [.lit (.bool true)], args := [d1, d2, d3] }
  | _ => none }
def busEarliestRow : OpenClaim := { program := "ytdlmkblmljhbfaadoor", sum := "ac89a3e397a312dbc80da2b7c8ac7b2853d1f2e7618b429c197415bd47ca7dae", func := "moonpool/moonpoollaw07.BusEarliest", spec := "busEarliest", unfollowed := true, recurses := true, named := ["math/bits.deBruijn32tab", "math/bits.deBruijn64tab"], apart := false, laid := [("math/bits.deBruijn32tab", laid_math_bits_deBruijn32tab), ("math/bits.deBruijn64tab", laid_math_bits_deBruijn64tab)] }
def BusEarliestSaid : Prop := busEarliestRow.holds Tryd.pinned (OpenSpec.ofChange busEarliestSpec)

/-- ITS FALSE NEIGHBOUR: 'it returns false'. Refute it at one input. -/
def busEarliestWrong : ChangeSpec := { name := "busEarliest", fn := fun _ => fun
  | [d1, d2, d3] => { results := [.lit (.bool false)], args := [d1, d2, d3] }
  | _ => none }
def BusEarliestWrongFalsely : Prop := busEarliestRow.holds Tryd.pinned (OpenSpec.ofChange busEarliestWrong)

/- THE SECOND FORM. 'bulk': how many values and letters a reading holds, each counted each time it is reached (what is shared counts as often as it is met; a slice's spare places count too). A statement '..UptoSaid' is the law's where the arguments, and the package variables that the reading takes, are together of bulk at most 1048576: NARROWER than '..Said'. Prove '..Said' where nothing that the law and all that it calls make is longer than what came in: it says more and counts as full. Else prove '..UptoSaid'. A law counts once. -/
mutual
def uptoBulk {H : Type} : DataW H → Nat
  | .lit (.string bytes) => bytes.length + 1
  | .lit _ => 1
  | .nil => 1
  | .ptr d => uptoBulk d + 1
  | .slice elems spare => uptoBulkAll elems + uptoBulkAll spare + 1
  | .agg parts => uptoBulkAll parts + 1
  | .iface _ d => uptoBulk d + 1
  | .map entries => uptoBulkEntries entries + 1
  | .held _ => 1
def uptoBulkAll {H : Type} : List (DataW H) → Nat
  | [] => 0
  | d :: r => uptoBulk d + uptoBulkAll r
def uptoBulkEntries {H : Type} : List (Lit × DataW H) → Nat
  | [] => 0
  | x :: r => uptoBulkEntry x + uptoBulkEntries r
def uptoBulkEntry {H : Type} : Lit × DataW H → Nat
  | (.string bytes, d) => bytes.length + uptoBulk d + 1
  | (_, d) => uptoBulk d + 1
 end
def uptoSmall : (H : Type) → List (DataW H) → Bool := fun _ ds => decide (uptoBulkAll ds ≤ 1048576)
def OpenSpec.upto (s : _root_.Go.ChangeSpec) : _root_.Go.OpenSpec := { _root_.Go.OpenSpec.ofChange s with cond := some uptoSmall }

/-- 'moonpoollaw07.BusSilence', WHERE WHAT IT READS IS OF BULK AT MOST 1048576: true; the input reads as it did. -/
def busSilenceUptoRow : OpenClaim := { program := "ytdlmkblmljhbfaadoor", sum := "ac89a3e397a312dbc80da2b7c8ac7b2853d1f2e7618b429c197415bd47ca7dae", func := "moonpool/moonpoollaw07.BusSilence", spec := "busSilence", unfollowed := true, recurses := true, named := ["math/bits.deBruijn32tab", "math/bits.deBruijn64tab"], apart := false, laid := [("math/bits.deBruijn32tab", laid_math_bits_deBruijn32tab), ("math/bits.deBruijn64tab", laid_math_bits_deBruijn64tab)], narrowed := true }
def BusSilenceUptoSaid : Prop := busSilenceUptoRow.holds Tryd.pinned (OpenSpec.upto busSilenceSpec)

/-- 'moonpoollaw07.BusFrames', WHERE WHAT IT READS IS OF BULK AT MOST 1048576: true; the input reads as it did. -/
def busFramesUptoRow : OpenClaim := { program := "ytdlmkblmljhbfaadoor", sum := "ac89a3e397a312dbc80da2b7c8ac7b2853d1f2e7618b429c197415bd47ca7dae", func := "moonpool/moonpoollaw07.BusFrames", spec := "busFrames", unfollowed := true, recurses := true, named := ["math/bits.deBruijn32tab", "math/bits.deBruijn64tab"], apart := false, laid := [("math/bits.deBruijn32tab", laid_math_bits_deBruijn32tab), ("math/bits.deBruijn64tab", laid_math_bits_deBruijn64tab)], narrowed := true }
def BusFramesUptoSaid : Prop := busFramesUptoRow.holds Tryd.pinned (OpenSpec.upto busFramesSpec)

/-- 'moonpoollaw07.BusFound', WHERE WHAT IT READS IS OF BULK AT MOST 1048576: true; the input reads as it did. -/
def busFoundUptoRow : OpenClaim := { program := "ytdlmkblmljhbfaadoor", sum := "ac89a3e397a312dbc80da2b7c8ac7b2853d1f2e7618b429c197415bd47ca7dae", func := "moonpool/moonpoollaw07.BusFound", spec := "busFound", unfollowed := true, recurses := true, named := ["math/bits.deBruijn32tab", "math/bits.deBruijn64tab"], apart := false, laid := [("math/bits.deBruijn32tab", laid_math_bits_deBruijn32tab), ("math/bits.deBruijn64tab", laid_math_bits_deBruijn64tab)], narrowed := true }
def BusFoundUptoSaid : Prop := busFoundUptoRow.holds Tryd.pinned (OpenSpec.upto busFoundSpec)

/-- 'moonpoollaw07.BusCuts', WHERE WHAT IT READS IS OF BULK AT MOST 1048576: true; the input reads as it did. -/
def busCutsUptoRow : OpenClaim := { program := "ytdlmkblmljhbfaadoor", sum := "ac89a3e397a312dbc80da2b7c8ac7b2853d1f2e7618b429c197415bd47ca7dae", func := "moonpool/moonpoollaw07.BusCuts", spec := "busCuts", unfollowed := true, recurses := true, named := ["math/bits.deBruijn32tab", "math/bits.deBruijn64tab"], apart := false, laid := [("math/bits.deBruijn32tab", laid_math_bits_deBruijn32tab), ("math/bits.deBruijn64tab", laid_math_bits_deBruijn64tab)], narrowed := true }
def BusCutsUptoSaid : Prop := busCutsUptoRow.holds Tryd.pinned (OpenSpec.upto busCutsSpec)

/-- 'moonpoollaw07.BusNeverLate', WHERE WHAT IT READS IS OF BULK AT MOST 1048576: true; the input reads as it did. -/
def busNeverLateUptoRow : OpenClaim := { program := "ytdlmkblmljhbfaadoor", sum := "ac89a3e397a312dbc80da2b7c8ac7b2853d1f2e7618b429c197415bd47ca7dae", func := "moonpool/moonpoollaw07.BusNeverLate", spec := "busNeverLate", unfollowed := true, recurses := true, named := ["math/bits.deBruijn32tab", "math/bits.deBruijn64tab"], apart := false, laid := [("math/bits.deBruijn32tab", laid_math_bits_deBruijn32tab), ("math/bits.deBruijn64tab", laid_math_bits_deBruijn64tab)], narrowed := true }
def BusNeverLateUptoSaid : Prop := busNeverLateUptoRow.holds Tryd.pinned (OpenSpec.upto busNeverLateSpec)

/-- 'moonpoollaw07.BusNets', WHERE WHAT IT READS IS OF BULK AT MOST 1048576: true; the input reads as it did. -/
def busNetsUptoRow : OpenClaim := { program := "ytdlmkblmljhbfaadoor", sum := "ac89a3e397a312dbc80da2b7c8ac7b2853d1f2e7618b429c197415bd47ca7dae", func := "moonpool/moonpoollaw07.BusNets", spec := "busNets", unfollowed := true, recurses := true, named := ["math/bits.deBruijn32tab", "math/bits.deBruijn64tab"], apart := false, laid := [("math/bits.deBruijn32tab", laid_math_bits_deBruijn32tab), ("math/bits.deBruijn64tab", laid_math_bits_deBruijn64tab)], narrowed := true }
def BusNetsUptoSaid : Prop := busNetsUptoRow.holds Tryd.pinned (OpenSpec.upto busNetsSpec)

/-- 'moonpoollaw07.BusCarried', WHERE WHAT IT READS IS OF BULK AT MOST 1048576: true; the input reads as it did. -/
def busCarriedUptoRow : OpenClaim := { program := "ytdlmkblmljhbfaadoor", sum := "ac89a3e397a312dbc80da2b7c8ac7b2853d1f2e7618b429c197415bd47ca7dae", func := "moonpool/moonpoollaw07.BusCarried", spec := "busCarried", unfollowed := true, recurses := true, named := ["math/bits.deBruijn32tab", "math/bits.deBruijn64tab"], apart := false, laid := [("math/bits.deBruijn32tab", laid_math_bits_deBruijn32tab), ("math/bits.deBruijn64tab", laid_math_bits_deBruijn64tab)], narrowed := true }
def BusCarriedUptoSaid : Prop := busCarriedUptoRow.holds Tryd.pinned (OpenSpec.upto busCarriedSpec)

/-- 'moonpoollaw07.BusDemands', WHERE WHAT IT READS IS OF BULK AT MOST 1048576: true; the input reads as it did. -/
def busDemandsUptoRow : OpenClaim := { program := "ytdlmkblmljhbfaadoor", sum := "ac89a3e397a312dbc80da2b7c8ac7b2853d1f2e7618b429c197415bd47ca7dae", func := "moonpool/moonpoollaw07.BusDemands", spec := "busDemands", unfollowed := true, recurses := true, named := ["math/bits.deBruijn32tab", "math/bits.deBruijn64tab"], apart := false, laid := [("math/bits.deBruijn32tab", laid_math_bits_deBruijn32tab), ("math/bits.deBruijn64tab", laid_math_bits_deBruijn64tab)], narrowed := true }
def BusDemandsUptoSaid : Prop := busDemandsUptoRow.holds Tryd.pinned (OpenSpec.upto busDemandsSpec)

/-- 'moonpoollaw07.BusFaults', WHERE WHAT IT READS IS OF BULK AT MOST 1048576: true; the input reads as it did. -/
def busFaultsUptoRow : OpenClaim := { program := "ytdlmkblmljhbfaadoor", sum := "ac89a3e397a312dbc80da2b7c8ac7b2853d1f2e7618b429c197415bd47ca7dae", func := "moonpool/moonpoollaw07.BusFaults", spec := "busFaults", unfollowed := true, recurses := true, named := ["math/bits.deBruijn32tab", "math/bits.deBruijn64tab"], apart := false, laid := [("math/bits.deBruijn32tab", laid_math_bits_deBruijn32tab), ("math/bits.deBruijn64tab", laid_math_bits_deBruijn64tab)], narrowed := true }
def BusFaultsUptoSaid : Prop := busFaultsUptoRow.holds Tryd.pinned (OpenSpec.upto busFaultsSpec)

/-- 'moonpoollaw07.BusNumbers', WHERE WHAT IT READS IS OF BULK AT MOST 1048576: true; the input reads as it did. -/
def busNumbersUptoRow : OpenClaim := { program := "ytdlmkblmljhbfaadoor", sum := "ac89a3e397a312dbc80da2b7c8ac7b2853d1f2e7618b429c197415bd47ca7dae", func := "moonpool/moonpoollaw07.BusNumbers", spec := "busNumbers", unfollowed := true, recurses := true, named := ["math/bits.deBruijn32tab", "math/bits.deBruijn64tab"], apart := false, laid := [("math/bits.deBruijn32tab", laid_math_bits_deBruijn32tab), ("math/bits.deBruijn64tab", laid_math_bits_deBruijn64tab)], narrowed := true }
def BusNumbersUptoSaid : Prop := busNumbersUptoRow.holds Tryd.pinned (OpenSpec.upto busNumbersSpec)

/-- 'moonpoollaw07.BusOnce', WHERE WHAT IT READS IS OF BULK AT MOST 1048576: true; the input reads as it did. -/
def busOnceUptoRow : OpenClaim := { program := "ytdlmkblmljhbfaadoor", sum := "ac89a3e397a312dbc80da2b7c8ac7b2853d1f2e7618b429c197415bd47ca7dae", func := "moonpool/moonpoollaw07.BusOnce", spec := "busOnce", unfollowed := true, recurses := true, named := ["math/bits.deBruijn32tab", "math/bits.deBruijn64tab"], apart := false, laid := [("math/bits.deBruijn32tab", laid_math_bits_deBruijn32tab), ("math/bits.deBruijn64tab", laid_math_bits_deBruijn64tab)], narrowed := true }
def BusOnceUptoSaid : Prop := busOnceUptoRow.holds Tryd.pinned (OpenSpec.upto busOnceSpec)

/-- 'moonpoollaw07.BusEarliest', WHERE WHAT IT READS IS OF BULK AT MOST 1048576: true; the input reads as it did. -/
def busEarliestUptoRow : OpenClaim := { program := "ytdlmkblmljhbfaadoor", sum := "ac89a3e397a312dbc80da2b7c8ac7b2853d1f2e7618b429c197415bd47ca7dae", func := "moonpool/moonpoollaw07.BusEarliest", spec := "busEarliest", unfollowed := true, recurses := true, named := ["math/bits.deBruijn32tab", "math/bits.deBruijn64tab"], apart := false, laid := [("math/bits.deBruijn32tab", laid_math_bits_deBruijn32tab), ("math/bits.deBruijn64tab", laid_math_bits_deBruijn64tab)], narrowed := true }
def BusEarliestUptoSaid : Prop := busEarliestUptoRow.holds Tryd.pinned (OpenSpec.upto busEarliestSpec)

end Rows
end Go.Proofs.YtdlmkblmljhbfaaDoor
