/-
  DERIVED. GIVEN WITH THE SEED: THE CARDS: each row of YtbdgblnccjpahaaGreatDoorRows.lean that lists a variable, with what it lists TIED to the program's text (the seventh form; the later family's looks); each row that meets fmt, with fmt's text TOLD by the authors' own Lean function (tested against real Go, not proved from fmt's source: count such statements apart). THE CARD IS WHAT COUNTS. Prove the row's statement (the work); the ties are given (YtbdgblnccjpahaaGreatDoorTie.lean); close each card by the builder's one call (the guide's Derived/Test/ToyasCard.lean, 'card_holds'). Laid BY PROGRAM, IN A SANDBOX (cutbox-door.mjs). By AI agents, Wed Nov 11 2026. No macro, syntax, notation, axiom, sorry.
-/
import Derived.Test.YtbdgblnccjpahaaGreatDoorRows
import GoSem.ClaimSeven
namespace Go.Proofs.YtbdgblnccjpahaaGreatDoor
namespace Rows

/-- THE TIED CARD OF 'moonpooltop.TopBusInTime'. -/
def topBusInTimeCard : Claim7 := { stood := { row := topBusInTimeRow, standIns := [], harness := (true, "cae8df4a1fdfe292e35d1902ec24a1d2046835f55af5c36a40186c0d9142017c"), looks := true }, kinds := [], alts := [], laidByText := true, laidKinds := [.data, .data, .data, .data, .sentinel, .sentinel, .pinned], laidTests := true, laidLooks := .later }
def TopBusInTimeCardSaid : Prop := Claim7.holds Tryz.pinned (.plain (OpenSpec.ofChange topBusInTimeSpec)) topBusInTimeCard

/-- THE TIED CARD OF 'moonpooltop.TopBusOnce'. -/
def topBusOnceCard : Claim7 := { stood := { row := topBusOnceRow, standIns := [], harness := (true, "cae8df4a1fdfe292e35d1902ec24a1d2046835f55af5c36a40186c0d9142017c"), looks := true }, kinds := [], alts := [], laidByText := true, laidKinds := [.data, .data, .data, .data, .sentinel, .sentinel, .pinned], laidTests := true, laidLooks := .later }
def TopBusOnceCardSaid : Prop := Claim7.holds Tryz.pinned (.plain (OpenSpec.ofChange topBusOnceSpec)) topBusOnceCard

/-- THE TIED CARD OF 'moonpoollaw07.BusStreams'. -/
def busStreamsCard : Claim7 := { stood := { row := busStreamsRow, standIns := [], harness := (true, "cae8df4a1fdfe292e35d1902ec24a1d2046835f55af5c36a40186c0d9142017c"), looks := true }, kinds := [], alts := [], laidByText := true, laidKinds := [.data, .data], laidTests := true, laidLooks := .later }
def BusStreamsCardSaid : Prop := Claim7.holds Tryz.pinned (.plain (OpenSpec.ofChange busStreamsSpec)) busStreamsCard

/-- THE TIED CARD OF 'moonpoollaw07.BusStrings'. -/
def busStringsCard : Claim7 := { stood := { row := busStringsRow, standIns := [], harness := (true, "cae8df4a1fdfe292e35d1902ec24a1d2046835f55af5c36a40186c0d9142017c"), looks := true }, kinds := [], alts := [], laidByText := true, laidKinds := [.data, .data, .data, .data, .sentinel, .sentinel, .pinned], laidTests := true, laidLooks := .later }
def BusStringsCardSaid : Prop := Claim7.holds Tryz.pinned (.plain (OpenSpec.ofChange busStringsSpec)) busStringsCard

/-- THE SECOND FORM's CARD OF 'moonpooltop.TopBusInTime'. -/
def topBusInTimeUptoCard : Claim7 := { stood := { row := topBusInTimeUptoRow, standIns := [], harness := (true, "cae8df4a1fdfe292e35d1902ec24a1d2046835f55af5c36a40186c0d9142017c"), looks := true }, kinds := [], alts := [], laidByText := true, laidKinds := [.data, .data, .data, .data, .sentinel, .sentinel, .pinned], laidTests := true, laidLooks := .later }
def TopBusInTimeUptoCardSaid : Prop := Claim7.holds Tryz.pinned (.plain (OpenSpec.upto topBusInTimeSpec)) topBusInTimeUptoCard

/-- THE SECOND FORM's CARD OF 'moonpooltop.TopBusOnce'. -/
def topBusOnceUptoCard : Claim7 := { stood := { row := topBusOnceUptoRow, standIns := [], harness := (true, "cae8df4a1fdfe292e35d1902ec24a1d2046835f55af5c36a40186c0d9142017c"), looks := true }, kinds := [], alts := [], laidByText := true, laidKinds := [.data, .data, .data, .data, .sentinel, .sentinel, .pinned], laidTests := true, laidLooks := .later }
def TopBusOnceUptoCardSaid : Prop := Claim7.holds Tryz.pinned (.plain (OpenSpec.upto topBusOnceSpec)) topBusOnceUptoCard

/-- THE SECOND FORM's CARD OF 'moonpoollaw07.BusStreams'. -/
def busStreamsUptoCard : Claim7 := { stood := { row := busStreamsUptoRow, standIns := [], harness := (true, "cae8df4a1fdfe292e35d1902ec24a1d2046835f55af5c36a40186c0d9142017c"), looks := true }, kinds := [], alts := [], laidByText := true, laidKinds := [.data, .data], laidTests := true, laidLooks := .later }
def BusStreamsUptoCardSaid : Prop := Claim7.holds Tryz.pinned (.plain (OpenSpec.upto busStreamsSpec)) busStreamsUptoCard

/-- THE SECOND FORM's CARD OF 'moonpoollaw07.BusStrings'. -/
def busStringsUptoCard : Claim7 := { stood := { row := busStringsUptoRow, standIns := [], harness := (true, "cae8df4a1fdfe292e35d1902ec24a1d2046835f55af5c36a40186c0d9142017c"), looks := true }, kinds := [], alts := [], laidByText := true, laidKinds := [.data, .data, .data, .data, .sentinel, .sentinel, .pinned], laidTests := true, laidLooks := .later }
def BusStringsUptoCardSaid : Prop := Claim7.holds Tryz.pinned (.plain (OpenSpec.upto busStringsSpec)) busStringsUptoCard
end Rows
end Go.Proofs.YtbdgblnccjpahaaGreatDoor
