/-
  DERIVED. GIVEN WITH THE SEED: THE CARDS: each row of YtdlmkblmljhbfaaDoorRows.lean that lists a variable, with what it lists TIED to the program's text (the seventh form; the later family's looks); each row that meets fmt, with fmt's text TOLD by the authors' own Lean function (tested against real Go, not proved from fmt's source: count such statements apart). THE CARD IS WHAT COUNTS. Prove the row's statement (the work); the ties are given (YtdlmkblmljhbfaaDoorTie.lean); close each card by the builder's one call (the guide's Derived/Test/ToyasCard.lean, 'card_holds'). Laid BY PROGRAM, IN A SANDBOX (cutbox-door.mjs). By AI agents, Wed Nov 11 2026. No macro, syntax, notation, axiom, sorry.
-/
import Derived.Test.YtdlmkblmljhbfaaDoorRows
import GoSem.ClaimSeven
namespace Go.Proofs.YtdlmkblmljhbfaaDoor
namespace Rows

/-- THE TIED CARD OF 'moonpoollaw07.BusSilence'. -/
def busSilenceCard : Claim7 := { stood := { row := busSilenceRow, standIns := [], harness := (true, "116def9cc7da4492483e272d47fa35da6eed723d065791276a4e6a16977d86dc"), looks := false }, kinds := [], alts := [], laidByText := true, laidKinds := [.data, .data], laidTests := true, laidLooks := .later }
def BusSilenceCardSaid : Prop := Claim7.holds Tryd.pinned (.plain (OpenSpec.ofChange busSilenceSpec)) busSilenceCard

/-- THE TIED CARD OF 'moonpoollaw07.BusFrames'. -/
def busFramesCard : Claim7 := { stood := { row := busFramesRow, standIns := [], harness := (true, "116def9cc7da4492483e272d47fa35da6eed723d065791276a4e6a16977d86dc"), looks := false }, kinds := [], alts := [], laidByText := true, laidKinds := [.data, .data], laidTests := true, laidLooks := .later }
def BusFramesCardSaid : Prop := Claim7.holds Tryd.pinned (.plain (OpenSpec.ofChange busFramesSpec)) busFramesCard

/-- THE TIED CARD OF 'moonpoollaw07.BusFound'. -/
def busFoundCard : Claim7 := { stood := { row := busFoundRow, standIns := [], harness := (true, "116def9cc7da4492483e272d47fa35da6eed723d065791276a4e6a16977d86dc"), looks := false }, kinds := [], alts := [], laidByText := true, laidKinds := [.data, .data], laidTests := true, laidLooks := .later }
def BusFoundCardSaid : Prop := Claim7.holds Tryd.pinned (.plain (OpenSpec.ofChange busFoundSpec)) busFoundCard

/-- THE TIED CARD OF 'moonpoollaw07.BusCuts'. -/
def busCutsCard : Claim7 := { stood := { row := busCutsRow, standIns := [], harness := (true, "116def9cc7da4492483e272d47fa35da6eed723d065791276a4e6a16977d86dc"), looks := false }, kinds := [], alts := [], laidByText := true, laidKinds := [.data, .data], laidTests := true, laidLooks := .later }
def BusCutsCardSaid : Prop := Claim7.holds Tryd.pinned (.plain (OpenSpec.ofChange busCutsSpec)) busCutsCard

/-- THE TIED CARD OF 'moonpoollaw07.BusNeverLate'. -/
def busNeverLateCard : Claim7 := { stood := { row := busNeverLateRow, standIns := [], harness := (true, "116def9cc7da4492483e272d47fa35da6eed723d065791276a4e6a16977d86dc"), looks := false }, kinds := [], alts := [], laidByText := true, laidKinds := [.data, .data], laidTests := true, laidLooks := .later }
def BusNeverLateCardSaid : Prop := Claim7.holds Tryd.pinned (.plain (OpenSpec.ofChange busNeverLateSpec)) busNeverLateCard

/-- THE TIED CARD OF 'moonpoollaw07.BusNets'. -/
def busNetsCard : Claim7 := { stood := { row := busNetsRow, standIns := [], harness := (true, "116def9cc7da4492483e272d47fa35da6eed723d065791276a4e6a16977d86dc"), looks := false }, kinds := [], alts := [], laidByText := true, laidKinds := [.data, .data], laidTests := true, laidLooks := .later }
def BusNetsCardSaid : Prop := Claim7.holds Tryd.pinned (.plain (OpenSpec.ofChange busNetsSpec)) busNetsCard

/-- THE TIED CARD OF 'moonpoollaw07.BusCarried'. -/
def busCarriedCard : Claim7 := { stood := { row := busCarriedRow, standIns := [], harness := (true, "116def9cc7da4492483e272d47fa35da6eed723d065791276a4e6a16977d86dc"), looks := false }, kinds := [], alts := [], laidByText := true, laidKinds := [.data, .data], laidTests := true, laidLooks := .later }
def BusCarriedCardSaid : Prop := Claim7.holds Tryd.pinned (.plain (OpenSpec.ofChange busCarriedSpec)) busCarriedCard

/-- THE TIED CARD OF 'moonpoollaw07.BusDemands'. -/
def busDemandsCard : Claim7 := { stood := { row := busDemandsRow, standIns := [], harness := (true, "116def9cc7da4492483e272d47fa35da6eed723d065791276a4e6a16977d86dc"), looks := false }, kinds := [], alts := [], laidByText := true, laidKinds := [.data, .data], laidTests := true, laidLooks := .later }
def BusDemandsCardSaid : Prop := Claim7.holds Tryd.pinned (.plain (OpenSpec.ofChange busDemandsSpec)) busDemandsCard

/-- THE TIED CARD OF 'moonpoollaw07.BusFaults'. -/
def busFaultsCard : Claim7 := { stood := { row := busFaultsRow, standIns := [], harness := (true, "116def9cc7da4492483e272d47fa35da6eed723d065791276a4e6a16977d86dc"), looks := false }, kinds := [], alts := [], laidByText := true, laidKinds := [.data, .data], laidTests := true, laidLooks := .later }
def BusFaultsCardSaid : Prop := Claim7.holds Tryd.pinned (.plain (OpenSpec.ofChange busFaultsSpec)) busFaultsCard

/-- THE TIED CARD OF 'moonpoollaw07.BusNumbers'. -/
def busNumbersCard : Claim7 := { stood := { row := busNumbersRow, standIns := [], harness := (true, "116def9cc7da4492483e272d47fa35da6eed723d065791276a4e6a16977d86dc"), looks := false }, kinds := [], alts := [], laidByText := true, laidKinds := [.data, .data], laidTests := true, laidLooks := .later }
def BusNumbersCardSaid : Prop := Claim7.holds Tryd.pinned (.plain (OpenSpec.ofChange busNumbersSpec)) busNumbersCard

/-- THE TIED CARD OF 'moonpoollaw07.BusOnce'. -/
def busOnceCard : Claim7 := { stood := { row := busOnceRow, standIns := [], harness := (true, "116def9cc7da4492483e272d47fa35da6eed723d065791276a4e6a16977d86dc"), looks := false }, kinds := [], alts := [], laidByText := true, laidKinds := [.data, .data], laidTests := true, laidLooks := .later }
def BusOnceCardSaid : Prop := Claim7.holds Tryd.pinned (.plain (OpenSpec.ofChange busOnceSpec)) busOnceCard

/-- THE TIED CARD OF 'moonpoollaw07.BusEarliest'. -/
def busEarliestCard : Claim7 := { stood := { row := busEarliestRow, standIns := [], harness := (true, "116def9cc7da4492483e272d47fa35da6eed723d065791276a4e6a16977d86dc"), looks := false }, kinds := [], alts := [], laidByText := true, laidKinds := [.data, .data], laidTests := true, laidLooks := .later }
def BusEarliestCardSaid : Prop := Claim7.holds Tryd.pinned (.plain (OpenSpec.ofChange busEarliestSpec)) busEarliestCard

/-- THE SECOND FORM's CARD OF 'moonpoollaw07.BusSilence'. -/
def busSilenceUptoCard : Claim7 := { stood := { row := busSilenceUptoRow, standIns := [], harness := (true, "116def9cc7da4492483e272d47fa35da6eed723d065791276a4e6a16977d86dc"), looks := false }, kinds := [], alts := [], laidByText := true, laidKinds := [.data, .data], laidTests := true, laidLooks := .later }
def BusSilenceUptoCardSaid : Prop := Claim7.holds Tryd.pinned (.plain (OpenSpec.upto busSilenceSpec)) busSilenceUptoCard

/-- THE SECOND FORM's CARD OF 'moonpoollaw07.BusFrames'. -/
def busFramesUptoCard : Claim7 := { stood := { row := busFramesUptoRow, standIns := [], harness := (true, "116def9cc7da4492483e272d47fa35da6eed723d065791276a4e6a16977d86dc"), looks := false }, kinds := [], alts := [], laidByText := true, laidKinds := [.data, .data], laidTests := true, laidLooks := .later }
def BusFramesUptoCardSaid : Prop := Claim7.holds Tryd.pinned (.plain (OpenSpec.upto busFramesSpec)) busFramesUptoCard

/-- THE SECOND FORM's CARD OF 'moonpoollaw07.BusFound'. -/
def busFoundUptoCard : Claim7 := { stood := { row := busFoundUptoRow, standIns := [], harness := (true, "116def9cc7da4492483e272d47fa35da6eed723d065791276a4e6a16977d86dc"), looks := false }, kinds := [], alts := [], laidByText := true, laidKinds := [.data, .data], laidTests := true, laidLooks := .later }
def BusFoundUptoCardSaid : Prop := Claim7.holds Tryd.pinned (.plain (OpenSpec.upto busFoundSpec)) busFoundUptoCard

/-- THE SECOND FORM's CARD OF 'moonpoollaw07.BusCuts'. -/
def busCutsUptoCard : Claim7 := { stood := { row := busCutsUptoRow, standIns := [], harness := (true, "116def9cc7da4492483e272d47fa35da6eed723d065791276a4e6a16977d86dc"), looks := false }, kinds := [], alts := [], laidByText := true, laidKinds := [.data, .data], laidTests := true, laidLooks := .later }
def BusCutsUptoCardSaid : Prop := Claim7.holds Tryd.pinned (.plain (OpenSpec.upto busCutsSpec)) busCutsUptoCard

/-- THE SECOND FORM's CARD OF 'moonpoollaw07.BusNeverLate'. -/
def busNeverLateUptoCard : Claim7 := { stood := { row := busNeverLateUptoRow, standIns := [], harness := (true, "116def9cc7da4492483e272d47fa35da6eed723d065791276a4e6a16977d86dc"), looks := false }, kinds := [], alts := [], laidByText := true, laidKinds := [.data, .data], laidTests := true, laidLooks := .later }
def BusNeverLateUptoCardSaid : Prop := Claim7.holds Tryd.pinned (.plain (OpenSpec.upto busNeverLateSpec)) busNeverLateUptoCard

/-- THE SECOND FORM's CARD OF 'moonpoollaw07.BusNets'. -/
def busNetsUptoCard : Claim7 := { stood := { row := busNetsUptoRow, standIns := [], harness := (true, "116def9cc7da4492483e272d47fa35da6eed723d065791276a4e6a16977d86dc"), looks := false }, kinds := [], alts := [], laidByText := true, laidKinds := [.data, .data], laidTests := true, laidLooks := .later }
def BusNetsUptoCardSaid : Prop := Claim7.holds Tryd.pinned (.plain (OpenSpec.upto busNetsSpec)) busNetsUptoCard

/-- THE SECOND FORM's CARD OF 'moonpoollaw07.BusCarried'. -/
def busCarriedUptoCard : Claim7 := { stood := { row := busCarriedUptoRow, standIns := [], harness := (true, "116def9cc7da4492483e272d47fa35da6eed723d065791276a4e6a16977d86dc"), looks := false }, kinds := [], alts := [], laidByText := true, laidKinds := [.data, .data], laidTests := true, laidLooks := .later }
def BusCarriedUptoCardSaid : Prop := Claim7.holds Tryd.pinned (.plain (OpenSpec.upto busCarriedSpec)) busCarriedUptoCard

/-- THE SECOND FORM's CARD OF 'moonpoollaw07.BusDemands'. -/
def busDemandsUptoCard : Claim7 := { stood := { row := busDemandsUptoRow, standIns := [], harness := (true, "116def9cc7da4492483e272d47fa35da6eed723d065791276a4e6a16977d86dc"), looks := false }, kinds := [], alts := [], laidByText := true, laidKinds := [.data, .data], laidTests := true, laidLooks := .later }
def BusDemandsUptoCardSaid : Prop := Claim7.holds Tryd.pinned (.plain (OpenSpec.upto busDemandsSpec)) busDemandsUptoCard

/-- THE SECOND FORM's CARD OF 'moonpoollaw07.BusFaults'. -/
def busFaultsUptoCard : Claim7 := { stood := { row := busFaultsUptoRow, standIns := [], harness := (true, "116def9cc7da4492483e272d47fa35da6eed723d065791276a4e6a16977d86dc"), looks := false }, kinds := [], alts := [], laidByText := true, laidKinds := [.data, .data], laidTests := true, laidLooks := .later }
def BusFaultsUptoCardSaid : Prop := Claim7.holds Tryd.pinned (.plain (OpenSpec.upto busFaultsSpec)) busFaultsUptoCard

/-- THE SECOND FORM's CARD OF 'moonpoollaw07.BusNumbers'. -/
def busNumbersUptoCard : Claim7 := { stood := { row := busNumbersUptoRow, standIns := [], harness := (true, "116def9cc7da4492483e272d47fa35da6eed723d065791276a4e6a16977d86dc"), looks := false }, kinds := [], alts := [], laidByText := true, laidKinds := [.data, .data], laidTests := true, laidLooks := .later }
def BusNumbersUptoCardSaid : Prop := Claim7.holds Tryd.pinned (.plain (OpenSpec.upto busNumbersSpec)) busNumbersUptoCard

/-- THE SECOND FORM's CARD OF 'moonpoollaw07.BusOnce'. -/
def busOnceUptoCard : Claim7 := { stood := { row := busOnceUptoRow, standIns := [], harness := (true, "116def9cc7da4492483e272d47fa35da6eed723d065791276a4e6a16977d86dc"), looks := false }, kinds := [], alts := [], laidByText := true, laidKinds := [.data, .data], laidTests := true, laidLooks := .later }
def BusOnceUptoCardSaid : Prop := Claim7.holds Tryd.pinned (.plain (OpenSpec.upto busOnceSpec)) busOnceUptoCard

/-- THE SECOND FORM's CARD OF 'moonpoollaw07.BusEarliest'. -/
def busEarliestUptoCard : Claim7 := { stood := { row := busEarliestUptoRow, standIns := [], harness := (true, "116def9cc7da4492483e272d47fa35da6eed723d065791276a4e6a16977d86dc"), looks := false }, kinds := [], alts := [], laidByText := true, laidKinds := [.data, .data], laidTests := true, laidLooks := .later }
def BusEarliestUptoCardSaid : Prop := Claim7.holds Tryd.pinned (.plain (OpenSpec.upto busEarliestSpec)) busEarliestUptoCard
end Rows
end Go.Proofs.YtdlmkblmljhbfaaDoor
