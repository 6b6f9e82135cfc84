/-
  DERIVED. GIVEN WITH THE SEED: THE CARDS: each row of YtlboecjgelnabaaGreatDoorRows.lean that lists a variable, with what it lists TIED to the program's text (the seventh form; the later family's looks); each row that meets fmt, with fmt's text TOLD by the authors' own Lean function (tested against real Go, not proved from fmt's source: count such statements apart). THE CARD IS WHAT COUNTS. Prove the row's statement (the work); the ties are given (YtlboecjgelnabaaGreatDoorTie.lean); close each card by the builder's one call (the guide's Derived/Test/ToyasCard.lean, 'card_holds'). Laid BY PROGRAM, IN A SANDBOX (cutbox-door.mjs). By AI agents, Wed Nov 11 2026. No macro, syntax, notation, axiom, sorry.
-/
import Derived.Test.YtlboecjgelnabaaGreatDoorRows
import GoSem.ClaimSeven
namespace Go.Proofs.YtlboecjgelnabaaGreatDoor
namespace Rows

/-- THE TIED CARD OF 'turnroundlaw01.CalendarClocks'. -/
def calendarClocksCard : Claim7 := { stood := { row := calendarClocksRow, standIns := [], harness := (true, "ef60d28a66c6be4d91461f9dbab3efba656b5d41bb1b737abfbf7f0f12c620ff"), looks := true }, kinds := [], alts := [], laidByText := true, laidKinds := [.data, .data, .data, .data], laidTests := true, laidLooks := .later }
def CalendarClocksCardSaid : Prop := Claim7.holds Tryz.pinned (.plain (OpenSpec.ofChange calendarClocksSpec)) calendarClocksCard

/-- THE TIED CARD OF 'turnroundlaw01.CalendarSummers'. -/
def calendarSummersCard : Claim7 := { stood := { row := calendarSummersRow, standIns := [], harness := (true, "ef60d28a66c6be4d91461f9dbab3efba656b5d41bb1b737abfbf7f0f12c620ff"), looks := true }, kinds := [], alts := [], laidByText := true, laidKinds := [.data, .data, .data, .data], laidTests := true, laidLooks := .later }
def CalendarSummersCardSaid : Prop := Claim7.holds Tryz.pinned (.plain (OpenSpec.ofChange calendarSummersSpec)) calendarSummersCard

/-- THE TIED CARD OF 'turnroundlaw01.CalendarDates'. -/
def calendarDatesCard : Claim7 := { stood := { row := calendarDatesRow, standIns := [], harness := (true, "ef60d28a66c6be4d91461f9dbab3efba656b5d41bb1b737abfbf7f0f12c620ff"), looks := true }, kinds := [], alts := [], laidByText := true, laidKinds := [.data, .data, .data, .data], laidTests := true, laidLooks := .later }
def CalendarDatesCardSaid : Prop := Claim7.holds Tryz.pinned (.plain (OpenSpec.ofChange calendarDatesSpec)) calendarDatesCard

/-- THE TIED CARD OF 'turnroundlaw01.CalendarPeriods'. -/
def calendarPeriodsCard : Claim7 := { stood := { row := calendarPeriodsRow, standIns := [], harness := (true, "ef60d28a66c6be4d91461f9dbab3efba656b5d41bb1b737abfbf7f0f12c620ff"), looks := true }, kinds := [], alts := [], laidByText := true, laidKinds := [.data, .data, .data, .data], laidTests := true, laidLooks := .later }
def CalendarPeriodsCardSaid : Prop := Claim7.holds Tryz.pinned (.plain (OpenSpec.ofChange calendarPeriodsSpec)) calendarPeriodsCard

/-- THE TIED CARD OF 'turnroundlaw01.CalendarSeasons'. -/
def calendarSeasonsCard : Claim7 := { stood := { row := calendarSeasonsRow, standIns := [], harness := (true, "ef60d28a66c6be4d91461f9dbab3efba656b5d41bb1b737abfbf7f0f12c620ff"), looks := true }, kinds := [], alts := [], laidByText := true, laidKinds := [.data, .data, .data, .data], laidTests := true, laidLooks := .later }
def CalendarSeasonsCardSaid : Prop := Claim7.holds Tryz.pinned (.plain (OpenSpec.ofChange calendarSeasonsSpec)) calendarSeasonsCard

/-- THE TIED CARD OF 'turnroundlaw01.CalendarTurns'. -/
def calendarTurnsCard : Claim7 := { stood := { row := calendarTurnsRow, standIns := [], harness := (true, "ef60d28a66c6be4d91461f9dbab3efba656b5d41bb1b737abfbf7f0f12c620ff"), looks := true }, kinds := [], alts := [], laidByText := true, laidKinds := [.data, .data, .data, .data, .sentinel, .sentinel, .data, .pinned], laidTests := true, laidLooks := .later }
def CalendarTurnsCardSaid : Prop := Claim7.holds Tryz.pinned (.plain (OpenSpec.ofChange calendarTurnsSpec)) calendarTurnsCard

/-- THE TIED CARD OF 'turnroundlaw01.CalendarTexts'. -/
def calendarTextsCard : Claim7 := { stood := { row := calendarTextsRow, standIns := [], harness := (true, "ef60d28a66c6be4d91461f9dbab3efba656b5d41bb1b737abfbf7f0f12c620ff"), looks := true }, kinds := [], alts := [], laidByText := true, laidKinds := [.data, .data, .data, .data, .sentinel, .sentinel, .data, .pinned], laidTests := true, laidLooks := .later }
def CalendarTextsCardSaid : Prop := Claim7.holds Tryz.pinned (.plain (OpenSpec.ofChange calendarTextsSpec)) calendarTextsCard

/-- THE SECOND FORM's CARD OF 'turnroundlaw01.CalendarClocks'. -/
def calendarClocksUptoCard : Claim7 := { stood := { row := calendarClocksUptoRow, standIns := [], harness := (true, "ef60d28a66c6be4d91461f9dbab3efba656b5d41bb1b737abfbf7f0f12c620ff"), looks := true }, kinds := [], alts := [], laidByText := true, laidKinds := [.data, .data, .data, .data], laidTests := true, laidLooks := .later }
def CalendarClocksUptoCardSaid : Prop := Claim7.holds Tryz.pinned (.plain (OpenSpec.upto calendarClocksSpec)) calendarClocksUptoCard

/-- THE SECOND FORM's CARD OF 'turnroundlaw01.CalendarSummers'. -/
def calendarSummersUptoCard : Claim7 := { stood := { row := calendarSummersUptoRow, standIns := [], harness := (true, "ef60d28a66c6be4d91461f9dbab3efba656b5d41bb1b737abfbf7f0f12c620ff"), looks := true }, kinds := [], alts := [], laidByText := true, laidKinds := [.data, .data, .data, .data], laidTests := true, laidLooks := .later }
def CalendarSummersUptoCardSaid : Prop := Claim7.holds Tryz.pinned (.plain (OpenSpec.upto calendarSummersSpec)) calendarSummersUptoCard

/-- THE SECOND FORM's CARD OF 'turnroundlaw01.CalendarDates'. -/
def calendarDatesUptoCard : Claim7 := { stood := { row := calendarDatesUptoRow, standIns := [], harness := (true, "ef60d28a66c6be4d91461f9dbab3efba656b5d41bb1b737abfbf7f0f12c620ff"), looks := true }, kinds := [], alts := [], laidByText := true, laidKinds := [.data, .data, .data, .data], laidTests := true, laidLooks := .later }
def CalendarDatesUptoCardSaid : Prop := Claim7.holds Tryz.pinned (.plain (OpenSpec.upto calendarDatesSpec)) calendarDatesUptoCard

/-- THE SECOND FORM's CARD OF 'turnroundlaw01.CalendarPeriods'. -/
def calendarPeriodsUptoCard : Claim7 := { stood := { row := calendarPeriodsUptoRow, standIns := [], harness := (true, "ef60d28a66c6be4d91461f9dbab3efba656b5d41bb1b737abfbf7f0f12c620ff"), looks := true }, kinds := [], alts := [], laidByText := true, laidKinds := [.data, .data, .data, .data], laidTests := true, laidLooks := .later }
def CalendarPeriodsUptoCardSaid : Prop := Claim7.holds Tryz.pinned (.plain (OpenSpec.upto calendarPeriodsSpec)) calendarPeriodsUptoCard

/-- THE SECOND FORM's CARD OF 'turnroundlaw01.CalendarSeasons'. -/
def calendarSeasonsUptoCard : Claim7 := { stood := { row := calendarSeasonsUptoRow, standIns := [], harness := (true, "ef60d28a66c6be4d91461f9dbab3efba656b5d41bb1b737abfbf7f0f12c620ff"), looks := true }, kinds := [], alts := [], laidByText := true, laidKinds := [.data, .data, .data, .data], laidTests := true, laidLooks := .later }
def CalendarSeasonsUptoCardSaid : Prop := Claim7.holds Tryz.pinned (.plain (OpenSpec.upto calendarSeasonsSpec)) calendarSeasonsUptoCard

/-- THE SECOND FORM's CARD OF 'turnroundlaw01.CalendarTurns'. -/
def calendarTurnsUptoCard : Claim7 := { stood := { row := calendarTurnsUptoRow, standIns := [], harness := (true, "ef60d28a66c6be4d91461f9dbab3efba656b5d41bb1b737abfbf7f0f12c620ff"), looks := true }, kinds := [], alts := [], laidByText := true, laidKinds := [.data, .data, .data, .data, .sentinel, .sentinel, .data, .pinned], laidTests := true, laidLooks := .later }
def CalendarTurnsUptoCardSaid : Prop := Claim7.holds Tryz.pinned (.plain (OpenSpec.upto calendarTurnsSpec)) calendarTurnsUptoCard

/-- THE SECOND FORM's CARD OF 'turnroundlaw01.CalendarTexts'. -/
def calendarTextsUptoCard : Claim7 := { stood := { row := calendarTextsUptoRow, standIns := [], harness := (true, "ef60d28a66c6be4d91461f9dbab3efba656b5d41bb1b737abfbf7f0f12c620ff"), looks := true }, kinds := [], alts := [], laidByText := true, laidKinds := [.data, .data, .data, .data, .sentinel, .sentinel, .data, .pinned], laidTests := true, laidLooks := .later }
def CalendarTextsUptoCardSaid : Prop := Claim7.holds Tryz.pinned (.plain (OpenSpec.upto calendarTextsSpec)) calendarTextsUptoCard
end Rows
end Go.Proofs.YtlboecjgelnabaaGreatDoor
