/-
  DERIVED. GIVEN WITH THE SEED: THE CARDS: each row of YtcbddkeiohdocaaGreatDoorRows.lean that lists a variable, with what it lists TIED to the program's text (the seventh form; the later family's looks); each row that meets fmt, with fmt's text TOLD by the authors' own Lean function (tested against real Go, not proved from fmt's source: count such statements apart). THE CARD IS WHAT COUNTS. Prove the row's statement (the work); the ties are given (YtcbddkeiohdocaaGreatDoorTie.lean); close each card by the builder's one call (the guide's Derived/Test/ToyasCard.lean, 'card_holds'). Laid BY PROGRAM, IN A SANDBOX (cutbox-door.mjs). By AI agents, Wed Nov 11 2026. No macro, syntax, notation, axiom, sorry.
-/
import Derived.Test.YtcbddkeiohdocaaGreatDoorRows
import GoSem.ClaimSeven
namespace Go.Proofs.YtcbddkeiohdocaaGreatDoor
namespace Rows

/-- THE TIED CARD OF 'turnroundlaw10.OfficeKnows'. -/
def officeKnowsCard : Claim7 := { stood := { row := officeKnowsRow, standIns := [], harness := (true, "6eda3c161526a5c9bea430c84d464ea50758938e8f2ad8c83eba2c5e557cef55"), looks := true }, kinds := [], alts := [], laidByText := true, laidKinds := [.data, .data, .data, .data, .sentinel, .sentinel, .pinned], laidTests := true, laidLooks := .later }
def OfficeKnowsCardSaid : Prop := Claim7.holds Tryz.pinned (.plain (OpenSpec.ofChange officeKnowsSpec)) officeKnowsCard

/-- THE TIED CARD OF 'turnroundlaw10.OfficeTurns'. -/
def officeTurnsCard : Claim7 := { stood := { row := officeTurnsRow, standIns := [], harness := (true, "6eda3c161526a5c9bea430c84d464ea50758938e8f2ad8c83eba2c5e557cef55"), looks := true }, kinds := [], alts := [], laidByText := true, laidKinds := [.data, .data, .data, .data, .sentinel, .sentinel, .pinned], laidTests := true, laidLooks := .later }
def OfficeTurnsCardSaid : Prop := Claim7.holds Tryz.pinned (.plain (OpenSpec.ofChange officeTurnsSpec)) officeTurnsCard

/-- THE TIED CARD OF 'turnroundlaw10.OfficePast'. -/
def officePastCard : Claim7 := { stood := { row := officePastRow, standIns := [], harness := (true, "6eda3c161526a5c9bea430c84d464ea50758938e8f2ad8c83eba2c5e557cef55"), looks := true }, kinds := [], alts := [], laidByText := true, laidKinds := [.data, .data, .data, .data, .sentinel, .sentinel, .pinned], laidTests := true, laidLooks := .later }
def OfficePastCardSaid : Prop := Claim7.holds Tryz.pinned (.plain (OpenSpec.ofChange officePastSpec)) officePastCard

/-- THE TIED CARD OF 'turnroundlaw10.OfficeSteps'. -/
def officeStepsCard : Claim7 := { stood := { row := officeStepsRow, standIns := [], harness := (true, "6eda3c161526a5c9bea430c84d464ea50758938e8f2ad8c83eba2c5e557cef55"), looks := true }, kinds := [], alts := [], laidByText := true, laidKinds := [.data, .data, .data, .data, .sentinel, .sentinel, .pinned], laidTests := true, laidLooks := .later }
def OfficeStepsCardSaid : Prop := Claim7.holds Tryz.pinned (.plain (OpenSpec.ofChange officeStepsSpec)) officeStepsCard

/-- THE TIED CARD OF 'turnroundlaw10.OfficeCollects'. -/
def officeCollectsCard : Claim7 := { stood := { row := officeCollectsRow, standIns := [], harness := (true, "6eda3c161526a5c9bea430c84d464ea50758938e8f2ad8c83eba2c5e557cef55"), looks := true }, kinds := [], alts := [], laidByText := true, laidKinds := [.data, .data, .data, .data, .sentinel, .sentinel, .pinned], laidTests := true, laidLooks := .later }
def OfficeCollectsCardSaid : Prop := Claim7.holds Tryz.pinned (.plain (OpenSpec.ofChange officeCollectsSpec)) officeCollectsCard

/-- THE TIED CARD OF 'turnroundlaw10.OfficeNotes'. -/
def officeNotesCard : Claim7 := { stood := { row := officeNotesRow, standIns := [], harness := (true, "6eda3c161526a5c9bea430c84d464ea50758938e8f2ad8c83eba2c5e557cef55"), looks := true }, kinds := [], alts := [], laidByText := true, laidKinds := [.data, .data, .data, .data, .sentinel, .sentinel, .pinned], laidTests := true, laidLooks := .later }
def OfficeNotesCardSaid : Prop := Claim7.holds Tryz.pinned (.plain (OpenSpec.ofChange officeNotesSpec)) officeNotesCard

/-- THE TIED CARD OF 'turnroundlaw10.OfficeRulings'. -/
def officeRulingsCard : Claim7 := { stood := { row := officeRulingsRow, standIns := [], harness := (true, "6eda3c161526a5c9bea430c84d464ea50758938e8f2ad8c83eba2c5e557cef55"), looks := true }, kinds := [], alts := [], laidByText := true, laidKinds := [.data, .data, .data, .data, .sentinel, .sentinel, .pinned], laidTests := true, laidLooks := .later }
def OfficeRulingsCardSaid : Prop := Claim7.holds Tryz.pinned (.plain (OpenSpec.ofChange officeRulingsSpec)) officeRulingsCard

/-- THE TIED CARD OF 'turnroundlaw10.OfficeLogs'. -/
def officeLogsCard : Claim7 := { stood := { row := officeLogsRow, standIns := [], harness := (true, "6eda3c161526a5c9bea430c84d464ea50758938e8f2ad8c83eba2c5e557cef55"), looks := true }, kinds := [], alts := [], laidByText := true, laidKinds := [.data, .data, .data, .data, .sentinel, .sentinel, .pinned], laidTests := true, laidLooks := .later }
def OfficeLogsCardSaid : Prop := Claim7.holds Tryz.pinned (.plain (OpenSpec.ofChange officeLogsSpec)) officeLogsCard

/-- THE TIED CARD OF 'turnroundlaw10.OfficeEvents'. -/
def officeEventsCard : Claim7 := { stood := { row := officeEventsRow, standIns := [], harness := (true, "6eda3c161526a5c9bea430c84d464ea50758938e8f2ad8c83eba2c5e557cef55"), looks := true }, kinds := [], alts := [], laidByText := true, laidKinds := [.data, .data, .data, .data, .sentinel, .sentinel, .pinned], laidTests := true, laidLooks := .later }
def OfficeEventsCardSaid : Prop := Claim7.holds Tryz.pinned (.plain (OpenSpec.ofChange officeEventsSpec)) officeEventsCard

/-- THE TIED CARD OF 'turnroundlaw10.OfficeTorn'. -/
def officeTornCard : Claim7 := { stood := { row := officeTornRow, standIns := [], harness := (true, "6eda3c161526a5c9bea430c84d464ea50758938e8f2ad8c83eba2c5e557cef55"), looks := true }, kinds := [], alts := [], laidByText := true, laidKinds := [.data, .data, .data, .data, .sentinel, .sentinel, .pinned], laidTests := true, laidLooks := .later }
def OfficeTornCardSaid : Prop := Claim7.holds Tryz.pinned (.plain (OpenSpec.ofChange officeTornSpec)) officeTornCard

/-- THE TIED CARD OF 'turnroundlaw10.OfficeSessions'. -/
def officeSessionsCard : Claim7 := { stood := { row := officeSessionsRow, standIns := [], harness := (true, "6eda3c161526a5c9bea430c84d464ea50758938e8f2ad8c83eba2c5e557cef55"), looks := true }, kinds := [], alts := [], laidByText := true, laidKinds := [.data, .data, .data, .data, .sentinel, .sentinel, .pinned], laidTests := true, laidLooks := .later }
def OfficeSessionsCardSaid : Prop := Claim7.holds Tryz.pinned (.plain (OpenSpec.ofChange officeSessionsSpec)) officeSessionsCard

/-- THE SECOND FORM's CARD OF 'turnroundlaw10.OfficeKnows'. -/
def officeKnowsUptoCard : Claim7 := { stood := { row := officeKnowsUptoRow, standIns := [], harness := (true, "6eda3c161526a5c9bea430c84d464ea50758938e8f2ad8c83eba2c5e557cef55"), looks := true }, kinds := [], alts := [], laidByText := true, laidKinds := [.data, .data, .data, .data, .sentinel, .sentinel, .pinned], laidTests := true, laidLooks := .later }
def OfficeKnowsUptoCardSaid : Prop := Claim7.holds Tryz.pinned (.plain (OpenSpec.upto officeKnowsSpec)) officeKnowsUptoCard

/-- THE SECOND FORM's CARD OF 'turnroundlaw10.OfficeTurns'. -/
def officeTurnsUptoCard : Claim7 := { stood := { row := officeTurnsUptoRow, standIns := [], harness := (true, "6eda3c161526a5c9bea430c84d464ea50758938e8f2ad8c83eba2c5e557cef55"), looks := true }, kinds := [], alts := [], laidByText := true, laidKinds := [.data, .data, .data, .data, .sentinel, .sentinel, .pinned], laidTests := true, laidLooks := .later }
def OfficeTurnsUptoCardSaid : Prop := Claim7.holds Tryz.pinned (.plain (OpenSpec.upto officeTurnsSpec)) officeTurnsUptoCard

/-- THE SECOND FORM's CARD OF 'turnroundlaw10.OfficePast'. -/
def officePastUptoCard : Claim7 := { stood := { row := officePastUptoRow, standIns := [], harness := (true, "6eda3c161526a5c9bea430c84d464ea50758938e8f2ad8c83eba2c5e557cef55"), looks := true }, kinds := [], alts := [], laidByText := true, laidKinds := [.data, .data, .data, .data, .sentinel, .sentinel, .pinned], laidTests := true, laidLooks := .later }
def OfficePastUptoCardSaid : Prop := Claim7.holds Tryz.pinned (.plain (OpenSpec.upto officePastSpec)) officePastUptoCard

/-- THE SECOND FORM's CARD OF 'turnroundlaw10.OfficeSteps'. -/
def officeStepsUptoCard : Claim7 := { stood := { row := officeStepsUptoRow, standIns := [], harness := (true, "6eda3c161526a5c9bea430c84d464ea50758938e8f2ad8c83eba2c5e557cef55"), looks := true }, kinds := [], alts := [], laidByText := true, laidKinds := [.data, .data, .data, .data, .sentinel, .sentinel, .pinned], laidTests := true, laidLooks := .later }
def OfficeStepsUptoCardSaid : Prop := Claim7.holds Tryz.pinned (.plain (OpenSpec.upto officeStepsSpec)) officeStepsUptoCard

/-- THE SECOND FORM's CARD OF 'turnroundlaw10.OfficeCollects'. -/
def officeCollectsUptoCard : Claim7 := { stood := { row := officeCollectsUptoRow, standIns := [], harness := (true, "6eda3c161526a5c9bea430c84d464ea50758938e8f2ad8c83eba2c5e557cef55"), looks := true }, kinds := [], alts := [], laidByText := true, laidKinds := [.data, .data, .data, .data, .sentinel, .sentinel, .pinned], laidTests := true, laidLooks := .later }
def OfficeCollectsUptoCardSaid : Prop := Claim7.holds Tryz.pinned (.plain (OpenSpec.upto officeCollectsSpec)) officeCollectsUptoCard

/-- THE SECOND FORM's CARD OF 'turnroundlaw10.OfficeNotes'. -/
def officeNotesUptoCard : Claim7 := { stood := { row := officeNotesUptoRow, standIns := [], harness := (true, "6eda3c161526a5c9bea430c84d464ea50758938e8f2ad8c83eba2c5e557cef55"), looks := true }, kinds := [], alts := [], laidByText := true, laidKinds := [.data, .data, .data, .data, .sentinel, .sentinel, .pinned], laidTests := true, laidLooks := .later }
def OfficeNotesUptoCardSaid : Prop := Claim7.holds Tryz.pinned (.plain (OpenSpec.upto officeNotesSpec)) officeNotesUptoCard

/-- THE SECOND FORM's CARD OF 'turnroundlaw10.OfficeRulings'. -/
def officeRulingsUptoCard : Claim7 := { stood := { row := officeRulingsUptoRow, standIns := [], harness := (true, "6eda3c161526a5c9bea430c84d464ea50758938e8f2ad8c83eba2c5e557cef55"), looks := true }, kinds := [], alts := [], laidByText := true, laidKinds := [.data, .data, .data, .data, .sentinel, .sentinel, .pinned], laidTests := true, laidLooks := .later }
def OfficeRulingsUptoCardSaid : Prop := Claim7.holds Tryz.pinned (.plain (OpenSpec.upto officeRulingsSpec)) officeRulingsUptoCard

/-- THE SECOND FORM's CARD OF 'turnroundlaw10.OfficeLogs'. -/
def officeLogsUptoCard : Claim7 := { stood := { row := officeLogsUptoRow, standIns := [], harness := (true, "6eda3c161526a5c9bea430c84d464ea50758938e8f2ad8c83eba2c5e557cef55"), looks := true }, kinds := [], alts := [], laidByText := true, laidKinds := [.data, .data, .data, .data, .sentinel, .sentinel, .pinned], laidTests := true, laidLooks := .later }
def OfficeLogsUptoCardSaid : Prop := Claim7.holds Tryz.pinned (.plain (OpenSpec.upto officeLogsSpec)) officeLogsUptoCard

/-- THE SECOND FORM's CARD OF 'turnroundlaw10.OfficeEvents'. -/
def officeEventsUptoCard : Claim7 := { stood := { row := officeEventsUptoRow, standIns := [], harness := (true, "6eda3c161526a5c9bea430c84d464ea50758938e8f2ad8c83eba2c5e557cef55"), looks := true }, kinds := [], alts := [], laidByText := true, laidKinds := [.data, .data, .data, .data, .sentinel, .sentinel, .pinned], laidTests := true, laidLooks := .later }
def OfficeEventsUptoCardSaid : Prop := Claim7.holds Tryz.pinned (.plain (OpenSpec.upto officeEventsSpec)) officeEventsUptoCard

/-- THE SECOND FORM's CARD OF 'turnroundlaw10.OfficeTorn'. -/
def officeTornUptoCard : Claim7 := { stood := { row := officeTornUptoRow, standIns := [], harness := (true, "6eda3c161526a5c9bea430c84d464ea50758938e8f2ad8c83eba2c5e557cef55"), looks := true }, kinds := [], alts := [], laidByText := true, laidKinds := [.data, .data, .data, .data, .sentinel, .sentinel, .pinned], laidTests := true, laidLooks := .later }
def OfficeTornUptoCardSaid : Prop := Claim7.holds Tryz.pinned (.plain (OpenSpec.upto officeTornSpec)) officeTornUptoCard

/-- THE SECOND FORM's CARD OF 'turnroundlaw10.OfficeSessions'. -/
def officeSessionsUptoCard : Claim7 := { stood := { row := officeSessionsUptoRow, standIns := [], harness := (true, "6eda3c161526a5c9bea430c84d464ea50758938e8f2ad8c83eba2c5e557cef55"), looks := true }, kinds := [], alts := [], laidByText := true, laidKinds := [.data, .data, .data, .data, .sentinel, .sentinel, .pinned], laidTests := true, laidLooks := .later }
def OfficeSessionsUptoCardSaid : Prop := Claim7.holds Tryz.pinned (.plain (OpenSpec.upto officeSessionsSpec)) officeSessionsUptoCard
end Rows
end Go.Proofs.YtcbddkeiohdocaaGreatDoor
