/-
  DERIVED. GIVEN WITH THE SEED: THE CARDS: each row of YtgpgcadcpogcbaaGreatDoorRows.lean that lists a variable, with what it lists TIED to the program's text (the seventh form; the later family's looks); each row that meets fmt, with fmt's text TOLD by the authors' own Lean function (tested against real Go, not proved from fmt's source: count such statements apart). THE CARD IS WHAT COUNTS. Prove the row's statement (the work); the ties are given (YtgpgcadcpogcbaaGreatDoorTie.lean); close each card by the builder's one call (the guide's Derived/Test/ToyasCard.lean, 'card_holds'). Laid BY PROGRAM, IN A SANDBOX (cutbox-door.mjs). By AI agents, Wed Nov 11 2026. No macro, syntax, notation, axiom, sorry.
-/
import Derived.Test.YtgpgcadcpogcbaaGreatDoorRows
import GoSem.ClaimSeven
namespace Go.Proofs.YtgpgcadcpogcbaaGreatDoor
namespace Rows

/-- THE TIED CARD OF 'turnroundlaw02.MessageParses'. -/
def messageParsesCard : Claim7 := { stood := { row := messageParsesRow, standIns := [], harness := (true, "12b95b29e1a558aa19a220268b7f080f6bc3a0da37517f7e1d43305346fee6c6"), looks := false }, kinds := [], alts := [], laidByText := true, laidKinds := [.data, .data, .data, .data, .pinned], laidTests := true, laidLooks := .later }
def MessageParsesCardSaid : Prop := Claim7.holds Tryz.pinned (.plain (OpenSpec.ofChange messageParsesSpec)) messageParsesCard

/-- THE TIED CARD OF 'turnroundlaw02.MessageLeaves'. -/
def messageLeavesCard : Claim7 := { stood := { row := messageLeavesRow, standIns := [], harness := (true, "12b95b29e1a558aa19a220268b7f080f6bc3a0da37517f7e1d43305346fee6c6"), looks := false }, kinds := [], alts := [], laidByText := true, laidKinds := [.data, .data, .data, .data, .pinned], laidTests := true, laidLooks := .later }
def MessageLeavesCardSaid : Prop := Claim7.holds Tryz.pinned (.plain (OpenSpec.ofChange messageLeavesSpec)) messageLeavesCard

/-- THE TIED CARD OF 'turnroundlaw02.MessageChanges'. -/
def messageChangesCard : Claim7 := { stood := { row := messageChangesRow, standIns := [], harness := (true, "12b95b29e1a558aa19a220268b7f080f6bc3a0da37517f7e1d43305346fee6c6"), looks := false }, kinds := [], alts := [], laidByText := true, laidKinds := [.data, .data, .data, .data, .pinned], laidTests := true, laidLooks := .later }
def MessageChangesCardSaid : Prop := Claim7.holds Tryz.pinned (.plain (OpenSpec.ofChange messageChangesSpec)) messageChangesCard

/-- THE TIED CARD OF 'turnroundlaw02.MessageResults'. -/
def messageResultsCard : Claim7 := { stood := { row := messageResultsRow, standIns := [], harness := (true, "12b95b29e1a558aa19a220268b7f080f6bc3a0da37517f7e1d43305346fee6c6"), looks := false }, kinds := [], alts := [], laidByText := true, laidKinds := [.data, .data, .data, .data, .pinned], laidTests := true, laidLooks := .later }
def MessageResultsCardSaid : Prop := Claim7.holds Tryz.pinned (.plain (OpenSpec.ofChange messageResultsSpec)) messageResultsCard

/-- THE TIED CARD OF 'turnroundlaw02.MessageBack'. -/
def messageBackCard : Claim7 := { stood := { row := messageBackRow, standIns := [], harness := (true, "12b95b29e1a558aa19a220268b7f080f6bc3a0da37517f7e1d43305346fee6c6"), looks := false }, kinds := [], alts := [], laidByText := true, laidKinds := [.data, .data, .data, .data, .pinned], laidTests := true, laidLooks := .later }
def MessageBackCardSaid : Prop := Claim7.holds Tryz.pinned (.plain (OpenSpec.ofChange messageBackSpec)) messageBackCard

/-- THE TIED CARD OF 'turnroundlaw02.MessageStrict'. -/
def messageStrictCard : Claim7 := { stood := { row := messageStrictRow, standIns := [], harness := (true, "12b95b29e1a558aa19a220268b7f080f6bc3a0da37517f7e1d43305346fee6c6"), looks := false }, kinds := [], alts := [], laidByText := true, laidKinds := [.data, .data, .data, .data, .pinned], laidTests := true, laidLooks := .later }
def MessageStrictCardSaid : Prop := Claim7.holds Tryz.pinned (.plain (OpenSpec.ofChange messageStrictSpec)) messageStrictCard

/-- THE SECOND FORM's CARD OF 'turnroundlaw02.MessageParses'. -/
def messageParsesUptoCard : Claim7 := { stood := { row := messageParsesUptoRow, standIns := [], harness := (true, "12b95b29e1a558aa19a220268b7f080f6bc3a0da37517f7e1d43305346fee6c6"), looks := false }, kinds := [], alts := [], laidByText := true, laidKinds := [.data, .data, .data, .data, .pinned], laidTests := true, laidLooks := .later }
def MessageParsesUptoCardSaid : Prop := Claim7.holds Tryz.pinned (.plain (OpenSpec.upto messageParsesSpec)) messageParsesUptoCard

/-- THE SECOND FORM's CARD OF 'turnroundlaw02.MessageLeaves'. -/
def messageLeavesUptoCard : Claim7 := { stood := { row := messageLeavesUptoRow, standIns := [], harness := (true, "12b95b29e1a558aa19a220268b7f080f6bc3a0da37517f7e1d43305346fee6c6"), looks := false }, kinds := [], alts := [], laidByText := true, laidKinds := [.data, .data, .data, .data, .pinned], laidTests := true, laidLooks := .later }
def MessageLeavesUptoCardSaid : Prop := Claim7.holds Tryz.pinned (.plain (OpenSpec.upto messageLeavesSpec)) messageLeavesUptoCard

/-- THE SECOND FORM's CARD OF 'turnroundlaw02.MessageChanges'. -/
def messageChangesUptoCard : Claim7 := { stood := { row := messageChangesUptoRow, standIns := [], harness := (true, "12b95b29e1a558aa19a220268b7f080f6bc3a0da37517f7e1d43305346fee6c6"), looks := false }, kinds := [], alts := [], laidByText := true, laidKinds := [.data, .data, .data, .data, .pinned], laidTests := true, laidLooks := .later }
def MessageChangesUptoCardSaid : Prop := Claim7.holds Tryz.pinned (.plain (OpenSpec.upto messageChangesSpec)) messageChangesUptoCard

/-- THE SECOND FORM's CARD OF 'turnroundlaw02.MessageResults'. -/
def messageResultsUptoCard : Claim7 := { stood := { row := messageResultsUptoRow, standIns := [], harness := (true, "12b95b29e1a558aa19a220268b7f080f6bc3a0da37517f7e1d43305346fee6c6"), looks := false }, kinds := [], alts := [], laidByText := true, laidKinds := [.data, .data, .data, .data, .pinned], laidTests := true, laidLooks := .later }
def MessageResultsUptoCardSaid : Prop := Claim7.holds Tryz.pinned (.plain (OpenSpec.upto messageResultsSpec)) messageResultsUptoCard

/-- THE SECOND FORM's CARD OF 'turnroundlaw02.MessageBack'. -/
def messageBackUptoCard : Claim7 := { stood := { row := messageBackUptoRow, standIns := [], harness := (true, "12b95b29e1a558aa19a220268b7f080f6bc3a0da37517f7e1d43305346fee6c6"), looks := false }, kinds := [], alts := [], laidByText := true, laidKinds := [.data, .data, .data, .data, .pinned], laidTests := true, laidLooks := .later }
def MessageBackUptoCardSaid : Prop := Claim7.holds Tryz.pinned (.plain (OpenSpec.upto messageBackSpec)) messageBackUptoCard

/-- THE SECOND FORM's CARD OF 'turnroundlaw02.MessageStrict'. -/
def messageStrictUptoCard : Claim7 := { stood := { row := messageStrictUptoRow, standIns := [], harness := (true, "12b95b29e1a558aa19a220268b7f080f6bc3a0da37517f7e1d43305346fee6c6"), looks := false }, kinds := [], alts := [], laidByText := true, laidKinds := [.data, .data, .data, .data, .pinned], laidTests := true, laidLooks := .later }
def MessageStrictUptoCardSaid : Prop := Claim7.holds Tryz.pinned (.plain (OpenSpec.upto messageStrictSpec)) messageStrictUptoCard
end Rows
end Go.Proofs.YtgpgcadcpogcbaaGreatDoor
