/-
  DERIVED. GIVEN WITH THE SEED: THE CARDS: each row of YtnabmkmhbncidaaGreatDoorRows.lean that lists a variable, with what it lists TIED to the program's text (the seventh form; the later family's looks); each row that meets fmt, with fmt's text TOLD by the authors' own Lean function (tested against real Go, not proved from fmt's source: count such statements apart). THE CARD IS WHAT COUNTS. Prove the row's statement (the work); the ties are given (YtnabmkmhbncidaaGreatDoorTie.lean); close each card by the builder's one call (the guide's Derived/Test/ToyasCard.lean, 'card_holds'). Laid BY PROGRAM, IN A SANDBOX (cutbox-door.mjs). By AI agents, Wed Nov 11 2026. No macro, syntax, notation, axiom, sorry.
-/
import Derived.Test.YtnabmkmhbncidaaGreatDoorRows
import GoSem.ClaimSeven
namespace Go.Proofs.YtnabmkmhbncidaaGreatDoor
namespace Rows

/-- THE TIED CARD OF 'turnroundlaw10.OfficeSessions'. -/
def officeSessionsCard : Claim7 := { stood := { row := officeSessionsRow, standIns := [], harness := (true, "30f5dad533fbed9d16ec4c4873a98bdf79f1b20408db942a1abef91b9512e5d1"), looks := true }, kinds := [], alts := [], laidByText := true, laidKinds := [.data, .data, .data, .data, .sentinel, .sentinel, .pinned], laidTests := true, laidLooks := .later }
def OfficeSessionsCardSaid : Prop := Claim7.holds Tryz.pinned (.plain (OpenSpec.ofChange officeSessionsSpec)) officeSessionsCard

/-- THE TIED CARD OF 'turnroundlaw10.OfficeTorn'. -/
def officeTornCard : Claim7 := { stood := { row := officeTornRow, standIns := [], harness := (true, "30f5dad533fbed9d16ec4c4873a98bdf79f1b20408db942a1abef91b9512e5d1"), looks := true }, kinds := [], alts := [], laidByText := true, laidKinds := [.data, .data, .data, .data, .sentinel, .sentinel, .pinned], laidTests := true, laidLooks := .later }
def OfficeTornCardSaid : Prop := Claim7.holds Tryz.pinned (.plain (OpenSpec.ofChange officeTornSpec)) officeTornCard

/-- THE TIED CARD OF 'turnroundlaw10.OfficeNotes'. -/
def officeNotesCard : Claim7 := { stood := { row := officeNotesRow, standIns := [], harness := (true, "30f5dad533fbed9d16ec4c4873a98bdf79f1b20408db942a1abef91b9512e5d1"), looks := true }, kinds := [], alts := [], laidByText := true, laidKinds := [.data, .data, .data, .data, .sentinel, .sentinel, .pinned], laidTests := true, laidLooks := .later }
def OfficeNotesCardSaid : Prop := Claim7.holds Tryz.pinned (.plain (OpenSpec.ofChange officeNotesSpec)) officeNotesCard

/-- THE TIED CARD OF 'turnroundlaw10.OfficeCollects'. -/
def officeCollectsCard : Claim7 := { stood := { row := officeCollectsRow, standIns := [], harness := (true, "30f5dad533fbed9d16ec4c4873a98bdf79f1b20408db942a1abef91b9512e5d1"), looks := true }, kinds := [], alts := [], laidByText := true, laidKinds := [.data, .data, .data, .data, .sentinel, .sentinel, .pinned], laidTests := true, laidLooks := .later }
def OfficeCollectsCardSaid : Prop := Claim7.holds Tryz.pinned (.plain (OpenSpec.ofChange officeCollectsSpec)) officeCollectsCard

/-- THE SECOND FORM's CARD OF 'turnroundlaw10.OfficeSessions'. -/
def officeSessionsUptoCard : Claim7 := { stood := { row := officeSessionsUptoRow, standIns := [], harness := (true, "30f5dad533fbed9d16ec4c4873a98bdf79f1b20408db942a1abef91b9512e5d1"), looks := true }, kinds := [], alts := [], laidByText := true, laidKinds := [.data, .data, .data, .data, .sentinel, .sentinel, .pinned], laidTests := true, laidLooks := .later }
def OfficeSessionsUptoCardSaid : Prop := Claim7.holds Tryz.pinned (.plain (OpenSpec.upto officeSessionsSpec)) officeSessionsUptoCard

/-- THE SECOND FORM's CARD OF 'turnroundlaw10.OfficeTorn'. -/
def officeTornUptoCard : Claim7 := { stood := { row := officeTornUptoRow, standIns := [], harness := (true, "30f5dad533fbed9d16ec4c4873a98bdf79f1b20408db942a1abef91b9512e5d1"), looks := true }, kinds := [], alts := [], laidByText := true, laidKinds := [.data, .data, .data, .data, .sentinel, .sentinel, .pinned], laidTests := true, laidLooks := .later }
def OfficeTornUptoCardSaid : Prop := Claim7.holds Tryz.pinned (.plain (OpenSpec.upto officeTornSpec)) officeTornUptoCard

/-- THE SECOND FORM's CARD OF 'turnroundlaw10.OfficeNotes'. -/
def officeNotesUptoCard : Claim7 := { stood := { row := officeNotesUptoRow, standIns := [], harness := (true, "30f5dad533fbed9d16ec4c4873a98bdf79f1b20408db942a1abef91b9512e5d1"), looks := true }, kinds := [], alts := [], laidByText := true, laidKinds := [.data, .data, .data, .data, .sentinel, .sentinel, .pinned], laidTests := true, laidLooks := .later }
def OfficeNotesUptoCardSaid : Prop := Claim7.holds Tryz.pinned (.plain (OpenSpec.upto officeNotesSpec)) officeNotesUptoCard

/-- THE SECOND FORM's CARD OF 'turnroundlaw10.OfficeCollects'. -/
def officeCollectsUptoCard : Claim7 := { stood := { row := officeCollectsUptoRow, standIns := [], harness := (true, "30f5dad533fbed9d16ec4c4873a98bdf79f1b20408db942a1abef91b9512e5d1"), looks := true }, kinds := [], alts := [], laidByText := true, laidKinds := [.data, .data, .data, .data, .sentinel, .sentinel, .pinned], laidTests := true, laidLooks := .later }
def OfficeCollectsUptoCardSaid : Prop := Claim7.holds Tryz.pinned (.plain (OpenSpec.upto officeCollectsSpec)) officeCollectsUptoCard
end Rows
end Go.Proofs.YtnabmkmhbncidaaGreatDoor
