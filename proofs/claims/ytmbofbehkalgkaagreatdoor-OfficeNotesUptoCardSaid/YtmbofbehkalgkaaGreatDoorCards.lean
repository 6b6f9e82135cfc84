/-
  DERIVED. GIVEN WITH THE SEED: THE CARDS: each row of YtmbofbehkalgkaaGreatDoorRows.lean that lists a variable, with what it lists TIED to the program's text (the seventh form; the later family's looks); each row that meets fmt, with fmt's text TOLD by the authors' own Lean function (tested against real Go, not proved from fmt's source: count such statements apart). THE CARD IS WHAT COUNTS. Prove the row's statement (the work); the ties are given (YtmbofbehkalgkaaGreatDoorTie.lean); close each card by the builder's one call (the guide's Derived/Test/ToyasCard.lean, 'card_holds'). Laid BY PROGRAM, IN A SANDBOX (cutbox-door.mjs). By AI agents, Wed Nov 11 2026. No macro, syntax, notation, axiom, sorry.
-/
import Derived.Test.YtmbofbehkalgkaaGreatDoorRows
import GoSem.ClaimSeven
namespace Go.Proofs.YtmbofbehkalgkaaGreatDoor
namespace Rows

/-- THE TIED CARD OF 'turnroundlaw10.OfficeCollects'. -/
def officeCollectsCard : Claim7 := { stood := { row := officeCollectsRow, standIns := [], harness := (true, "b12f1864ed8bf89644af51bec6a7dc10605441fd58ab9390cb5b870dabe571f8"), looks := true }, kinds := [], alts := [], laidByText := true, laidKinds := [.data, .data, .data, .data, .sentinel, .sentinel, .pinned], laidTests := true, laidLooks := .later }
def OfficeCollectsCardSaid : Prop := Claim7.holds Tryz.pinned (.plain (OpenSpec.ofChange officeCollectsSpec)) officeCollectsCard

/-- THE TIED CARD OF 'turnroundlaw10.OfficeNotes'. -/
def officeNotesCard : Claim7 := { stood := { row := officeNotesRow, standIns := [], harness := (true, "b12f1864ed8bf89644af51bec6a7dc10605441fd58ab9390cb5b870dabe571f8"), looks := true }, kinds := [], alts := [], laidByText := true, laidKinds := [.data, .data, .data, .data, .sentinel, .sentinel, .pinned], laidTests := true, laidLooks := .later }
def OfficeNotesCardSaid : Prop := Claim7.holds Tryz.pinned (.plain (OpenSpec.ofChange officeNotesSpec)) officeNotesCard

/-- THE SECOND FORM's CARD OF 'turnroundlaw10.OfficeCollects'. -/
def officeCollectsUptoCard : Claim7 := { stood := { row := officeCollectsUptoRow, standIns := [], harness := (true, "b12f1864ed8bf89644af51bec6a7dc10605441fd58ab9390cb5b870dabe571f8"), looks := true }, kinds := [], alts := [], laidByText := true, laidKinds := [.data, .data, .data, .data, .sentinel, .sentinel, .pinned], laidTests := true, laidLooks := .later }
def OfficeCollectsUptoCardSaid : Prop := Claim7.holds Tryz.pinned (.plain (OpenSpec.upto officeCollectsSpec)) officeCollectsUptoCard

/-- THE SECOND FORM's CARD OF 'turnroundlaw10.OfficeNotes'. -/
def officeNotesUptoCard : Claim7 := { stood := { row := officeNotesUptoRow, standIns := [], harness := (true, "b12f1864ed8bf89644af51bec6a7dc10605441fd58ab9390cb5b870dabe571f8"), looks := true }, kinds := [], alts := [], laidByText := true, laidKinds := [.data, .data, .data, .data, .sentinel, .sentinel, .pinned], laidTests := true, laidLooks := .later }
def OfficeNotesUptoCardSaid : Prop := Claim7.holds Tryz.pinned (.plain (OpenSpec.upto officeNotesSpec)) officeNotesUptoCard
end Rows
end Go.Proofs.YtmbofbehkalgkaaGreatDoor
