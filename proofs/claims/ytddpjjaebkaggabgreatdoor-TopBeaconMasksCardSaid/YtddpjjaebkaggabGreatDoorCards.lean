/-
  DERIVED. GIVEN WITH THE SEED: THE CARDS: each row of YtddpjjaebkaggabGreatDoorRows.lean that lists a variable, with what it lists TIED to the program's text (the seventh form; the later family's looks); each row that meets fmt, with fmt's text TOLD by the authors' own Lean function (tested against real Go, not proved from fmt's source: count such statements apart). THE CARD IS WHAT COUNTS. Prove the row's statement (the work); the ties are given (YtddpjjaebkaggabGreatDoorTie.lean); close each card by the builder's one call (the guide's Derived/Test/ToyasCard.lean, 'card_holds'). Laid BY PROGRAM, IN A SANDBOX (cutbox-door.mjs). By AI agents, Wed Nov 11 2026. No macro, syntax, notation, axiom, sorry.
-/
import Derived.Test.YtddpjjaebkaggabGreatDoorRows
import GoSem.ClaimSeven
namespace Go.Proofs.YtddpjjaebkaggabGreatDoor
namespace Rows

/-- THE TIED CARD OF 'turnroundtop.TopBeaconNoons'. -/
def topBeaconNoonsCard : Claim7 := { stood := { row := topBeaconNoonsRow, standIns := [], harness := (true, "f4ee9781451944f1bb0903776cfee9bdbfaa2631b597303b5cc8b8b197a35de1"), looks := true }, kinds := [], alts := [], laidByText := true, laidKinds := [.data, .data, .data, .data, .sentinel, .sentinel, .data, .pinned], laidTests := true, laidLooks := .later }
def TopBeaconNoonsCardSaid : Prop := Claim7.holds Tryz.pinned (.plain (OpenSpec.ofChange topBeaconNoonsSpec)) topBeaconNoonsCard

/-- THE TIED CARD OF 'turnroundtop.TopBeaconYears'. -/
def topBeaconYearsCard : Claim7 := { stood := { row := topBeaconYearsRow, standIns := [], harness := (true, "f4ee9781451944f1bb0903776cfee9bdbfaa2631b597303b5cc8b8b197a35de1"), looks := true }, kinds := [], alts := [], laidByText := true, laidKinds := [.data, .data, .data, .data, .sentinel, .sentinel, .data, .pinned], laidTests := true, laidLooks := .later }
def TopBeaconYearsCardSaid : Prop := Claim7.holds Tryz.pinned (.plain (OpenSpec.ofChange topBeaconYearsSpec)) topBeaconYearsCard

/-- THE TIED CARD OF 'turnroundtop.TopBeaconMasks'. -/
def topBeaconMasksCard : Claim7 := { stood := { row := topBeaconMasksRow, standIns := [], harness := (true, "f4ee9781451944f1bb0903776cfee9bdbfaa2631b597303b5cc8b8b197a35de1"), looks := true }, kinds := [], alts := [], laidByText := true, laidKinds := [.data, .data, .data, .data, .sentinel, .sentinel, .data, .pinned], laidTests := true, laidLooks := .later }
def TopBeaconMasksCardSaid : Prop := Claim7.holds Tryz.pinned (.plain (OpenSpec.ofChange topBeaconMasksSpec)) topBeaconMasksCard

/-- THE SECOND FORM's CARD OF 'turnroundtop.TopBeaconNoons'. -/
def topBeaconNoonsUptoCard : Claim7 := { stood := { row := topBeaconNoonsUptoRow, standIns := [], harness := (true, "f4ee9781451944f1bb0903776cfee9bdbfaa2631b597303b5cc8b8b197a35de1"), looks := true }, kinds := [], alts := [], laidByText := true, laidKinds := [.data, .data, .data, .data, .sentinel, .sentinel, .data, .pinned], laidTests := true, laidLooks := .later }
def TopBeaconNoonsUptoCardSaid : Prop := Claim7.holds Tryz.pinned (.plain (OpenSpec.upto topBeaconNoonsSpec)) topBeaconNoonsUptoCard

/-- THE SECOND FORM's CARD OF 'turnroundtop.TopBeaconYears'. -/
def topBeaconYearsUptoCard : Claim7 := { stood := { row := topBeaconYearsUptoRow, standIns := [], harness := (true, "f4ee9781451944f1bb0903776cfee9bdbfaa2631b597303b5cc8b8b197a35de1"), looks := true }, kinds := [], alts := [], laidByText := true, laidKinds := [.data, .data, .data, .data, .sentinel, .sentinel, .data, .pinned], laidTests := true, laidLooks := .later }
def TopBeaconYearsUptoCardSaid : Prop := Claim7.holds Tryz.pinned (.plain (OpenSpec.upto topBeaconYearsSpec)) topBeaconYearsUptoCard

/-- THE SECOND FORM's CARD OF 'turnroundtop.TopBeaconMasks'. -/
def topBeaconMasksUptoCard : Claim7 := { stood := { row := topBeaconMasksUptoRow, standIns := [], harness := (true, "f4ee9781451944f1bb0903776cfee9bdbfaa2631b597303b5cc8b8b197a35de1"), looks := true }, kinds := [], alts := [], laidByText := true, laidKinds := [.data, .data, .data, .data, .sentinel, .sentinel, .data, .pinned], laidTests := true, laidLooks := .later }
def TopBeaconMasksUptoCardSaid : Prop := Claim7.holds Tryz.pinned (.plain (OpenSpec.upto topBeaconMasksSpec)) topBeaconMasksUptoCard
end Rows
end Go.Proofs.YtddpjjaebkaggabGreatDoor
