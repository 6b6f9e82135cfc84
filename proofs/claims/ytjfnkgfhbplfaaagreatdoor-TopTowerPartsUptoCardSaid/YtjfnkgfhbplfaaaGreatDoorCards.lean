/-
  DERIVED. GIVEN WITH THE SEED: THE CARDS: each row of YtjfnkgfhbplfaaaGreatDoorRows.lean that lists a variable, with what it lists TIED to the program's text (the seventh form; the later family's looks); each row that meets fmt, with fmt's text TOLD by the authors' own Lean function (tested against real Go, not proved from fmt's source: count such statements apart). THE CARD IS WHAT COUNTS. Prove the row's statement (the work); the ties are given (YtjfnkgfhbplfaaaGreatDoorTie.lean); close each card by the builder's one call (the guide's Derived/Test/ToyasCard.lean, 'card_holds'). Laid BY PROGRAM, IN A SANDBOX (cutbox-door.mjs). By AI agents, Wed Nov 11 2026. No macro, syntax, notation, axiom, sorry.
-/
import Derived.Test.YtjfnkgfhbplfaaaGreatDoorRows
import GoSem.ClaimSeven
namespace Go.Proofs.YtjfnkgfhbplfaaaGreatDoor
namespace Rows

/-- THE TIED CARD OF 'turnroundtop.TopTowerParts'. -/
def topTowerPartsCard : Claim7 := { stood := { row := topTowerPartsRow, standIns := [], harness := (true, "04201e34ff5684879b8f3952014970c8ccf3be49dfc3b762746c462f483b2e5b"), looks := false }, kinds := [], alts := [], laidByText := true, laidKinds := [.data, .data, .data], laidTests := true, laidLooks := .later }
def TopTowerPartsCardSaid : Prop := Claim7.holds Tryz.pinned (.plain (OpenSpec.ofChange topTowerPartsSpec)) topTowerPartsCard

/-- THE SECOND FORM's CARD OF 'turnroundtop.TopTowerParts'. -/
def topTowerPartsUptoCard : Claim7 := { stood := { row := topTowerPartsUptoRow, standIns := [], harness := (true, "04201e34ff5684879b8f3952014970c8ccf3be49dfc3b762746c462f483b2e5b"), looks := false }, kinds := [], alts := [], laidByText := true, laidKinds := [.data, .data, .data], laidTests := true, laidLooks := .later }
def TopTowerPartsUptoCardSaid : Prop := Claim7.holds Tryz.pinned (.plain (OpenSpec.upto topTowerPartsSpec)) topTowerPartsUptoCard
end Rows
end Go.Proofs.YtjfnkgfhbplfaaaGreatDoor
