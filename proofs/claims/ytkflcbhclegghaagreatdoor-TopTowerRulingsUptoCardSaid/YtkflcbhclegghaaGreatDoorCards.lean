/-
  DERIVED. GIVEN WITH THE SEED: THE CARDS: each row of YtkflcbhclegghaaGreatDoorRows.lean that lists a variable, with what it lists TIED to the program's text (the seventh form; the later family's looks); each row that meets fmt, with fmt's text TOLD by the authors' own Lean function (tested against real Go, not proved from fmt's source: count such statements apart). THE CARD IS WHAT COUNTS. Prove the row's statement (the work); the ties are given (YtkflcbhclegghaaGreatDoorTie.lean); close each card by the builder's one call (the guide's Derived/Test/ToyasCard.lean, 'card_holds'). Laid BY PROGRAM, IN A SANDBOX (cutbox-door.mjs). By AI agents, Wed Nov 11 2026. No macro, syntax, notation, axiom, sorry.
-/
import Derived.Test.YtkflcbhclegghaaGreatDoorRows
import GoSem.ClaimSeven
namespace Go.Proofs.YtkflcbhclegghaaGreatDoor
namespace Rows

/-- THE TIED CARD OF 'turnroundtop.TopTowerRulings'. -/
def topTowerRulingsCard : Claim7 := { stood := { row := topTowerRulingsRow, standIns := [], harness := (true, "f45df942e23da699ec9a88f3d1bb4754310c7ed4fa2f913648d9f280f85382c6"), looks := true }, kinds := [], alts := [], laidByText := true, laidKinds := [.data, .data, .data, .data, .sentinel, .sentinel, .pinned], laidTests := true, laidLooks := .later }
def TopTowerRulingsCardSaid : Prop := Claim7.holds Tryz.pinned (.plain (OpenSpec.ofChange topTowerRulingsSpec)) topTowerRulingsCard

/-- THE SECOND FORM's CARD OF 'turnroundtop.TopTowerRulings'. -/
def topTowerRulingsUptoCard : Claim7 := { stood := { row := topTowerRulingsUptoRow, standIns := [], harness := (true, "f45df942e23da699ec9a88f3d1bb4754310c7ed4fa2f913648d9f280f85382c6"), looks := true }, kinds := [], alts := [], laidByText := true, laidKinds := [.data, .data, .data, .data, .sentinel, .sentinel, .pinned], laidTests := true, laidLooks := .later }
def TopTowerRulingsUptoCardSaid : Prop := Claim7.holds Tryz.pinned (.plain (OpenSpec.upto topTowerRulingsSpec)) topTowerRulingsUptoCard
end Rows
end Go.Proofs.YtkflcbhclegghaaGreatDoor
