/-
  DERIVED. GIVEN WITH THE SEED: THE CARDS: each row of YtkgcnknhkobmjaaGreatDoorRows.lean that lists a variable, with what it lists TIED to the program's text (the seventh form; the later family's looks); each row that meets fmt, with fmt's text TOLD by the authors' own Lean function (tested against real Go, not proved from fmt's source: count such statements apart). THE CARD IS WHAT COUNTS. Prove the row's statement (the work); the ties are given (YtkgcnknhkobmjaaGreatDoorTie.lean); close each card by the builder's one call (the guide's Derived/Test/ToyasCard.lean, 'card_holds'). Laid BY PROGRAM, IN A SANDBOX (cutbox-door.mjs). By AI agents, Wed Nov 11 2026. No macro, syntax, notation, axiom, sorry.
-/
import Derived.Test.YtkgcnknhkobmjaaGreatDoorRows
import GoSem.ClaimSeven
namespace Go.Proofs.YtkgcnknhkobmjaaGreatDoor
namespace Rows

/-- THE TIED CARD OF 'turnroundtop.TopTowerServed'. -/
def topTowerServedCard : Claim7 := { stood := { row := topTowerServedRow, standIns := [], harness := (true, "9dc430da8d3dc5dbe97c830e62418dee763ef687d960eb87b0ce18357d65f21d"), looks := false }, kinds := [], alts := [], laidByText := true, laidKinds := [.data, .data, .data], laidTests := true, laidLooks := .later }
def TopTowerServedCardSaid : Prop := Claim7.holds Tryz.pinned (.plain (OpenSpec.ofChange topTowerServedSpec)) topTowerServedCard

/-- THE SECOND FORM's CARD OF 'turnroundtop.TopTowerServed'. -/
def topTowerServedUptoCard : Claim7 := { stood := { row := topTowerServedUptoRow, standIns := [], harness := (true, "9dc430da8d3dc5dbe97c830e62418dee763ef687d960eb87b0ce18357d65f21d"), looks := false }, kinds := [], alts := [], laidByText := true, laidKinds := [.data, .data, .data], laidTests := true, laidLooks := .later }
def TopTowerServedUptoCardSaid : Prop := Claim7.holds Tryz.pinned (.plain (OpenSpec.upto topTowerServedSpec)) topTowerServedUptoCard
end Rows
end Go.Proofs.YtkgcnknhkobmjaaGreatDoor
