/-
  DERIVED. GIVEN WITH THE SEED: THE CARDS: each row of YtlnlcdnpgjhaaacGreatDoorRows.lean that lists a variable, with what it lists TIED to the program's text (the seventh form; the later family's looks); each row that meets fmt, with fmt's text TOLD by the authors' own Lean function (tested against real Go, not proved from fmt's source: count such statements apart). THE CARD IS WHAT COUNTS. Prove the row's statement (the work); the ties are given (YtlnlcdnpgjhaaacGreatDoorTie.lean); close each card by the builder's one call (the guide's Derived/Test/ToyasCard.lean, 'card_holds'). Laid BY PROGRAM, IN A SANDBOX (cutbox-door.mjs). By AI agents, Wed Nov 11 2026. No macro, syntax, notation, axiom, sorry.
-/
import Derived.Test.YtlnlcdnpgjhaaacGreatDoorRows
import GoSem.ClaimSeven
namespace Go.Proofs.YtlnlcdnpgjhaaacGreatDoor
namespace Rows

/-- THE TIED CARD OF 'turnroundtop.TopChockNewcomers'. -/
def topChockNewcomersCard : Claim7 := { stood := { row := topChockNewcomersRow, standIns := [], harness := (true, "630ef4a8a809dcdae239ac207e2f150ca338dad60c1f78fdfec8539fd4f0649c"), looks := false }, kinds := [], alts := [], laidByText := true, laidKinds := [.data, .data, .data, .data, .pinned], laidTests := true, laidLooks := .later }
def TopChockNewcomersCardSaid : Prop := Claim7.holds Tryz.pinned (.plain (OpenSpec.ofChange topChockNewcomersSpec)) topChockNewcomersCard

/-- THE SECOND FORM's CARD OF 'turnroundtop.TopChockNewcomers'. -/
def topChockNewcomersUptoCard : Claim7 := { stood := { row := topChockNewcomersUptoRow, standIns := [], harness := (true, "630ef4a8a809dcdae239ac207e2f150ca338dad60c1f78fdfec8539fd4f0649c"), looks := false }, kinds := [], alts := [], laidByText := true, laidKinds := [.data, .data, .data, .data, .pinned], laidTests := true, laidLooks := .later }
def TopChockNewcomersUptoCardSaid : Prop := Claim7.holds Tryz.pinned (.plain (OpenSpec.upto topChockNewcomersSpec)) topChockNewcomersUptoCard
end Rows
end Go.Proofs.YtlnlcdnpgjhaaacGreatDoor
