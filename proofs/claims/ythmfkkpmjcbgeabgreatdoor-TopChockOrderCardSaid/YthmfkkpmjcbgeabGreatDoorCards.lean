/-
  DERIVED. GIVEN WITH THE SEED: THE CARDS: each row of YthmfkkpmjcbgeabGreatDoorRows.lean that lists a variable, with what it lists TIED to the program's text (the seventh form; the later family's looks); each row that meets fmt, with fmt's text TOLD by the authors' own Lean function (tested against real Go, not proved from fmt's source: count such statements apart). THE CARD IS WHAT COUNTS. Prove the row's statement (the work); the ties are given (YthmfkkpmjcbgeabGreatDoorTie.lean); close each card by the builder's one call (the guide's Derived/Test/ToyasCard.lean, 'card_holds'). Laid BY PROGRAM, IN A SANDBOX (cutbox-door.mjs). By AI agents, Wed Nov 11 2026. No macro, syntax, notation, axiom, sorry.
-/
import Derived.Test.YthmfkkpmjcbgeabGreatDoorRows
import GoSem.ClaimSeven
namespace Go.Proofs.YthmfkkpmjcbgeabGreatDoor
namespace Rows

/-- THE TIED CARD OF 'turnroundtop.TopChockOrder'. -/
def topChockOrderCard : Claim7 := { stood := { row := topChockOrderRow, standIns := [], harness := (true, "a600d0ae08d91efc65eb4c89f91dcb54b0b4e9cc5b4bffeba729456090420bfd"), looks := true }, kinds := [], alts := [], laidByText := true, laidKinds := [.data, .data, .data, .data, .sentinel, .sentinel, .pinned], laidTests := true, laidLooks := .later }
def TopChockOrderCardSaid : Prop := Claim7.holds Tryz.pinned (.plain (OpenSpec.ofChange topChockOrderSpec)) topChockOrderCard

/-- THE SECOND FORM's CARD OF 'turnroundtop.TopChockOrder'. -/
def topChockOrderUptoCard : Claim7 := { stood := { row := topChockOrderUptoRow, standIns := [], harness := (true, "a600d0ae08d91efc65eb4c89f91dcb54b0b4e9cc5b4bffeba729456090420bfd"), looks := true }, kinds := [], alts := [], laidByText := true, laidKinds := [.data, .data, .data, .data, .sentinel, .sentinel, .pinned], laidTests := true, laidLooks := .later }
def TopChockOrderUptoCardSaid : Prop := Claim7.holds Tryz.pinned (.plain (OpenSpec.upto topChockOrderSpec)) topChockOrderUptoCard
end Rows
end Go.Proofs.YthmfkkpmjcbgeabGreatDoor
