/-
  DERIVED. GIVEN WITH THE SEED: THE CARDS: each row of YthmfkkpmjcbgeaaGreatDoorRows.lean that lists a variable, with what it lists TIED to the program's text (the seventh form; the later family's looks); each row that meets fmt, with fmt's text TOLD by the authors' own Lean function (tested against real Go, not proved from fmt's source: count such statements apart). THE CARD IS WHAT COUNTS. Prove the row's statement (the work); the ties are given (YthmfkkpmjcbgeaaGreatDoorTie.lean); close each card by the builder's one call (the guide's Derived/Test/ToyasCard.lean, 'card_holds'). Laid BY PROGRAM, IN A SANDBOX (cutbox-door.mjs). By AI agents, Wed Nov 11 2026. No macro, syntax, notation, axiom, sorry.
-/
import Derived.Test.YthmfkkpmjcbgeaaGreatDoorRows
import GoSem.ClaimSeven
namespace Go.Proofs.YthmfkkpmjcbgeaaGreatDoor
namespace Rows

/-- THE TIED CARD OF 'turnroundlaw05.PriorityParses'. -/
def priorityParsesCard : Claim7 := { stood := { row := priorityParsesRow, standIns := [], harness := (true, "2aa116f2791671bd3f8876c1914b37bf46c8fb0eae12739c8c0ae266ad1c9d49"), looks := true }, kinds := [], alts := [], laidByText := true, laidKinds := [.data, .data, .data, .data, .sentinel, .sentinel, .pinned], laidTests := true, laidLooks := .later }
def PriorityParsesCardSaid : Prop := Claim7.holds Tryz.pinned (.plain (OpenSpec.ofChange priorityParsesSpec)) priorityParsesCard

/-- THE TIED CARD OF 'turnroundlaw05.PriorityBack'. -/
def priorityBackCard : Claim7 := { stood := { row := priorityBackRow, standIns := [], harness := (true, "2aa116f2791671bd3f8876c1914b37bf46c8fb0eae12739c8c0ae266ad1c9d49"), looks := true }, kinds := [], alts := [], laidByText := true, laidKinds := [.data, .data, .data, .data, .sentinel, .sentinel, .pinned], laidTests := true, laidLooks := .later }
def PriorityBackCardSaid : Prop := Claim7.holds Tryz.pinned (.plain (OpenSpec.ofChange priorityBackSpec)) priorityBackCard

/-- THE SECOND FORM's CARD OF 'turnroundlaw05.PriorityParses'. -/
def priorityParsesUptoCard : Claim7 := { stood := { row := priorityParsesUptoRow, standIns := [], harness := (true, "2aa116f2791671bd3f8876c1914b37bf46c8fb0eae12739c8c0ae266ad1c9d49"), looks := true }, kinds := [], alts := [], laidByText := true, laidKinds := [.data, .data, .data, .data, .sentinel, .sentinel, .pinned], laidTests := true, laidLooks := .later }
def PriorityParsesUptoCardSaid : Prop := Claim7.holds Tryz.pinned (.plain (OpenSpec.upto priorityParsesSpec)) priorityParsesUptoCard

/-- THE SECOND FORM's CARD OF 'turnroundlaw05.PriorityBack'. -/
def priorityBackUptoCard : Claim7 := { stood := { row := priorityBackUptoRow, standIns := [], harness := (true, "2aa116f2791671bd3f8876c1914b37bf46c8fb0eae12739c8c0ae266ad1c9d49"), looks := true }, kinds := [], alts := [], laidByText := true, laidKinds := [.data, .data, .data, .data, .sentinel, .sentinel, .pinned], laidTests := true, laidLooks := .later }
def PriorityBackUptoCardSaid : Prop := Claim7.holds Tryz.pinned (.plain (OpenSpec.upto priorityBackSpec)) priorityBackUptoCard
end Rows
end Go.Proofs.YthmfkkpmjcbgeaaGreatDoor
