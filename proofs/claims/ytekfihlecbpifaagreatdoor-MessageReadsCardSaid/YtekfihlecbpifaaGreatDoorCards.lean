/-
  DERIVED. GIVEN WITH THE SEED: THE CARDS: each row of YtekfihlecbpifaaGreatDoorRows.lean that lists a variable, with what it lists TIED to the program's text (the seventh form; the later family's looks); each row that meets fmt, with fmt's text TOLD by the authors' own Lean function (tested against real Go, not proved from fmt's source: count such statements apart). THE CARD IS WHAT COUNTS. Prove the row's statement (the work); the ties are given (YtekfihlecbpifaaGreatDoorTie.lean); close each card by the builder's one call (the guide's Derived/Test/ToyasCard.lean, 'card_holds'). Laid BY PROGRAM, IN A SANDBOX (cutbox-door.mjs). By AI agents, Wed Nov 11 2026. No macro, syntax, notation, axiom, sorry.
-/
import Derived.Test.YtekfihlecbpifaaGreatDoorRows
import GoSem.ClaimSeven
namespace Go.Proofs.YtekfihlecbpifaaGreatDoor
namespace Rows

/-- THE TIED CARD OF 'turnroundlaw02.MessageMinutes'. -/
def messageMinutesCard : Claim7 := { stood := { row := messageMinutesRow, standIns := [], harness := (true, "395c434558cb5eeb17c735dab00ed606cc9f63fa881e2effd7ea0544908a68fc"), looks := false }, kinds := [], alts := [], laidByText := true, laidKinds := [.data, .data, .data, .data, .pinned], laidTests := true, laidLooks := .later }
def MessageMinutesCardSaid : Prop := Claim7.holds Tryz.pinned (.plain (OpenSpec.ofChange messageMinutesSpec)) messageMinutesCard

/-- THE TIED CARD OF 'turnroundlaw02.MessageLines'. -/
def messageLinesCard : Claim7 := { stood := { row := messageLinesRow, standIns := [], harness := (true, "395c434558cb5eeb17c735dab00ed606cc9f63fa881e2effd7ea0544908a68fc"), looks := false }, kinds := [], alts := [], laidByText := true, laidKinds := [.data, .data, .data, .data, .pinned], laidTests := true, laidLooks := .later }
def MessageLinesCardSaid : Prop := Claim7.holds Tryz.pinned (.plain (OpenSpec.ofChange messageLinesSpec)) messageLinesCard

/-- THE TIED CARD OF 'turnroundlaw02.MessageReads'. -/
def messageReadsCard : Claim7 := { stood := { row := messageReadsRow, standIns := [], harness := (true, "395c434558cb5eeb17c735dab00ed606cc9f63fa881e2effd7ea0544908a68fc"), looks := false }, kinds := [], alts := [], laidByText := true, laidKinds := [.data, .data, .data, .data, .pinned], laidTests := true, laidLooks := .later }
def MessageReadsCardSaid : Prop := Claim7.holds Tryz.pinned (.plain (OpenSpec.ofChange messageReadsSpec)) messageReadsCard

/-- THE TIED CARD OF 'turnroundlaw02.MessagePrints'. -/
def messagePrintsCard : Claim7 := { stood := { row := messagePrintsRow, standIns := [], harness := (true, "395c434558cb5eeb17c735dab00ed606cc9f63fa881e2effd7ea0544908a68fc"), looks := false }, kinds := [], alts := [], laidByText := true, laidKinds := [.data, .data, .data, .data, .pinned], laidTests := true, laidLooks := .later }
def MessagePrintsCardSaid : Prop := Claim7.holds Tryz.pinned (.plain (OpenSpec.ofChange messagePrintsSpec)) messagePrintsCard

/-- THE SECOND FORM's CARD OF 'turnroundlaw02.MessageMinutes'. -/
def messageMinutesUptoCard : Claim7 := { stood := { row := messageMinutesUptoRow, standIns := [], harness := (true, "395c434558cb5eeb17c735dab00ed606cc9f63fa881e2effd7ea0544908a68fc"), looks := false }, kinds := [], alts := [], laidByText := true, laidKinds := [.data, .data, .data, .data, .pinned], laidTests := true, laidLooks := .later }
def MessageMinutesUptoCardSaid : Prop := Claim7.holds Tryz.pinned (.plain (OpenSpec.upto messageMinutesSpec)) messageMinutesUptoCard

/-- THE SECOND FORM's CARD OF 'turnroundlaw02.MessageLines'. -/
def messageLinesUptoCard : Claim7 := { stood := { row := messageLinesUptoRow, standIns := [], harness := (true, "395c434558cb5eeb17c735dab00ed606cc9f63fa881e2effd7ea0544908a68fc"), looks := false }, kinds := [], alts := [], laidByText := true, laidKinds := [.data, .data, .data, .data, .pinned], laidTests := true, laidLooks := .later }
def MessageLinesUptoCardSaid : Prop := Claim7.holds Tryz.pinned (.plain (OpenSpec.upto messageLinesSpec)) messageLinesUptoCard

/-- THE SECOND FORM's CARD OF 'turnroundlaw02.MessageReads'. -/
def messageReadsUptoCard : Claim7 := { stood := { row := messageReadsUptoRow, standIns := [], harness := (true, "395c434558cb5eeb17c735dab00ed606cc9f63fa881e2effd7ea0544908a68fc"), looks := false }, kinds := [], alts := [], laidByText := true, laidKinds := [.data, .data, .data, .data, .pinned], laidTests := true, laidLooks := .later }
def MessageReadsUptoCardSaid : Prop := Claim7.holds Tryz.pinned (.plain (OpenSpec.upto messageReadsSpec)) messageReadsUptoCard

/-- THE SECOND FORM's CARD OF 'turnroundlaw02.MessagePrints'. -/
def messagePrintsUptoCard : Claim7 := { stood := { row := messagePrintsUptoRow, standIns := [], harness := (true, "395c434558cb5eeb17c735dab00ed606cc9f63fa881e2effd7ea0544908a68fc"), looks := false }, kinds := [], alts := [], laidByText := true, laidKinds := [.data, .data, .data, .data, .pinned], laidTests := true, laidLooks := .later }
def MessagePrintsUptoCardSaid : Prop := Claim7.holds Tryz.pinned (.plain (OpenSpec.upto messagePrintsSpec)) messagePrintsUptoCard
end Rows
end Go.Proofs.YtekfihlecbpifaaGreatDoor
