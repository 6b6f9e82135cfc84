/-
  DERIVED. GIVEN WITH THE SEED: THE CARDS: each row of YtlnlcdnpgjhaaabGreatDoorRows.lean that lists a variable, with what it lists TIED to the program's text (the seventh form; the later family's looks); each row that meets fmt, with fmt's text TOLD by the authors' own Lean function (tested against real Go, not proved from fmt's source: count such statements apart). THE CARD IS WHAT COUNTS. Prove the row's statement (the work); the ties are given (YtlnlcdnpgjhaaabGreatDoorTie.lean); close each card by the builder's one call (the guide's Derived/Test/ToyasCard.lean, 'card_holds'). Laid BY PROGRAM, IN A SANDBOX (cutbox-door.mjs). By AI agents, Wed Nov 11 2026. No macro, syntax, notation, axiom, sorry.
-/
import Derived.Test.YtlnlcdnpgjhaaabGreatDoorRows
import GoSem.ClaimSeven
namespace Go.Proofs.YtlnlcdnpgjhaaabGreatDoor
namespace Rows

/-- THE TIED CARD OF 'turnroundlaw02.MessageLeaves'. -/
def messageLeavesCard : Claim7 := { stood := { row := messageLeavesRow, standIns := [], harness := (true, "c295876708fed2570eb65018412359a401b908e8bd8345fb3dc109ca1210ade7"), looks := false }, kinds := [], alts := [], laidByText := true, laidKinds := [.data, .data, .data, .data, .pinned], laidTests := true, laidLooks := .later }
def MessageLeavesCardSaid : Prop := Claim7.holds Tryz.pinned (.plain (OpenSpec.ofChange messageLeavesSpec)) messageLeavesCard

/-- THE TIED CARD OF 'turnroundlaw02.MessageLeads'. -/
def messageLeadsCard : Claim7 := { stood := { row := messageLeadsRow, standIns := [], harness := (true, "c295876708fed2570eb65018412359a401b908e8bd8345fb3dc109ca1210ade7"), looks := false }, kinds := [], alts := [], laidByText := true, laidKinds := [.data, .data, .data, .data, .pinned], laidTests := true, laidLooks := .later }
def MessageLeadsCardSaid : Prop := Claim7.holds Tryz.pinned (.plain (OpenSpec.ofChange messageLeadsSpec)) messageLeadsCard

/-- THE TIED CARD OF 'turnroundtop.TopChockParts'. -/
def topChockPartsCard : Claim7 := { stood := { row := topChockPartsRow, standIns := [], harness := (true, "c295876708fed2570eb65018412359a401b908e8bd8345fb3dc109ca1210ade7"), looks := false }, kinds := [], alts := [], laidByText := true, laidKinds := [.data, .data, .data, .data, .pinned], laidTests := true, laidLooks := .later }
def TopChockPartsCardSaid : Prop := Claim7.holds Tryz.pinned (.plain (OpenSpec.ofChange topChockPartsSpec)) topChockPartsCard

/-- THE SECOND FORM's CARD OF 'turnroundlaw02.MessageLeaves'. -/
def messageLeavesUptoCard : Claim7 := { stood := { row := messageLeavesUptoRow, standIns := [], harness := (true, "c295876708fed2570eb65018412359a401b908e8bd8345fb3dc109ca1210ade7"), looks := false }, kinds := [], alts := [], laidByText := true, laidKinds := [.data, .data, .data, .data, .pinned], laidTests := true, laidLooks := .later }
def MessageLeavesUptoCardSaid : Prop := Claim7.holds Tryz.pinned (.plain (OpenSpec.upto messageLeavesSpec)) messageLeavesUptoCard

/-- THE SECOND FORM's CARD OF 'turnroundlaw02.MessageLeads'. -/
def messageLeadsUptoCard : Claim7 := { stood := { row := messageLeadsUptoRow, standIns := [], harness := (true, "c295876708fed2570eb65018412359a401b908e8bd8345fb3dc109ca1210ade7"), looks := false }, kinds := [], alts := [], laidByText := true, laidKinds := [.data, .data, .data, .data, .pinned], laidTests := true, laidLooks := .later }
def MessageLeadsUptoCardSaid : Prop := Claim7.holds Tryz.pinned (.plain (OpenSpec.upto messageLeadsSpec)) messageLeadsUptoCard

/-- THE SECOND FORM's CARD OF 'turnroundtop.TopChockParts'. -/
def topChockPartsUptoCard : Claim7 := { stood := { row := topChockPartsUptoRow, standIns := [], harness := (true, "c295876708fed2570eb65018412359a401b908e8bd8345fb3dc109ca1210ade7"), looks := false }, kinds := [], alts := [], laidByText := true, laidKinds := [.data, .data, .data, .data, .pinned], laidTests := true, laidLooks := .later }
def TopChockPartsUptoCardSaid : Prop := Claim7.holds Tryz.pinned (.plain (OpenSpec.upto topChockPartsSpec)) topChockPartsUptoCard
end Rows
end Go.Proofs.YtlnlcdnpgjhaaabGreatDoor
