/-
  DERIVED. GIVEN WITH THE SEED: THE CARDS: each row of YtnabmkmhbncidabGreatDoorRows.lean that lists a variable, with what it lists TIED to the program's text (the seventh form; the later family's looks); each row that meets fmt, with fmt's text TOLD by the authors' own Lean function (tested against real Go, not proved from fmt's source: count such statements apart). THE CARD IS WHAT COUNTS. Prove the row's statement (the work); the ties are given (YtnabmkmhbncidabGreatDoorTie.lean); close each card by the builder's one call (the guide's Derived/Test/ToyasCard.lean, 'card_holds'). Laid BY PROGRAM, IN A SANDBOX (cutbox-door.mjs). By AI agents, Wed Nov 11 2026. No macro, syntax, notation, axiom, sorry.
-/
import Derived.Test.YtnabmkmhbncidabGreatDoorRows
import GoSem.ClaimSeven
namespace Go.Proofs.YtnabmkmhbncidabGreatDoor
namespace Rows

/-- THE TIED CARD OF 'turnroundtop.TopTowerCrashes'. -/
def topTowerCrashesCard : Claim7 := { stood := { row := topTowerCrashesRow, standIns := [], harness := (true, "631b7679991c748edd652797bb76ef84164179183b0b3a92d19feb9188d09ccb"), looks := true }, kinds := [], alts := [], laidByText := true, laidKinds := [.data, .data, .data, .data, .sentinel, .sentinel, .pinned], laidTests := true, laidLooks := .later }
def TopTowerCrashesCardSaid : Prop := Claim7.holds Tryz.pinned (.plain (OpenSpec.ofChange topTowerCrashesSpec)) topTowerCrashesCard

/-- THE TIED CARD OF 'turnroundtop.TopTowerKnown'. -/
def topTowerKnownCard : Claim7 := { stood := { row := topTowerKnownRow, standIns := [], harness := (true, "631b7679991c748edd652797bb76ef84164179183b0b3a92d19feb9188d09ccb"), looks := true }, kinds := [], alts := [], laidByText := true, laidKinds := [.data, .data, .data, .data, .sentinel, .sentinel, .pinned], laidTests := true, laidLooks := .later }
def TopTowerKnownCardSaid : Prop := Claim7.holds Tryz.pinned (.plain (OpenSpec.ofChange topTowerKnownSpec)) topTowerKnownCard

/-- THE SECOND FORM's CARD OF 'turnroundtop.TopTowerCrashes'. -/
def topTowerCrashesUptoCard : Claim7 := { stood := { row := topTowerCrashesUptoRow, standIns := [], harness := (true, "631b7679991c748edd652797bb76ef84164179183b0b3a92d19feb9188d09ccb"), looks := true }, kinds := [], alts := [], laidByText := true, laidKinds := [.data, .data, .data, .data, .sentinel, .sentinel, .pinned], laidTests := true, laidLooks := .later }
def TopTowerCrashesUptoCardSaid : Prop := Claim7.holds Tryz.pinned (.plain (OpenSpec.upto topTowerCrashesSpec)) topTowerCrashesUptoCard

/-- THE SECOND FORM's CARD OF 'turnroundtop.TopTowerKnown'. -/
def topTowerKnownUptoCard : Claim7 := { stood := { row := topTowerKnownUptoRow, standIns := [], harness := (true, "631b7679991c748edd652797bb76ef84164179183b0b3a92d19feb9188d09ccb"), looks := true }, kinds := [], alts := [], laidByText := true, laidKinds := [.data, .data, .data, .data, .sentinel, .sentinel, .pinned], laidTests := true, laidLooks := .later }
def TopTowerKnownUptoCardSaid : Prop := Claim7.holds Tryz.pinned (.plain (OpenSpec.upto topTowerKnownSpec)) topTowerKnownUptoCard
end Rows
end Go.Proofs.YtnabmkmhbncidabGreatDoor
