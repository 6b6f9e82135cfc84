/-
  DERIVED. GIVEN WITH THE SEED: THE CARDS: each row of YtlboecjgelnabaaDoorRows.lean that lists a variable, with what it lists TIED to the program's text (the seventh form; the later family's looks); each row that meets fmt, with fmt's text TOLD by the authors' own Lean function (tested against real Go, not proved from fmt's source: count such statements apart). THE CARD IS WHAT COUNTS. Prove the row's statement (the work); the ties are given (YtlboecjgelnabaaDoorTie.lean); close each card by the builder's one call (the guide's Derived/Test/ToyasCard.lean, 'card_holds'). Laid BY PROGRAM, IN A SANDBOX (cutbox-door.mjs). By AI agents, Wed Nov 11 2026. No macro, syntax, notation, axiom, sorry.
-/
import Derived.Test.YtlboecjgelnabaaDoorRows
import GoSem.ClaimSeven
namespace Go.Proofs.YtlboecjgelnabaaDoor
namespace Rows

/-- THE TIED CARD OF 'turnroundlaw01.CalendarJoins'. -/
def calendarJoinsCard : Claim7 := { stood := { row := calendarJoinsRow, standIns := [], harness := (true, "2c0c198192f3f6b7f4ddcca6dea70d5c100c2fcdc6dd4ab14b9093b6c71e73b7"), looks := false }, kinds := [], alts := [], laidByText := true, laidKinds := [.data, .data, .data, .data], laidTests := true, laidLooks := .later }
def CalendarJoinsCardSaid : Prop := Claim7.holds Tryd.pinned (.plain (OpenSpec.ofChange calendarJoinsSpec)) calendarJoinsCard

/-- THE TIED CARD OF 'turnroundlaw01.CalendarZones'. -/
def calendarZonesCard : Claim7 := { stood := { row := calendarZonesRow, standIns := [], harness := (true, "2c0c198192f3f6b7f4ddcca6dea70d5c100c2fcdc6dd4ab14b9093b6c71e73b7"), looks := false }, kinds := [], alts := [], laidByText := true, laidKinds := [.data, .data, .data, .data], laidTests := true, laidLooks := .later }
def CalendarZonesCardSaid : Prop := Claim7.holds Tryd.pinned (.plain (OpenSpec.ofChange calendarZonesSpec)) calendarZonesCard

/-- THE TIED CARD OF 'turnroundlaw01.CalendarDeals'. -/
def calendarDealsCard : Claim7 := { stood := { row := calendarDealsRow, standIns := [], harness := (true, "2c0c198192f3f6b7f4ddcca6dea70d5c100c2fcdc6dd4ab14b9093b6c71e73b7"), looks := false }, kinds := [], alts := [], laidByText := true, laidKinds := [.data, .data, .data, .data], laidTests := true, laidLooks := .later }
def CalendarDealsCardSaid : Prop := Claim7.holds Tryd.pinned (.plain (OpenSpec.ofChange calendarDealsSpec)) calendarDealsCard

/-- THE TIED CARD OF 'turnroundlaw01.CalendarParts'. -/
def calendarPartsCard : Claim7 := { stood := { row := calendarPartsRow, standIns := [], harness := (true, "2c0c198192f3f6b7f4ddcca6dea70d5c100c2fcdc6dd4ab14b9093b6c71e73b7"), looks := false }, kinds := [], alts := [], laidByText := true, laidKinds := [.data, .data, .data, .data], laidTests := true, laidLooks := .later }
def CalendarPartsCardSaid : Prop := Claim7.holds Tryd.pinned (.plain (OpenSpec.ofChange calendarPartsSpec)) calendarPartsCard

/-- THE TIED CARD OF 'turnroundlaw01.CalendarCovers'. -/
def calendarCoversCard : Claim7 := { stood := { row := calendarCoversRow, standIns := [], harness := (true, "2c0c198192f3f6b7f4ddcca6dea70d5c100c2fcdc6dd4ab14b9093b6c71e73b7"), looks := false }, kinds := [], alts := [], laidByText := true, laidKinds := [.data, .data, .data, .data], laidTests := true, laidLooks := .later }
def CalendarCoversCardSaid : Prop := Claim7.holds Tryd.pinned (.plain (OpenSpec.ofChange calendarCoversSpec)) calendarCoversCard

/-- THE TIED CARD OF 'turnroundlaw01.CalendarTiles'. -/
def calendarTilesCard : Claim7 := { stood := { row := calendarTilesRow, standIns := [], harness := (true, "2c0c198192f3f6b7f4ddcca6dea70d5c100c2fcdc6dd4ab14b9093b6c71e73b7"), looks := false }, kinds := [], alts := [], laidByText := true, laidKinds := [.data, .data, .data, .data], laidTests := true, laidLooks := .later }
def CalendarTilesCardSaid : Prop := Claim7.holds Tryd.pinned (.plain (OpenSpec.ofChange calendarTilesSpec)) calendarTilesCard

/-- THE SECOND FORM's CARD OF 'turnroundlaw01.CalendarJoins'. -/
def calendarJoinsUptoCard : Claim7 := { stood := { row := calendarJoinsUptoRow, standIns := [], harness := (true, "2c0c198192f3f6b7f4ddcca6dea70d5c100c2fcdc6dd4ab14b9093b6c71e73b7"), looks := false }, kinds := [], alts := [], laidByText := true, laidKinds := [.data, .data, .data, .data], laidTests := true, laidLooks := .later }
def CalendarJoinsUptoCardSaid : Prop := Claim7.holds Tryd.pinned (.plain (OpenSpec.upto calendarJoinsSpec)) calendarJoinsUptoCard

/-- THE SECOND FORM's CARD OF 'turnroundlaw01.CalendarZones'. -/
def calendarZonesUptoCard : Claim7 := { stood := { row := calendarZonesUptoRow, standIns := [], harness := (true, "2c0c198192f3f6b7f4ddcca6dea70d5c100c2fcdc6dd4ab14b9093b6c71e73b7"), looks := false }, kinds := [], alts := [], laidByText := true, laidKinds := [.data, .data, .data, .data], laidTests := true, laidLooks := .later }
def CalendarZonesUptoCardSaid : Prop := Claim7.holds Tryd.pinned (.plain (OpenSpec.upto calendarZonesSpec)) calendarZonesUptoCard

/-- THE SECOND FORM's CARD OF 'turnroundlaw01.CalendarDeals'. -/
def calendarDealsUptoCard : Claim7 := { stood := { row := calendarDealsUptoRow, standIns := [], harness := (true, "2c0c198192f3f6b7f4ddcca6dea70d5c100c2fcdc6dd4ab14b9093b6c71e73b7"), looks := false }, kinds := [], alts := [], laidByText := true, laidKinds := [.data, .data, .data, .data], laidTests := true, laidLooks := .later }
def CalendarDealsUptoCardSaid : Prop := Claim7.holds Tryd.pinned (.plain (OpenSpec.upto calendarDealsSpec)) calendarDealsUptoCard

/-- THE SECOND FORM's CARD OF 'turnroundlaw01.CalendarParts'. -/
def calendarPartsUptoCard : Claim7 := { stood := { row := calendarPartsUptoRow, standIns := [], harness := (true, "2c0c198192f3f6b7f4ddcca6dea70d5c100c2fcdc6dd4ab14b9093b6c71e73b7"), looks := false }, kinds := [], alts := [], laidByText := true, laidKinds := [.data, .data, .data, .data], laidTests := true, laidLooks := .later }
def CalendarPartsUptoCardSaid : Prop := Claim7.holds Tryd.pinned (.plain (OpenSpec.upto calendarPartsSpec)) calendarPartsUptoCard

/-- THE SECOND FORM's CARD OF 'turnroundlaw01.CalendarCovers'. -/
def calendarCoversUptoCard : Claim7 := { stood := { row := calendarCoversUptoRow, standIns := [], harness := (true, "2c0c198192f3f6b7f4ddcca6dea70d5c100c2fcdc6dd4ab14b9093b6c71e73b7"), looks := false }, kinds := [], alts := [], laidByText := true, laidKinds := [.data, .data, .data, .data], laidTests := true, laidLooks := .later }
def CalendarCoversUptoCardSaid : Prop := Claim7.holds Tryd.pinned (.plain (OpenSpec.upto calendarCoversSpec)) calendarCoversUptoCard

/-- THE SECOND FORM's CARD OF 'turnroundlaw01.CalendarTiles'. -/
def calendarTilesUptoCard : Claim7 := { stood := { row := calendarTilesUptoRow, standIns := [], harness := (true, "2c0c198192f3f6b7f4ddcca6dea70d5c100c2fcdc6dd4ab14b9093b6c71e73b7"), looks := false }, kinds := [], alts := [], laidByText := true, laidKinds := [.data, .data, .data, .data], laidTests := true, laidLooks := .later }
def CalendarTilesUptoCardSaid : Prop := Claim7.holds Tryd.pinned (.plain (OpenSpec.upto calendarTilesSpec)) calendarTilesUptoCard
end Rows
end Go.Proofs.YtlboecjgelnabaaDoor
