/-
  DERIVED. GIVEN WITH THE SEED: THE CARDS: each row of YtcephlgejkngiaaGreatDoorRows.lean that lists a variable, with what it lists TIED to the program's text (the seventh form; the later family's looks); each row that meets fmt, with fmt's text TOLD by the authors' own Lean function (tested against real Go, not proved from fmt's source: count such statements apart). THE CARD IS WHAT COUNTS. Prove the row's statement (the work); the ties are given (YtcephlgejkngiaaGreatDoorTie.lean); close each card by the builder's one call (the guide's Derived/Test/ToyasCard.lean, 'card_holds'). Laid BY PROGRAM, IN A SANDBOX (cutbox-door.mjs). By AI agents, Wed Nov 11 2026. No macro, syntax, notation, axiom, sorry.
-/
import Derived.Test.YtcephlgejkngiaaGreatDoorRows
import GoSem.ClaimSeven
namespace Go.Proofs.YtcephlgejkngiaaGreatDoor
namespace Rows

/-- THE TIED CARD OF 'turnroundlaw05.PriorityPrograms'. -/
def priorityProgramsCard : Claim7 := { stood := { row := priorityProgramsRow, standIns := [], harness := (true, "21eb7d3942baf6bd684c8501e696413e77a6b8124318e8844dc094af185f576a"), looks := true }, kinds := [], alts := [], laidByText := true, laidKinds := [.data, .data, .data, .data, .sentinel, .sentinel, .pinned], laidTests := true, laidLooks := .later }
def PriorityProgramsCardSaid : Prop := Claim7.holds Tryz.pinned (.plain (OpenSpec.ofChange priorityProgramsSpec)) priorityProgramsCard

/-- THE TIED CARD OF 'turnroundlaw05.PriorityParses'. -/
def priorityParsesCard : Claim7 := { stood := { row := priorityParsesRow, standIns := [], harness := (true, "21eb7d3942baf6bd684c8501e696413e77a6b8124318e8844dc094af185f576a"), looks := true }, kinds := [], alts := [], laidByText := true, laidKinds := [.data, .data, .data, .data, .sentinel, .sentinel, .pinned], laidTests := true, laidLooks := .later }
def PriorityParsesCardSaid : Prop := Claim7.holds Tryz.pinned (.plain (OpenSpec.ofChange priorityParsesSpec)) priorityParsesCard

/-- THE TIED CARD OF 'turnroundlaw05.PriorityShares'. -/
def prioritySharesCard : Claim7 := { stood := { row := prioritySharesRow, standIns := [], harness := (true, "21eb7d3942baf6bd684c8501e696413e77a6b8124318e8844dc094af185f576a"), looks := true }, kinds := [], alts := [], laidByText := true, laidKinds := [.data, .data, .data, .data, .sentinel, .sentinel, .pinned], laidTests := true, laidLooks := .later }
def PrioritySharesCardSaid : Prop := Claim7.holds Tryz.pinned (.plain (OpenSpec.ofChange prioritySharesSpec)) prioritySharesCard

/-- THE TIED CARD OF 'turnroundlaw05.PriorityBack'. -/
def priorityBackCard : Claim7 := { stood := { row := priorityBackRow, standIns := [], harness := (true, "21eb7d3942baf6bd684c8501e696413e77a6b8124318e8844dc094af185f576a"), looks := true }, kinds := [], alts := [], laidByText := true, laidKinds := [.data, .data, .data, .data, .sentinel, .sentinel, .pinned], laidTests := true, laidLooks := .later }
def PriorityBackCardSaid : Prop := Claim7.holds Tryz.pinned (.plain (OpenSpec.ofChange priorityBackSpec)) priorityBackCard

/-- THE TIED CARD OF 'turnroundlaw05.PriorityQuotas'. -/
def priorityQuotasCard : Claim7 := { stood := { row := priorityQuotasRow, standIns := [], harness := (true, "21eb7d3942baf6bd684c8501e696413e77a6b8124318e8844dc094af185f576a"), looks := true }, kinds := [], alts := [], laidByText := true, laidKinds := [.data, .data, .data, .data, .sentinel, .sentinel, .pinned], laidTests := true, laidLooks := .later }
def PriorityQuotasCardSaid : Prop := Claim7.holds Tryz.pinned (.plain (OpenSpec.ofChange priorityQuotasSpec)) priorityQuotasCard

/-- THE TIED CARD OF 'turnroundlaw05.PriorityCompares'. -/
def priorityComparesCard : Claim7 := { stood := { row := priorityComparesRow, standIns := [], harness := (true, "21eb7d3942baf6bd684c8501e696413e77a6b8124318e8844dc094af185f576a"), looks := true }, kinds := [], alts := [], laidByText := true, laidKinds := [.data, .data, .data, .data, .sentinel, .sentinel, .pinned], laidTests := true, laidLooks := .later }
def PriorityComparesCardSaid : Prop := Claim7.holds Tryz.pinned (.plain (OpenSpec.ofChange priorityComparesSpec)) priorityComparesCard

/-- THE TIED CARD OF 'turnroundlaw05.PriorityPreorder'. -/
def priorityPreorderCard : Claim7 := { stood := { row := priorityPreorderRow, standIns := [], harness := (true, "21eb7d3942baf6bd684c8501e696413e77a6b8124318e8844dc094af185f576a"), looks := true }, kinds := [], alts := [], laidByText := true, laidKinds := [.data, .data, .data, .data, .sentinel, .sentinel, .pinned], laidTests := true, laidLooks := .later }
def PriorityPreorderCardSaid : Prop := Claim7.holds Tryz.pinned (.plain (OpenSpec.ofChange priorityPreorderSpec)) priorityPreorderCard

/-- THE TIED CARD OF 'turnroundlaw05.PriorityLots'. -/
def priorityLotsCard : Claim7 := { stood := { row := priorityLotsRow, standIns := [], harness := (true, "21eb7d3942baf6bd684c8501e696413e77a6b8124318e8844dc094af185f576a"), looks := true }, kinds := [], alts := [], laidByText := true, laidKinds := [.data, .data, .data, .data, .sentinel, .sentinel, .pinned], laidTests := true, laidLooks := .later }
def PriorityLotsCardSaid : Prop := Claim7.holds Tryz.pinned (.plain (OpenSpec.ofChange priorityLotsSpec)) priorityLotsCard

/-- THE TIED CARD OF 'turnroundlaw05.PriorityRanks'. -/
def priorityRanksCard : Claim7 := { stood := { row := priorityRanksRow, standIns := [], harness := (true, "21eb7d3942baf6bd684c8501e696413e77a6b8124318e8844dc094af185f576a"), looks := true }, kinds := [], alts := [], laidByText := true, laidKinds := [.data, .data, .data, .data, .sentinel, .sentinel, .pinned], laidTests := true, laidLooks := .later }
def PriorityRanksCardSaid : Prop := Claim7.holds Tryz.pinned (.plain (OpenSpec.ofChange priorityRanksSpec)) priorityRanksCard

/-- THE TIED CARD OF 'turnroundlaw05.PriorityOrders'. -/
def priorityOrdersCard : Claim7 := { stood := { row := priorityOrdersRow, standIns := [], harness := (true, "21eb7d3942baf6bd684c8501e696413e77a6b8124318e8844dc094af185f576a"), looks := true }, kinds := [], alts := [], laidByText := true, laidKinds := [.data, .data, .data, .data, .sentinel, .sentinel, .pinned], laidTests := true, laidLooks := .later }
def PriorityOrdersCardSaid : Prop := Claim7.holds Tryz.pinned (.plain (OpenSpec.ofChange priorityOrdersSpec)) priorityOrdersCard

/-- THE SECOND FORM's CARD OF 'turnroundlaw05.PriorityPrograms'. -/
def priorityProgramsUptoCard : Claim7 := { stood := { row := priorityProgramsUptoRow, standIns := [], harness := (true, "21eb7d3942baf6bd684c8501e696413e77a6b8124318e8844dc094af185f576a"), looks := true }, kinds := [], alts := [], laidByText := true, laidKinds := [.data, .data, .data, .data, .sentinel, .sentinel, .pinned], laidTests := true, laidLooks := .later }
def PriorityProgramsUptoCardSaid : Prop := Claim7.holds Tryz.pinned (.plain (OpenSpec.upto priorityProgramsSpec)) priorityProgramsUptoCard

/-- THE SECOND FORM's CARD OF 'turnroundlaw05.PriorityParses'. -/
def priorityParsesUptoCard : Claim7 := { stood := { row := priorityParsesUptoRow, standIns := [], harness := (true, "21eb7d3942baf6bd684c8501e696413e77a6b8124318e8844dc094af185f576a"), looks := true }, kinds := [], alts := [], laidByText := true, laidKinds := [.data, .data, .data, .data, .sentinel, .sentinel, .pinned], laidTests := true, laidLooks := .later }
def PriorityParsesUptoCardSaid : Prop := Claim7.holds Tryz.pinned (.plain (OpenSpec.upto priorityParsesSpec)) priorityParsesUptoCard

/-- THE SECOND FORM's CARD OF 'turnroundlaw05.PriorityShares'. -/
def prioritySharesUptoCard : Claim7 := { stood := { row := prioritySharesUptoRow, standIns := [], harness := (true, "21eb7d3942baf6bd684c8501e696413e77a6b8124318e8844dc094af185f576a"), looks := true }, kinds := [], alts := [], laidByText := true, laidKinds := [.data, .data, .data, .data, .sentinel, .sentinel, .pinned], laidTests := true, laidLooks := .later }
def PrioritySharesUptoCardSaid : Prop := Claim7.holds Tryz.pinned (.plain (OpenSpec.upto prioritySharesSpec)) prioritySharesUptoCard

/-- THE SECOND FORM's CARD OF 'turnroundlaw05.PriorityBack'. -/
def priorityBackUptoCard : Claim7 := { stood := { row := priorityBackUptoRow, standIns := [], harness := (true, "21eb7d3942baf6bd684c8501e696413e77a6b8124318e8844dc094af185f576a"), looks := true }, kinds := [], alts := [], laidByText := true, laidKinds := [.data, .data, .data, .data, .sentinel, .sentinel, .pinned], laidTests := true, laidLooks := .later }
def PriorityBackUptoCardSaid : Prop := Claim7.holds Tryz.pinned (.plain (OpenSpec.upto priorityBackSpec)) priorityBackUptoCard

/-- THE SECOND FORM's CARD OF 'turnroundlaw05.PriorityQuotas'. -/
def priorityQuotasUptoCard : Claim7 := { stood := { row := priorityQuotasUptoRow, standIns := [], harness := (true, "21eb7d3942baf6bd684c8501e696413e77a6b8124318e8844dc094af185f576a"), looks := true }, kinds := [], alts := [], laidByText := true, laidKinds := [.data, .data, .data, .data, .sentinel, .sentinel, .pinned], laidTests := true, laidLooks := .later }
def PriorityQuotasUptoCardSaid : Prop := Claim7.holds Tryz.pinned (.plain (OpenSpec.upto priorityQuotasSpec)) priorityQuotasUptoCard

/-- THE SECOND FORM's CARD OF 'turnroundlaw05.PriorityCompares'. -/
def priorityComparesUptoCard : Claim7 := { stood := { row := priorityComparesUptoRow, standIns := [], harness := (true, "21eb7d3942baf6bd684c8501e696413e77a6b8124318e8844dc094af185f576a"), looks := true }, kinds := [], alts := [], laidByText := true, laidKinds := [.data, .data, .data, .data, .sentinel, .sentinel, .pinned], laidTests := true, laidLooks := .later }
def PriorityComparesUptoCardSaid : Prop := Claim7.holds Tryz.pinned (.plain (OpenSpec.upto priorityComparesSpec)) priorityComparesUptoCard

/-- THE SECOND FORM's CARD OF 'turnroundlaw05.PriorityPreorder'. -/
def priorityPreorderUptoCard : Claim7 := { stood := { row := priorityPreorderUptoRow, standIns := [], harness := (true, "21eb7d3942baf6bd684c8501e696413e77a6b8124318e8844dc094af185f576a"), looks := true }, kinds := [], alts := [], laidByText := true, laidKinds := [.data, .data, .data, .data, .sentinel, .sentinel, .pinned], laidTests := true, laidLooks := .later }
def PriorityPreorderUptoCardSaid : Prop := Claim7.holds Tryz.pinned (.plain (OpenSpec.upto priorityPreorderSpec)) priorityPreorderUptoCard

/-- THE SECOND FORM's CARD OF 'turnroundlaw05.PriorityLots'. -/
def priorityLotsUptoCard : Claim7 := { stood := { row := priorityLotsUptoRow, standIns := [], harness := (true, "21eb7d3942baf6bd684c8501e696413e77a6b8124318e8844dc094af185f576a"), looks := true }, kinds := [], alts := [], laidByText := true, laidKinds := [.data, .data, .data, .data, .sentinel, .sentinel, .pinned], laidTests := true, laidLooks := .later }
def PriorityLotsUptoCardSaid : Prop := Claim7.holds Tryz.pinned (.plain (OpenSpec.upto priorityLotsSpec)) priorityLotsUptoCard

/-- THE SECOND FORM's CARD OF 'turnroundlaw05.PriorityRanks'. -/
def priorityRanksUptoCard : Claim7 := { stood := { row := priorityRanksUptoRow, standIns := [], harness := (true, "21eb7d3942baf6bd684c8501e696413e77a6b8124318e8844dc094af185f576a"), looks := true }, kinds := [], alts := [], laidByText := true, laidKinds := [.data, .data, .data, .data, .sentinel, .sentinel, .pinned], laidTests := true, laidLooks := .later }
def PriorityRanksUptoCardSaid : Prop := Claim7.holds Tryz.pinned (.plain (OpenSpec.upto priorityRanksSpec)) priorityRanksUptoCard

/-- THE SECOND FORM's CARD OF 'turnroundlaw05.PriorityOrders'. -/
def priorityOrdersUptoCard : Claim7 := { stood := { row := priorityOrdersUptoRow, standIns := [], harness := (true, "21eb7d3942baf6bd684c8501e696413e77a6b8124318e8844dc094af185f576a"), looks := true }, kinds := [], alts := [], laidByText := true, laidKinds := [.data, .data, .data, .data, .sentinel, .sentinel, .pinned], laidTests := true, laidLooks := .later }
def PriorityOrdersUptoCardSaid : Prop := Claim7.holds Tryz.pinned (.plain (OpenSpec.upto priorityOrdersSpec)) priorityOrdersUptoCard
end Rows
end Go.Proofs.YtcephlgejkngiaaGreatDoor
