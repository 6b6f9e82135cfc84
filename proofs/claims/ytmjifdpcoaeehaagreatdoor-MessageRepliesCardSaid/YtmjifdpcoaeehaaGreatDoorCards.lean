/-
  DERIVED. GIVEN WITH THE SEED: THE CARDS: each row of YtmjifdpcoaeehaaGreatDoorRows.lean that lists a variable, with what it lists TIED to the program's text (the seventh form; the later family's looks); each row that meets fmt, with fmt's text TOLD by the authors' own Lean function (tested against real Go, not proved from fmt's source: count such statements apart). THE CARD IS WHAT COUNTS. Prove the row's statement (the work); the ties are given (YtmjifdpcoaeehaaGreatDoorTie.lean); close each card by the builder's one call (the guide's Derived/Test/ToyasCard.lean, 'card_holds'). Laid BY PROGRAM, IN A SANDBOX (cutbox-door.mjs). By AI agents, Wed Nov 11 2026. No macro, syntax, notation, axiom, sorry.
-/
import Derived.Test.YtmjifdpcoaeehaaGreatDoorRows
import GoSem.ClaimSeven
namespace Go.Proofs.YtmjifdpcoaeehaaGreatDoor
namespace Rows

/-- THE TIED CARD OF 'turnroundlaw02.MessagePrints'. -/
def messagePrintsCard : Claim7 := { stood := { row := messagePrintsRow, standIns := [], harness := (true, "49e3163c55935500494f7dfb53955c080da07903432457cc2a940bcedb4fe632"), looks := false }, kinds := [], alts := [], laidByText := true, laidKinds := [.data, .data, .data, .data, .pinned], laidTests := true, laidLooks := .later }
def MessagePrintsCardSaid : Prop := Claim7.holds Tryz.pinned (.plain (OpenSpec.ofChange messagePrintsSpec)) messagePrintsCard

/-- THE TIED CARD OF 'turnroundlaw02.MessageLeads'. -/
def messageLeadsCard : Claim7 := { stood := { row := messageLeadsRow, standIns := [], harness := (true, "49e3163c55935500494f7dfb53955c080da07903432457cc2a940bcedb4fe632"), looks := false }, kinds := [], alts := [], laidByText := true, laidKinds := [.data, .data, .data, .data, .pinned], laidTests := true, laidLooks := .later }
def MessageLeadsCardSaid : Prop := Claim7.holds Tryz.pinned (.plain (OpenSpec.ofChange messageLeadsSpec)) messageLeadsCard

/-- THE TIED CARD OF 'turnroundlaw02.MessageAnswers'. -/
def messageAnswersCard : Claim7 := { stood := { row := messageAnswersRow, standIns := [], harness := (true, "49e3163c55935500494f7dfb53955c080da07903432457cc2a940bcedb4fe632"), looks := false }, kinds := [], alts := [], laidByText := true, laidKinds := [.data, .data, .data, .data, .pinned], laidTests := true, laidLooks := .later }
def MessageAnswersCardSaid : Prop := Claim7.holds Tryz.pinned (.plain (OpenSpec.ofChange messageAnswersSpec)) messageAnswersCard

/-- THE TIED CARD OF 'turnroundlaw02.MessageReplies'. -/
def messageRepliesCard : Claim7 := { stood := { row := messageRepliesRow, standIns := [], harness := (true, "49e3163c55935500494f7dfb53955c080da07903432457cc2a940bcedb4fe632"), looks := false }, kinds := [], alts := [], laidByText := true, laidKinds := [.data, .data, .data, .data, .pinned], laidTests := true, laidLooks := .later }
def MessageRepliesCardSaid : Prop := Claim7.holds Tryz.pinned (.plain (OpenSpec.ofChange messageRepliesSpec)) messageRepliesCard

/-- THE TIED CARD OF 'turnroundlaw02.MessageRequests'. -/
def messageRequestsCard : Claim7 := { stood := { row := messageRequestsRow, standIns := [], harness := (true, "49e3163c55935500494f7dfb53955c080da07903432457cc2a940bcedb4fe632"), looks := false }, kinds := [], alts := [], laidByText := true, laidKinds := [.data, .data, .data, .data, .pinned], laidTests := true, laidLooks := .later }
def MessageRequestsCardSaid : Prop := Claim7.holds Tryz.pinned (.plain (OpenSpec.ofChange messageRequestsSpec)) messageRequestsCard

/-- THE TIED CARD OF 'turnroundlaw02.MessageLinks'. -/
def messageLinksCard : Claim7 := { stood := { row := messageLinksRow, standIns := [], harness := (true, "49e3163c55935500494f7dfb53955c080da07903432457cc2a940bcedb4fe632"), looks := false }, kinds := [], alts := [], laidByText := true, laidKinds := [.data, .data, .data, .data, .pinned], laidTests := true, laidLooks := .later }
def MessageLinksCardSaid : Prop := Claim7.holds Tryz.pinned (.plain (OpenSpec.ofChange messageLinksSpec)) messageLinksCard

/-- THE SECOND FORM's CARD OF 'turnroundlaw02.MessagePrints'. -/
def messagePrintsUptoCard : Claim7 := { stood := { row := messagePrintsUptoRow, standIns := [], harness := (true, "49e3163c55935500494f7dfb53955c080da07903432457cc2a940bcedb4fe632"), looks := false }, kinds := [], alts := [], laidByText := true, laidKinds := [.data, .data, .data, .data, .pinned], laidTests := true, laidLooks := .later }
def MessagePrintsUptoCardSaid : Prop := Claim7.holds Tryz.pinned (.plain (OpenSpec.upto messagePrintsSpec)) messagePrintsUptoCard

/-- THE SECOND FORM's CARD OF 'turnroundlaw02.MessageLeads'. -/
def messageLeadsUptoCard : Claim7 := { stood := { row := messageLeadsUptoRow, standIns := [], harness := (true, "49e3163c55935500494f7dfb53955c080da07903432457cc2a940bcedb4fe632"), looks := false }, kinds := [], alts := [], laidByText := true, laidKinds := [.data, .data, .data, .data, .pinned], laidTests := true, laidLooks := .later }
def MessageLeadsUptoCardSaid : Prop := Claim7.holds Tryz.pinned (.plain (OpenSpec.upto messageLeadsSpec)) messageLeadsUptoCard

/-- THE SECOND FORM's CARD OF 'turnroundlaw02.MessageAnswers'. -/
def messageAnswersUptoCard : Claim7 := { stood := { row := messageAnswersUptoRow, standIns := [], harness := (true, "49e3163c55935500494f7dfb53955c080da07903432457cc2a940bcedb4fe632"), looks := false }, kinds := [], alts := [], laidByText := true, laidKinds := [.data, .data, .data, .data, .pinned], laidTests := true, laidLooks := .later }
def MessageAnswersUptoCardSaid : Prop := Claim7.holds Tryz.pinned (.plain (OpenSpec.upto messageAnswersSpec)) messageAnswersUptoCard

/-- THE SECOND FORM's CARD OF 'turnroundlaw02.MessageReplies'. -/
def messageRepliesUptoCard : Claim7 := { stood := { row := messageRepliesUptoRow, standIns := [], harness := (true, "49e3163c55935500494f7dfb53955c080da07903432457cc2a940bcedb4fe632"), looks := false }, kinds := [], alts := [], laidByText := true, laidKinds := [.data, .data, .data, .data, .pinned], laidTests := true, laidLooks := .later }
def MessageRepliesUptoCardSaid : Prop := Claim7.holds Tryz.pinned (.plain (OpenSpec.upto messageRepliesSpec)) messageRepliesUptoCard

/-- THE SECOND FORM's CARD OF 'turnroundlaw02.MessageRequests'. -/
def messageRequestsUptoCard : Claim7 := { stood := { row := messageRequestsUptoRow, standIns := [], harness := (true, "49e3163c55935500494f7dfb53955c080da07903432457cc2a940bcedb4fe632"), looks := false }, kinds := [], alts := [], laidByText := true, laidKinds := [.data, .data, .data, .data, .pinned], laidTests := true, laidLooks := .later }
def MessageRequestsUptoCardSaid : Prop := Claim7.holds Tryz.pinned (.plain (OpenSpec.upto messageRequestsSpec)) messageRequestsUptoCard

/-- THE SECOND FORM's CARD OF 'turnroundlaw02.MessageLinks'. -/
def messageLinksUptoCard : Claim7 := { stood := { row := messageLinksUptoRow, standIns := [], harness := (true, "49e3163c55935500494f7dfb53955c080da07903432457cc2a940bcedb4fe632"), looks := false }, kinds := [], alts := [], laidByText := true, laidKinds := [.data, .data, .data, .data, .pinned], laidTests := true, laidLooks := .later }
def MessageLinksUptoCardSaid : Prop := Claim7.holds Tryz.pinned (.plain (OpenSpec.upto messageLinksSpec)) messageLinksUptoCard
end Rows
end Go.Proofs.YtmjifdpcoaeehaaGreatDoor
