/-
  DERIVED. GIVEN WITH THE SEED: THE CARDS: each row of YtdmfdimhjemngaaDoorRows.lean that lists a variable, with what it lists TIED to the program's text (the seventh form; the later family's looks); each row that meets fmt, with fmt's text TOLD by the authors' own Lean function (tested against real Go, not proved from fmt's source: count such statements apart). THE CARD IS WHAT COUNTS. Prove the row's statement (the work); the ties are given (YtdmfdimhjemngaaDoorTie.lean); close each card by the builder's one call (the guide's Derived/Test/ToyasCard.lean, 'card_holds'). Laid BY PROGRAM, IN A SANDBOX (cutbox-door.mjs). By AI agents, Wed Nov 11 2026. No macro, syntax, notation, axiom, sorry.
-/
import Derived.Test.YtdmfdimhjemngaaDoorRows
import GoSem.ClaimSeven
namespace Go.Proofs.YtdmfdimhjemngaaDoor
namespace Rows

/-- THE TIED CARD OF 'regulatorlaw13.InboxAnswers'. -/
def inboxAnswersCard : Claim7 := { stood := { row := inboxAnswersRow, standIns := [], harness := (true, "7ea7f691bd62bc6dfcd55705aa4a80db04faf2fcac01e681a6b5fa4bd54c035f"), looks := true }, kinds := [], alts := [], laidByText := true, laidKinds := [.data, .data, .data], laidTests := true, laidLooks := .later }
def InboxAnswersCardSaid : Prop := Claim7.holds Tryd.pinned (.plain (OpenSpec.ofChange inboxAnswersSpec)) inboxAnswersCard

/-- THE TIED CARD OF 'regulatorlaw13.InboxOrder'. -/
def inboxOrderCard : Claim7 := { stood := { row := inboxOrderRow, standIns := [], harness := (true, "7ea7f691bd62bc6dfcd55705aa4a80db04faf2fcac01e681a6b5fa4bd54c035f"), looks := true }, kinds := [], alts := [], laidByText := true, laidKinds := [.data, .data, .data], laidTests := true, laidLooks := .later }
def InboxOrderCardSaid : Prop := Claim7.holds Tryd.pinned (.plain (OpenSpec.ofChange inboxOrderSpec)) inboxOrderCard

/-- THE TIED CARD OF 'regulatorlaw13.InboxOthers'. -/
def inboxOthersCard : Claim7 := { stood := { row := inboxOthersRow, standIns := [], harness := (true, "7ea7f691bd62bc6dfcd55705aa4a80db04faf2fcac01e681a6b5fa4bd54c035f"), looks := true }, kinds := [], alts := [], laidByText := true, laidKinds := [.data, .data, .data], laidTests := true, laidLooks := .later }
def InboxOthersCardSaid : Prop := Claim7.holds Tryd.pinned (.plain (OpenSpec.ofChange inboxOthersSpec)) inboxOthersCard

/-- THE TIED CARD OF 'regulatorlaw13.InboxKeeps'. -/
def inboxKeepsCard : Claim7 := { stood := { row := inboxKeepsRow, standIns := [], harness := (true, "7ea7f691bd62bc6dfcd55705aa4a80db04faf2fcac01e681a6b5fa4bd54c035f"), looks := true }, kinds := [], alts := [], laidByText := true, laidKinds := [.data, .data, .data], laidTests := true, laidLooks := .later }
def InboxKeepsCardSaid : Prop := Claim7.holds Tryd.pinned (.plain (OpenSpec.ofChange inboxKeepsSpec)) inboxKeepsCard

/-- THE TIED CARD OF 'regulatorlaw13.InboxChain'. -/
def inboxChainCard : Claim7 := { stood := { row := inboxChainRow, standIns := [], harness := (true, "7ea7f691bd62bc6dfcd55705aa4a80db04faf2fcac01e681a6b5fa4bd54c035f"), looks := true }, kinds := [], alts := [], laidByText := true, laidKinds := [.data, .data, .data], laidTests := true, laidLooks := .later }
def InboxChainCardSaid : Prop := Claim7.holds Tryd.pinned (.plain (OpenSpec.ofChange inboxChainSpec)) inboxChainCard

/-- THE SECOND FORM's CARD OF 'regulatorlaw13.InboxAnswers'. -/
def inboxAnswersUptoCard : Claim7 := { stood := { row := inboxAnswersUptoRow, standIns := [], harness := (true, "7ea7f691bd62bc6dfcd55705aa4a80db04faf2fcac01e681a6b5fa4bd54c035f"), looks := true }, kinds := [], alts := [], laidByText := true, laidKinds := [.data, .data, .data], laidTests := true, laidLooks := .later }
def InboxAnswersUptoCardSaid : Prop := Claim7.holds Tryd.pinned (.plain (OpenSpec.upto inboxAnswersSpec)) inboxAnswersUptoCard

/-- THE SECOND FORM's CARD OF 'regulatorlaw13.InboxOrder'. -/
def inboxOrderUptoCard : Claim7 := { stood := { row := inboxOrderUptoRow, standIns := [], harness := (true, "7ea7f691bd62bc6dfcd55705aa4a80db04faf2fcac01e681a6b5fa4bd54c035f"), looks := true }, kinds := [], alts := [], laidByText := true, laidKinds := [.data, .data, .data], laidTests := true, laidLooks := .later }
def InboxOrderUptoCardSaid : Prop := Claim7.holds Tryd.pinned (.plain (OpenSpec.upto inboxOrderSpec)) inboxOrderUptoCard

/-- THE SECOND FORM's CARD OF 'regulatorlaw13.InboxOthers'. -/
def inboxOthersUptoCard : Claim7 := { stood := { row := inboxOthersUptoRow, standIns := [], harness := (true, "7ea7f691bd62bc6dfcd55705aa4a80db04faf2fcac01e681a6b5fa4bd54c035f"), looks := true }, kinds := [], alts := [], laidByText := true, laidKinds := [.data, .data, .data], laidTests := true, laidLooks := .later }
def InboxOthersUptoCardSaid : Prop := Claim7.holds Tryd.pinned (.plain (OpenSpec.upto inboxOthersSpec)) inboxOthersUptoCard

/-- THE SECOND FORM's CARD OF 'regulatorlaw13.InboxKeeps'. -/
def inboxKeepsUptoCard : Claim7 := { stood := { row := inboxKeepsUptoRow, standIns := [], harness := (true, "7ea7f691bd62bc6dfcd55705aa4a80db04faf2fcac01e681a6b5fa4bd54c035f"), looks := true }, kinds := [], alts := [], laidByText := true, laidKinds := [.data, .data, .data], laidTests := true, laidLooks := .later }
def InboxKeepsUptoCardSaid : Prop := Claim7.holds Tryd.pinned (.plain (OpenSpec.upto inboxKeepsSpec)) inboxKeepsUptoCard

/-- THE SECOND FORM's CARD OF 'regulatorlaw13.InboxChain'. -/
def inboxChainUptoCard : Claim7 := { stood := { row := inboxChainUptoRow, standIns := [], harness := (true, "7ea7f691bd62bc6dfcd55705aa4a80db04faf2fcac01e681a6b5fa4bd54c035f"), looks := true }, kinds := [], alts := [], laidByText := true, laidKinds := [.data, .data, .data], laidTests := true, laidLooks := .later }
def InboxChainUptoCardSaid : Prop := Claim7.holds Tryd.pinned (.plain (OpenSpec.upto inboxChainSpec)) inboxChainUptoCard
end Rows
end Go.Proofs.YtdmfdimhjemngaaDoor
