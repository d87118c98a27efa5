/-
  DERIVED. GIVEN WITH THE SEED: THE CARDS: each row of YtdmfdimhjemngaaGreatDoorRows.lean that lists a variable, with what it lists TIED to the program's text (the seventh form; the later family's looks); each row that meets fmt, with fmt's text TOLD by the authors' own Lean function (tested against real Go, not proved from fmt's source: count such statements apart). THE CARD IS WHAT COUNTS. Prove the row's statement (the work); the ties are given (YtdmfdimhjemngaaGreatDoorTie.lean); close each card by the builder's one call (the guide's Derived/Test/ToyasCard.lean, 'card_holds'). Laid BY PROGRAM, IN A SANDBOX (cutbox-door.mjs). By AI agents, Wed Nov 11 2026. No macro, syntax, notation, axiom, sorry.
-/
import Derived.Test.YtdmfdimhjemngaaGreatDoorRows
import GoSem.ClaimSeven
namespace Go.Proofs.YtdmfdimhjemngaaGreatDoor
namespace Rows

/-- THE TIED CARD OF 'regulatorlaw13.InboxMatchesReference'. -/
def inboxMatchesReferenceCard : Claim7 := { stood := { row := inboxMatchesReferenceRow, standIns := [], harness := (true, "4ba522a0f9236339b354e35addfc1948406381471291ef89b9ea6276c6333d16"), looks := true }, kinds := [], alts := [], laidByText := true, laidKinds := [.data, .data, .data], laidTests := true, laidLooks := .later }
def InboxMatchesReferenceCardSaid : Prop := Claim7.holds Tryz.pinned (.plain (OpenSpec.ofChange inboxMatchesReferenceSpec)) inboxMatchesReferenceCard

/-- THE SECOND FORM's CARD OF 'regulatorlaw13.InboxMatchesReference'. -/
def inboxMatchesReferenceUptoCard : Claim7 := { stood := { row := inboxMatchesReferenceUptoRow, standIns := [], harness := (true, "4ba522a0f9236339b354e35addfc1948406381471291ef89b9ea6276c6333d16"), looks := true }, kinds := [], alts := [], laidByText := true, laidKinds := [.data, .data, .data], laidTests := true, laidLooks := .later }
def InboxMatchesReferenceUptoCardSaid : Prop := Claim7.holds Tryz.pinned (.plain (OpenSpec.upto inboxMatchesReferenceSpec)) inboxMatchesReferenceUptoCard
end Rows
end Go.Proofs.YtdmfdimhjemngaaGreatDoor
