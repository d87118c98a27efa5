/-
  DERIVED. GIVEN WITH THE SEED: THE CARDS: each row of YtkophednepcbkaaDoorRows.lean that lists a variable, with what it lists TIED to the program's text (the seventh form; the later family's looks); each row that meets fmt, with fmt's text TOLD by the authors' own Lean function (tested against real Go, not proved from fmt's source: count such statements apart). THE CARD IS WHAT COUNTS. Prove the row's statement (the work); the ties are given (YtkophednepcbkaaDoorTie.lean); close each card by the builder's one call (the guide's Derived/Test/ToyasCard.lean, 'card_holds'). Laid BY PROGRAM, IN A SANDBOX (cutbox-door.mjs). By AI agents, Wed Nov 11 2026. No macro, syntax, notation, axiom, sorry.
-/
import Derived.Test.YtkophednepcbkaaDoorRows
import GoSem.ClaimSeven
namespace Go.Proofs.YtkophednepcbkaaDoor
namespace Rows

/-- THE TIED CARD OF 'regulatorlaw03.DigestMatchesReference'. -/
def digestMatchesReferenceCard : Claim7 := { stood := { row := digestMatchesReferenceRow, standIns := [], harness := (true, "0e7abccc7422d5573dd66f8603c15d2a50368ae5be89544f9d030207fb31c40c"), looks := false }, kinds := [], alts := [], laidByText := true, laidKinds := [.data, .data, .data], laidTests := true, laidLooks := .later }
def DigestMatchesReferenceCardSaid : Prop := Claim7.holds Tryd.pinned (.plain (OpenSpec.ofChange digestMatchesReferenceSpec)) digestMatchesReferenceCard

/-- THE TIED CARD OF 'regulatorlaw03.DigestOneByte'. -/
def digestOneByteCard : Claim7 := { stood := { row := digestOneByteRow, standIns := [], harness := (true, "0e7abccc7422d5573dd66f8603c15d2a50368ae5be89544f9d030207fb31c40c"), looks := false }, kinds := [], alts := [], laidByText := true, laidKinds := [.data, .data, .data], laidTests := true, laidLooks := .later }
def DigestOneByteCardSaid : Prop := Claim7.holds Tryd.pinned (.plain (OpenSpec.ofChange digestOneByteSpec)) digestOneByteCard

/-- THE TIED CARD OF 'regulatorlaw03.DigestInts'. -/
def digestIntsCard : Claim7 := { stood := { row := digestIntsRow, standIns := [], harness := (true, "0e7abccc7422d5573dd66f8603c15d2a50368ae5be89544f9d030207fb31c40c"), looks := false }, kinds := [], alts := [], laidByText := true, laidKinds := [.data, .data, .data], laidTests := true, laidLooks := .later }
def DigestIntsCardSaid : Prop := Claim7.holds Tryd.pinned (.plain (OpenSpec.ofChange digestIntsSpec)) digestIntsCard

/-- THE TIED CARD OF 'regulatorlaw03.DigestNext'. -/
def digestNextCard : Claim7 := { stood := { row := digestNextRow, standIns := [], harness := (true, "0e7abccc7422d5573dd66f8603c15d2a50368ae5be89544f9d030207fb31c40c"), looks := false }, kinds := [], alts := [], laidByText := true, laidKinds := [.data, .data, .data], laidTests := true, laidLooks := .later }
def DigestNextCardSaid : Prop := Claim7.holds Tryd.pinned (.plain (OpenSpec.ofChange digestNextSpec)) digestNextCard

/-- THE TIED CARD OF 'regulatorlaw03.DigestBehind'. -/
def digestBehindCard : Claim7 := { stood := { row := digestBehindRow, standIns := [], harness := (true, "0e7abccc7422d5573dd66f8603c15d2a50368ae5be89544f9d030207fb31c40c"), looks := false }, kinds := [], alts := [], laidByText := true, laidKinds := [.data, .data, .data], laidTests := true, laidLooks := .later }
def DigestBehindCardSaid : Prop := Claim7.holds Tryd.pinned (.plain (OpenSpec.ofChange digestBehindSpec)) digestBehindCard

/-- THE TIED CARD OF 'regulatorlaw03.DigestPair'. -/
def digestPairCard : Claim7 := { stood := { row := digestPairRow, standIns := [], harness := (true, "0e7abccc7422d5573dd66f8603c15d2a50368ae5be89544f9d030207fb31c40c"), looks := false }, kinds := [], alts := [], laidByText := true, laidKinds := [.data, .data, .data], laidTests := true, laidLooks := .later }
def DigestPairCardSaid : Prop := Claim7.holds Tryd.pinned (.plain (OpenSpec.ofChange digestPairSpec)) digestPairCard

/-- THE SECOND FORM's CARD OF 'regulatorlaw03.DigestMatchesReference'. -/
def digestMatchesReferenceUptoCard : Claim7 := { stood := { row := digestMatchesReferenceUptoRow, standIns := [], harness := (true, "0e7abccc7422d5573dd66f8603c15d2a50368ae5be89544f9d030207fb31c40c"), looks := false }, kinds := [], alts := [], laidByText := true, laidKinds := [.data, .data, .data], laidTests := true, laidLooks := .later }
def DigestMatchesReferenceUptoCardSaid : Prop := Claim7.holds Tryd.pinned (.plain (OpenSpec.upto digestMatchesReferenceSpec)) digestMatchesReferenceUptoCard

/-- THE SECOND FORM's CARD OF 'regulatorlaw03.DigestOneByte'. -/
def digestOneByteUptoCard : Claim7 := { stood := { row := digestOneByteUptoRow, standIns := [], harness := (true, "0e7abccc7422d5573dd66f8603c15d2a50368ae5be89544f9d030207fb31c40c"), looks := false }, kinds := [], alts := [], laidByText := true, laidKinds := [.data, .data, .data], laidTests := true, laidLooks := .later }
def DigestOneByteUptoCardSaid : Prop := Claim7.holds Tryd.pinned (.plain (OpenSpec.upto digestOneByteSpec)) digestOneByteUptoCard

/-- THE SECOND FORM's CARD OF 'regulatorlaw03.DigestInts'. -/
def digestIntsUptoCard : Claim7 := { stood := { row := digestIntsUptoRow, standIns := [], harness := (true, "0e7abccc7422d5573dd66f8603c15d2a50368ae5be89544f9d030207fb31c40c"), looks := false }, kinds := [], alts := [], laidByText := true, laidKinds := [.data, .data, .data], laidTests := true, laidLooks := .later }
def DigestIntsUptoCardSaid : Prop := Claim7.holds Tryd.pinned (.plain (OpenSpec.upto digestIntsSpec)) digestIntsUptoCard

/-- THE SECOND FORM's CARD OF 'regulatorlaw03.DigestNext'. -/
def digestNextUptoCard : Claim7 := { stood := { row := digestNextUptoRow, standIns := [], harness := (true, "0e7abccc7422d5573dd66f8603c15d2a50368ae5be89544f9d030207fb31c40c"), looks := false }, kinds := [], alts := [], laidByText := true, laidKinds := [.data, .data, .data], laidTests := true, laidLooks := .later }
def DigestNextUptoCardSaid : Prop := Claim7.holds Tryd.pinned (.plain (OpenSpec.upto digestNextSpec)) digestNextUptoCard

/-- THE SECOND FORM's CARD OF 'regulatorlaw03.DigestBehind'. -/
def digestBehindUptoCard : Claim7 := { stood := { row := digestBehindUptoRow, standIns := [], harness := (true, "0e7abccc7422d5573dd66f8603c15d2a50368ae5be89544f9d030207fb31c40c"), looks := false }, kinds := [], alts := [], laidByText := true, laidKinds := [.data, .data, .data], laidTests := true, laidLooks := .later }
def DigestBehindUptoCardSaid : Prop := Claim7.holds Tryd.pinned (.plain (OpenSpec.upto digestBehindSpec)) digestBehindUptoCard

/-- THE SECOND FORM's CARD OF 'regulatorlaw03.DigestPair'. -/
def digestPairUptoCard : Claim7 := { stood := { row := digestPairUptoRow, standIns := [], harness := (true, "0e7abccc7422d5573dd66f8603c15d2a50368ae5be89544f9d030207fb31c40c"), looks := false }, kinds := [], alts := [], laidByText := true, laidKinds := [.data, .data, .data], laidTests := true, laidLooks := .later }
def DigestPairUptoCardSaid : Prop := Claim7.holds Tryd.pinned (.plain (OpenSpec.upto digestPairSpec)) digestPairUptoCard
end Rows
end Go.Proofs.YtkophednepcbkaaDoor
