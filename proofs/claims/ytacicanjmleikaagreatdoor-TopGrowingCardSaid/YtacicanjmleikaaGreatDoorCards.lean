/-
  DERIVED. GIVEN WITH THE SEED: THE CARDS: each row of YtacicanjmleikaaGreatDoorRows.lean that lists a variable, with what it lists TIED to the program's text (the seventh form; the later family's looks); each row that meets fmt, with fmt's text TOLD by the authors' own Lean function (tested against real Go, not proved from fmt's source: count such statements apart). THE CARD IS WHAT COUNTS. Prove the row's statement (the work); the ties are given (YtacicanjmleikaaGreatDoorTie.lean); close each card by the builder's one call (the guide's Derived/Test/ToyasCard.lean, 'card_holds'). Laid BY PROGRAM, IN A SANDBOX (cutbox-door.mjs). By AI agents, Wed Nov 11 2026. No macro, syntax, notation, axiom, sorry.
-/
import Derived.Test.YtacicanjmleikaaGreatDoorRows
import GoSem.ClaimSeven
namespace Go.Proofs.YtacicanjmleikaaGreatDoor
namespace Rows

/-- THE TIED CARD OF 'regulatortop.TopForked'. -/
def topForkedCard : Claim7 := { stood := { row := topForkedRow, standIns := [], harness := (true, "9f3369e5a75d634b4fb5e0379a1d0de1ecc63276d421fe9d67ebe155c50c0d07"), looks := false }, kinds := [], alts := [], laidByText := true, laidKinds := [.data, .data, .data], laidTests := true, laidLooks := .later }
def TopForkedCardSaid : Prop := Claim7.holds Tryz.pinned (.plain (OpenSpec.ofChange topForkedSpec)) topForkedCard

/-- THE TIED CARD OF 'regulatortop.TopStamped'. -/
def topStampedCard : Claim7 := { stood := { row := topStampedRow, standIns := [], harness := (true, "9f3369e5a75d634b4fb5e0379a1d0de1ecc63276d421fe9d67ebe155c50c0d07"), looks := false }, kinds := [], alts := [], laidByText := true, laidKinds := [.data, .data, .data], laidTests := true, laidLooks := .later }
def TopStampedCardSaid : Prop := Claim7.holds Tryz.pinned (.plain (OpenSpec.ofChange topStampedSpec)) topStampedCard

/-- THE TIED CARD OF 'regulatortop.TopGrowing'. -/
def topGrowingCard : Claim7 := { stood := { row := topGrowingRow, standIns := [], harness := (true, "9f3369e5a75d634b4fb5e0379a1d0de1ecc63276d421fe9d67ebe155c50c0d07"), looks := false }, kinds := [], alts := [], laidByText := true, laidKinds := [.data, .data, .data], laidTests := true, laidLooks := .later }
def TopGrowingCardSaid : Prop := Claim7.holds Tryz.pinned (.plain (OpenSpec.ofChange topGrowingSpec)) topGrowingCard

/-- THE SECOND FORM's CARD OF 'regulatortop.TopForked'. -/
def topForkedUptoCard : Claim7 := { stood := { row := topForkedUptoRow, standIns := [], harness := (true, "9f3369e5a75d634b4fb5e0379a1d0de1ecc63276d421fe9d67ebe155c50c0d07"), looks := false }, kinds := [], alts := [], laidByText := true, laidKinds := [.data, .data, .data], laidTests := true, laidLooks := .later }
def TopForkedUptoCardSaid : Prop := Claim7.holds Tryz.pinned (.plain (OpenSpec.upto topForkedSpec)) topForkedUptoCard

/-- THE SECOND FORM's CARD OF 'regulatortop.TopStamped'. -/
def topStampedUptoCard : Claim7 := { stood := { row := topStampedUptoRow, standIns := [], harness := (true, "9f3369e5a75d634b4fb5e0379a1d0de1ecc63276d421fe9d67ebe155c50c0d07"), looks := false }, kinds := [], alts := [], laidByText := true, laidKinds := [.data, .data, .data], laidTests := true, laidLooks := .later }
def TopStampedUptoCardSaid : Prop := Claim7.holds Tryz.pinned (.plain (OpenSpec.upto topStampedSpec)) topStampedUptoCard

/-- THE SECOND FORM's CARD OF 'regulatortop.TopGrowing'. -/
def topGrowingUptoCard : Claim7 := { stood := { row := topGrowingUptoRow, standIns := [], harness := (true, "9f3369e5a75d634b4fb5e0379a1d0de1ecc63276d421fe9d67ebe155c50c0d07"), looks := false }, kinds := [], alts := [], laidByText := true, laidKinds := [.data, .data, .data], laidTests := true, laidLooks := .later }
def TopGrowingUptoCardSaid : Prop := Claim7.holds Tryz.pinned (.plain (OpenSpec.upto topGrowingSpec)) topGrowingUptoCard
end Rows
end Go.Proofs.YtacicanjmleikaaGreatDoor
