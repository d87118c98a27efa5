/-
  DERIVED. GIVEN WITH THE SEED: THE CARDS: each row of YtfohekfhcolnfaaDoorRows.lean that lists a variable, with what it lists TIED to the program's text (the seventh form; the later family's looks); each row that meets fmt, with fmt's text TOLD by the authors' own Lean function (tested against real Go, not proved from fmt's source: count such statements apart). THE CARD IS WHAT COUNTS. Prove the row's statement (the work); the ties are given (YtfohekfhcolnfaaDoorTie.lean); close each card by the builder's one call (the guide's Derived/Test/ToyasCard.lean, 'card_holds'). Laid BY PROGRAM, IN A SANDBOX (cutbox-door.mjs). By AI agents, Wed Nov 11 2026. No macro, syntax, notation, axiom, sorry.
-/
import Derived.Test.YtfohekfhcolnfaaDoorRows
import GoSem.ClaimSeven
namespace Go.Proofs.YtfohekfhcolnfaaDoor
namespace Rows

/-- THE TIED CARD OF 'regulatorlaw12.ChainMatchesReference'. -/
def chainMatchesReferenceCard : Claim7 := { stood := { row := chainMatchesReferenceRow, standIns := [], harness := (true, "b3b9d270b2f2390aeafee21c82d11f297213342cd47d5fb21e391d829ac5e8b7"), looks := false }, kinds := [], alts := [], laidByText := true, laidKinds := [.data, .data, .data], laidTests := true, laidLooks := .later }
def ChainMatchesReferenceCardSaid : Prop := Claim7.holds Tryd.pinned (.plain (OpenSpec.ofChange chainMatchesReferenceSpec)) chainMatchesReferenceCard

/-- THE TIED CARD OF 'regulatorlaw12.ChainHeads'. -/
def chainHeadsCard : Claim7 := { stood := { row := chainHeadsRow, standIns := [], harness := (true, "b3b9d270b2f2390aeafee21c82d11f297213342cd47d5fb21e391d829ac5e8b7"), looks := false }, kinds := [], alts := [], laidByText := true, laidKinds := [.data, .data, .data], laidTests := true, laidLooks := .later }
def ChainHeadsCardSaid : Prop := Claim7.holds Tryd.pinned (.plain (OpenSpec.ofChange chainHeadsSpec)) chainHeadsCard

/-- THE TIED CARD OF 'regulatorlaw12.ChainGrows'. -/
def chainGrowsCard : Claim7 := { stood := { row := chainGrowsRow, standIns := [], harness := (true, "b3b9d270b2f2390aeafee21c82d11f297213342cd47d5fb21e391d829ac5e8b7"), looks := false }, kinds := [], alts := [], laidByText := true, laidKinds := [.data, .data, .data], laidTests := true, laidLooks := .later }
def ChainGrowsCardSaid : Prop := Claim7.holds Tryd.pinned (.plain (OpenSpec.ofChange chainGrowsSpec)) chainGrowsCard

/-- THE TIED CARD OF 'regulatorlaw12.ChainCommits'. -/
def chainCommitsCard : Claim7 := { stood := { row := chainCommitsRow, standIns := [], harness := (true, "b3b9d270b2f2390aeafee21c82d11f297213342cd47d5fb21e391d829ac5e8b7"), looks := false }, kinds := [], alts := [], laidByText := true, laidKinds := [.data, .data, .data], laidTests := true, laidLooks := .later }
def ChainCommitsCardSaid : Prop := Claim7.holds Tryd.pinned (.plain (OpenSpec.ofChange chainCommitsSpec)) chainCommitsCard

/-- THE TIED CARD OF 'regulatorlaw12.ChainBefore'. -/
def chainBeforeCard : Claim7 := { stood := { row := chainBeforeRow, standIns := [], harness := (true, "b3b9d270b2f2390aeafee21c82d11f297213342cd47d5fb21e391d829ac5e8b7"), looks := false }, kinds := [], alts := [], laidByText := true, laidKinds := [.data, .data, .data], laidTests := true, laidLooks := .later }
def ChainBeforeCardSaid : Prop := Claim7.holds Tryd.pinned (.plain (OpenSpec.ofChange chainBeforeSpec)) chainBeforeCard

/-- THE TIED CARD OF 'regulatorlaw12.ChainNonces'. -/
def chainNoncesCard : Claim7 := { stood := { row := chainNoncesRow, standIns := [], harness := (true, "b3b9d270b2f2390aeafee21c82d11f297213342cd47d5fb21e391d829ac5e8b7"), looks := false }, kinds := [], alts := [], laidByText := true, laidKinds := [.data, .data, .data], laidTests := true, laidLooks := .later }
def ChainNoncesCardSaid : Prop := Claim7.holds Tryd.pinned (.plain (OpenSpec.ofChange chainNoncesSpec)) chainNoncesCard

/-- THE SECOND FORM's CARD OF 'regulatorlaw12.ChainMatchesReference'. -/
def chainMatchesReferenceUptoCard : Claim7 := { stood := { row := chainMatchesReferenceUptoRow, standIns := [], harness := (true, "b3b9d270b2f2390aeafee21c82d11f297213342cd47d5fb21e391d829ac5e8b7"), looks := false }, kinds := [], alts := [], laidByText := true, laidKinds := [.data, .data, .data], laidTests := true, laidLooks := .later }
def ChainMatchesReferenceUptoCardSaid : Prop := Claim7.holds Tryd.pinned (.plain (OpenSpec.upto chainMatchesReferenceSpec)) chainMatchesReferenceUptoCard

/-- THE SECOND FORM's CARD OF 'regulatorlaw12.ChainHeads'. -/
def chainHeadsUptoCard : Claim7 := { stood := { row := chainHeadsUptoRow, standIns := [], harness := (true, "b3b9d270b2f2390aeafee21c82d11f297213342cd47d5fb21e391d829ac5e8b7"), looks := false }, kinds := [], alts := [], laidByText := true, laidKinds := [.data, .data, .data], laidTests := true, laidLooks := .later }
def ChainHeadsUptoCardSaid : Prop := Claim7.holds Tryd.pinned (.plain (OpenSpec.upto chainHeadsSpec)) chainHeadsUptoCard

/-- THE SECOND FORM's CARD OF 'regulatorlaw12.ChainGrows'. -/
def chainGrowsUptoCard : Claim7 := { stood := { row := chainGrowsUptoRow, standIns := [], harness := (true, "b3b9d270b2f2390aeafee21c82d11f297213342cd47d5fb21e391d829ac5e8b7"), looks := false }, kinds := [], alts := [], laidByText := true, laidKinds := [.data, .data, .data], laidTests := true, laidLooks := .later }
def ChainGrowsUptoCardSaid : Prop := Claim7.holds Tryd.pinned (.plain (OpenSpec.upto chainGrowsSpec)) chainGrowsUptoCard

/-- THE SECOND FORM's CARD OF 'regulatorlaw12.ChainCommits'. -/
def chainCommitsUptoCard : Claim7 := { stood := { row := chainCommitsUptoRow, standIns := [], harness := (true, "b3b9d270b2f2390aeafee21c82d11f297213342cd47d5fb21e391d829ac5e8b7"), looks := false }, kinds := [], alts := [], laidByText := true, laidKinds := [.data, .data, .data], laidTests := true, laidLooks := .later }
def ChainCommitsUptoCardSaid : Prop := Claim7.holds Tryd.pinned (.plain (OpenSpec.upto chainCommitsSpec)) chainCommitsUptoCard

/-- THE SECOND FORM's CARD OF 'regulatorlaw12.ChainBefore'. -/
def chainBeforeUptoCard : Claim7 := { stood := { row := chainBeforeUptoRow, standIns := [], harness := (true, "b3b9d270b2f2390aeafee21c82d11f297213342cd47d5fb21e391d829ac5e8b7"), looks := false }, kinds := [], alts := [], laidByText := true, laidKinds := [.data, .data, .data], laidTests := true, laidLooks := .later }
def ChainBeforeUptoCardSaid : Prop := Claim7.holds Tryd.pinned (.plain (OpenSpec.upto chainBeforeSpec)) chainBeforeUptoCard

/-- THE SECOND FORM's CARD OF 'regulatorlaw12.ChainNonces'. -/
def chainNoncesUptoCard : Claim7 := { stood := { row := chainNoncesUptoRow, standIns := [], harness := (true, "b3b9d270b2f2390aeafee21c82d11f297213342cd47d5fb21e391d829ac5e8b7"), looks := false }, kinds := [], alts := [], laidByText := true, laidKinds := [.data, .data, .data], laidTests := true, laidLooks := .later }
def ChainNoncesUptoCardSaid : Prop := Claim7.holds Tryd.pinned (.plain (OpenSpec.upto chainNoncesSpec)) chainNoncesUptoCard
end Rows
end Go.Proofs.YtfohekfhcolnfaaDoor
