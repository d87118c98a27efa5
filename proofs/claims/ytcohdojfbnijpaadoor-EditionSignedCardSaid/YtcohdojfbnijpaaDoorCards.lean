/-
  DERIVED. GIVEN WITH THE SEED: THE CARDS: each row of YtcohdojfbnijpaaDoorRows.lean that lists a variable, with what it lists TIED to the program's text (the seventh form; the later family's looks); each row that meets fmt, with fmt's text TOLD by the authors' own Lean function (tested against real Go, not proved from fmt's source: count such statements apart). THE CARD IS WHAT COUNTS. Prove the row's statement (the work); the ties are given (YtcohdojfbnijpaaDoorTie.lean); close each card by the builder's one call (the guide's Derived/Test/ToyasCard.lean, 'card_holds'). Laid BY PROGRAM, IN A SANDBOX (cutbox-door.mjs). By AI agents, Wed Nov 11 2026. No macro, syntax, notation, axiom, sorry.
-/
import Derived.Test.YtcohdojfbnijpaaDoorRows
import GoSem.ClaimSeven
namespace Go.Proofs.YtcohdojfbnijpaaDoor
namespace Rows

/-- THE TIED CARD OF 'regulatorlaw20.EditionMatchesReference'. -/
def editionMatchesReferenceCard : Claim7 := { stood := { row := editionMatchesReferenceRow, standIns := [], harness := (true, "2d3f21e258f6fb9e304da1f3389b4c9c70d22a5b0f71edf461c644e831a43086"), looks := false }, kinds := [], alts := [], laidByText := true, laidKinds := [.data, .data, .data], laidTests := true, laidLooks := .later }
def EditionMatchesReferenceCardSaid : Prop := Claim7.holds Tryd.pinned (.plain (OpenSpec.ofChange editionMatchesReferenceSpec)) editionMatchesReferenceCard

/-- THE TIED CARD OF 'regulatorlaw20.EditionSigned'. -/
def editionSignedCard : Claim7 := { stood := { row := editionSignedRow, standIns := [], harness := (true, "2d3f21e258f6fb9e304da1f3389b4c9c70d22a5b0f71edf461c644e831a43086"), looks := false }, kinds := [], alts := [], laidByText := true, laidKinds := [.data, .data, .data], laidTests := true, laidLooks := .later }
def EditionSignedCardSaid : Prop := Claim7.holds Tryd.pinned (.plain (OpenSpec.ofChange editionSignedSpec)) editionSignedCard

/-- THE TIED CARD OF 'regulatorlaw20.EditionBefore'. -/
def editionBeforeCard : Claim7 := { stood := { row := editionBeforeRow, standIns := [], harness := (true, "2d3f21e258f6fb9e304da1f3389b4c9c70d22a5b0f71edf461c644e831a43086"), looks := false }, kinds := [], alts := [], laidByText := true, laidKinds := [.data, .data, .data], laidTests := true, laidLooks := .later }
def EditionBeforeCardSaid : Prop := Claim7.holds Tryd.pinned (.plain (OpenSpec.ofChange editionBeforeSpec)) editionBeforeCard

/-- THE TIED CARD OF 'regulatorlaw20.EditionNewest'. -/
def editionNewestCard : Claim7 := { stood := { row := editionNewestRow, standIns := [], harness := (true, "2d3f21e258f6fb9e304da1f3389b4c9c70d22a5b0f71edf461c644e831a43086"), looks := false }, kinds := [], alts := [], laidByText := true, laidKinds := [.data, .data, .data], laidTests := true, laidLooks := .later }
def EditionNewestCardSaid : Prop := Claim7.holds Tryd.pinned (.plain (OpenSpec.ofChange editionNewestSpec)) editionNewestCard

/-- THE TIED CARD OF 'regulatorlaw20.EditionDiffers'. -/
def editionDiffersCard : Claim7 := { stood := { row := editionDiffersRow, standIns := [], harness := (true, "2d3f21e258f6fb9e304da1f3389b4c9c70d22a5b0f71edf461c644e831a43086"), looks := false }, kinds := [], alts := [], laidByText := true, laidKinds := [.data, .data, .data], laidTests := true, laidLooks := .later }
def EditionDiffersCardSaid : Prop := Claim7.holds Tryd.pinned (.plain (OpenSpec.ofChange editionDiffersSpec)) editionDiffersCard

/-- THE TIED CARD OF 'regulatorlaw20.EditionMoves'. -/
def editionMovesCard : Claim7 := { stood := { row := editionMovesRow, standIns := [], harness := (true, "2d3f21e258f6fb9e304da1f3389b4c9c70d22a5b0f71edf461c644e831a43086"), looks := false }, kinds := [], alts := [], laidByText := true, laidKinds := [.data, .data, .data], laidTests := true, laidLooks := .later }
def EditionMovesCardSaid : Prop := Claim7.holds Tryd.pinned (.plain (OpenSpec.ofChange editionMovesSpec)) editionMovesCard

/-- THE TIED CARD OF 'regulatorlaw20.EditionFollows'. -/
def editionFollowsCard : Claim7 := { stood := { row := editionFollowsRow, standIns := [], harness := (true, "2d3f21e258f6fb9e304da1f3389b4c9c70d22a5b0f71edf461c644e831a43086"), looks := false }, kinds := [], alts := [], laidByText := true, laidKinds := [.data, .data, .data], laidTests := true, laidLooks := .later }
def EditionFollowsCardSaid : Prop := Claim7.holds Tryd.pinned (.plain (OpenSpec.ofChange editionFollowsSpec)) editionFollowsCard

/-- THE SECOND FORM's CARD OF 'regulatorlaw20.EditionMatchesReference'. -/
def editionMatchesReferenceUptoCard : Claim7 := { stood := { row := editionMatchesReferenceUptoRow, standIns := [], harness := (true, "2d3f21e258f6fb9e304da1f3389b4c9c70d22a5b0f71edf461c644e831a43086"), looks := false }, kinds := [], alts := [], laidByText := true, laidKinds := [.data, .data, .data], laidTests := true, laidLooks := .later }
def EditionMatchesReferenceUptoCardSaid : Prop := Claim7.holds Tryd.pinned (.plain (OpenSpec.upto editionMatchesReferenceSpec)) editionMatchesReferenceUptoCard

/-- THE SECOND FORM's CARD OF 'regulatorlaw20.EditionSigned'. -/
def editionSignedUptoCard : Claim7 := { stood := { row := editionSignedUptoRow, standIns := [], harness := (true, "2d3f21e258f6fb9e304da1f3389b4c9c70d22a5b0f71edf461c644e831a43086"), looks := false }, kinds := [], alts := [], laidByText := true, laidKinds := [.data, .data, .data], laidTests := true, laidLooks := .later }
def EditionSignedUptoCardSaid : Prop := Claim7.holds Tryd.pinned (.plain (OpenSpec.upto editionSignedSpec)) editionSignedUptoCard

/-- THE SECOND FORM's CARD OF 'regulatorlaw20.EditionBefore'. -/
def editionBeforeUptoCard : Claim7 := { stood := { row := editionBeforeUptoRow, standIns := [], harness := (true, "2d3f21e258f6fb9e304da1f3389b4c9c70d22a5b0f71edf461c644e831a43086"), looks := false }, kinds := [], alts := [], laidByText := true, laidKinds := [.data, .data, .data], laidTests := true, laidLooks := .later }
def EditionBeforeUptoCardSaid : Prop := Claim7.holds Tryd.pinned (.plain (OpenSpec.upto editionBeforeSpec)) editionBeforeUptoCard

/-- THE SECOND FORM's CARD OF 'regulatorlaw20.EditionNewest'. -/
def editionNewestUptoCard : Claim7 := { stood := { row := editionNewestUptoRow, standIns := [], harness := (true, "2d3f21e258f6fb9e304da1f3389b4c9c70d22a5b0f71edf461c644e831a43086"), looks := false }, kinds := [], alts := [], laidByText := true, laidKinds := [.data, .data, .data], laidTests := true, laidLooks := .later }
def EditionNewestUptoCardSaid : Prop := Claim7.holds Tryd.pinned (.plain (OpenSpec.upto editionNewestSpec)) editionNewestUptoCard

/-- THE SECOND FORM's CARD OF 'regulatorlaw20.EditionDiffers'. -/
def editionDiffersUptoCard : Claim7 := { stood := { row := editionDiffersUptoRow, standIns := [], harness := (true, "2d3f21e258f6fb9e304da1f3389b4c9c70d22a5b0f71edf461c644e831a43086"), looks := false }, kinds := [], alts := [], laidByText := true, laidKinds := [.data, .data, .data], laidTests := true, laidLooks := .later }
def EditionDiffersUptoCardSaid : Prop := Claim7.holds Tryd.pinned (.plain (OpenSpec.upto editionDiffersSpec)) editionDiffersUptoCard

/-- THE SECOND FORM's CARD OF 'regulatorlaw20.EditionMoves'. -/
def editionMovesUptoCard : Claim7 := { stood := { row := editionMovesUptoRow, standIns := [], harness := (true, "2d3f21e258f6fb9e304da1f3389b4c9c70d22a5b0f71edf461c644e831a43086"), looks := false }, kinds := [], alts := [], laidByText := true, laidKinds := [.data, .data, .data], laidTests := true, laidLooks := .later }
def EditionMovesUptoCardSaid : Prop := Claim7.holds Tryd.pinned (.plain (OpenSpec.upto editionMovesSpec)) editionMovesUptoCard

/-- THE SECOND FORM's CARD OF 'regulatorlaw20.EditionFollows'. -/
def editionFollowsUptoCard : Claim7 := { stood := { row := editionFollowsUptoRow, standIns := [], harness := (true, "2d3f21e258f6fb9e304da1f3389b4c9c70d22a5b0f71edf461c644e831a43086"), looks := false }, kinds := [], alts := [], laidByText := true, laidKinds := [.data, .data, .data], laidTests := true, laidLooks := .later }
def EditionFollowsUptoCardSaid : Prop := Claim7.holds Tryd.pinned (.plain (OpenSpec.upto editionFollowsSpec)) editionFollowsUptoCard
end Rows
end Go.Proofs.YtcohdojfbnijpaaDoor
