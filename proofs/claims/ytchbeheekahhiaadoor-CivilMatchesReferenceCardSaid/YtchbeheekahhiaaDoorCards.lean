/-
  DERIVED. GIVEN WITH THE SEED: THE CARDS: each row of YtchbeheekahhiaaDoorRows.lean that lists a variable, with what it lists TIED to the program's text (the seventh form; the later family's looks); each row that meets fmt, with fmt's text TOLD by the authors' own Lean function (tested against real Go, not proved from fmt's source: count such statements apart). THE CARD IS WHAT COUNTS. Prove the row's statement (the work); the ties are given (YtchbeheekahhiaaDoorTie.lean); close each card by the builder's one call (the guide's Derived/Test/ToyasCard.lean, 'card_holds'). Laid BY PROGRAM, IN A SANDBOX (cutbox-door.mjs). By AI agents, Wed Nov 11 2026. No macro, syntax, notation, axiom, sorry.
-/
import Derived.Test.YtchbeheekahhiaaDoorRows
import GoSem.ClaimSeven
namespace Go.Proofs.YtchbeheekahhiaaDoor
namespace Rows

/-- THE TIED CARD OF 'regulatorlaw18.CivilMatchesReference'. -/
def civilMatchesReferenceCard : Claim7 := { stood := { row := civilMatchesReferenceRow, standIns := [], harness := (true, "b095058820a96dd6f5ed5835d22c01dd6ff8f1a2cc1b03ae275c158be03ead33"), looks := false }, kinds := [], alts := [], laidByText := true, laidKinds := [.data, .data, .data, .data], laidTests := true, laidLooks := .later }
def CivilMatchesReferenceCardSaid : Prop := Claim7.holds Tryd.pinned (.plain (OpenSpec.ofChange civilMatchesReferenceSpec)) civilMatchesReferenceCard

/-- THE TIED CARD OF 'regulatorlaw18.CivilInverse'. -/
def civilInverseCard : Claim7 := { stood := { row := civilInverseRow, standIns := [], harness := (true, "b095058820a96dd6f5ed5835d22c01dd6ff8f1a2cc1b03ae275c158be03ead33"), looks := false }, kinds := [], alts := [], laidByText := true, laidKinds := [.data, .data, .data, .data], laidTests := true, laidLooks := .later }
def CivilInverseCardSaid : Prop := Claim7.holds Tryd.pinned (.plain (OpenSpec.ofChange civilInverseSpec)) civilInverseCard

/-- THE TIED CARD OF 'regulatorlaw18.CivilOrder'. -/
def civilOrderCard : Claim7 := { stood := { row := civilOrderRow, standIns := [], harness := (true, "b095058820a96dd6f5ed5835d22c01dd6ff8f1a2cc1b03ae275c158be03ead33"), looks := false }, kinds := [], alts := [], laidByText := true, laidKinds := [.data, .data, .data, .data], laidTests := true, laidLooks := .later }
def CivilOrderCardSaid : Prop := Claim7.holds Tryd.pinned (.plain (OpenSpec.ofChange civilOrderSpec)) civilOrderCard

/-- THE TIED CARD OF 'regulatorlaw18.CivilWalls'. -/
def civilWallsCard : Claim7 := { stood := { row := civilWallsRow, standIns := [], harness := (true, "b095058820a96dd6f5ed5835d22c01dd6ff8f1a2cc1b03ae275c158be03ead33"), looks := false }, kinds := [], alts := [], laidByText := true, laidKinds := [.data, .data, .data, .data], laidTests := true, laidLooks := .later }
def CivilWallsCardSaid : Prop := Claim7.holds Tryd.pinned (.plain (OpenSpec.ofChange civilWallsSpec)) civilWallsCard

/-- THE TIED CARD OF 'regulatorlaw18.CivilText'. -/
def civilTextCard : Claim7 := { stood := { row := civilTextRow, standIns := [], harness := (true, "b095058820a96dd6f5ed5835d22c01dd6ff8f1a2cc1b03ae275c158be03ead33"), looks := false }, kinds := [], alts := [], laidByText := true, laidKinds := [.data, .data, .data, .data], laidTests := true, laidLooks := .later }
def CivilTextCardSaid : Prop := Claim7.holds Tryd.pinned (.plain (OpenSpec.ofChange civilTextSpec)) civilTextCard

/-- THE TIED CARD OF 'regulatorlaw18.CivilSteps'. -/
def civilStepsCard : Claim7 := { stood := { row := civilStepsRow, standIns := [], harness := (true, "b095058820a96dd6f5ed5835d22c01dd6ff8f1a2cc1b03ae275c158be03ead33"), looks := false }, kinds := [], alts := [], laidByText := true, laidKinds := [.data, .data, .data, .data], laidTests := true, laidLooks := .later }
def CivilStepsCardSaid : Prop := Claim7.holds Tryd.pinned (.plain (OpenSpec.ofChange civilStepsSpec)) civilStepsCard

/-- THE SECOND FORM's CARD OF 'regulatorlaw18.CivilMatchesReference'. -/
def civilMatchesReferenceUptoCard : Claim7 := { stood := { row := civilMatchesReferenceUptoRow, standIns := [], harness := (true, "b095058820a96dd6f5ed5835d22c01dd6ff8f1a2cc1b03ae275c158be03ead33"), looks := false }, kinds := [], alts := [], laidByText := true, laidKinds := [.data, .data, .data, .data], laidTests := true, laidLooks := .later }
def CivilMatchesReferenceUptoCardSaid : Prop := Claim7.holds Tryd.pinned (.plain (OpenSpec.upto civilMatchesReferenceSpec)) civilMatchesReferenceUptoCard

/-- THE SECOND FORM's CARD OF 'regulatorlaw18.CivilInverse'. -/
def civilInverseUptoCard : Claim7 := { stood := { row := civilInverseUptoRow, standIns := [], harness := (true, "b095058820a96dd6f5ed5835d22c01dd6ff8f1a2cc1b03ae275c158be03ead33"), looks := false }, kinds := [], alts := [], laidByText := true, laidKinds := [.data, .data, .data, .data], laidTests := true, laidLooks := .later }
def CivilInverseUptoCardSaid : Prop := Claim7.holds Tryd.pinned (.plain (OpenSpec.upto civilInverseSpec)) civilInverseUptoCard

/-- THE SECOND FORM's CARD OF 'regulatorlaw18.CivilOrder'. -/
def civilOrderUptoCard : Claim7 := { stood := { row := civilOrderUptoRow, standIns := [], harness := (true, "b095058820a96dd6f5ed5835d22c01dd6ff8f1a2cc1b03ae275c158be03ead33"), looks := false }, kinds := [], alts := [], laidByText := true, laidKinds := [.data, .data, .data, .data], laidTests := true, laidLooks := .later }
def CivilOrderUptoCardSaid : Prop := Claim7.holds Tryd.pinned (.plain (OpenSpec.upto civilOrderSpec)) civilOrderUptoCard

/-- THE SECOND FORM's CARD OF 'regulatorlaw18.CivilWalls'. -/
def civilWallsUptoCard : Claim7 := { stood := { row := civilWallsUptoRow, standIns := [], harness := (true, "b095058820a96dd6f5ed5835d22c01dd6ff8f1a2cc1b03ae275c158be03ead33"), looks := false }, kinds := [], alts := [], laidByText := true, laidKinds := [.data, .data, .data, .data], laidTests := true, laidLooks := .later }
def CivilWallsUptoCardSaid : Prop := Claim7.holds Tryd.pinned (.plain (OpenSpec.upto civilWallsSpec)) civilWallsUptoCard

/-- THE SECOND FORM's CARD OF 'regulatorlaw18.CivilText'. -/
def civilTextUptoCard : Claim7 := { stood := { row := civilTextUptoRow, standIns := [], harness := (true, "b095058820a96dd6f5ed5835d22c01dd6ff8f1a2cc1b03ae275c158be03ead33"), looks := false }, kinds := [], alts := [], laidByText := true, laidKinds := [.data, .data, .data, .data], laidTests := true, laidLooks := .later }
def CivilTextUptoCardSaid : Prop := Claim7.holds Tryd.pinned (.plain (OpenSpec.upto civilTextSpec)) civilTextUptoCard

/-- THE SECOND FORM's CARD OF 'regulatorlaw18.CivilSteps'. -/
def civilStepsUptoCard : Claim7 := { stood := { row := civilStepsUptoRow, standIns := [], harness := (true, "b095058820a96dd6f5ed5835d22c01dd6ff8f1a2cc1b03ae275c158be03ead33"), looks := false }, kinds := [], alts := [], laidByText := true, laidKinds := [.data, .data, .data, .data], laidTests := true, laidLooks := .later }
def CivilStepsUptoCardSaid : Prop := Claim7.holds Tryd.pinned (.plain (OpenSpec.upto civilStepsSpec)) civilStepsUptoCard
end Rows
end Go.Proofs.YtchbeheekahhiaaDoor
