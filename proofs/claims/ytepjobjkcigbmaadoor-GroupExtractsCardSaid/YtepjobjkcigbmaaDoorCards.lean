/-
  DERIVED. GIVEN WITH THE SEED: THE CARDS: each row of YtepjobjkcigbmaaDoorRows.lean that lists a variable, with what it lists TIED to the program's text (the seventh form; the later family's looks); each row that meets fmt, with fmt's text TOLD by the authors' own Lean function (tested against real Go, not proved from fmt's source: count such statements apart). THE CARD IS WHAT COUNTS. Prove the row's statement (the work); the ties are given (YtepjobjkcigbmaaDoorTie.lean); close each card by the builder's one call (the guide's Derived/Test/ToyasCard.lean, 'card_holds'). Laid BY PROGRAM, IN A SANDBOX (cutbox-door.mjs). By AI agents, Wed Nov 11 2026. No macro, syntax, notation, axiom, sorry.
-/
import Derived.Test.YtepjobjkcigbmaaDoorRows
import GoSem.ClaimSeven
namespace Go.Proofs.YtepjobjkcigbmaaDoor
namespace Rows

/-- THE TIED CARD OF 'regulatorlaw06.GroupMatchesReference'. -/
def groupMatchesReferenceCard : Claim7 := { stood := { row := groupMatchesReferenceRow, standIns := [], harness := (true, "6780ad1c8a1a25f3060009e84715eaa905948fa03c591b300c891d2f1ff6f83c"), looks := false }, kinds := [], alts := [], laidByText := true, laidKinds := [.data, .data, .data], laidTests := true, laidLooks := .later }
def GroupMatchesReferenceCardSaid : Prop := Claim7.holds Tryd.pinned (.plain (OpenSpec.ofChange groupMatchesReferenceSpec)) groupMatchesReferenceCard

/-- THE TIED CARD OF 'regulatorlaw06.GroupPowers'. -/
def groupPowersCard : Claim7 := { stood := { row := groupPowersRow, standIns := [], harness := (true, "6780ad1c8a1a25f3060009e84715eaa905948fa03c591b300c891d2f1ff6f83c"), looks := false }, kinds := [], alts := [], laidByText := true, laidKinds := [.data, .data, .data], laidTests := true, laidLooks := .later }
def GroupPowersCardSaid : Prop := Claim7.holds Tryd.pinned (.plain (OpenSpec.ofChange groupPowersSpec)) groupPowersCard

/-- THE TIED CARD OF 'regulatorlaw06.GroupOrder'. -/
def groupOrderCard : Claim7 := { stood := { row := groupOrderRow, standIns := [], harness := (true, "6780ad1c8a1a25f3060009e84715eaa905948fa03c591b300c891d2f1ff6f83c"), looks := false }, kinds := [], alts := [], laidByText := true, laidKinds := [.data, .data, .data], laidTests := true, laidLooks := .later }
def GroupOrderCardSaid : Prop := Claim7.holds Tryd.pinned (.plain (OpenSpec.ofChange groupOrderSpec)) groupOrderCard

/-- THE TIED CARD OF 'regulatorlaw06.GroupSigns'. -/
def groupSignsCard : Claim7 := { stood := { row := groupSignsRow, standIns := [], harness := (true, "6780ad1c8a1a25f3060009e84715eaa905948fa03c591b300c891d2f1ff6f83c"), looks := false }, kinds := [], alts := [], laidByText := true, laidKinds := [.data, .data, .data], laidTests := true, laidLooks := .later }
def GroupSignsCardSaid : Prop := Claim7.holds Tryd.pinned (.plain (OpenSpec.ofChange groupSignsSpec)) groupSignsCard

/-- THE TIED CARD OF 'regulatorlaw06.GroupMessages'. -/
def groupMessagesCard : Claim7 := { stood := { row := groupMessagesRow, standIns := [], harness := (true, "6780ad1c8a1a25f3060009e84715eaa905948fa03c591b300c891d2f1ff6f83c"), looks := false }, kinds := [], alts := [], laidByText := true, laidKinds := [.data, .data, .data], laidTests := true, laidLooks := .later }
def GroupMessagesCardSaid : Prop := Claim7.holds Tryd.pinned (.plain (OpenSpec.ofChange groupMessagesSpec)) groupMessagesCard

/-- THE TIED CARD OF 'regulatorlaw06.GroupExtracts'. -/
def groupExtractsCard : Claim7 := { stood := { row := groupExtractsRow, standIns := [], harness := (true, "6780ad1c8a1a25f3060009e84715eaa905948fa03c591b300c891d2f1ff6f83c"), looks := false }, kinds := [], alts := [], laidByText := true, laidKinds := [.data, .data, .data], laidTests := true, laidLooks := .later }
def GroupExtractsCardSaid : Prop := Claim7.holds Tryd.pinned (.plain (OpenSpec.ofChange groupExtractsSpec)) groupExtractsCard

/-- THE SECOND FORM's CARD OF 'regulatorlaw06.GroupMatchesReference'. -/
def groupMatchesReferenceUptoCard : Claim7 := { stood := { row := groupMatchesReferenceUptoRow, standIns := [], harness := (true, "6780ad1c8a1a25f3060009e84715eaa905948fa03c591b300c891d2f1ff6f83c"), looks := false }, kinds := [], alts := [], laidByText := true, laidKinds := [.data, .data, .data], laidTests := true, laidLooks := .later }
def GroupMatchesReferenceUptoCardSaid : Prop := Claim7.holds Tryd.pinned (.plain (OpenSpec.upto groupMatchesReferenceSpec)) groupMatchesReferenceUptoCard

/-- THE SECOND FORM's CARD OF 'regulatorlaw06.GroupPowers'. -/
def groupPowersUptoCard : Claim7 := { stood := { row := groupPowersUptoRow, standIns := [], harness := (true, "6780ad1c8a1a25f3060009e84715eaa905948fa03c591b300c891d2f1ff6f83c"), looks := false }, kinds := [], alts := [], laidByText := true, laidKinds := [.data, .data, .data], laidTests := true, laidLooks := .later }
def GroupPowersUptoCardSaid : Prop := Claim7.holds Tryd.pinned (.plain (OpenSpec.upto groupPowersSpec)) groupPowersUptoCard

/-- THE SECOND FORM's CARD OF 'regulatorlaw06.GroupOrder'. -/
def groupOrderUptoCard : Claim7 := { stood := { row := groupOrderUptoRow, standIns := [], harness := (true, "6780ad1c8a1a25f3060009e84715eaa905948fa03c591b300c891d2f1ff6f83c"), looks := false }, kinds := [], alts := [], laidByText := true, laidKinds := [.data, .data, .data], laidTests := true, laidLooks := .later }
def GroupOrderUptoCardSaid : Prop := Claim7.holds Tryd.pinned (.plain (OpenSpec.upto groupOrderSpec)) groupOrderUptoCard

/-- THE SECOND FORM's CARD OF 'regulatorlaw06.GroupSigns'. -/
def groupSignsUptoCard : Claim7 := { stood := { row := groupSignsUptoRow, standIns := [], harness := (true, "6780ad1c8a1a25f3060009e84715eaa905948fa03c591b300c891d2f1ff6f83c"), looks := false }, kinds := [], alts := [], laidByText := true, laidKinds := [.data, .data, .data], laidTests := true, laidLooks := .later }
def GroupSignsUptoCardSaid : Prop := Claim7.holds Tryd.pinned (.plain (OpenSpec.upto groupSignsSpec)) groupSignsUptoCard

/-- THE SECOND FORM's CARD OF 'regulatorlaw06.GroupMessages'. -/
def groupMessagesUptoCard : Claim7 := { stood := { row := groupMessagesUptoRow, standIns := [], harness := (true, "6780ad1c8a1a25f3060009e84715eaa905948fa03c591b300c891d2f1ff6f83c"), looks := false }, kinds := [], alts := [], laidByText := true, laidKinds := [.data, .data, .data], laidTests := true, laidLooks := .later }
def GroupMessagesUptoCardSaid : Prop := Claim7.holds Tryd.pinned (.plain (OpenSpec.upto groupMessagesSpec)) groupMessagesUptoCard

/-- THE SECOND FORM's CARD OF 'regulatorlaw06.GroupExtracts'. -/
def groupExtractsUptoCard : Claim7 := { stood := { row := groupExtractsUptoRow, standIns := [], harness := (true, "6780ad1c8a1a25f3060009e84715eaa905948fa03c591b300c891d2f1ff6f83c"), looks := false }, kinds := [], alts := [], laidByText := true, laidKinds := [.data, .data, .data], laidTests := true, laidLooks := .later }
def GroupExtractsUptoCardSaid : Prop := Claim7.holds Tryd.pinned (.plain (OpenSpec.upto groupExtractsSpec)) groupExtractsUptoCard
end Rows
end Go.Proofs.YtepjobjkcigbmaaDoor
