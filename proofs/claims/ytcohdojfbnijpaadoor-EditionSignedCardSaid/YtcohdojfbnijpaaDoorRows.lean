/-
  NARROWER THAN 'FOR EVERY INPUT', by the rows' own cells (each row's printed sentence says how): EditionMatchesReference: laid · EditionSigned: laid · EditionBefore: laid · EditionNewest: laid · EditionDiffers: laid · EditionMoves: laid · EditionFollows: laid.
  DERIVED. THE GIVEN ROWS OF THIS SEAT. 7 by the template 'for every input the law returns true; each argument reads behind the call as it read before'; 0 by the template 'total and deterministic' (their statements: YtcohdojfbnijpaaDoorTotals.lean).
  GIVEN WITH THE SEED: the statements are not yours to turn. If you find one false, say at which input.
  Laid BY PROGRAM, IN A SANDBOX (cutbox-rows.mjs): the forced cells as the released guide's own fill.sh prints them over the translation 2dadf22bd3a64cf1… (all of the seat's roots in one cut). By AI agents, Wed Nov 11 2026. No macro, syntax, notation, axiom, sorry.
-/
import Derived.Test.YtcohdojfbnijpaaDoorChecked
import GoSem.Claim
import GoSem.ClaimJoined
import GoSem.ClaimMapViews
import Derived.JoinedTies
import Derived.KernelRfl
namespace Go.Proofs.YtcohdojfbnijpaaDoor
/- THE CELL 'sum', in the pinned program and in every row, IS THE sha256 OF THE DUMP (.gsa) THAT YtcohdojfbnijpaaDoorProg.lean LOADS. Nothing in Lean hashes anything: it is a label: what it is worth is what the hold of that sum in a sandbox is worth. -/
noncomputable def Tryd.pinned : Pinned := { name := "ytcohdojfbnijpaadoor", sum := "2dadf22bd3a64cf10acfba4b9d20bcb0daa15994689eec612b37b116b9d3f8d0", checked := Tryd.checked }
namespace Rows
def none {H : Type} : Left H := { results := [], args := [] }

/- WHAT THE LISTED PACKAGE-LEVEL VARIABLES READ AS WHEN THE CALL BEGINS. Each datum BY PROGRAM (the guide's laid-datum.mjs) off the statement by which the dump's own 'gosem.cut.vars' lays the variable. In a bare row this is a premise. The card (YtcohdojfbnijpaaDoorCards.lean) ties it to the program's text. -/
def laid_math_bits_deBruijn32tab {H : Type} : DataW H := .agg [.lit (.int .u8 0), .lit (.int .u8 1), .lit (.int .u8 28), .lit (.int .u8 2), .lit (.int .u8 29), .lit (.int .u8 14), .lit (.int .u8 24), .lit (.int .u8 3), .lit (.int .u8 30), .lit (.int .u8 22), .lit (.int .u8 20), .lit (.int .u8 15), .lit (.int .u8 25), .lit (.int .u8 17), .lit (.int .u8 4), .lit (.int .u8 8), .lit (.int .u8 31), .lit (.int .u8 27), .lit (.int .u8 13), .lit (.int .u8 23), .lit (.int .u8 21), .lit (.int .u8 19), .lit (.int .u8 16), .lit (.int .u8 7), .lit (.int .u8 26), .lit (.int .u8 12), .lit (.int .u8 18), .lit (.int .u8 6), .lit (.int .u8 11), .lit (.int .u8 5), .lit (.int .u8 10), .lit (.int .u8 9)]
def laid_math_bits_deBruijn64tab {H : Type} : DataW H := .agg [.lit (.int .u8 0), .lit (.int .u8 1), .lit (.int .u8 56), .lit (.int .u8 2), .lit (.int .u8 57), .lit (.int .u8 49), .lit (.int .u8 28), .lit (.int .u8 3), .lit (.int .u8 61), .lit (.int .u8 58), .lit (.int .u8 42), .lit (.int .u8 50), .lit (.int .u8 38), .lit (.int .u8 29), .lit (.int .u8 17), .lit (.int .u8 4), .lit (.int .u8 62), .lit (.int .u8 47), .lit (.int .u8 59), .lit (.int .u8 36), .lit (.int .u8 45), .lit (.int .u8 43), .lit (.int .u8 51), .lit (.int .u8 22), .lit (.int .u8 53), .lit (.int .u8 39), .lit (.int .u8 33), .lit (.int .u8 30), .lit (.int .u8 24), .lit (.int .u8 18), .lit (.int .u8 12), .lit (.int .u8 5), .lit (.int .u8 63), .lit (.int .u8 55), .lit (.int .u8 48), .lit (.int .u8 27), .lit (.int .u8 60), .lit (.int .u8 41), .lit (.int .u8 37), .lit (.int .u8 16), .lit (.int .u8 46), .lit (.int .u8 35), .lit (.int .u8 44), .lit (.int .u8 21), .lit (.int .u8 52), .lit (.int .u8 32), .lit (.int .u8 23), .lit (.int .u8 11), .lit (.int .u8 54), .lit (.int .u8 26), .lit (.int .u8 40), .lit (.int .u8 15), .lit (.int .u8 34), .lit (.int .u8 20), .lit (.int .u8 31), .lit (.int .u8 10), .lit (.int .u8 25), .lit (.int .u8 14), .lit (.int .u8 19), .lit (.int .u8 9), .lit (.int .u8 13), .lit (.int .u8 8), .lit (.int .u8 7), .lit (.int .u8 6)]
def laid_internal_strconv_uint64pow10 {H : Type} : DataW H := .agg [.lit (.int .u64 1), .lit (.int .u64 10), .lit (.int .u64 100), .lit (.int .u64 1000), .lit (.int .u64 10000), .lit (.int .u64 100000), .lit (.int .u64 1000000), .lit (.int .u64 10000000), .lit (.int .u64 100000000), .lit (.int .u64 1000000000), .lit (.int .u64 10000000000), .lit (.int .u64 100000000000), .lit (.int .u64 1000000000000), .lit (.int .u64 10000000000000), .lit (.int .u64 100000000000000), .lit (.int .u64 1000000000000000), .lit (.int .u64 10000000000000000), .lit (.int .u64 100000000000000000), .lit (.int .u64 1000000000000000000), .lit (.int .u64 10000000000000000000)]

/-- 'regulatorlaw20.EditionMatchesReference': WHATEVER THE INPUT: true; the input reads as it did. -/
def editionMatchesReferenceSpec : ChangeSpec := { name := "editionMatchesReference", fn := fun _ => fun
  | [d1, d2, d3, d4, d5, d6, d7, d8] => { results := [.lit (.bool true)], args := [d1, d2, d3, d4, d5, d6, d7, d8] }
  | _ => none }
def editionMatchesReferenceRow : OpenClaim := { program := "ytcohdojfbnijpaadoor", sum := "2dadf22bd3a64cf10acfba4b9d20bcb0daa15994689eec612b37b116b9d3f8d0", func := "regulator/regulatorlaw20.EditionMatchesReference", spec := "editionMatchesReference", unfollowed := true, recurses := true, named := ["internal/strconv.uint64pow10", "math/bits.deBruijn32tab", "math/bits.deBruijn64tab"], apart := false, laid := [("math/bits.deBruijn32tab", laid_math_bits_deBruijn32tab), ("math/bits.deBruijn64tab", laid_math_bits_deBruijn64tab), ("internal/strconv.uint64pow10", laid_internal_strconv_uint64pow10)] }
def EditionMatchesReferenceSaid : Prop := editionMatchesReferenceRow.holds Tryd.pinned (OpenSpec.ofChange editionMatchesReferenceSpec)

/-- ITS FALSE NEIGHBOUR: 'it returns false'. Refute it at one input. -/
def editionMatchesReferenceWrong : ChangeSpec := { name := "editionMatchesReference", fn := fun _ => fun
  | [d1, d2, d3, d4, d5, d6, d7, d8] => { results := [.lit (.bool false)], args := [d1, d2, d3, d4, d5, d6, d7, d8] }
  | _ => none }
def EditionMatchesReferenceWrongFalsely : Prop := editionMatchesReferenceRow.holds Tryd.pinned (OpenSpec.ofChange editionMatchesReferenceWrong)

/-- 'regulatorlaw20.EditionSigned': WHATEVER THE INPUT: true; the input reads as it did. -/
def editionSignedSpec : ChangeSpec := { name := "editionSigned", fn := fun _ => fun
  | [d1, d2, d3, d4, d5] => { results := [.lit (.bool true)], args := [d1, d2, d3, d4, d5] }
  | _ => none }
def editionSignedRow : OpenClaim := { program := "ytcohdojfbnijpaadoor", sum := "2dadf22bd3a64cf10acfba4b9d20bcb0daa15994689eec612b37b116b9d3f8d0", func := "regulator/regulatorlaw20.EditionSigned", spec := "editionSigned", unfollowed := true, recurses := true, named := ["internal/strconv.uint64pow10", "math/bits.deBruijn32tab", "math/bits.deBruijn64tab"], apart := false, laid := [("math/bits.deBruijn32tab", laid_math_bits_deBruijn32tab), ("math/bits.deBruijn64tab", laid_math_bits_deBruijn64tab), ("internal/strconv.uint64pow10", laid_internal_strconv_uint64pow10)] }
def EditionSignedSaid : Prop := editionSignedRow.holds Tryd.pinned (OpenSpec.ofChange editionSignedSpec)

/-- ITS FALSE NEIGHBOUR: 'it returns false'. Refute it at one input. -/
def editionSignedWrong : ChangeSpec := { name := "editionSigned", fn := fun _ => fun
  | [d1, d2, d3, d4, d5] => { results := [.lit (.bool false)], args := [d1, d2, d3, d4, d5] }
  | _ => none }
def EditionSignedWrongFalsely : Prop := editionSignedRow.holds Tryd.pinned (OpenSpec.ofChange editionSignedWrong)

/-- 'regulatorlaw20.EditionBefore': WHATEVER THE INPUT: true; the input reads as it did. -/
def editionBeforeSpec : ChangeSpec := { name := "editionBefore", fn := fun _ => fun
  | [d1, d2] => { results := [.lit (.bool true)], args := [d1, d2] }
  | _ => none }
def editionBeforeRow : OpenClaim := { program := "ytcohdojfbnijpaadoor", sum := "2dadf22bd3a64cf10acfba4b9d20bcb0daa15994689eec612b37b116b9d3f8d0", func := "regulator/regulatorlaw20.EditionBefore", spec := "editionBefore", unfollowed := true, recurses := true, named := ["internal/strconv.uint64pow10", "math/bits.deBruijn32tab", "math/bits.deBruijn64tab"], apart := false, laid := [("math/bits.deBruijn32tab", laid_math_bits_deBruijn32tab), ("math/bits.deBruijn64tab", laid_math_bits_deBruijn64tab), ("internal/strconv.uint64pow10", laid_internal_strconv_uint64pow10)] }
def EditionBeforeSaid : Prop := editionBeforeRow.holds Tryd.pinned (OpenSpec.ofChange editionBeforeSpec)

/-- ITS FALSE NEIGHBOUR: 'it returns false'. Refute it at one input. -/
def editionBeforeWrong : ChangeSpec := { name := "editionBefore", fn := fun _ => fun
  | [d1, d2] => { results := [.lit (.bool false)], args := [d1, d2] }
  | _ => none }
def EditionBeforeWrongFalsely : Prop := editionBeforeRow.holds Tryd.pinned (OpenSpec.ofChange editionBeforeWrong)

/-- 'regulatorlaw20.EditionNewest': WHATEVER THE INPUT: true; the input reads as it did. -/
def editionNewestSpec : ChangeSpec := { name := "editionNewest", fn := fun _ => fun
  | [d1, d2] => { results := [.lit (.bool true)], args := [d1, d2] }
  | _ => none }
def editionNewestRow : OpenClaim := { program := "ytcohdojfbnijpaadoor", sum := "2dadf22bd3a64cf10acfba4b9d20bcb0daa15994689eec612b37b116b9d3f8d0", func := "regulator/regulatorlaw20.EditionNewest", spec := "editionNewest", unfollowed := true, recurses := true, named := ["internal/strconv.uint64pow10", "math/bits.deBruijn32tab", "math/bits.deBruijn64tab"], apart := false, laid := [("math/bits.deBruijn32tab", laid_math_bits_deBruijn32tab), ("math/bits.deBruijn64tab", laid_math_bits_deBruijn64tab), ("internal/strconv.uint64pow10", laid_internal_strconv_uint64pow10)] }
def EditionNewestSaid : Prop := editionNewestRow.holds Tryd.pinned (OpenSpec.ofChange editionNewestSpec)

/-- ITS FALSE NEIGHBOUR: 'it returns false'. Refute it at one input. -/
def editionNewestWrong : ChangeSpec := { name := "editionNewest", fn := fun _ => fun
  | [d1, d2] => { results := [.lit (.bool false)], args := [d1, d2] }
  | _ => none }
def EditionNewestWrongFalsely : Prop := editionNewestRow.holds Tryd.pinned (OpenSpec.ofChange editionNewestWrong)

/-- 'regulatorlaw20.EditionDiffers': WHATEVER THE INPUT: true; the input reads as it did. -/
def editionDiffersSpec : ChangeSpec := { name := "editionDiffers", fn := fun _ => fun
  | [d1, d2, d3] => { results := [.lit (.bool true)], args := [d1, d2, d3] }
  | _ => none }
def editionDiffersRow : OpenClaim := { program := "ytcohdojfbnijpaadoor", sum := "2dadf22bd3a64cf10acfba4b9d20bcb0daa15994689eec612b37b116b9d3f8d0", func := "regulator/regulatorlaw20.EditionDiffers", spec := "editionDiffers", unfollowed := true, recurses := true, named := ["internal/strconv.uint64pow10", "math/bits.deBruijn32tab", "math/bits.deBruijn64tab"], apart := false, laid := [("math/bits.deBruijn32tab", laid_math_bits_deBruijn32tab), ("math/bits.deBruijn64tab", laid_math_bits_deBruijn64tab), ("internal/strconv.uint64pow10", laid_internal_strconv_uint64pow10)] }
def EditionDiffersSaid : Prop := editionDiffersRow.holds Tryd.pinned (OpenSpec.ofChange editionDiffersSpec)

/-- ITS FALSE NEIGHBOUR: 'it returns false'. Refute it at one input. -/
def editionDiffersWrong : ChangeSpec := { name := "editionDiffers", fn := fun _ => fun
  | [d1, d2, d3] => { results := [.lit (.bool false)], args := [d1, d2, d3] }
  | _ => none }
def EditionDiffersWrongFalsely : Prop := editionDiffersRow.holds Tryd.pinned (OpenSpec.ofChange editionDiffersWrong)

/-- 'regulatorlaw20.EditionMoves': WHATEVER THE INPUT: true; the input reads as it did. -/
def editionMovesSpec : ChangeSpec := { name := "editionMoves", fn := fun _ => fun
  | [d1, d2, d3] => { results := [.lit (.bool true)], args := [d1, d2, d3] }
  | _ => none }
def editionMovesRow : OpenClaim := { program := "ytcohdojfbnijpaadoor", sum := "2dadf22bd3a64cf10acfba4b9d20bcb0daa15994689eec612b37b116b9d3f8d0", func := "regulator/regulatorlaw20.EditionMoves", spec := "editionMoves", unfollowed := true, recurses := true, named := ["internal/strconv.uint64pow10", "math/bits.deBruijn32tab", "math/bits.deBruijn64tab"], apart := false, laid := [("math/bits.deBruijn32tab", laid_math_bits_deBruijn32tab), ("math/bits.deBruijn64tab", laid_math_bits_deBruijn64tab), ("internal/strconv.uint64pow10", laid_internal_strconv_uint64pow10)] }
def EditionMovesSaid : Prop := editionMovesRow.holds Tryd.pinned (OpenSpec.ofChange editionMovesSpec)

/-- ITS FALSE NEIGHBOUR: 'it returns false'. Refute it at one input. -/
def editionMovesWrong : ChangeSpec := { name := "editionMoves", fn := fun _ => fun
  | [d1, d2, d3] => { results := [.lit (.bool false)], args := [d1, d2, d3] }
  | _ => none }
def EditionMovesWrongFalsely : Prop := editionMovesRow.holds Tryd.pinned (OpenSpec.ofChange editionMovesWrong)

/-- 'regulatorlaw20.EditionFollows': WHATEVER THE INPUT: true; the input reads as it did. -/
def editionFollowsSpec : ChangeSpec := { name := "editionFollows", fn := fun _ => fun
  | [d1, d2, d3] => { results := [.lit (.bool true)], args := [d1, d2, d3] }
  | _ => none }
def editionFollowsRow : OpenClaim := { program := "ytcohdojfbnijpaadoor", sum := "2dadf22bd3a64cf10acfba4b9d20bcb0daa15994689eec612b37b116b9d3f8d0", func := "regulator/regulatorlaw20.EditionFollows", spec := "editionFollows", unfollowed := true, recurses := true, named := ["internal/strconv.uint64pow10", "math/bits.deBruijn32tab", "math/bits.deBruijn64tab"], apart := false, laid := [("math/bits.deBruijn32tab", laid_math_bits_deBruijn32tab), ("math/bits.deBruijn64tab", laid_math_bits_deBruijn64tab), ("internal/strconv.uint64pow10", laid_internal_strconv_uint64pow10)] }
def EditionFollowsSaid : Prop := editionFollowsRow.holds Tryd.pinned (OpenSpec.ofChange editionFollowsSpec)

/-- ITS FALSE NEIGHBOUR: 'it returns false'. Refute it at one input. -/
def editionFollowsWrong : ChangeSpec := { name := "editionFollows", fn := fun _ => fun
  | [d1, d2, d3] => { results := [.lit (.bool false)], args := [d1, d2, d3] }
  | _ => none }
def EditionFollowsWrongFalsely : Prop := editionFollowsRow.holds Tryd.pinned (OpenSpec.ofChange editionFollowsWrong)

/- THE SECOND FORM. 'bulk': how many values and letters a reading holds, each counted each time it is reached (what is shared counts as often as it is met; a slice's spare places count too). A statement '..UptoSaid' is the law's where the arguments, and the package variables that the reading takes, are together of bulk at most 1048576: NARROWER than '..Said'. Prove '..Said' where nothing that the law and all that it calls make is longer than what came in: it says more and counts as full. Else prove '..UptoSaid'. A law counts once. -/
mutual
def uptoBulk {H : Type} : DataW H → Nat
  | .lit (.string bytes) => bytes.length + 1
  | .lit _ => 1
  | .nil => 1
  | .ptr d => uptoBulk d + 1
  | .slice elems spare => uptoBulkAll elems + uptoBulkAll spare + 1
  | .agg parts => uptoBulkAll parts + 1
  | .iface _ d => uptoBulk d + 1
  | .map entries => uptoBulkEntries entries + 1
  | .held _ => 1
def uptoBulkAll {H : Type} : List (DataW H) → Nat
  | [] => 0
  | d :: r => uptoBulk d + uptoBulkAll r
def uptoBulkEntries {H : Type} : List (Lit × DataW H) → Nat
  | [] => 0
  | x :: r => uptoBulkEntry x + uptoBulkEntries r
def uptoBulkEntry {H : Type} : Lit × DataW H → Nat
  | (.string bytes, d) => bytes.length + uptoBulk d + 1
  | (_, d) => uptoBulk d + 1
 end
def uptoSmall : (H : Type) → List (DataW H) → Bool := fun _ ds => decide (uptoBulkAll ds ≤ 1048576)
def OpenSpec.upto (s : _root_.Go.ChangeSpec) : _root_.Go.OpenSpec := { _root_.Go.OpenSpec.ofChange s with cond := some uptoSmall }

/-- 'regulatorlaw20.EditionMatchesReference', WHERE WHAT IT READS IS OF BULK AT MOST 1048576: true; the input reads as it did. -/
def editionMatchesReferenceUptoRow : OpenClaim := { program := "ytcohdojfbnijpaadoor", sum := "2dadf22bd3a64cf10acfba4b9d20bcb0daa15994689eec612b37b116b9d3f8d0", func := "regulator/regulatorlaw20.EditionMatchesReference", spec := "editionMatchesReference", unfollowed := true, recurses := true, named := ["internal/strconv.uint64pow10", "math/bits.deBruijn32tab", "math/bits.deBruijn64tab"], apart := false, laid := [("math/bits.deBruijn32tab", laid_math_bits_deBruijn32tab), ("math/bits.deBruijn64tab", laid_math_bits_deBruijn64tab), ("internal/strconv.uint64pow10", laid_internal_strconv_uint64pow10)], narrowed := true }
def EditionMatchesReferenceUptoSaid : Prop := editionMatchesReferenceUptoRow.holds Tryd.pinned (OpenSpec.upto editionMatchesReferenceSpec)

/-- 'regulatorlaw20.EditionSigned', WHERE WHAT IT READS IS OF BULK AT MOST 1048576: true; the input reads as it did. -/
def editionSignedUptoRow : OpenClaim := { program := "ytcohdojfbnijpaadoor", sum := "2dadf22bd3a64cf10acfba4b9d20bcb0daa15994689eec612b37b116b9d3f8d0", func := "regulator/regulatorlaw20.EditionSigned", spec := "editionSigned", unfollowed := true, recurses := true, named := ["internal/strconv.uint64pow10", "math/bits.deBruijn32tab", "math/bits.deBruijn64tab"], apart := false, laid := [("math/bits.deBruijn32tab", laid_math_bits_deBruijn32tab), ("math/bits.deBruijn64tab", laid_math_bits_deBruijn64tab), ("internal/strconv.uint64pow10", laid_internal_strconv_uint64pow10)], narrowed := true }
def EditionSignedUptoSaid : Prop := editionSignedUptoRow.holds Tryd.pinned (OpenSpec.upto editionSignedSpec)

/-- 'regulatorlaw20.EditionBefore', WHERE WHAT IT READS IS OF BULK AT MOST 1048576: true; the input reads as it did. -/
def editionBeforeUptoRow : OpenClaim := { program := "ytcohdojfbnijpaadoor", sum := "2dadf22bd3a64cf10acfba4b9d20bcb0daa15994689eec612b37b116b9d3f8d0", func := "regulator/regulatorlaw20.EditionBefore", spec := "editionBefore", unfollowed := true, recurses := true, named := ["internal/strconv.uint64pow10", "math/bits.deBruijn32tab", "math/bits.deBruijn64tab"], apart := false, laid := [("math/bits.deBruijn32tab", laid_math_bits_deBruijn32tab), ("math/bits.deBruijn64tab", laid_math_bits_deBruijn64tab), ("internal/strconv.uint64pow10", laid_internal_strconv_uint64pow10)], narrowed := true }
def EditionBeforeUptoSaid : Prop := editionBeforeUptoRow.holds Tryd.pinned (OpenSpec.upto editionBeforeSpec)

/-- 'regulatorlaw20.EditionNewest', WHERE WHAT IT READS IS OF BULK AT MOST 1048576: true; the input reads as it did. -/
def editionNewestUptoRow : OpenClaim := { program := "ytcohdojfbnijpaadoor", sum := "2dadf22bd3a64cf10acfba4b9d20bcb0daa15994689eec612b37b116b9d3f8d0", func := "regulator/regulatorlaw20.EditionNewest", spec := "editionNewest", unfollowed := true, recurses := true, named := ["internal/strconv.uint64pow10", "math/bits.deBruijn32tab", "math/bits.deBruijn64tab"], apart := false, laid := [("math/bits.deBruijn32tab", laid_math_bits_deBruijn32tab), ("math/bits.deBruijn64tab", laid_math_bits_deBruijn64tab), ("internal/strconv.uint64pow10", laid_internal_strconv_uint64pow10)], narrowed := true }
def EditionNewestUptoSaid : Prop := editionNewestUptoRow.holds Tryd.pinned (OpenSpec.upto editionNewestSpec)

/-- 'regulatorlaw20.EditionDiffers', WHERE WHAT IT READS IS OF BULK AT MOST 1048576: true; the input reads as it did. -/
def editionDiffersUptoRow : OpenClaim := { program := "ytcohdojfbnijpaadoor", sum := "2dadf22bd3a64cf10acfba4b9d20bcb0daa15994689eec612b37b116b9d3f8d0", func := "regulator/regulatorlaw20.EditionDiffers", spec := "editionDiffers", unfollowed := true, recurses := true, named := ["internal/strconv.uint64pow10", "math/bits.deBruijn32tab", "math/bits.deBruijn64tab"], apart := false, laid := [("math/bits.deBruijn32tab", laid_math_bits_deBruijn32tab), ("math/bits.deBruijn64tab", laid_math_bits_deBruijn64tab), ("internal/strconv.uint64pow10", laid_internal_strconv_uint64pow10)], narrowed := true }
def EditionDiffersUptoSaid : Prop := editionDiffersUptoRow.holds Tryd.pinned (OpenSpec.upto editionDiffersSpec)

/-- 'regulatorlaw20.EditionMoves', WHERE WHAT IT READS IS OF BULK AT MOST 1048576: true; the input reads as it did. -/
def editionMovesUptoRow : OpenClaim := { program := "ytcohdojfbnijpaadoor", sum := "2dadf22bd3a64cf10acfba4b9d20bcb0daa15994689eec612b37b116b9d3f8d0", func := "regulator/regulatorlaw20.EditionMoves", spec := "editionMoves", unfollowed := true, recurses := true, named := ["internal/strconv.uint64pow10", "math/bits.deBruijn32tab", "math/bits.deBruijn64tab"], apart := false, laid := [("math/bits.deBruijn32tab", laid_math_bits_deBruijn32tab), ("math/bits.deBruijn64tab", laid_math_bits_deBruijn64tab), ("internal/strconv.uint64pow10", laid_internal_strconv_uint64pow10)], narrowed := true }
def EditionMovesUptoSaid : Prop := editionMovesUptoRow.holds Tryd.pinned (OpenSpec.upto editionMovesSpec)

/-- 'regulatorlaw20.EditionFollows', WHERE WHAT IT READS IS OF BULK AT MOST 1048576: true; the input reads as it did. -/
def editionFollowsUptoRow : OpenClaim := { program := "ytcohdojfbnijpaadoor", sum := "2dadf22bd3a64cf10acfba4b9d20bcb0daa15994689eec612b37b116b9d3f8d0", func := "regulator/regulatorlaw20.EditionFollows", spec := "editionFollows", unfollowed := true, recurses := true, named := ["internal/strconv.uint64pow10", "math/bits.deBruijn32tab", "math/bits.deBruijn64tab"], apart := false, laid := [("math/bits.deBruijn32tab", laid_math_bits_deBruijn32tab), ("math/bits.deBruijn64tab", laid_math_bits_deBruijn64tab), ("internal/strconv.uint64pow10", laid_internal_strconv_uint64pow10)], narrowed := true }
def EditionFollowsUptoSaid : Prop := editionFollowsUptoRow.holds Tryd.pinned (OpenSpec.upto editionFollowsSpec)

end Rows
end Go.Proofs.YtcohdojfbnijpaaDoor
