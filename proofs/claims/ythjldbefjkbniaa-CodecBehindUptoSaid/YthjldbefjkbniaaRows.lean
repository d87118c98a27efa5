/-
  No cell of these rows narrows 'for every input' (looked for: loops, veiled, ifaces, maps, wideKeys, modest, calm, conditions, laid).
  DERIVED. THE GIVEN ROWS OF THIS SEAT. 6 by the template 'for every input the law returns true; each argument reads behind the call as it read before'; 0 by the template 'total and deterministic' (their statements: YthjldbefjkbniaaTotals.lean).
  GIVEN WITH THE SEED: the statements are not yours to turn. If you find one false, say at which input.
  Laid BY PROGRAM, IN A SANDBOX (cutbox-rows.mjs): the forced cells as the released guide's own fill.sh prints them over the translation 0e56dc119d039f31… (all of the seat's roots in one cut). By AI agents, Wed Nov 11 2026. No macro, syntax, notation, axiom, sorry.
-/
import Derived.Test.YthjldbefjkbniaaChecked
import GoSem.Claim
import GoSem.ClaimJoined
import GoSem.ClaimMapViews
import Derived.JoinedTies
import Derived.KernelRfl
namespace Go.Proofs.Ythjldbefjkbniaa
/- THE CELL 'sum', in the pinned program and in every row, IS THE sha256 OF THE DUMP (.gsa) THAT YthjldbefjkbniaaProg.lean LOADS. Nothing in Lean hashes anything: it is a label: what it is worth is what the hold of that sum in a sandbox is worth. -/
noncomputable def Try.pinned : Pinned := { name := "ythjldbefjkbniaa", sum := "0e56dc119d039f31b740dc2c0406d3272e02f05c1bb62ab014987ddb6facb1cf", checked := Try.checked }
namespace Rows
def none {H : Type} : Left H := { results := [], args := [] }

/-- 'regulatorlaw04.CodecMatchesReference': WHATEVER THE INPUT: true; the input reads as it did. -/
def codecMatchesReferenceSpec : ChangeSpec := { name := "codecMatchesReference", fn := fun _ => fun
  | [d1, d2] => { results := [.lit (.bool true)], args := [d1, d2] }
  | _ => none }
def codecMatchesReferenceRow : OpenClaim := { program := "ythjldbefjkbniaa", sum := "0e56dc119d039f31b740dc2c0406d3272e02f05c1bb62ab014987ddb6facb1cf", func := "regulator/regulatorlaw04.CodecMatchesReference", spec := "codecMatchesReference", unfollowed := true, recurses := true, apart := false }
def CodecMatchesReferenceSaid : Prop := codecMatchesReferenceRow.holds Try.pinned (OpenSpec.ofChange codecMatchesReferenceSpec)

/-- ITS FALSE NEIGHBOUR: 'it returns false'. Refute it at one input. -/
def codecMatchesReferenceWrong : ChangeSpec := { name := "codecMatchesReference", fn := fun _ => fun
  | [d1, d2] => { results := [.lit (.bool false)], args := [d1, d2] }
  | _ => none }
def CodecMatchesReferenceWrongFalsely : Prop := codecMatchesReferenceRow.holds Try.pinned (OpenSpec.ofChange codecMatchesReferenceWrong)

/-- 'regulatorlaw04.CodecInverse': WHATEVER THE INPUT: true; the input reads as it did. -/
def codecInverseSpec : ChangeSpec := { name := "codecInverse", fn := fun _ => fun
  | [d1, d2] => { results := [.lit (.bool true)], args := [d1, d2] }
  | _ => none }
def codecInverseRow : OpenClaim := { program := "ythjldbefjkbniaa", sum := "0e56dc119d039f31b740dc2c0406d3272e02f05c1bb62ab014987ddb6facb1cf", func := "regulator/regulatorlaw04.CodecInverse", spec := "codecInverse", unfollowed := true, recurses := true, apart := false }
def CodecInverseSaid : Prop := codecInverseRow.holds Try.pinned (OpenSpec.ofChange codecInverseSpec)

/-- ITS FALSE NEIGHBOUR: 'it returns false'. Refute it at one input. -/
def codecInverseWrong : ChangeSpec := { name := "codecInverse", fn := fun _ => fun
  | [d1, d2] => { results := [.lit (.bool false)], args := [d1, d2] }
  | _ => none }
def CodecInverseWrongFalsely : Prop := codecInverseRow.holds Try.pinned (OpenSpec.ofChange codecInverseWrong)

/-- 'regulatorlaw04.CodecBeginnings': WHATEVER THE INPUT: true; the input reads as it did. -/
def codecBeginningsSpec : ChangeSpec := { name := "codecBeginnings", fn := fun _ => fun
  | [d1, d2, d3] => { results := [.lit (.bool true)], args := [d1, d2, d3] }
  | _ => none }
def codecBeginningsRow : OpenClaim := { program := "ythjldbefjkbniaa", sum := "0e56dc119d039f31b740dc2c0406d3272e02f05c1bb62ab014987ddb6facb1cf", func := "regulator/regulatorlaw04.CodecBeginnings", spec := "codecBeginnings", unfollowed := true, recurses := true, apart := false }
def CodecBeginningsSaid : Prop := codecBeginningsRow.holds Try.pinned (OpenSpec.ofChange codecBeginningsSpec)

/-- ITS FALSE NEIGHBOUR: 'it returns false'. Refute it at one input. -/
def codecBeginningsWrong : ChangeSpec := { name := "codecBeginnings", fn := fun _ => fun
  | [d1, d2, d3] => { results := [.lit (.bool false)], args := [d1, d2, d3] }
  | _ => none }
def CodecBeginningsWrongFalsely : Prop := codecBeginningsRow.holds Try.pinned (OpenSpec.ofChange codecBeginningsWrong)

/-- 'regulatorlaw04.CodecCuts': WHATEVER THE INPUT: true; the input reads as it did. -/
def codecCutsSpec : ChangeSpec := { name := "codecCuts", fn := fun _ => fun
  | [d1, d2] => { results := [.lit (.bool true)], args := [d1, d2] }
  | _ => none }
def codecCutsRow : OpenClaim := { program := "ythjldbefjkbniaa", sum := "0e56dc119d039f31b740dc2c0406d3272e02f05c1bb62ab014987ddb6facb1cf", func := "regulator/regulatorlaw04.CodecCuts", spec := "codecCuts", unfollowed := true, recurses := true, apart := false }
def CodecCutsSaid : Prop := codecCutsRow.holds Try.pinned (OpenSpec.ofChange codecCutsSpec)

/-- ITS FALSE NEIGHBOUR: 'it returns false'. Refute it at one input. -/
def codecCutsWrong : ChangeSpec := { name := "codecCuts", fn := fun _ => fun
  | [d1, d2] => { results := [.lit (.bool false)], args := [d1, d2] }
  | _ => none }
def CodecCutsWrongFalsely : Prop := codecCutsRow.holds Try.pinned (OpenSpec.ofChange codecCutsWrong)

/-- 'regulatorlaw04.CodecBehind': WHATEVER THE INPUT: true; the input reads as it did. -/
def codecBehindSpec : ChangeSpec := { name := "codecBehind", fn := fun _ => fun
  | [d1, d2] => { results := [.lit (.bool true)], args := [d1, d2] }
  | _ => none }
def codecBehindRow : OpenClaim := { program := "ythjldbefjkbniaa", sum := "0e56dc119d039f31b740dc2c0406d3272e02f05c1bb62ab014987ddb6facb1cf", func := "regulator/regulatorlaw04.CodecBehind", spec := "codecBehind", unfollowed := true, recurses := true, apart := false }
def CodecBehindSaid : Prop := codecBehindRow.holds Try.pinned (OpenSpec.ofChange codecBehindSpec)

/-- ITS FALSE NEIGHBOUR: 'it returns false'. Refute it at one input. -/
def codecBehindWrong : ChangeSpec := { name := "codecBehind", fn := fun _ => fun
  | [d1, d2] => { results := [.lit (.bool false)], args := [d1, d2] }
  | _ => none }
def CodecBehindWrongFalsely : Prop := codecBehindRow.holds Try.pinned (OpenSpec.ofChange codecBehindWrong)

/-- 'regulatorlaw04.CodecLengths': WHATEVER THE INPUT: true; the input reads as it did. -/
def codecLengthsSpec : ChangeSpec := { name := "codecLengths", fn := fun _ => fun
  | [d1, d2, d3] => { results := [.lit (.bool true)], args := [d1, d2, d3] }
  | _ => none }
def codecLengthsRow : OpenClaim := { program := "ythjldbefjkbniaa", sum := "0e56dc119d039f31b740dc2c0406d3272e02f05c1bb62ab014987ddb6facb1cf", func := "regulator/regulatorlaw04.CodecLengths", spec := "codecLengths", unfollowed := true, recurses := true, apart := false }
def CodecLengthsSaid : Prop := codecLengthsRow.holds Try.pinned (OpenSpec.ofChange codecLengthsSpec)

/-- ITS FALSE NEIGHBOUR: 'it returns false'. Refute it at one input. -/
def codecLengthsWrong : ChangeSpec := { name := "codecLengths", fn := fun _ => fun
  | [d1, d2, d3] => { results := [.lit (.bool false)], args := [d1, d2, d3] }
  | _ => none }
def CodecLengthsWrongFalsely : Prop := codecLengthsRow.holds Try.pinned (OpenSpec.ofChange codecLengthsWrong)

/- THE SECOND FORM. 'bulk': how many values and letters a reading holds, each counted each time it is reached (what is shared counts as often as it is met; a slice's spare places count too). A statement '..UptoSaid' is the law's where the arguments, and the package variables that the reading takes, are together of bulk at most 1048576: NARROWER than '..Said'. Prove '..Said' where nothing that the law and all that it calls make is longer than what came in: it says more and counts as full. Else prove '..UptoSaid'. A law counts once. -/
mutual
def uptoBulk {H : Type} : DataW H → Nat
  | .lit (.string bytes) => bytes.length + 1
  | .lit _ => 1
  | .nil => 1
  | .ptr d => uptoBulk d + 1
  | .slice elems spare => uptoBulkAll elems + uptoBulkAll spare + 1
  | .agg parts => uptoBulkAll parts + 1
  | .iface _ d => uptoBulk d + 1
  | .map entries => uptoBulkEntries entries + 1
  | .held _ => 1
def uptoBulkAll {H : Type} : List (DataW H) → Nat
  | [] => 0
  | d :: r => uptoBulk d + uptoBulkAll r
def uptoBulkEntries {H : Type} : List (Lit × DataW H) → Nat
  | [] => 0
  | x :: r => uptoBulkEntry x + uptoBulkEntries r
def uptoBulkEntry {H : Type} : Lit × DataW H → Nat
  | (.string bytes, d) => bytes.length + uptoBulk d + 1
  | (_, d) => uptoBulk d + 1
 end
def uptoSmall : (H : Type) → List (DataW H) → Bool := fun _ ds => decide (uptoBulkAll ds ≤ 1048576)
def OpenSpec.upto (s : _root_.Go.ChangeSpec) : _root_.Go.OpenSpec := { _root_.Go.OpenSpec.ofChange s with cond := some uptoSmall }

/-- 'regulatorlaw04.CodecMatchesReference', WHERE WHAT IT READS IS OF BULK AT MOST 1048576: true; the input reads as it did. -/
def codecMatchesReferenceUptoRow : OpenClaim := { program := "ythjldbefjkbniaa", sum := "0e56dc119d039f31b740dc2c0406d3272e02f05c1bb62ab014987ddb6facb1cf", func := "regulator/regulatorlaw04.CodecMatchesReference", spec := "codecMatchesReference", unfollowed := true, recurses := true, apart := false, narrowed := true }
def CodecMatchesReferenceUptoSaid : Prop := codecMatchesReferenceUptoRow.holds Try.pinned (OpenSpec.upto codecMatchesReferenceSpec)

/-- 'regulatorlaw04.CodecInverse', WHERE WHAT IT READS IS OF BULK AT MOST 1048576: true; the input reads as it did. -/
def codecInverseUptoRow : OpenClaim := { program := "ythjldbefjkbniaa", sum := "0e56dc119d039f31b740dc2c0406d3272e02f05c1bb62ab014987ddb6facb1cf", func := "regulator/regulatorlaw04.CodecInverse", spec := "codecInverse", unfollowed := true, recurses := true, apart := false, narrowed := true }
def CodecInverseUptoSaid : Prop := codecInverseUptoRow.holds Try.pinned (OpenSpec.upto codecInverseSpec)

/-- 'regulatorlaw04.CodecBeginnings', WHERE WHAT IT READS IS OF BULK AT MOST 1048576: true; the input reads as it did. -/
def codecBeginningsUptoRow : OpenClaim := { program := "ythjldbefjkbniaa", sum := "0e56dc119d039f31b740dc2c0406d3272e02f05c1bb62ab014987ddb6facb1cf", func := "regulator/regulatorlaw04.CodecBeginnings", spec := "codecBeginnings", unfollowed := true, recurses := true, apart := false, narrowed := true }
def CodecBeginningsUptoSaid : Prop := codecBeginningsUptoRow.holds Try.pinned (OpenSpec.upto codecBeginningsSpec)

/-- 'regulatorlaw04.CodecCuts', WHERE WHAT IT READS IS OF BULK AT MOST 1048576: true; the input reads as it did. -/
def codecCutsUptoRow : OpenClaim := { program := "ythjldbefjkbniaa", sum := "0e56dc119d039f31b740dc2c0406d3272e02f05c1bb62ab014987ddb6facb1cf", func := "regulator/regulatorlaw04.CodecCuts", spec := "codecCuts", unfollowed := true, recurses := true, apart := false, narrowed := true }
def CodecCutsUptoSaid : Prop := codecCutsUptoRow.holds Try.pinned (OpenSpec.upto codecCutsSpec)

/-- 'regulatorlaw04.CodecBehind', WHERE WHAT IT READS IS OF BULK AT MOST 1048576: true; the input reads as it did. -/
def codecBehindUptoRow : OpenClaim := { program := "ythjldbefjkbniaa", sum := "0e56dc119d039f31b740dc2c0406d3272e02f05c1bb62ab014987ddb6facb1cf", func := "regulator/regulatorlaw04.CodecBehind", spec := "codecBehind", unfollowed := true, recurses := true, apart := false, narrowed := true }
def CodecBehindUptoSaid : Prop := codecBehindUptoRow.holds Try.pinned (OpenSpec.upto codecBehindSpec)

/-- 'regulatorlaw04.CodecLengths', WHERE WHAT IT READS IS OF BULK AT MOST 1048576: true; the input reads as it did. -/
def codecLengthsUptoRow : OpenClaim := { program := "ythjldbefjkbniaa", sum := "0e56dc119d039f31b740dc2c0406d3272e02f05c1bb62ab014987ddb6facb1cf", func := "regulator/regulatorlaw04.CodecLengths", spec := "codecLengths", unfollowed := true, recurses := true, apart := false, narrowed := true }
def CodecLengthsUptoSaid : Prop := codecLengthsUptoRow.holds Try.pinned (OpenSpec.upto codecLengthsSpec)

end Rows
end Go.Proofs.Ythjldbefjkbniaa
