/-
  NARROWER THAN 'FOR EVERY INPUT', by the rows' own cells (each row's printed sentence says how): DigestMatchesReference: laid · DigestOneByte: laid · DigestInts: laid · DigestNext: laid · DigestBehind: laid · DigestPair: laid.
  DERIVED. THE GIVEN ROWS OF THIS SEAT. 6 by the template 'for every input the law returns true; each argument reads behind the call as it read before'; 0 by the template 'total and deterministic' (their statements: YtkophednepcbkaaDoorTotals.lean).
  GIVEN WITH THE SEED: the statements are not yours to turn. If you find one false, say at which input.
  Laid BY PROGRAM, IN A SANDBOX (cutbox-rows.mjs): the forced cells as the released guide's own fill.sh prints them over the translation de6a4aa16f11bb3a… (all of the seat's roots in one cut). By AI agents, Wed Nov 11 2026. No macro, syntax, notation, axiom, sorry.
-/
import Derived.Test.YtkophednepcbkaaDoorChecked
import GoSem.Claim
import GoSem.ClaimJoined
import GoSem.ClaimMapViews
import Derived.JoinedTies
import Derived.KernelRfl
namespace Go.Proofs.YtkophednepcbkaaDoor
/- THE CELL 'sum', in the pinned program and in every row, IS THE sha256 OF THE DUMP (.gsa) THAT YtkophednepcbkaaDoorProg.lean LOADS. Nothing in Lean hashes anything: it is a label: what it is worth is what the hold of that sum in a sandbox is worth. -/
noncomputable def Tryd.pinned : Pinned := { name := "ytkophednepcbkaadoor", sum := "de6a4aa16f11bb3ae19d7ed8a865b7cd60e0babf6aaea98d457a75bde6f1f557", checked := Tryd.checked }
namespace Rows
def none {H : Type} : Left H := { results := [], args := [] }

/- WHAT THE LISTED PACKAGE-LEVEL VARIABLES READ AS WHEN THE CALL BEGINS. Each datum BY PROGRAM (the guide's laid-datum.mjs) off the statement by which the dump's own 'gosem.cut.vars' lays the variable. In a bare row this is a premise. The card (YtkophednepcbkaaDoorCards.lean) ties it to the program's text. -/
def laid_math_bits_deBruijn32tab {H : Type} : DataW H := .agg [.lit (.int .u8 0), .lit (.int .u8 1), .lit (.int .u8 28), .lit (.int .u8 2), .lit (.int .u8 29), .lit (.int .u8 14), .lit (.int .u8 24), .lit (.int .u8 3), .lit (.int .u8 30), .lit (.int .u8 22), .lit (.int .u8 20), .lit (.int .u8 15), .lit (.int .u8 25), .lit (.int .u8 17), .lit (.int .u8 4), .lit (.int .u8 8), .lit (.int .u8 31), .lit (.int .u8 27), .lit (.int .u8 13), .lit (.int .u8 23), .lit (.int .u8 21), .lit (.int .u8 19), .lit (.int .u8 16), .lit (.int .u8 7), .lit (.int .u8 26), .lit (.int .u8 12), .lit (.int .u8 18), .lit (.int .u8 6), .lit (.int .u8 11), .lit (.int .u8 5), .lit (.int .u8 10), .lit (.int .u8 9)]
def laid_math_bits_deBruijn64tab {H : Type} : DataW H := .agg [.lit (.int .u8 0), .lit (.int .u8 1), .lit (.int .u8 56), .lit (.int .u8 2), .lit (.int .u8 57), .lit (.int .u8 49), .lit (.int .u8 28), .lit (.int .u8 3), .lit (.int .u8 61), .lit (.int .u8 58), .lit (.int .u8 42), .lit (.int .u8 50), .lit (.int .u8 38), .lit (.int .u8 29), .lit (.int .u8 17), .lit (.int .u8 4), .lit (.int .u8 62), .lit (.int .u8 47), .lit (.int .u8 59), .lit (.int .u8 36), .lit (.int .u8 45), .lit (.int .u8 43), .lit (.int .u8 51), .lit (.int .u8 22), .lit (.int .u8 53), .lit (.int .u8 39), .lit (.int .u8 33), .lit (.int .u8 30), .lit (.int .u8 24), .lit (.int .u8 18), .lit (.int .u8 12), .lit (.int .u8 5), .lit (.int .u8 63), .lit (.int .u8 55), .lit (.int .u8 48), .lit (.int .u8 27), .lit (.int .u8 60), .lit (.int .u8 41), .lit (.int .u8 37), .lit (.int .u8 16), .lit (.int .u8 46), .lit (.int .u8 35), .lit (.int .u8 44), .lit (.int .u8 21), .lit (.int .u8 52), .lit (.int .u8 32), .lit (.int .u8 23), .lit (.int .u8 11), .lit (.int .u8 54), .lit (.int .u8 26), .lit (.int .u8 40), .lit (.int .u8 15), .lit (.int .u8 34), .lit (.int .u8 20), .lit (.int .u8 31), .lit (.int .u8 10), .lit (.int .u8 25), .lit (.int .u8 14), .lit (.int .u8 19), .lit (.int .u8 9), .lit (.int .u8 13), .lit (.int .u8 8), .lit (.int .u8 7), .lit (.int .u8 6)]
def laid_internal_strconv_uint64pow10 {H : Type} : DataW H := .agg [.lit (.int .u64 1), .lit (.int .u64 10), .lit (.int .u64 100), .lit (.int .u64 1000), .lit (.int .u64 10000), .lit (.int .u64 100000), .lit (.int .u64 1000000), .lit (.int .u64 10000000), .lit (.int .u64 100000000), .lit (.int .u64 1000000000), .lit (.int .u64 10000000000), .lit (.int .u64 100000000000), .lit (.int .u64 1000000000000), .lit (.int .u64 10000000000000), .lit (.int .u64 100000000000000), .lit (.int .u64 1000000000000000), .lit (.int .u64 10000000000000000), .lit (.int .u64 100000000000000000), .lit (.int .u64 1000000000000000000), .lit (.int .u64 10000000000000000000)]

/-- 'regulatorlaw03.DigestMatchesReference': WHATEVER THE INPUT: true; the input reads as it did. -/
def digestMatchesReferenceSpec : ChangeSpec := { name := "digestMatchesReference", fn := fun _ => fun
  | [d1, d2, d3, d4] => { results := [.lit (.bool true)], args := [d1, d2, d3, d4] }
  | _ => none }
def digestMatchesReferenceRow : OpenClaim := { program := "ytkophednepcbkaadoor", sum := "de6a4aa16f11bb3ae19d7ed8a865b7cd60e0babf6aaea98d457a75bde6f1f557", func := "regulator/regulatorlaw03.DigestMatchesReference", spec := "digestMatchesReference", recurses := true, named := ["internal/strconv.uint64pow10", "math/bits.deBruijn32tab", "math/bits.deBruijn64tab"], apart := false, laid := [("math/bits.deBruijn32tab", laid_math_bits_deBruijn32tab), ("math/bits.deBruijn64tab", laid_math_bits_deBruijn64tab), ("internal/strconv.uint64pow10", laid_internal_strconv_uint64pow10)] }
def DigestMatchesReferenceSaid : Prop := digestMatchesReferenceRow.holds Tryd.pinned (OpenSpec.ofChange digestMatchesReferenceSpec)

/-- ITS FALSE NEIGHBOUR: 'it returns false'. Refute it at one input. -/
def digestMatchesReferenceWrong : ChangeSpec := { name := "digestMatchesReference", fn := fun _ => fun
  | [d1, d2, d3, d4] => { results := [.lit (.bool false)], args := [d1, d2, d3, d4] }
  | _ => none }
def DigestMatchesReferenceWrongFalsely : Prop := digestMatchesReferenceRow.holds Tryd.pinned (OpenSpec.ofChange digestMatchesReferenceWrong)

/-- 'regulatorlaw03.DigestOneByte': WHATEVER THE INPUT: true; the input reads as it did. -/
def digestOneByteSpec : ChangeSpec := { name := "digestOneByte", fn := fun _ => fun
  | [d1, d2, d3, d4, d5] => { results := [.lit (.bool true)], args := [d1, d2, d3, d4, d5] }
  | _ => none }
def digestOneByteRow : OpenClaim := { program := "ytkophednepcbkaadoor", sum := "de6a4aa16f11bb3ae19d7ed8a865b7cd60e0babf6aaea98d457a75bde6f1f557", func := "regulator/regulatorlaw03.DigestOneByte", spec := "digestOneByte", named := ["internal/strconv.uint64pow10", "math/bits.deBruijn32tab", "math/bits.deBruijn64tab"], apart := false, laid := [("math/bits.deBruijn32tab", laid_math_bits_deBruijn32tab), ("math/bits.deBruijn64tab", laid_math_bits_deBruijn64tab), ("internal/strconv.uint64pow10", laid_internal_strconv_uint64pow10)] }
def DigestOneByteSaid : Prop := digestOneByteRow.holds Tryd.pinned (OpenSpec.ofChange digestOneByteSpec)

/-- ITS FALSE NEIGHBOUR: 'it returns false'. Refute it at one input. -/
def digestOneByteWrong : ChangeSpec := { name := "digestOneByte", fn := fun _ => fun
  | [d1, d2, d3, d4, d5] => { results := [.lit (.bool false)], args := [d1, d2, d3, d4, d5] }
  | _ => none }
def DigestOneByteWrongFalsely : Prop := digestOneByteRow.holds Tryd.pinned (OpenSpec.ofChange digestOneByteWrong)

/-- 'regulatorlaw03.DigestInts': WHATEVER THE INPUT: true; the input reads as it did. -/
def digestIntsSpec : ChangeSpec := { name := "digestInts", fn := fun _ => fun
  | [d1, d2, d3] => { results := [.lit (.bool true)], args := [d1, d2, d3] }
  | _ => none }
def digestIntsRow : OpenClaim := { program := "ytkophednepcbkaadoor", sum := "de6a4aa16f11bb3ae19d7ed8a865b7cd60e0babf6aaea98d457a75bde6f1f557", func := "regulator/regulatorlaw03.DigestInts", spec := "digestInts", recurses := true, named := ["internal/strconv.uint64pow10", "math/bits.deBruijn32tab", "math/bits.deBruijn64tab"], apart := false, laid := [("math/bits.deBruijn32tab", laid_math_bits_deBruijn32tab), ("math/bits.deBruijn64tab", laid_math_bits_deBruijn64tab), ("internal/strconv.uint64pow10", laid_internal_strconv_uint64pow10)] }
def DigestIntsSaid : Prop := digestIntsRow.holds Tryd.pinned (OpenSpec.ofChange digestIntsSpec)

/-- ITS FALSE NEIGHBOUR: 'it returns false'. Refute it at one input. -/
def digestIntsWrong : ChangeSpec := { name := "digestInts", fn := fun _ => fun
  | [d1, d2, d3] => { results := [.lit (.bool false)], args := [d1, d2, d3] }
  | _ => none }
def DigestIntsWrongFalsely : Prop := digestIntsRow.holds Tryd.pinned (OpenSpec.ofChange digestIntsWrong)

/-- 'regulatorlaw03.DigestNext': WHATEVER THE INPUT: true; the input reads as it did. -/
def digestNextSpec : ChangeSpec := { name := "digestNext", fn := fun _ => fun
  | [d1, d2, d3, d4, d5] => { results := [.lit (.bool true)], args := [d1, d2, d3, d4, d5] }
  | _ => none }
def digestNextRow : OpenClaim := { program := "ytkophednepcbkaadoor", sum := "de6a4aa16f11bb3ae19d7ed8a865b7cd60e0babf6aaea98d457a75bde6f1f557", func := "regulator/regulatorlaw03.DigestNext", spec := "digestNext", recurses := true, named := ["internal/strconv.uint64pow10", "math/bits.deBruijn32tab", "math/bits.deBruijn64tab"], apart := false, laid := [("math/bits.deBruijn32tab", laid_math_bits_deBruijn32tab), ("math/bits.deBruijn64tab", laid_math_bits_deBruijn64tab), ("internal/strconv.uint64pow10", laid_internal_strconv_uint64pow10)] }
def DigestNextSaid : Prop := digestNextRow.holds Tryd.pinned (OpenSpec.ofChange digestNextSpec)

/-- ITS FALSE NEIGHBOUR: 'it returns false'. Refute it at one input. -/
def digestNextWrong : ChangeSpec := { name := "digestNext", fn := fun _ => fun
  | [d1, d2, d3, d4, d5] => { results := [.lit (.bool false)], args := [d1, d2, d3, d4, d5] }
  | _ => none }
def DigestNextWrongFalsely : Prop := digestNextRow.holds Tryd.pinned (OpenSpec.ofChange digestNextWrong)

/-- 'regulatorlaw03.DigestBehind': WHATEVER THE INPUT: true; the input reads as it did. -/
def digestBehindSpec : ChangeSpec := { name := "digestBehind", fn := fun _ => fun
  | [d1, d2, d3, d4, d5] => { results := [.lit (.bool true)], args := [d1, d2, d3, d4, d5] }
  | _ => none }
def digestBehindRow : OpenClaim := { program := "ytkophednepcbkaadoor", sum := "de6a4aa16f11bb3ae19d7ed8a865b7cd60e0babf6aaea98d457a75bde6f1f557", func := "regulator/regulatorlaw03.DigestBehind", spec := "digestBehind", named := ["internal/strconv.uint64pow10", "math/bits.deBruijn32tab", "math/bits.deBruijn64tab"], apart := false, laid := [("math/bits.deBruijn32tab", laid_math_bits_deBruijn32tab), ("math/bits.deBruijn64tab", laid_math_bits_deBruijn64tab), ("internal/strconv.uint64pow10", laid_internal_strconv_uint64pow10)] }
def DigestBehindSaid : Prop := digestBehindRow.holds Tryd.pinned (OpenSpec.ofChange digestBehindSpec)

/-- ITS FALSE NEIGHBOUR: 'it returns false'. Refute it at one input. -/
def digestBehindWrong : ChangeSpec := { name := "digestBehind", fn := fun _ => fun
  | [d1, d2, d3, d4, d5] => { results := [.lit (.bool false)], args := [d1, d2, d3, d4, d5] }
  | _ => none }
def DigestBehindWrongFalsely : Prop := digestBehindRow.holds Tryd.pinned (OpenSpec.ofChange digestBehindWrong)

/-- 'regulatorlaw03.DigestPair': WHATEVER THE INPUT: true; the input reads as it did. -/
def digestPairSpec : ChangeSpec := { name := "digestPair", fn := fun _ => fun
  | [d1, d2, d3, d4] => { results := [.lit (.bool true)], args := [d1, d2, d3, d4] }
  | _ => none }
def digestPairRow : OpenClaim := { program := "ytkophednepcbkaadoor", sum := "de6a4aa16f11bb3ae19d7ed8a865b7cd60e0babf6aaea98d457a75bde6f1f557", func := "regulator/regulatorlaw03.DigestPair", spec := "digestPair", named := ["internal/strconv.uint64pow10", "math/bits.deBruijn32tab", "math/bits.deBruijn64tab"], apart := false, laid := [("math/bits.deBruijn32tab", laid_math_bits_deBruijn32tab), ("math/bits.deBruijn64tab", laid_math_bits_deBruijn64tab), ("internal/strconv.uint64pow10", laid_internal_strconv_uint64pow10)] }
def DigestPairSaid : Prop := digestPairRow.holds Tryd.pinned (OpenSpec.ofChange digestPairSpec)

/-- ITS FALSE NEIGHBOUR: 'it returns false'. Refute it at one input. -/
def digestPairWrong : ChangeSpec := { name := "digestPair", fn := fun _ => fun
  | [d1, d2, d3, d4] => { results := [.lit (.bool false)], args := [d1, d2, d3, d4] }
  | _ => none }
def DigestPairWrongFalsely : Prop := digestPairRow.holds Tryd.pinned (OpenSpec.ofChange digestPairWrong)

/- THE SECOND FORM. 'bulk': how many values and letters a reading holds, each counted each time it is reached (what is shared counts as often as it is met; a slice's spare places count too). A statement '..UptoSaid' is the law's where the arguments, and the package variables that the reading takes, are together of bulk at most 1048576: NARROWER than '..Said'. Prove '..Said' where nothing that the law and all that it calls make is longer than what came in: it says more and counts as full. Else prove '..UptoSaid'. A law counts once. -/
mutual
def uptoBulk {H : Type} : DataW H → Nat
  | .lit (.string bytes) => bytes.length + 1
  | .lit _ => 1
  | .nil => 1
  | .ptr d => uptoBulk d + 1
  | .slice elems spare => uptoBulkAll elems + uptoBulkAll spare + 1
  | .agg parts => uptoBulkAll parts + 1
  | .iface _ d => uptoBulk d + 1
  | .map entries => uptoBulkEntries entries + 1
  | .held _ => 1
def uptoBulkAll {H : Type} : List (DataW H) → Nat
  | [] => 0
  | d :: r => uptoBulk d + uptoBulkAll r
def uptoBulkEntries {H : Type} : List (Lit × DataW H) → Nat
  | [] => 0
  | x :: r => uptoBulkEntry x + uptoBulkEntries r
def uptoBulkEntry {H : Type} : Lit × DataW H → Nat
  | (.string bytes, d) => bytes.length + uptoBulk d + 1
  | (_, d) => uptoBulk d + 1
 end
def uptoSmall : (H : Type) → List (DataW H) → Bool := fun _ ds => decide (uptoBulkAll ds ≤ 1048576)
def OpenSpec.upto (s : _root_.Go.ChangeSpec) : _root_.Go.OpenSpec := { _root_.Go.OpenSpec.ofChange s with cond := some uptoSmall }

/-- 'regulatorlaw03.DigestMatchesReference', WHERE WHAT IT READS IS OF BULK AT MOST 1048576: true; the input reads as it did. -/
def digestMatchesReferenceUptoRow : OpenClaim := { program := "ytkophednepcbkaadoor", sum := "de6a4aa16f11bb3ae19d7ed8a865b7cd60e0babf6aaea98d457a75bde6f1f557", func := "regulator/regulatorlaw03.DigestMatchesReference", spec := "digestMatchesReference", recurses := true, named := ["internal/strconv.uint64pow10", "math/bits.deBruijn32tab", "math/bits.deBruijn64tab"], apart := false, laid := [("math/bits.deBruijn32tab", laid_math_bits_deBruijn32tab), ("math/bits.deBruijn64tab", laid_math_bits_deBruijn64tab), ("internal/strconv.uint64pow10", laid_internal_strconv_uint64pow10)], narrowed := true }
def DigestMatchesReferenceUptoSaid : Prop := digestMatchesReferenceUptoRow.holds Tryd.pinned (OpenSpec.upto digestMatchesReferenceSpec)

/-- 'regulatorlaw03.DigestOneByte', WHERE WHAT IT READS IS OF BULK AT MOST 1048576: true; the input reads as it did. -/
def digestOneByteUptoRow : OpenClaim := { program := "ytkophednepcbkaadoor", sum := "de6a4aa16f11bb3ae19d7ed8a865b7cd60e0babf6aaea98d457a75bde6f1f557", func := "regulator/regulatorlaw03.DigestOneByte", spec := "digestOneByte", named := ["internal/strconv.uint64pow10", "math/bits.deBruijn32tab", "math/bits.deBruijn64tab"], apart := false, laid := [("math/bits.deBruijn32tab", laid_math_bits_deBruijn32tab), ("math/bits.deBruijn64tab", laid_math_bits_deBruijn64tab), ("internal/strconv.uint64pow10", laid_internal_strconv_uint64pow10)], narrowed := true }
def DigestOneByteUptoSaid : Prop := digestOneByteUptoRow.holds Tryd.pinned (OpenSpec.upto digestOneByteSpec)

/-- 'regulatorlaw03.DigestInts', WHERE WHAT IT READS IS OF BULK AT MOST 1048576: true; the input reads as it did. -/
def digestIntsUptoRow : OpenClaim := { program := "ytkophednepcbkaadoor", sum := "de6a4aa16f11bb3ae19d7ed8a865b7cd60e0babf6aaea98d457a75bde6f1f557", func := "regulator/regulatorlaw03.DigestInts", spec := "digestInts", recurses := true, named := ["internal/strconv.uint64pow10", "math/bits.deBruijn32tab", "math/bits.deBruijn64tab"], apart := false, laid := [("math/bits.deBruijn32tab", laid_math_bits_deBruijn32tab), ("math/bits.deBruijn64tab", laid_math_bits_deBruijn64tab), ("internal/strconv.uint64pow10", laid_internal_strconv_uint64pow10)], narrowed := true }
def DigestIntsUptoSaid : Prop := digestIntsUptoRow.holds Tryd.pinned (OpenSpec.upto digestIntsSpec)

/-- 'regulatorlaw03.DigestNext', WHERE WHAT IT READS IS OF BULK AT MOST 1048576: true; the input reads as it did. -/
def digestNextUptoRow : OpenClaim := { program := "ytkophednepcbkaadoor", sum := "de6a4aa16f11bb3ae19d7ed8a865b7cd60e0babf6aaea98d457a75bde6f1f557", func := "regulator/regulatorlaw03.DigestNext", spec := "digestNext", recurses := true, named := ["internal/strconv.uint64pow10", "math/bits.deBruijn32tab", "math/bits.deBruijn64tab"], apart := false, laid := [("math/bits.deBruijn32tab", laid_math_bits_deBruijn32tab), ("math/bits.deBruijn64tab", laid_math_bits_deBruijn64tab), ("internal/strconv.uint64pow10", laid_internal_strconv_uint64pow10)], narrowed := true }
def DigestNextUptoSaid : Prop := digestNextUptoRow.holds Tryd.pinned (OpenSpec.upto digestNextSpec)

/-- 'regulatorlaw03.DigestBehind', WHERE WHAT IT READS IS OF BULK AT MOST 1048576: true; the input reads as it did. -/
def digestBehindUptoRow : OpenClaim := { program := "ytkophednepcbkaadoor", sum := "de6a4aa16f11bb3ae19d7ed8a865b7cd60e0babf6aaea98d457a75bde6f1f557", func := "regulator/regulatorlaw03.DigestBehind", spec := "digestBehind", named := ["internal/strconv.uint64pow10", "math/bits.deBruijn32tab", "math/bits.deBruijn64tab"], apart := false, laid := [("math/bits.deBruijn32tab", laid_math_bits_deBruijn32tab), ("math/bits.deBruijn64tab", laid_math_bits_deBruijn64tab), ("internal/strconv.uint64pow10", laid_internal_strconv_uint64pow10)], narrowed := true }
def DigestBehindUptoSaid : Prop := digestBehindUptoRow.holds Tryd.pinned (OpenSpec.upto digestBehindSpec)

/-- 'regulatorlaw03.DigestPair', WHERE WHAT IT READS IS OF BULK AT MOST 1048576: true; the input reads as it did. -/
def digestPairUptoRow : OpenClaim := { program := "ytkophednepcbkaadoor", sum := "de6a4aa16f11bb3ae19d7ed8a865b7cd60e0babf6aaea98d457a75bde6f1f557", func := "regulator/regulatorlaw03.DigestPair", spec := "digestPair", named := ["internal/strconv.uint64pow10", "math/bits.deBruijn32tab", "math/bits.deBruijn64tab"], apart := false, laid := [("math/bits.deBruijn32tab", laid_math_bits_deBruijn32tab), ("math/bits.deBruijn64tab", laid_math_bits_deBruijn64tab), ("internal/strconv.uint64pow10", laid_internal_strconv_uint64pow10)], narrowed := true }
def DigestPairUptoSaid : Prop := digestPairUptoRow.holds Tryd.pinned (OpenSpec.upto digestPairSpec)

end Rows
end Go.Proofs.YtkophednepcbkaaDoor
