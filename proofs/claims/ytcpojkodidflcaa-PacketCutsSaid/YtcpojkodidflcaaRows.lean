/-
  No cell of these rows narrows 'for every input' (looked for: loops, veiled, ifaces, maps, wideKeys, modest, calm, conditions, laid).
  DERIVED. THE GIVEN ROWS OF THIS SEAT. 7 by the template 'for every input the law returns true; each argument reads behind the call as it read before'; 0 by the template 'total and deterministic' (their statements: YtcpojkodidflcaaTotals.lean).
  GIVEN WITH THE SEED: the statements are not yours to turn. If you find one false, say at which input.
  Laid BY PROGRAM, IN A SANDBOX (cutbox-rows.mjs): the forced cells as the released guide's own fill.sh prints them over the translation 99f47efbf8e5444f… (all of the seat's roots in one cut). By AI agents, Wed Nov 11 2026. No macro, syntax, notation, axiom, sorry.
-/
import Derived.Test.YtcpojkodidflcaaChecked
import GoSem.Claim
import GoSem.ClaimJoined
import GoSem.ClaimMapViews
import Derived.JoinedTies
import Derived.KernelRfl
namespace Go.Proofs.Ytcpojkodidflcaa
/- THE CELL 'sum', in the pinned program and in every row, IS THE sha256 OF THE DUMP (.gsa) THAT YtcpojkodidflcaaProg.lean LOADS. Nothing in Lean hashes anything: it is a label: what it is worth is what the hold of that sum in a sandbox is worth. -/
noncomputable def Try.pinned : Pinned := { name := "ytcpojkodidflcaa", sum := "99f47efbf8e5444f9ce2fcb781596291813e196918bb1c06adcb93d84515f417", checked := Try.checked }
namespace Rows
def none {H : Type} : Left H := { results := [], args := [] }

/-- 'regulatorlaw11.PacketMatchesReference': WHATEVER THE INPUT: true; the input reads as it did. -/
def packetMatchesReferenceSpec : ChangeSpec := { name := "packetMatchesReference", fn := fun _ => fun
  | [d1, d2, d3] => { results := [.lit (.bool true)], args := [d1, d2, d3] }
  | _ => none }
def packetMatchesReferenceRow : OpenClaim := { program := "ytcpojkodidflcaa", sum := "99f47efbf8e5444f9ce2fcb781596291813e196918bb1c06adcb93d84515f417", func := "regulator/regulatorlaw11.PacketMatchesReference", spec := "packetMatchesReference", unfollowed := true, recurses := true, apart := false }
def PacketMatchesReferenceSaid : Prop := packetMatchesReferenceRow.holds Try.pinned (OpenSpec.ofChange packetMatchesReferenceSpec)

/-- ITS FALSE NEIGHBOUR: 'it returns false'. Refute it at one input. -/
def packetMatchesReferenceWrong : ChangeSpec := { name := "packetMatchesReference", fn := fun _ => fun
  | [d1, d2, d3] => { results := [.lit (.bool false)], args := [d1, d2, d3] }
  | _ => none }
def PacketMatchesReferenceWrongFalsely : Prop := packetMatchesReferenceRow.holds Try.pinned (OpenSpec.ofChange packetMatchesReferenceWrong)

/-- 'regulatorlaw11.PacketRequests': WHATEVER THE INPUT: true; the input reads as it did. -/
def packetRequestsSpec : ChangeSpec := { name := "packetRequests", fn := fun _ => fun
  | [d1, d2] => { results := [.lit (.bool true)], args := [d1, d2] }
  | _ => none }
def packetRequestsRow : OpenClaim := { program := "ytcpojkodidflcaa", sum := "99f47efbf8e5444f9ce2fcb781596291813e196918bb1c06adcb93d84515f417", func := "regulator/regulatorlaw11.PacketRequests", spec := "packetRequests", unfollowed := true, recurses := true, apart := false }
def PacketRequestsSaid : Prop := packetRequestsRow.holds Try.pinned (OpenSpec.ofChange packetRequestsSpec)

/-- ITS FALSE NEIGHBOUR: 'it returns false'. Refute it at one input. -/
def packetRequestsWrong : ChangeSpec := { name := "packetRequests", fn := fun _ => fun
  | [d1, d2] => { results := [.lit (.bool false)], args := [d1, d2] }
  | _ => none }
def PacketRequestsWrongFalsely : Prop := packetRequestsRow.holds Try.pinned (OpenSpec.ofChange packetRequestsWrong)

/-- 'regulatorlaw11.PacketReplies': WHATEVER THE INPUT: true; the input reads as it did. -/
def packetRepliesSpec : ChangeSpec := { name := "packetReplies", fn := fun _ => fun
  | [d1, d2] => { results := [.lit (.bool true)], args := [d1, d2] }
  | _ => none }
def packetRepliesRow : OpenClaim := { program := "ytcpojkodidflcaa", sum := "99f47efbf8e5444f9ce2fcb781596291813e196918bb1c06adcb93d84515f417", func := "regulator/regulatorlaw11.PacketReplies", spec := "packetReplies", unfollowed := true, recurses := true, apart := false }
def PacketRepliesSaid : Prop := packetRepliesRow.holds Try.pinned (OpenSpec.ofChange packetRepliesSpec)

/-- ITS FALSE NEIGHBOUR: 'it returns false'. Refute it at one input. -/
def packetRepliesWrong : ChangeSpec := { name := "packetReplies", fn := fun _ => fun
  | [d1, d2] => { results := [.lit (.bool false)], args := [d1, d2] }
  | _ => none }
def PacketRepliesWrongFalsely : Prop := packetRepliesRow.holds Try.pinned (OpenSpec.ofChange packetRepliesWrong)

/-- 'regulatorlaw11.PacketKinds': WHATEVER THE INPUT: true; the input reads as it did. -/
def packetKindsSpec : ChangeSpec := { name := "packetKinds", fn := fun _ => fun
  | [d] => { results := [.lit (.bool true)], args := [d] }
  | _ => none }
def packetKindsRow : OpenClaim := { program := "ytcpojkodidflcaa", sum := "99f47efbf8e5444f9ce2fcb781596291813e196918bb1c06adcb93d84515f417", func := "regulator/regulatorlaw11.PacketKinds", spec := "packetKinds", unfollowed := true, recurses := true, apart := false }
def PacketKindsSaid : Prop := packetKindsRow.holds Try.pinned (OpenSpec.ofChange packetKindsSpec)

/-- ITS FALSE NEIGHBOUR: 'it returns false'. Refute it at one input. -/
def packetKindsWrong : ChangeSpec := { name := "packetKinds", fn := fun _ => fun
  | [d] => { results := [.lit (.bool false)], args := [d] }
  | _ => none }
def PacketKindsWrongFalsely : Prop := packetKindsRow.holds Try.pinned (OpenSpec.ofChange packetKindsWrong)

/-- 'regulatorlaw11.PacketCuts': WHATEVER THE INPUT: true; the input reads as it did. -/
def packetCutsSpec : ChangeSpec := { name := "packetCuts", fn := fun _ => fun
  | [d1, d2, d3, d4] => { results := [.lit (.bool true)], args := [d1, d2, d3, d4] }
  | _ => none }
def packetCutsRow : OpenClaim := { program := "ytcpojkodidflcaa", sum := "99f47efbf8e5444f9ce2fcb781596291813e196918bb1c06adcb93d84515f417", func := "regulator/regulatorlaw11.PacketCuts", spec := "packetCuts", unfollowed := true, recurses := true, apart := false }
def PacketCutsSaid : Prop := packetCutsRow.holds Try.pinned (OpenSpec.ofChange packetCutsSpec)

/-- ITS FALSE NEIGHBOUR: 'it returns false'. Refute it at one input. -/
def packetCutsWrong : ChangeSpec := { name := "packetCuts", fn := fun _ => fun
  | [d1, d2, d3, d4] => { results := [.lit (.bool false)], args := [d1, d2, d3, d4] }
  | _ => none }
def PacketCutsWrongFalsely : Prop := packetCutsRow.holds Try.pinned (OpenSpec.ofChange packetCutsWrong)

/-- 'regulatorlaw11.PacketFields': WHATEVER THE INPUT: true; the input reads as it did. -/
def packetFieldsSpec : ChangeSpec := { name := "packetFields", fn := fun _ => fun
  | [d1, d2, d3, d4] => { results := [.lit (.bool true)], args := [d1, d2, d3, d4] }
  | _ => none }
def packetFieldsRow : OpenClaim := { program := "ytcpojkodidflcaa", sum := "99f47efbf8e5444f9ce2fcb781596291813e196918bb1c06adcb93d84515f417", func := "regulator/regulatorlaw11.PacketFields", spec := "packetFields", unfollowed := true, recurses := true, apart := false }
def PacketFieldsSaid : Prop := packetFieldsRow.holds Try.pinned (OpenSpec.ofChange packetFieldsSpec)

/-- ITS FALSE NEIGHBOUR: 'it returns false'. Refute it at one input. -/
def packetFieldsWrong : ChangeSpec := { name := "packetFields", fn := fun _ => fun
  | [d1, d2, d3, d4] => { results := [.lit (.bool false)], args := [d1, d2, d3, d4] }
  | _ => none }
def PacketFieldsWrongFalsely : Prop := packetFieldsRow.holds Try.pinned (OpenSpec.ofChange packetFieldsWrong)

/-- 'regulatorlaw11.PacketSizes': WHATEVER THE INPUT: true; the input reads as it did. -/
def packetSizesSpec : ChangeSpec := { name := "packetSizes", fn := fun _ => fun
  | [d1, d2] => { results := [.lit (.bool true)], args := [d1, d2] }
  | _ => none }
def packetSizesRow : OpenClaim := { program := "ytcpojkodidflcaa", sum := "99f47efbf8e5444f9ce2fcb781596291813e196918bb1c06adcb93d84515f417", func := "regulator/regulatorlaw11.PacketSizes", spec := "packetSizes", unfollowed := true, recurses := true, apart := false }
def PacketSizesSaid : Prop := packetSizesRow.holds Try.pinned (OpenSpec.ofChange packetSizesSpec)

/-- ITS FALSE NEIGHBOUR: 'it returns false'. Refute it at one input. -/
def packetSizesWrong : ChangeSpec := { name := "packetSizes", fn := fun _ => fun
  | [d1, d2] => { results := [.lit (.bool false)], args := [d1, d2] }
  | _ => none }
def PacketSizesWrongFalsely : Prop := packetSizesRow.holds Try.pinned (OpenSpec.ofChange packetSizesWrong)

/- THE SECOND FORM. 'bulk': how many values and letters a reading holds, each counted each time it is reached (what is shared counts as often as it is met; a slice's spare places count too). A statement '..UptoSaid' is the law's where the arguments, and the package variables that the reading takes, are together of bulk at most 1048576: NARROWER than '..Said'. Prove '..Said' where nothing that the law and all that it calls make is longer than what came in: it says more and counts as full. Else prove '..UptoSaid'. A law counts once. -/
mutual
def uptoBulk {H : Type} : DataW H → Nat
  | .lit (.string bytes) => bytes.length + 1
  | .lit _ => 1
  | .nil => 1
  | .ptr d => uptoBulk d + 1
  | .slice elems spare => uptoBulkAll elems + uptoBulkAll spare + 1
  | .agg parts => uptoBulkAll parts + 1
  | .iface _ d => uptoBulk d + 1
  | .map entries => uptoBulkEntries entries + 1
  | .held _ => 1
def uptoBulkAll {H : Type} : List (DataW H) → Nat
  | [] => 0
  | d :: r => uptoBulk d + uptoBulkAll r
def uptoBulkEntries {H : Type} : List (Lit × DataW H) → Nat
  | [] => 0
  | x :: r => uptoBulkEntry x + uptoBulkEntries r
def uptoBulkEntry {H : Type} : Lit × DataW H → Nat
  | (.string bytes, d) => bytes.length + uptoBulk d + 1
  | (_, d) => uptoBulk d + 1
 end
def uptoSmall : (H : Type) → List (DataW H) → Bool := fun _ ds => decide (uptoBulkAll ds ≤ 1048576)
def OpenSpec.upto (s : _root_.Go.ChangeSpec) : _root_.Go.OpenSpec := { _root_.Go.OpenSpec.ofChange s with cond := some uptoSmall }

/-- 'regulatorlaw11.PacketMatchesReference', WHERE WHAT IT READS IS OF BULK AT MOST 1048576: true; the input reads as it did. -/
def packetMatchesReferenceUptoRow : OpenClaim := { program := "ytcpojkodidflcaa", sum := "99f47efbf8e5444f9ce2fcb781596291813e196918bb1c06adcb93d84515f417", func := "regulator/regulatorlaw11.PacketMatchesReference", spec := "packetMatchesReference", unfollowed := true, recurses := true, apart := false, narrowed := true }
def PacketMatchesReferenceUptoSaid : Prop := packetMatchesReferenceUptoRow.holds Try.pinned (OpenSpec.upto packetMatchesReferenceSpec)

/-- 'regulatorlaw11.PacketRequests', WHERE WHAT IT READS IS OF BULK AT MOST 1048576: true; the input reads as it did. -/
def packetRequestsUptoRow : OpenClaim := { program := "ytcpojkodidflcaa", sum := "99f47efbf8e5444f9ce2fcb781596291813e196918bb1c06adcb93d84515f417", func := "regulator/regulatorlaw11.PacketRequests", spec := "packetRequests", unfollowed := true, recurses := true, apart := false, narrowed := true }
def PacketRequestsUptoSaid : Prop := packetRequestsUptoRow.holds Try.pinned (OpenSpec.upto packetRequestsSpec)

/-- 'regulatorlaw11.PacketReplies', WHERE WHAT IT READS IS OF BULK AT MOST 1048576: true; the input reads as it did. -/
def packetRepliesUptoRow : OpenClaim := { program := "ytcpojkodidflcaa", sum := "99f47efbf8e5444f9ce2fcb781596291813e196918bb1c06adcb93d84515f417", func := "regulator/regulatorlaw11.PacketReplies", spec := "packetReplies", unfollowed := true, recurses := true, apart := false, narrowed := true }
def PacketRepliesUptoSaid : Prop := packetRepliesUptoRow.holds Try.pinned (OpenSpec.upto packetRepliesSpec)

/-- 'regulatorlaw11.PacketKinds', WHERE WHAT IT READS IS OF BULK AT MOST 1048576: true; the input reads as it did. -/
def packetKindsUptoRow : OpenClaim := { program := "ytcpojkodidflcaa", sum := "99f47efbf8e5444f9ce2fcb781596291813e196918bb1c06adcb93d84515f417", func := "regulator/regulatorlaw11.PacketKinds", spec := "packetKinds", unfollowed := true, recurses := true, apart := false, narrowed := true }
def PacketKindsUptoSaid : Prop := packetKindsUptoRow.holds Try.pinned (OpenSpec.upto packetKindsSpec)

/-- 'regulatorlaw11.PacketCuts', WHERE WHAT IT READS IS OF BULK AT MOST 1048576: true; the input reads as it did. -/
def packetCutsUptoRow : OpenClaim := { program := "ytcpojkodidflcaa", sum := "99f47efbf8e5444f9ce2fcb781596291813e196918bb1c06adcb93d84515f417", func := "regulator/regulatorlaw11.PacketCuts", spec := "packetCuts", unfollowed := true, recurses := true, apart := false, narrowed := true }
def PacketCutsUptoSaid : Prop := packetCutsUptoRow.holds Try.pinned (OpenSpec.upto packetCutsSpec)

/-- 'regulatorlaw11.PacketFields', WHERE WHAT IT READS IS OF BULK AT MOST 1048576: true; the input reads as it did. -/
def packetFieldsUptoRow : OpenClaim := { program := "ytcpojkodidflcaa", sum := "99f47efbf8e5444f9ce2fcb781596291813e196918bb1c06adcb93d84515f417", func := "regulator/regulatorlaw11.PacketFields", spec := "packetFields", unfollowed := true, recurses := true, apart := false, narrowed := true }
def PacketFieldsUptoSaid : Prop := packetFieldsUptoRow.holds Try.pinned (OpenSpec.upto packetFieldsSpec)

/-- 'regulatorlaw11.PacketSizes', WHERE WHAT IT READS IS OF BULK AT MOST 1048576: true; the input reads as it did. -/
def packetSizesUptoRow : OpenClaim := { program := "ytcpojkodidflcaa", sum := "99f47efbf8e5444f9ce2fcb781596291813e196918bb1c06adcb93d84515f417", func := "regulator/regulatorlaw11.PacketSizes", spec := "packetSizes", unfollowed := true, recurses := true, apart := false, narrowed := true }
def PacketSizesUptoSaid : Prop := packetSizesUptoRow.holds Try.pinned (OpenSpec.upto packetSizesSpec)

end Rows
end Go.Proofs.Ytcpojkodidflcaa
