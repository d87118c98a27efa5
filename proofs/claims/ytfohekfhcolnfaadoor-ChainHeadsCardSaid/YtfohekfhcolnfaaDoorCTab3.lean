/-
  The walk of ChainHeads, its facts in the order in which the claim hands them over.
-/
import Derived.Test.YtfohekfhcolnfaaDoorC25
import Derived.Test.YtfohekfhcolnfaaDoorCOp
namespace Go.Proofs.YtfohekfhcolnfaaDoor
open Go.RowKit Go.Sort

theorem LHeads (host : Int) (a : Option Addr) (n c : Nat) (rs : List (List Rp)) (w : World) (who : (Lit.int .i64 host).wf = true) (h1 : Rws w a n c rs) (ht : TB w) :
    Calls Tryd.prog 4 #[.agg #[.int .i64 host, .slice a n c]] w fun e w' => e = .returned (.bool true) ∧ Ext w w' :=
  cheads_law host a n c rs w who h1 ht
end Go.Proofs.YtfohekfhcolnfaaDoor
