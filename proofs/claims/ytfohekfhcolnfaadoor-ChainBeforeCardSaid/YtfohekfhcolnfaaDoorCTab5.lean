/-
  The walk of ChainBefore, its facts in the order in which the claim hands them over.
-/
import Derived.Test.YtfohekfhcolnfaaDoorC28
import Derived.Test.YtfohekfhcolnfaaDoorCOp
namespace Go.Proofs.YtfohekfhcolnfaaDoor
open Go.RowKit Go.Sort

theorem LBefore (host : Int) (a : Option Addr) (n c : Nat) (rs : List (List Rp)) (y1 y2 y3 : Int) (w : World) (who : (Lit.int .i64 host).wf = true) (h1 : Rws w a n c rs) (w1 : (Lit.int .u8 y1).wf = true) (w2 : (Lit.int .u8 y2).wf = true) (w3 : (Lit.int .u8 y3).wf = true) (ht : TB w) :
    Calls Tryd.prog 7 #[.agg #[.int .i64 host, .slice a n c], .int .u8 y1, .int .u8 y2, .int .u8 y3] w fun e w' => e = .returned (.bool true) ∧ Ext w w' :=
  cbefore_law host a n c rs y1 y2 y3 w who h1 (wf_u8 w1) (wf_u8 w2) (wf_u8 w3) ht
end Go.Proofs.YtfohekfhcolnfaaDoor
