/-
  The walk of ChainMatchesReference, its facts in the order in which the claim hands them over.
-/
import Derived.Test.YtfohekfhcolnfaaDoorC24
import Derived.Test.YtfohekfhcolnfaaDoorCOp
namespace Go.Proofs.YtfohekfhcolnfaaDoor
open Go.RowKit Go.Sort

theorem LMatch (host : Int) (a : Option Addr) (n c : Nat) (rs : List (List Rp)) (a2 : Option Addr) (n2 c2 : Nat) (r : List Rp) (y2 y3 y4 y5 y6 : Int) (w : World) (who : (Lit.int .i64 host).wf = true) (h1 : Rws w a n c rs) (h2 : Rw w a2 n2 c2 r) (w2 : (Lit.int .u64 y2).wf = true) (w3 : (Lit.int .i64 y3).wf = true) (w4 : (Lit.int .i64 y4).wf = true) (w5 : (Lit.int .i64 y5).wf = true) (w6 : (Lit.int .i64 y6).wf = true) (ht : TB w) :
    Calls Tryd.prog 3 #[.agg #[.int .i64 host, .slice a n c], .agg #[.slice a2 n2 c2], .int .u64 y2, .int .i64 y3, .int .i64 y4, .int .i64 y5, .int .i64 y6] w fun e w' => e = .returned (.bool true) ∧ Ext w w' :=
  cmatch_law host a n c rs a2 n2 c2 r y2 y3 y4 y5 y6 w who h1 h2 (wf_u64 w2) w3 w4 w5 w6 ht
end Go.Proofs.YtfohekfhcolnfaaDoor
