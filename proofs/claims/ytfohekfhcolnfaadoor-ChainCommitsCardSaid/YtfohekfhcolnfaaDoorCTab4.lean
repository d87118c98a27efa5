/-
  The walk of ChainCommits, its facts in the order in which the claim hands them over.
-/
import Derived.Test.YtfohekfhcolnfaaDoorC27
import Derived.Test.YtfohekfhcolnfaaDoorCOp
namespace Go.Proofs.YtfohekfhcolnfaaDoor
open Go.RowKit Go.Sort

theorem LCommits (host : Int) (a : Option Addr) (n c : Nat) (rs : List (List Rp)) (y1 : Int) (a2 : Option Addr) (n2 c2 : Nat) (r : List Rp) (w : World) (who : (Lit.int .i64 host).wf = true) (h1 : Rws w a n c rs) (w1 : (Lit.int .u8 y1).wf = true) (h2 : Rw w a2 n2 c2 r) (ht : TB w) :
    Calls Tryd.prog 6 #[.agg #[.int .i64 host, .slice a n c], .int .u8 y1, .agg #[.slice a2 n2 c2]] w fun e w' => e = .returned (.bool true) ∧ Ext w w' :=
  ccommit_law host a n c rs y1 a2 n2 c2 r w who h1 (wf_u8 w1) h2 ht
end Go.Proofs.YtfohekfhcolnfaaDoor
