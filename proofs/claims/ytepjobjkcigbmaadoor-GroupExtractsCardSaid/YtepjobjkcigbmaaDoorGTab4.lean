/-
  The walk of GroupExtracts, its facts in the order in which the claim hands them over.
-/
import Derived.Test.YtepjobjkcigbmaaDoorG15
namespace Go.Proofs.YtepjobjkcigbmaaDoor
open Go.RowKit Go.Sort
theorem LExtracts (key once : Int) (a1 : Option Addr) (n1 c1 : Nat) (xs : List Int) (a2 : Option Addr) (n2 c2 : Nat) (ys : List Int) (w : World) (w0 : (Lit.int .u64 key).wf = true) (w1 : (Lit.int .u64 once).wf = true) (h1 : Sl .i64 w a1 n1 c1 xs) (h2 : Sl .i64 w a2 n2 c2 ys) (ht : TB w) :
    Calls Tryd.prog 8 #[.int .u64 key, .int .u64 once, .slice a1 n1 c1, .slice a2 n2 c2] w fun e w' => e = .returned (.bool true) ∧ Ext w w' :=
  gextracts_any key once (wf_u64 w0) (wf_u64 w1) a1 n1 c1 xs a2 n2 c2 ys w h1 h2 ht
end Go.Proofs.YtepjobjkcigbmaaDoor
