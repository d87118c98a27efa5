/-
  The walk of GroupSigns, its facts in the order in which the claim hands them over.
-/
import Derived.Test.YtepjobjkcigbmaaDoorG13
namespace Go.Proofs.YtepjobjkcigbmaaDoor
open Go.RowKit Go.Sort
theorem LSigns (key once : Int) (a1 : Option Addr) (n1 c1 : Nat) (xs : List Int) (C S : Int) (w : World) (w0 : (Lit.int .u64 key).wf = true) (w1 : (Lit.int .u64 once).wf = true) (h1 : Sl .i64 w a1 n1 c1 xs) (wC : (Lit.int .i64 C).wf = true) (wS : (Lit.int .i64 S).wf = true) (ht : TB w) :
    Calls Tryd.prog 6 #[.int .u64 key, .int .u64 once, .slice a1 n1 c1, .agg #[.int .i64 C, .int .i64 S]] w fun e w' => e = .returned (.bool true) ∧ Ext w w' :=
  gsigns_any key once (wf_u64 w0) (wf_u64 w1) a1 n1 c1 xs C S (wf_i64 wC) (wf_i64 wS) w h1 ht
end Go.Proofs.YtepjobjkcigbmaaDoor
