/-
  The walks of the laws of groups, their facts in the order in which the claims hand them over.
-/
import Derived.Test.YtepjobjkcigbmaaDoorG9
import Derived.Test.YtepjobjkcigbmaaDoorG11
namespace Go.Proofs.YtepjobjkcigbmaaDoor
open Go.RowKit Go.Sort
set_option linter.unusedSimpArgs false
set_option linter.unusedVariables false

theorem LMatch (a b x y C S : Int) (a1 : Option Addr) (n1 c1 : Nat) (ms : List Int) (w : World) (w0 : (Lit.int .i64 a).wf = true) (w1 : (Lit.int .i64 b).wf = true) (w2 : (Lit.int .i64 x).wf = true) (w3 : (Lit.int .i64 y).wf = true) (w4 : (Lit.int .i64 C).wf = true) (w5 : (Lit.int .i64 S).wf = true) (h : Sl .i64 w a1 n1 c1 ms) (ht : TB w) :
    Calls Tryd.prog 3 #[.int .i64 a, .int .i64 b, .int .i64 x, .int .i64 y, .agg #[.int .i64 C, .int .i64 S], .slice a1 n1 c1] w fun e w' => e = .returned (.bool true) ∧ Ext w w' :=
  gmatch_any a b x y C S a1 n1 c1 ms w h ht
theorem LPowers (n m i k : Int) (w : World) (w0 : (Lit.int .u64 n).wf = true) (w1 : (Lit.int .u64 m).wf = true) (w2 : (Lit.int .u64 i).wf = true) (w3 : (Lit.int .u64 k).wf = true) (ht : TB w) :
    Calls Tryd.prog 4 #[.int .u64 n, .int .u64 m, .int .u64 i, .int .u64 k] w fun e w' => e = .returned (.bool true) ∧ Ext w w' :=
  gpowers_any n m i k (wf_u64 w0) (wf_u64 w1) (wf_u64 w2) (wf_u64 w3) w ht
theorem LOrder (n m o i k : Int) (w : World) (w0 : (Lit.int .u64 n).wf = true) (w1 : (Lit.int .u64 m).wf = true) (w2 : (Lit.int .u64 o).wf = true) (w3 : (Lit.int .u64 i).wf = true) (w4 : (Lit.int .u64 k).wf = true) (ht : TB w) :
    Calls Tryd.prog 5 #[.int .u64 n, .int .u64 m, .int .u64 o, .int .u64 i, .int .u64 k] w fun e w' => e = .returned (.bool true) ∧ Ext w w' :=
  gorder_any n m o i k (wf_u64 w0) (wf_u64 w1) (wf_u64 w2) (wf_u64 w3) (wf_u64 w4) w ht
end Go.Proofs.YtepjobjkcigbmaaDoor
