/-
  The walk of the law of nonces, its facts in the order in which the claim hands them over.
-/
import Derived.Test.YtfohekfhcolnfaaDoorC23
namespace Go.Proofs.YtfohekfhcolnfaaDoor
open Go.RowKit Go.Sort

theorem LNonces (y0 y1 y2 y3 y4 y5 : Int) (w : World) (w0 : (Lit.int .u64 y0).wf = true) (w1 : (Lit.int .i64 y1).wf = true) (w2 : (Lit.int .i64 y2).wf = true) (w3 : (Lit.int .i64 y3).wf = true) (w4 : (Lit.int .u8 y4).wf = true) (w5 : (Lit.int .u8 y5).wf = true) (ht : TB w) :
    Calls Tryd.prog 8 #[.int .u64 y0, .int .i64 y1, .int .i64 y2, .int .i64 y3, .int .u8 y4, .int .u8 y5] w fun e w' => e = .returned (.bool true) ∧ Ext w w' :=
  cnonces_law y0 y1 y2 y3 y4 y5 (wf_u64 w0) w1 w2 w3 (wf_u8 w4) (wf_u8 w5) w ht
end Go.Proofs.YtfohekfhcolnfaaDoor
