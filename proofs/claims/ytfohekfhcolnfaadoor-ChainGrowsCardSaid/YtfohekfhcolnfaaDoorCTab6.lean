/-
  The walk of ChainGrows, its facts in the order in which the claim hands them over.
-/
import Derived.Test.YtfohekfhcolnfaaDoorC30
import Derived.Test.YtfohekfhcolnfaaDoorCOp
namespace Go.Proofs.YtfohekfhcolnfaaDoor
open Go.RowKit Go.Sort

theorem wf_u16 {x : Int} (h : (Lit.int .u16 x).wf = true) : 0 ≤ x ∧ x ≤ 65535 := by simp [Lit.wf, IntKind.min, IntKind.max, IntKind.bits, IntKind.signed] at h; omega
theorem LGrows (host : Int) (a : Option Addr) (n c : Nat) (rs : List (List Rp)) (y1 lo hi : Int) (w : World) (who : (Lit.int .i64 host).wf = true) (h1 : Rws w a n c rs) (w1 : (Lit.int .u16 y1).wf = true) (w2 : (Lit.int .i64 lo).wf = true) (w3 : (Lit.int .i64 hi).wf = true) (ht : TB w) :
    Calls Tryd.prog 5 #[.agg #[.int .i64 host, .slice a n c], .int .u16 y1, .agg #[.int .i64 lo, .int .i64 hi]] w fun e w' => e = .returned (.bool true) ∧ Ext w w' :=
  cgrows_law host a n c rs y1 lo hi w who h1 (wf_u16 w1) w2 w3 ht
end Go.Proofs.YtfohekfhcolnfaaDoor
