/-
  The walk of InboxAnswers, its facts in the order in which the claim hands them over.
-/
import Derived.Test.YtdmfdimhjemngaaDoorIU
import Derived.Test.YtdmfdimhjemngaaDoorIOp
namespace Go.Proofs.YtdmfdimhjemngaaDoor
open Go.RowKit Go.Sort

theorem u16_bdA {x : Int} (h : (Lit.int .u16 x).wf = true) : 0 ≤ x ∧ x ≤ 65535 := by simp [Lit.wf, IntKind.min, IntKind.max, IntKind.signed, IntKind.bits] at h; omega
theorem u8_bdA {x : Int} (h : (Lit.int .u8 x).wf = true) : 0 ≤ x ∧ x ≤ 255 := by simp [Lit.wf, IntKind.min, IntKind.max, IntKind.signed, IntKind.bits] at h; omega
theorem LAnswers (host : Int) (ca : Option Addr) (cn cc : Nat) (rs : List (List Rp)) (sent wait au wh lo hi delay : Int) (w : World) (who : (Lit.int .i64 host).wf = true) (h1 : Rws w ca cn cc rs) (w1 : (Lit.int .i64 sent).wf = true) (w2 : (Lit.int .i64 wait).wf = true) (w3 : (Lit.int .u16 au).wf = true) (w4 : (Lit.int .u8 wh).wf = true) (w5 : (Lit.int .i64 lo).wf = true) (w6 : (Lit.int .i64 hi).wf = true) (_ : (Lit.int .i64 delay).wf = true) (ht : TB w) :
    Calls Tryd.prog 3 #[.agg #[.int .i64 host, .slice ca cn cc], .int .i64 sent, .int .i64 wait, .int .u16 au, .int .u8 wh, .agg #[.int .i64 lo, .int .i64 hi], .int .i64 delay] w fun e w' => e = .returned (.bool true) ∧ Ext w w' :=
  ianswers_law host who ca cn cc rs sent wait w1 w2 au (u16_bdA w3) wh (u8_bdA w4) lo hi w5 w6 delay w h1 ht
end Go.Proofs.YtdmfdimhjemngaaDoor
