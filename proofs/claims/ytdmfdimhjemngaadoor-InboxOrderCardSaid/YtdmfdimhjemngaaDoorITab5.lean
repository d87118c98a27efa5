/-
  The walk of InboxOrder, its facts in the order in which the claim hands them over.
-/
import Derived.Test.YtdmfdimhjemngaaDoorJB
import Derived.Test.YtdmfdimhjemngaaDoorIOp
namespace Go.Proofs.YtdmfdimhjemngaaDoor
open Go.RowKit Go.Sort

theorem u16_bdO {x : Int} (h : (Lit.int .u16 x).wf = true) : 0 ≤ x ∧ x ≤ 65535 := by simp [Lit.wf, IntKind.min, IntKind.max, IntKind.signed, IntKind.bits] at h; omega
theorem u8_bdO {x : Int} (h : (Lit.int .u8 x).wf = true) : 0 ≤ x ∧ x ≤ 255 := by simp [Lit.wf, IntKind.min, IntKind.max, IntKind.signed, IntKind.bits] at h; omega
theorem LOrder (host : Int) (ca : Option Addr) (cn cc : Nat) (rs : List (List Rp)) (au ls tu : Int) (w : World) (who : (Lit.int .i64 host).wf = true) (h1 : Rws w ca cn cc rs) (w3 : (Lit.int .u16 au).wf = true) (w4 : (Lit.int .u16 ls).wf = true) (w5 : (Lit.int .u8 tu).wf = true) (ht : TB w) :
    Calls Tryd.prog 4 #[.agg #[.int .i64 host, .slice ca cn cc], .int .u16 au, .int .u16 ls, .int .u8 tu] w fun e w' => e = .returned (.bool true) ∧ Ext w w' :=
  iorder_law host who ca cn cc rs au (u16_bdO w3) ls (u16_bdO w4) tu (u8_bdO w5) w h1 ht
end Go.Proofs.YtdmfdimhjemngaaDoor
