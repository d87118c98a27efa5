/-
  The walk of InboxChain, its facts in the order in which the claim hands them over.
-/
import Derived.Test.YtdmfdimhjemngaaDoorIW
import Derived.Test.YtdmfdimhjemngaaDoorIOp
namespace Go.Proofs.YtdmfdimhjemngaaDoor
open Go.RowKit Go.Sort

theorem u16_bdC {x : Int} (h : (Lit.int .u16 x).wf = true) : 0 ≤ x ∧ x ≤ 65535 := by simp [Lit.wf, IntKind.min, IntKind.max, IntKind.signed, IntKind.bits] at h; omega
theorem LChain (host : Int) (ca : Option Addr) (cn cc : Nat) (rs : List (List Rp)) (au : Int) (qa : Option Addr) (qn qc : Nat) (pks : List (List Int)) (w : World) (who : (Lit.int .i64 host).wf = true) (h1 : Rws w ca cn cc rs) (w3 : (Lit.int .u16 au).wf = true) (hq : Sll .u8 w qa qn qc pks) (ht : TB w) :
    Calls Tryd.prog 7 #[.agg #[.int .i64 host, .slice ca cn cc], .int .u16 au, .slice qa qn qc] w fun e w' => e = .returned (.bool true) ∧ Ext w w' :=
  ichain_law host who ca cn cc rs au (u16_bdC w3) qa qn qc pks w h1 hq ht
end Go.Proofs.YtdmfdimhjemngaaDoor
