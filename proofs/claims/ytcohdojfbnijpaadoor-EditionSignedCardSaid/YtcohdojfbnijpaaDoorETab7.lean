/-
  The walk of EditionSigned, its facts in the order in which the claim hands them over.
-/
import Derived.Test.YtcohdojfbnijpaaDoorEL7
import Derived.Test.YtcohdojfbnijpaaDoorEOp
namespace Go.Proofs.YtcohdojfbnijpaaDoor
open Go.RowKit Go.Sort

theorem u64_bd {x : Int} (h : (Lit.int .u64 x).wf = true) : 0 ≤ x ∧ x ≤ 18446744073709551615 := by simp [Lit.wf, IntKind.min, IntKind.max, IntKind.signed, IntKind.bits] at h; omega
theorem u16_bd {x : Int} (h : (Lit.int .u16 x).wf = true) : 0 ≤ x ∧ x ≤ 65535 := by simp [Lit.wf, IntKind.min, IntKind.max, IntKind.signed, IntKind.bits] at h; omega
theorem u8_bd {x : Int} (h : (Lit.int .u8 x).wf = true) : 0 ≤ x ∧ x ≤ 255 := by simp [Lit.wf, IntKind.min, IntKind.max, IntKind.signed, IntKind.bits] at h; omega
theorem LSigned (pv pf pu : Int) (pa : Option Addr) (pn pc : Nat) (pl : List Lp) (pC pS : Int) (key once by_ which : Int) (w : World) (hp : Rw w pa pn pc pl) (hk : (Lit.int .u64 key).wf = true) (ho : (Lit.int .u64 once).wf = true) (hb : (Lit.int .u16 by_).wf = true) (hw : (Lit.int .u8 which).wf = true) (ht : TB w) :
    Calls Tryd.prog 4 #[.agg #[.int .i64 pv, .int .i64 pf, .int .i64 pu, .slice pa pn pc, .int .i64 pC, .int .i64 pS], .int .u64 key, .int .u64 once, .int .u16 by_, .int .u8 which] w fun e w' => e = .returned (.bool true) ∧ Ext w w' :=
  esigned_law pv pf pu pa pn pc pl pC pS key once by_ which (u64_bd hk) (u64_bd ho) (u16_bd hb) (u8_bd hw) w hp ht
end Go.Proofs.YtcohdojfbnijpaaDoor
