/-
  The walk of EditionFollows, its facts in the order in which the claim hands them over.
-/
import Derived.Test.YtcohdojfbnijpaaDoorEL2
import Derived.Test.YtcohdojfbnijpaaDoorEOp
namespace Go.Proofs.YtcohdojfbnijpaaDoor
open Go.RowKit Go.Sort

theorem u64_bd {x : Int} (h : (Lit.int .u64 x).wf = true) : 0 ≤ x ∧ x ≤ 18446744073709551615 := by simp [Lit.wf, IntKind.min, IntKind.max, IntKind.signed, IntKind.bits] at h; omega
theorem LFollows (pv pf pu : Int) (pa : Option Addr) (pn pc : Nat) (pl : List Lp) (pC pS : Int) (qv qf qu : Int) (qa : Option Addr) (qn qc : Nat) (ql : List Lp) (qC qS : Int) (x : Int) (w : World) (hp : Rw w pa pn pc pl) (hq : Rw w qa qn qc ql) (hx : (Lit.int .u64 x).wf = true) (ht : TB w) :
    Calls Tryd.prog 9 #[.agg #[.int .i64 pv, .int .i64 pf, .int .i64 pu, .slice pa pn pc, .int .i64 pC, .int .i64 pS], .agg #[.int .i64 qv, .int .i64 qf, .int .i64 qu, .slice qa qn qc, .int .i64 qC, .int .i64 qS], .int .u64 x] w fun e w' => e = .returned (.bool true) ∧ Ext w w' :=
  efollows_law pv pf pu pa pn pc pl pC pS qv qf qu qa qn qc ql qC qS x (u64_bd hx) w hp hq ht
end Go.Proofs.YtcohdojfbnijpaaDoor
