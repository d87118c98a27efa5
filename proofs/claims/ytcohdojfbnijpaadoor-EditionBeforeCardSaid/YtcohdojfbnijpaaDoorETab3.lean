/-
  The walk of EditionBefore, its facts in the order in which the claim hands them over.
-/
import Derived.Test.YtcohdojfbnijpaaDoorEL3
import Derived.Test.YtcohdojfbnijpaaDoorEOp
namespace Go.Proofs.YtcohdojfbnijpaaDoor
open Go.RowKit Go.Sort

theorem LBefore (pv pf pu : Int) (pa : Option Addr) (pn pc : Nat) (pl : List Lp) (pC pS : Int) (qv qf qu : Int) (qa : Option Addr) (qn qc : Nat) (ql : List Lp) (qC qS : Int) (w : World) (hp : Rw w pa pn pc pl) (hq : Rw w qa qn qc ql) (ht : TB w) :
    Calls Tryd.prog 5 #[.agg #[.int .i64 pv, .int .i64 pf, .int .i64 pu, .slice pa pn pc, .int .i64 pC, .int .i64 pS], .agg #[.int .i64 qv, .int .i64 qf, .int .i64 qu, .slice qa qn qc, .int .i64 qC, .int .i64 qS]] w fun e w' => e = .returned (.bool true) ∧ Ext w w' :=
  ebefore_law pv pf pu pa pn pc pl pC pS qv qf qu qa qn qc ql qC qS w hp hq ht
end Go.Proofs.YtcohdojfbnijpaaDoor
