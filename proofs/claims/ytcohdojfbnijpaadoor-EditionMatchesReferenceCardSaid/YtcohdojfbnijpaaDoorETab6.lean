/-
  The walk of EditionMatchesReference, its facts in the order in which the claim hands them over.
-/
import Derived.Test.YtcohdojfbnijpaaDoorEL6
import Derived.Test.YtcohdojfbnijpaaDoorEOp
namespace Go.Proofs.YtcohdojfbnijpaaDoor
open Go.RowKit Go.Sort

theorem LMatchesReference (a : Option Addr) (n c : Nat) (es : List Ed) (pv pf pu : Int) (pa : Option Addr) (pn pc : Nat) (pl : List Lp) (pC pS : Int) (qv qf qu : Int) (qa : Option Addr) (qn qc : Nat) (ql : List Lp) (qC qS : Int) (d m key once pub t : Int) (w : World) (he : EdR w a n c es) (hp : Rw w pa pn pc pl) (hq : Rw w qa qn qc ql) (_ : (Lit.int .i64 d).wf = true) (_ : (Lit.int .i64 m).wf = true) (_ : (Lit.int .i64 key).wf = true) (_ : (Lit.int .i64 once).wf = true) (_ : (Lit.int .i64 pub).wf = true) (_ : (Lit.int .i64 t).wf = true) (ht : TB w) :
    Calls Tryd.prog 3 #[.slice a n c, .agg #[.int .i64 pv, .int .i64 pf, .int .i64 pu, .slice pa pn pc, .int .i64 pC, .int .i64 pS], .agg #[.int .i64 qv, .int .i64 qf, .int .i64 qu, .slice qa qn qc, .int .i64 qC, .int .i64 qS], .agg #[.int .i64 d, .int .i64 m], .int .i64 key, .int .i64 once, .int .i64 pub, .int .i64 t] w fun e w' => e = .returned (.bool true) ∧ Ext w w' :=
  ematch_law a n c es pv pf pu pa pn pc pl pC pS qv qf qu qa qn qc ql qC qS d m key once pub t w he hp hq ht
end Go.Proofs.YtcohdojfbnijpaaDoor
