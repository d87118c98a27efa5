/-
  The walk of CivilInverse, its facts in the order in which the claim hands them over.
-/
import Derived.Test.YtchbeheekahhiaaDoorVX
import Derived.Test.YtchbeheekahhiaaDoorVOp
namespace Go.Proofs.YtchbeheekahhiaaDoor
open Go.RowKit Go.Sort

theorem LInverse (a : Option Addr) (n c : Nat) (l : List Lp) (t cd cm : Int) (w : World) (h1 : Rw w a n c l) (_ : (Lit.int .i64 t).wf = true) (_ : (Lit.int .i64 cd).wf = true) (_ : (Lit.int .i64 cm).wf = true) (ht : TB w ∧ TL w) :
    Calls Tryd.prog 4 #[.slice a n c, .int .i64 t, .agg #[.int .i64 cd, .int .i64 cm]] w fun e w' => e = .returned (.bool true) ∧ Ext w w' :=
  cinverse_law a n c l t cd cm w h1 ht.1 ht.2
end Go.Proofs.YtchbeheekahhiaaDoor
