/-
  The walk of CivilSteps, its facts in the order in which the claim hands them over.
-/
import Derived.Test.YtchbeheekahhiaaDoorVW
import Derived.Test.YtchbeheekahhiaaDoorVOp
namespace Go.Proofs.YtchbeheekahhiaaDoor
open Go.RowKit Go.Sort

theorem LSteps (a : Option Addr) (n c : Nat) (l : List Lp) (t : Int) (w : World) (h1 : Rw w a n c l) (_ : (Lit.int .i64 t).wf = true) (ht : TB w ∧ TL w) :
    Calls Tryd.prog 8 #[.slice a n c, .int .i64 t] w fun e w' => e = .returned (.bool true) ∧ Ext w w' :=
  csteps_law a n c l t w h1 ht.1 ht.2
end Go.Proofs.YtchbeheekahhiaaDoor
