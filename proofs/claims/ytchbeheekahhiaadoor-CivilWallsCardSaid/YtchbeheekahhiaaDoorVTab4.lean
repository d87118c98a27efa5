/-
  The walk of CivilWalls, its facts in the order in which the claim hands them over.
-/
import Derived.Test.YtchbeheekahhiaaDoorVY
import Derived.Test.YtchbeheekahhiaaDoorVOp
namespace Go.Proofs.YtchbeheekahhiaaDoor
open Go.RowKit Go.Sort

theorem LWalls (a : Option Addr) (n c : Nat) (l : List Lp) (d s m t : Int) (w : World) (h1 : Rw w a n c l) (_ : (Lit.int .i64 d).wf = true) (_ : (Lit.int .i64 s).wf = true) (_ : (Lit.int .i64 m).wf = true) (_ : (Lit.int .i64 t).wf = true) (ht : TB w ∧ TL w) :
    Calls Tryd.prog 6 #[.slice a n c, .agg #[.int .i64 d, .int .i64 s, .int .i64 m], .int .i64 t] w fun e w' => e = .returned (.bool true) ∧ Ext w w' :=
  cwalls_law a n c l d s m t w h1 ht.1 ht.2
end Go.Proofs.YtchbeheekahhiaaDoor
