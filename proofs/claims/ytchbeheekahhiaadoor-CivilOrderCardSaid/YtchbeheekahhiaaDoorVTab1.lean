/-
  The walk of CivilOrder, its facts in the order in which the claim hands them over.
-/
import Derived.Test.YtchbeheekahhiaaDoorVV
import Derived.Test.YtchbeheekahhiaaDoorVOp
namespace Go.Proofs.YtchbeheekahhiaaDoor
open Go.RowKit Go.Sort

theorem LOrder (a : Option Addr) (n c : Nat) (l : List Lp) (one two : Int) (w : World) (h1 : Rw w a n c l) (_ : (Lit.int .i64 one).wf = true) (_ : (Lit.int .i64 two).wf = true) (ht : TB w ∧ TL w) :
    Calls Tryd.prog 5 #[.slice a n c, .int .i64 one, .int .i64 two] w fun e w' => e = .returned (.bool true) ∧ Ext w w' :=
  corder_law a n c l one two w h1 ht.1 ht.2
end Go.Proofs.YtchbeheekahhiaaDoor
