/-
  The walk of EditionMoves, its facts in the order in which the claim hands them over.
-/
import Derived.Test.YtcohdojfbnijpaaDoorEL4
import Derived.Test.YtcohdojfbnijpaaDoorEOp
namespace Go.Proofs.YtcohdojfbnijpaaDoor
open Go.RowKit Go.Sort

theorem LMoves (a : Option Addr) (n c : Nat) (l : List Lp) (a2 : Option Addr) (n2 c2 : Nat) (l2 : List Lp) (d m : Int) (w : World) (h1 : Rw w a n c l) (h2 : Rw w a2 n2 c2 l2) (_ : (Lit.int .i64 d).wf = true) (_ : (Lit.int .i64 m).wf = true) (ht : TB w) :
    Calls Tryd.prog 8 #[.slice a n c, .slice a2 n2 c2, .agg #[.int .i64 d, .int .i64 m]] w fun e w' => e = .returned (.bool true) ∧ Ext w w' :=
  emoves_law a n c l a2 n2 c2 l2 d m w h1 h2 ht
end Go.Proofs.YtcohdojfbnijpaaDoor
