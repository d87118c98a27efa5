/-
  civil.Find, walked.
-/
import Derived.Test.YtcohdojfbnijpaaDoorVF
namespace Go.Proofs.YtcohdojfbnijpaaDoor
open Go.RowKit Go.Sort Go.Shelf
set_option linter.unusedSimpArgs false
set_option linter.unusedVariables false
set_option maxRecDepth 100000

/-- The times at which a wall clock shows this on a day that begins at S and is L long. -/
def fndT (S L sec mic : Int) : List Int := if sec * 1000000 + mic < L then (if sec = 86399 ∧ sec * 1000000 + mic + 1000000 < L then [S + (sec * 1000000 + mic), S + (sec * 1000000 + mic + 1000000)] else [S + (sec * 1000000 + mic)]) else []
def fdF (l : List Lp) (day sec mic : Int) : List Int × Int := if rightL l day = true ∧ inW sec 0 86399 = true ∧ inW mic 0 999999 = true then (fndT (startL l day) (lenL l day) sec mic, 0) else ([], 1)
def FdP (l : List Lp) (day sec mic : Int) (w : World) : Ending → World → Prop := fun e w' => ∃ a' n' c', e = .returned (.tuple #[.slice a' n' c', .int .i64 (fdF l day sec mic).2]) ∧ OwI .i64 3 w.heap.size w' a' n' c' (fdF l day sec mic).1 ∧ Ext w w'

end Go.Proofs.YtcohdojfbnijpaaDoor
