/-
  Small functions of the laws of chapter 18, walked.
-/
import Derived.Test.YtcohdojfbnijpaaDoorVR
namespace Go.Proofs.YtcohdojfbnijpaaDoor
open Go.RowKit Go.Sort Go.Shelf
set_option linter.unusedSimpArgs false
set_option linter.unusedVariables false
set_option maxRecDepth 100000

/-- A well-formed civil time. -/
def civB (d m : Int) : Bool := inW d 0 34000 && (inW m 0 86400999999)
/-- A well-formed wall clock. -/
def walB (d s m : Int) : Bool := inW d 0 34000 && (inW s 0 86399 && inW m 0 999999)
end Go.Proofs.YtcohdojfbnijpaaDoor
