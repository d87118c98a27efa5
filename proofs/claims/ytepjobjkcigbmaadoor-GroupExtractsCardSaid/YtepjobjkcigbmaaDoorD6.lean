/-
  The reference's Eight, walked.
-/
import Derived.Test.YtepjobjkcigbmaaDoorD4
namespace Go.Proofs.YtepjobjkcigbmaaDoor
open Go.RowKit Go.Sort
set_option linter.unusedSimpArgs false
set_option linter.unusedVariables false
set_option maxRecDepth 100000

end Go.Proofs.YtepjobjkcigbmaaDoor
