/-
  The walk of EditionNewest, its facts in the order in which the claim hands them over.
-/
import Derived.Test.YtcohdojfbnijpaaDoorEL5
import Derived.Test.YtcohdojfbnijpaaDoorEOp
namespace Go.Proofs.YtcohdojfbnijpaaDoor
open Go.RowKit Go.Sort

theorem u64_bd {x : Int} (h : (Lit.int .u64 x).wf = true) : 0 ≤ x ∧ x ≤ 18446744073709551615 := by simp [Lit.wf, IntKind.min, IntKind.max, IntKind.signed, IntKind.bits] at h; omega
theorem LNewest (a : Option Addr) (n c : Nat) (es : List Ed) (x : Int) (w : World) (h1 : EdR w a n c es) (hx : (Lit.int .u64 x).wf = true) (ht : TB w) :
    Calls Tryd.prog 6 #[.slice a n c, .int .u64 x] w fun e w' => e = .returned (.bool true) ∧ Ext w w' :=
  enewest_law a n c es x (u64_bd hx) w h1 ht
end Go.Proofs.YtcohdojfbnijpaaDoor
