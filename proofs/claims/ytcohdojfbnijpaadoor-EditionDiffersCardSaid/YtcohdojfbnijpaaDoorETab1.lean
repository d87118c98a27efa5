/-
  The walk of EditionDiffers, its facts in the order in which the claim hands them over.
-/
import Derived.Test.YtcohdojfbnijpaaDoorEL1
import Derived.Test.YtcohdojfbnijpaaDoorEOp
namespace Go.Proofs.YtcohdojfbnijpaaDoor
open Go.RowKit Go.Sort

theorem u32_bd {x : Int} (h : (Lit.int .u32 x).wf = true) : 0 ≤ x ∧ x ≤ 4294967295 := by simp [Lit.wf, IntKind.min, IntKind.max, IntKind.signed, IntKind.bits] at h; omega
theorem LDiffers (a : Option Addr) (n c : Nat) (l : List Lp) (a2 : Option Addr) (n2 c2 : Nat) (l2 : List Lp) (x : Int) (w : World) (h1 : Rw w a n c l) (h2 : Rw w a2 n2 c2 l2) (hx : (Lit.int .u32 x).wf = true) (ht : TB w) :
    Calls Tryd.prog 7 #[.slice a n c, .slice a2 n2 c2, .int .u32 x] w fun e w' => e = .returned (.bool true) ∧ Ext w w' :=
  ediffers_law a n c l a2 n2 c2 l2 x (u32_bd hx) w h1 h2 ht
end Go.Proofs.YtcohdojfbnijpaaDoor
