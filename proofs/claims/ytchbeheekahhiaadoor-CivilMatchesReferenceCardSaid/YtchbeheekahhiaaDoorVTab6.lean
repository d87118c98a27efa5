/-
  The walk of CivilMatchesReference, its facts in the order in which the claim hands them over.
-/
import Derived.Test.YtchbeheekahhiaaDoorVA8
import Derived.Test.YtchbeheekahhiaaDoorVOp
namespace Go.Proofs.YtchbeheekahhiaaDoor
open Go.RowKit Go.Sort

theorem LMatches (a : Option Addr) (n c : Nat) (l : List Lp) (t cd cm wd ws wm : Int) (S : ByteArray) (w : World) (h1 : Rw w a n c l) (_ : (Lit.int .i64 t).wf = true) (_ : (Lit.int .i64 cd).wf = true) (_ : (Lit.int .i64 cm).wf = true) (_ : (Lit.int .i64 wd).wf = true) (_ : (Lit.int .i64 ws).wf = true) (_ : (Lit.int .i64 wm).wf = true) (hS : S.size ≤ maxLen) (ht : TB w ∧ TL w) :
    Calls Tryd.prog 3 #[.slice a n c, .int .i64 t, .agg #[.int .i64 cd, .int .i64 cm], .agg #[.int .i64 wd, .int .i64 ws, .int .i64 wm], .string S] w fun e w' => e = .returned (.bool true) ∧ Ext w w' := by
  have h := cmatches_law a n c l t cd cm wd ws wm S.data.toList hS w h1 ht.1 ht.2
  rwa [← mkS_all] at h
end Go.Proofs.YtchbeheekahhiaaDoor
