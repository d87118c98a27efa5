/-
  The walk of CivilText, its facts in the order in which the claim hands them over.
-/
import Derived.Test.YtchbeheekahhiaaDoorVA1
import Derived.Test.YtchbeheekahhiaaDoorVOp
namespace Go.Proofs.YtchbeheekahhiaaDoor
open Go.RowKit Go.Sort

theorem LText (d1 m1 d2 m2 : Int) (S : ByteArray) (w : World) (_ : (Lit.int .i64 d1).wf = true) (_ : (Lit.int .i64 m1).wf = true) (_ : (Lit.int .i64 d2).wf = true) (_ : (Lit.int .i64 m2).wf = true) (hS : S.size ≤ maxLen) (ht : TB w ∧ TL w) :
    Calls Tryd.prog 7 #[.agg #[.int .i64 d1, .int .i64 m1], .agg #[.int .i64 d2, .int .i64 m2], .string S] w fun e w' => e = .returned (.bool true) ∧ Ext w w' := by
  have h := ctextlaw_any d1 m1 d2 m2 S.data.toList hS w ht.1 ht.2
  rwa [← mkS_all] at h
end Go.Proofs.YtchbeheekahhiaaDoor
