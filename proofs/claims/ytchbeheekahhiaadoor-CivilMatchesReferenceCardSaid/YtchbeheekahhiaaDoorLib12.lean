/-
  Guarded operations in a region that is walked operation by operation.
-/
import Derived.Test.YtchbeheekahhiaaDoorLib11
namespace Go.Proofs.YtchbeheekahhiaaDoor
open Go.RowKit Go.Sort
set_option linter.unusedSimpArgs false
set_option linter.unusedVariables false

/-- A guarded operation that is wanted is walked as if it had no guard. -/
theorem wantedOp {P : Program} {ops : Array Oper} {rest : List Oper} {o : Oper} {a : Act} {w : World} {Q : Exit → Act → World → Prop} (hw : Region.wanted o (yielded ops a.tmps) = true)
    (h : wpList P ops Q ({ o with guard := none } :: rest) a w) : wpList P ops Q (o :: rest) a w := by
  unfold wpList at h ⊢
  rw [if_pos hw]
  rw [if_pos (by simp [Region.wanted])] at h
  exact h
/-- One that is not wanted leaves its slot undefined. -/
theorem unwantedOp {P : Program} {ops : Array Oper} {rest : List Oper} {o : Oper} {a : Act} {w : World} {Q : Exit → Act → World → Prop} (hw : Region.wanted o (yielded ops a.tmps) = false)
    (h : wpList P ops Q rest (a.put o.dst undef) w) : wpList P ops Q (o :: rest) a w := by
  unfold wpList
  rw [if_neg (by rw [hw]; simp)]
  exact h
theorem rely_undef {P : Program} {ops : Array Oper} {S : World → World → Prop} {Q : Exit → Act → World → Prop} {I : World → Prop} {a : Act} {o : Oper} {d : Option Tmp} {r : Rel S} {W : World} (hw : Region.wanted o (yielded ops a.tmps) = false) (hd : o.dst = d) (h2 : r.r undef W) (h3 : S W W) (h4 : I W) :
    wpList P ops (relyQ Q I a d r W) [o] a W := unwantedOp hw (wpList_nil (rely_done undef (by rw [hd]) h2 h3 h4))
end Go.Proofs.YtchbeheekahhiaaDoor
