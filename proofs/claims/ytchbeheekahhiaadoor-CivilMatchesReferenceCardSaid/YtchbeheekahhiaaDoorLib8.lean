/-
  What a grown world keeps, as rules for the walk.
-/
import Derived.Test.YtchbeheekahhiaaDoorLib7
import Derived.BigGuardPart
import Derived.Handy
namespace Go.Proofs.YtchbeheekahhiaaDoor
open Go.RowKit Go.Sort
set_option linter.unusedSimpArgs false
set_option linter.unusedVariables false

theorem Ext.rules {W w1 : World} (hb : Ext W w1) : (∀ b o, b < W.heap.size → w1.cell? ⟨b, o, none⟩ = W.cell? ⟨b, o, none⟩) ∧ (∀ b o, b < W.heap.size → w1.frozen? ⟨b, o, none⟩ = W.frozen? ⟨b, o, none⟩) :=
  ⟨fun b o h => Below.cell hb (p := ⟨b, o, none⟩) h, fun b o h => Below.frozen hb (p := ⟨b, o, none⟩) h⟩

/-- The size of a grown world, behind one new block. -/
theorem Ext.sz1 {W w1 : World} {o : Obj} (hb : Ext (W.alloc o) w1) : W.heap.size < w1.heap.size := by have := hb.sz; simp at this; omega

/-- A cell of an old block, in every world of a region's walk: 'have hg := @grow_cell'. -/
theorem grow_cell : ∀ (W : World) (b o d : Nat) (os : Array Obj), b < W.heap.size → (grow (redrawn W d) os).cell? ⟨b, o, none⟩ = W.cell? ⟨b, o, none⟩ :=
  fun W b o d os h => (ext_grow W d os).rules.1 b o h

end Go.Proofs.YtchbeheekahhiaaDoor
