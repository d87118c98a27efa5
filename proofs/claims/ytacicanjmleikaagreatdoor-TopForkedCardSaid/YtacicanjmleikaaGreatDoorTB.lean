/-
  The table of the powers of ten, out of the row's own listed variables.
-/
import Derived.Test.YtacicanjmleikaaGreatDoorDA
import Derived.LaidMore
import Derived.OpenShut
import Derived.Stop.Joined
namespace Go.Proofs.YtacicanjmleikaaGreatDoor
open Go.RowKit
set_option linter.unusedSimpArgs false
set_option linter.unusedVariables false

/-- The table of the powers of ten lies here. -/
def TB (w : World) : Prop := Lib.TabBelow Tryz.prog w.heap.size w "internal/strconv.uint64pow10" .u64 Lib.pow10Tab
theorem TB.ext {w W : World} (h : TB w) (hE : Ext w W) : TB W := fun w' h' => h w' (Below.trans hE (Below.mono h' hE.sz))

def Yes (w : World) : Ending → World → Prop := fun e w' => e = .returned (.bool true) ∧ Ext w w'

theorem tabOf {W : World} (h : laidMetH Tryz.prog [("math/bits.deBruijn32tab", Rows.laid_math_bits_deBruijn32tab), ("math/bits.deBruijn64tab", Rows.laid_math_bits_deBruijn64tab), ("internal/strconv.uint64pow10", Rows.laid_internal_strconv_uint64pow10)] W) : TB W := by
  rw [MakeChecks.laidMetH_plain _ _ _ (by kernel_rfl)] at h
  obtain ⟨ps, ⟨g0, t0, cs0, f0, p0, q0, hg0, ht0, hv0, hd0, ⟨g1, t1, cs1, f1, p1, q1, hg1, ht1, hv1, hd1, ⟨g2, t2, cs2, f2, p2, q2, hg2, ht2, hv2, hd2, _, _⟩, _⟩, _⟩, _⟩ := h
  refine Lib.tabBelow_of_tabIs ?_
  unfold Lib.TabIs
  have hgg : Tryz.prog.globalNamed "internal/strconv.uint64pow10" = some g2 := hg2
  have ht : (Tryz.prog.globals[g2]?).map (·.type) = some t2 := ht2
  have hT : t2 = 179 := by
    have h1 : (Tryz.prog.globalNamed "internal/strconv.uint64pow10").bind (fun g => (Tryz.prog.globals[g]?).map (·.type)) = some 179 := by kernel_rfl
    rw [hgg] at h1
    exact Option.some.inj (ht.symm.trans h1)
  subst hT
  rw [hv2]
  exact congrArg (fun l : List Value => some l.toArray) (Lib.cells_of_tab (k := .u64) (zs := Lib.pow10Tab) (e := 25) (n := 20) Tryz.underlying179 Tryz.underlying25 (by kernel_rfl) (by kernel_rfl) hd2)
end Go.Proofs.YtacicanjmleikaaGreatDoor
