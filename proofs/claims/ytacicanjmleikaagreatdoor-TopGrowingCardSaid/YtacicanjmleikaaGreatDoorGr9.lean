
import Derived.Test.YtacicanjmleikaaGreatDoorGr7
/- A part of the proof. -/
namespace Go.Proofs.YtacicanjmleikaaGreatDoor
open Go.RowKit Go.Sort
set_option linter.unusedSimpArgs false
set_option linter.unusedVariables false
section
variable {α : Type}
variable [Cel α]
theorem OwR.litNil {E : TypeId} {base : Nat} (w : World) (hb : base ≤ w.heap.size) : OwR E base (w.alloc (.cells #[] E)) (some ⟨w.heap.size, 0, none⟩) 0 0 ([] : List α) := by
 have := World.ownsRow_lit (e := E) (size := Cel.sz α) w #[] 0 hb (by simp) (by simp)
 exact ⟨rfl, by simpa using this⟩
end
end Go.Proofs.YtacicanjmleikaaGreatDoor
