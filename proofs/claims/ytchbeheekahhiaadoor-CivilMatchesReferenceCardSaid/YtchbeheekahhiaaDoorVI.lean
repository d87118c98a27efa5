/-
  calendar.Date, calendar.Day, walked.
-/
import Derived.Test.YtchbeheekahhiaaDoorVH
import Derived.Lib.AppendIntMem
import Derived.Lib.LaidTab
namespace Go.Proofs.YtchbeheekahhiaaDoor
open Go.RowKit Go.Sort Go.Shelf
set_option linter.unusedSimpArgs false
set_option linter.unusedVariables false
set_option maxRecDepth 100000

/-- The table of the months' lengths lies here. -/
def TL (w : World) : Prop := Lib.TabBelow Tryd.prog w.heap.size w "regulator/calendar.lengths" .i64 lens
theorem TL.ext {w W : World} (h : TL w) (hE : Ext w W) : TL W := fun w' h' => h w' (Below.trans hE (Below.mono h' hE.sz))
theorem TL.cell {w : World} (h : TL w) (k : Nat) (hk : k < 12) : w.cell? ⟨0, k, none⟩ = some (.int .i64 (lens.getD k 0)) :=
  Lib.TabIs.cell (Lib.TabBelow.here h) (by kernel_rfl) k hk

theorem klen_any (y : Int) (k : Nat) (hk : k < 12) (hy : 0 ≤ y ∧ y ≤ 100000) (w : World) (ht : TL w) :
    Calls Tryd.prog 54 #[.int .i64 y, .int .i64 ((k : Int) + 1)] w fun e w' => e = .returned (.int .i64 (lenM y (k + 1))) ∧ w' = w := by
  have c := ht.cell k hk
  have hb : lenM y (k + 1) = lens.getD k 0 + (if k + 1 = 2 ∧ y % 4 = 0 then 1 else 0) := by unfold lenM; rw [Nat.add_sub_cancel]
  have hl : 28 ≤ lens.getD k 0 ∧ lens.getD k 0 ≤ 31 := by
    have : k = 0 ∨ k = 1 ∨ k = 2 ∨ k = 3 ∨ k = 4 ∨ k = 5 ∨ k = 6 ∨ k = 7 ∨ k = 8 ∨ k = 9 ∨ k = 10 ∨ k = 11 := by omega
    unfold lens
    rcases this with rfl | rfl | rfl | rfl | rfl | rfl | rfl | rfl | rfl | rfl | rfl | rfl <;> simp
  generalize lens.getD k 0 = L at *
  by_cases h1 : k = 1
  · subst h1
    rw [show (((1 : Nat) : Int) + 1) = 2 from rfl]
    rw [show ((1 : Nat) : Nat) = 1 from rfl] at c
    by_cases h4 : y % 4 = 0
    · have HR : Hid (lenM y (1 + 1) = L + 1) := Lib.hid (by rw [hb, if_pos ⟨by omega, h4⟩])
      clear hb
      go_enter Tryd.func54, Tryd.ntmps54
      go_wp2_with fail
      all_goals first | (go_ret; exact ⟨by rw [HR.out]; rfl, rfl⟩) | (exfalso; omega)
    · have HR : Hid (lenM y (1 + 1) = L) := Lib.hid (by rw [hb, if_neg (fun h => h4 h.2)]; omega)
      clear hb
      go_enter Tryd.func54, Tryd.ntmps54
      go_wp2_with fail
      all_goals first | (go_ret; exact ⟨by rw [HR.out]; rfl, rfl⟩) | (exfalso; omega)
  · have HR : Hid (lenM y (k + 1) = L) := Lib.hid (by rw [hb, if_neg (fun h => h1 (by omega))]; omega)
    have q1 : ((k : Int) + 1 == 2) = false := by simp; omega
    have q2 : ¬ ((k : Int) + 1) = 2 := by omega
    clear hb
    go_enter Tryd.func54, Tryd.ntmps54
    go_wp2_with fail
    all_goals first | (go_ret; exact ⟨by rw [HR.out]; rfl, rfl⟩) | (exfalso; omega)
end Go.Proofs.YtchbeheekahhiaaDoor
