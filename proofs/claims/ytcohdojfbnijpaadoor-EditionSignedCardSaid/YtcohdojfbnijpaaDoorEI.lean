/-
  The examples of chapter 20, in plain words.
-/
import Derived.Test.YtcohdojfbnijpaaDoorEH
import Derived.Test.YtcohdojfbnijpaaDoorG8
namespace Go.Proofs.YtcohdojfbnijpaaDoor
open Go.RowKit Go.Sort Go.Shelf
set_option linter.unusedSimpArgs false
set_option linter.unusedVariables false
set_option maxRecDepth 100000

theorem dayF_in {l : List Lp} {t d : Int} (hv : validL l = true) (hd : IsDay l t d) (h0 : 0 ≤ d) (h9 : d ≤ 34000) (ht : t ≤ 3000000000000000) : dayF l t = (d, 0) := by
  have h1 := dayL_ge hv hd h0
  have h2 := dayL_lt hv hd h9
  unfold dayF
  rw [if_pos ⟨hv, h1, ht⟩, if_pos h2, dayL_of hv hd]
def xA : List Lp := [⟨9, 1⟩]
def xB : List Lp := [⟨9, 1⟩, ⟨19, -1⟩]
theorem xA_is : exL [9] = xA := rfl
theorem xB_is : exL [9, 19] = xB := rfl
theorem xA_v : validL xA = true := by decide
theorem xB_v : validL xB = true := by decide
theorem x_fol1 : folF 1 0 3000000000000000 xA 2 1000000000000 3000000000000000 xB = (true, 0) := by decide
theorem x_fol2 : folF 1 0 3000000000000000 xA 2 1728000500000 3000000000000000 xB = (false, 0) := by decide
theorem x_dfr : dfrF xA xB = (19, true, 0) := by decide
theorem x_fro : froF xA 19 86399500000 = (1728000500000, 0) := by decide
theorem x_day : IsDay xB 1728000500000 20 := by unfold IsDay startL xB; simp [offL]
theorem x_mov : movF xA xB 19 86399500000 = ((20, 500000), 0) := by
  unfold movF
  rw [if_pos ⟨xA_v, xB_v⟩, x_fro, if_pos rfl, toF_of (dayF_in xB_v x_day (by decide) (by decide) (by decide))]
  decide
theorem x_frm : frmB 1 0 3000000000000000 xA = true := by decide
theorem x_sg : sgOk 5 7 = true := by decide
theorem x_ver : rgtF 1024 1 0 3000000000000000 xA (sgC 5 7 (msgE 1 0 3000000000000000 xA)) (sgS 5 7 (msgE 1 0 3000000000000000 xA)) = (true, 0) := by
  have := verB_sign s5 s7 (msgE 1 0 3000000000000000 xA) (msgE 1 0 3000000000000000 xA)
  rw [ev_pub] at this
  unfold rgtF
  rw [if_pos x_frm]
  refine Prod.ext ?_ ?_
  · show verB 1024 _ _ _ = true
    have h := this.1
    simp only [beq_self_eq_true] at h
    exact h
  · exact this.2
def xEs : List Ed := [⟨1, 0, 3000000000000000, xA, 0, 0⟩, ⟨2, 1728000500000, 3000000000000000, xB, 0, 0⟩, ⟨2, 1000000000000, 3000000000000000, xB, 0, 0⟩]
theorem x_new : nwF xEs 1500000000000 = (2, true, 0) := by decide
end Go.Proofs.YtcohdojfbnijpaaDoor
