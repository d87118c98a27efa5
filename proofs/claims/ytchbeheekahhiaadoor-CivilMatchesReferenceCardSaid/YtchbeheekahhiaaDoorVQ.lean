/-
  The examples of chapter 18, in plain words.
-/
import Derived.Test.YtchbeheekahhiaaDoorVP
namespace Go.Proofs.YtchbeheekahhiaaDoor
open Go.RowKit Go.Sort Go.Shelf
set_option linter.unusedSimpArgs false
set_option linter.unusedVariables false
set_option maxRecDepth 100000

def exLong : List Lp := [⟨0, 1⟩]
def exShort : List Lp := [⟨0, -1⟩]
theorem dayF_at {l : List Lp} {t d : Int} (hv : validL l = true) (hd : IsDay l t d) (h0 : 0 ≤ d) (h9 : d ≤ 34000) (ht : t ≤ 3000000000000000) : dayF l t = (d, 0) := by
  have h1 := dayL_ge hv hd h0
  have h2 := dayL_lt hv hd h9
  unfold dayF
  rw [if_pos ⟨hv, h1, ht⟩, if_pos h2, dayL_of hv hd]
theorem exLong_v : validL exLong = true := by decide
theorem exShort_v : validL exShort = true := by decide
theorem exLong_day : IsDay exLong 86400000000 0 := by unfold IsDay startL exLong offL; simp [offL]
theorem ex_to : toF exLong 86400000000 = ((0, 86400000000), 0) := by
  rw [toF_of (dayF_at exLong_v exLong_day (by decide) (by decide) (by decide))]
  rfl
theorem ex_show : shoF exLong 86400000000 = ((0, 86399, 0), 0) := by
  unfold shoF; rw [ex_to]; rfl
theorem ex_find : fdF exLong 0 86399 0 = ([86399000000, 86400000000], 0) := by decide
theorem ex_find2 : fdF exShort 0 86399 0 = ([], 0) := by decide
theorem ex_from : froF exLong 0 86400000000 = (86400000000, 0) := by decide
theorem ex_from2 : froF exShort 0 86399000000 = (0, 40) := by decide
theorem monOf_0 : monOf 0 = 0 := monOf_of ⟨by decide, by decide⟩
theorem ex_text : txtF 0 86400000000 = (⟨#[50, 48, 48, 48, 45, 48, 49, 45, 48, 49, 84, 50, 51, 58, 53, 57, 58, 54, 48, 46, 48, 48, 48, 48, 48, 48]⟩, 0) := by
  unfold txtF
  rw [if_pos (by decide)]
  unfold txtL
  rw [monOf_0]
  rfl
def exA : List UInt8 := [50, 48, 48, 48, 45, 48, 49, 45, 48, 50, 84, 48, 48, 58, 48, 48, 58, 53, 57, 46, 48, 48, 48, 48, 48, 49]
def exB : List UInt8 := [50, 48, 48, 48, 45, 48, 49, 45, 48, 50, 84, 48, 48, 58, 48, 48, 58, 54, 48, 46, 48, 48, 48, 48, 48, 48]
theorem exA_dy : dyF (valB exA 0) (valB exA 1) (valB exA 2) = (1, 0) := by decide
theorem exB_dy : dyF (valB exB 0) (valB exB 1) (valB exB 2) = (1, 0) := by decide
theorem ex_parse : prsF exA = ((1, 59000001), 0) := by
  unfold prsF
  rw [exA_dy, if_pos ⟨by decide, by unfold BadT; decide⟩]
  decide
theorem ex_parse2 : prsF exB = ((0, 0), 7) := by
  unfold prsF
  rw [exB_dy, if_neg (fun h => h.2 (by unfold BadT; decide))]
end Go.Proofs.YtchbeheekahhiaaDoor
