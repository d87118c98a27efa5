/-
  The calendar, in plain words: months one after the other from January 2000 on; which month a day is of.
-/
import Derived.Test.YtchbeheekahhiaaDoorVG
namespace Go.Proofs.YtchbeheekahhiaaDoor
open Go.RowKit Go.Sort Go.Shelf
set_option linter.unusedSimpArgs false
set_option linter.unusedVariables false
set_option maxRecDepth 100000

def lens : List Int := [31, 28, 31, 30, 31, 30, 31, 31, 30, 31, 30, 31]
/-- How many days the m-th month of a year has. -/
def lenM (y : Int) (m : Nat) : Int := lens.getD (m - 1) 0 + (if m = 2 ∧ y % 4 = 0 then 1 else 0)
/-- The n-th month from January 2000 on. -/
def yearN (n : Nat) : Int := 2000 + (n / 12 : Nat)
def monN (n : Nat) : Nat := n % 12 + 1
def lenN (n : Nat) : Int := lenM (yearN n) (monN n)
/-- On which day it begins. -/
def monS : Nat → Int
  | 0 => 0
  | n + 1 => monS n + lenN n

theorem monN_bd (n : Nat) : 1 ≤ monN n ∧ monN n ≤ 12 := by unfold monN; omega
theorem lenM_bd (y : Int) (m : Nat) (h1 : 1 ≤ m) (h2 : m ≤ 12) : 28 ≤ lenM y m ∧ lenM y m ≤ 31 := by
  unfold lenM lens
  have : m = 1 ∨ m = 2 ∨ m = 3 ∨ m = 4 ∨ m = 5 ∨ m = 6 ∨ m = 7 ∨ m = 8 ∨ m = 9 ∨ m = 10 ∨ m = 11 ∨ m = 12 := by omega
  rcases this with rfl | rfl | rfl | rfl | rfl | rfl | rfl | rfl | rfl | rfl | rfl | rfl <;> simp
  split <;> omega
theorem lenN_bd (n : Nat) : 28 ≤ lenN n ∧ lenN n ≤ 31 := lenM_bd _ _ (monN_bd n).1 (monN_bd n).2
theorem monS_mono {a b : Nat} (h : a ≤ b) : monS a ≤ monS b := by
  induction b with
  | zero => obtain rfl : a = 0 := by omega
            exact Int.le_refl _
  | succ b ih =>
    rcases Nat.lt_or_ge b a with h1 | h1
    · obtain rfl : a = b + 1 := by omega
      exact Int.le_refl _
    · have := ih h1
      have := lenN_bd b
      show monS a ≤ monS b + lenN b
      omega
theorem monS_nonneg (n : Nat) : 0 ≤ monS n := monS_mono (Nat.zero_le n)
theorem lenN_year (n k : Nat) (hk : k < 12) : lenN (12 * n + k) = lens.getD k 0 + (if k = 1 ∧ n % 4 = 0 then 1 else 0) := by
  unfold lenN lenM yearN monN
  have h1 : (12 * n + k) / 12 = n := by omega
  have h2 : (12 * n + k) % 12 = k := by omega
  rw [h1, h2, Nat.add_sub_cancel]
  congr 1
  by_cases h : k = 1 ∧ n % 4 = 0
  · rw [if_pos h, if_pos (by omega)]
  · rw [if_neg h, if_neg (by omega)]
/-- Days of a year before its k-th month. -/
theorem monS_in (n : Nat) : ∀ k, k ≤ 12 → monS (12 * n + k) = monS (12 * n) + ((lens.take k).sum + (if 2 ≤ k ∧ n % 4 = 0 then 1 else 0))
  | 0, _ => by simp
  | k + 1, h => by
    have ih := monS_in n k (by omega)
    show monS (12 * n + k) + lenN (12 * n + k) = _
    rw [ih, lenN_year n k (by omega)]
    have e : (lens.take (k + 1)).sum = (lens.take k).sum + lens.getD k 0 := by
      have hk : k < lens.length := by show k < 12; omega
      rw [List.take_succ_eq_append_getElem hk, List.sum_append]
      simp [List.getD_eq_getElem?_getD, hk]
    rw [e]
    by_cases h4 : n % 4 = 0
    · by_cases h1 : k = 1
      · subst h1; simp [h4]; omega
      · by_cases h2 : 2 ≤ k
        · simp [h4, h1, h2, show 2 ≤ k + 1 by omega]; omega
        · simp [h4, h1, h2, show ¬ 2 ≤ k + 1 by omega]; omega
    · simp [h4]; omega
theorem monS_year : ∀ n : Nat, monS (12 * n) = 365 * n + ((n + 3) / 4 : Nat)
  | 0 => rfl
  | n + 1 => by
    have h := monS_in n 12 (by omega)
    have ih := monS_year n
    rw [show 12 * (n + 1) = 12 * n + 12 by omega, h, ih]
    have e : (lens.take 12).sum = 365 := by decide
    rw [e]
    by_cases h4 : n % 4 = 0
    · simp [h4]; omega
    · simp [h4]; omega
theorem monS_four (q : Nat) : monS (48 * q) = 1461 * q := by
  rw [show 48 * q = 12 * (4 * q) by omega, monS_year]
  omega

/-- Month n has the day. -/
def InMon (day : Int) (n : Nat) : Prop := monS n ≤ day ∧ day < monS (n + 1)
theorem InMon.uniq {day : Int} {a b : Nat} (h1 : InMon day a) (h2 : InMon day b) : a = b := by
  rcases Nat.lt_trichotomy a b with h | h | h
  · have := monS_mono (show a + 1 ≤ b by omega)
    have := h1.2; have := h2.1; omega
  · exact h
  · have := monS_mono (show b + 1 ≤ a by omega)
    have := h2.2; have := h1.1; omega
theorem inMon_ex {day : Int} (h0 : 0 ≤ day) (n : Nat) : day < monS n → ∃ k, k < n ∧ InMon day k := by
  induction n with
  | zero => intro h; have : monS 0 = 0 := rfl; omega
  | succ n ih =>
    intro h
    by_cases hlt : day < monS n
    · obtain ⟨k, h1, h2⟩ := ih hlt
      exact ⟨k, by omega, h2⟩
    · exact ⟨n, by omega, by omega, h⟩
theorem monS_last : monS 1128 = 34334 := by rw [show 1128 = 12 * 94 by rfl, monS_year]; rfl
open Classical in
noncomputable def monOf (day : Int) : Nat := if h : ∃ n, InMon day n then Classical.choose h else 0
theorem monOf_of {day : Int} {n : Nat} (h : InMon day n) : monOf day = n := by
  have hex : ∃ n, InMon day n := ⟨n, h⟩
  unfold monOf
  rw [dif_pos hex]
  exact InMon.uniq (Classical.choose_spec hex) h
theorem monOf_spec {day : Int} (h0 : 0 ≤ day) (h1 : day ≤ 34000) : InMon day (monOf day) ∧ monOf day < 1128 := by
  obtain ⟨k, h2, h3⟩ := inMon_ex h0 1128 (by rw [monS_last]; omega)
  rw [monOf_of h3]
  exact ⟨h3, h2⟩
/-- What Date answers: year, month, day of the month, error. -/
noncomputable def datF (day : Int) : (Int × Int × Int) × Int := if 0 ≤ day ∧ day ≤ 34000 then ((yearN (monOf day), (monN (monOf day) : Int), day - monS (monOf day) + 1), 0) else ((0, 0, 0), 1)
theorem datF_yes {day : Int} {n : Nat} (h0 : 0 ≤ day) (h1 : day ≤ 34000) (h : InMon day n) : datF day = ((yearN n, (monN n : Int), day - monS n + 1), 0) := by
  unfold datF; rw [if_pos ⟨h0, h1⟩, monOf_of h]
theorem datF_no {day : Int} (h : ¬ (0 ≤ day ∧ day ≤ 34000)) : datF day = ((0, 0, 0), 1) := by unfold datF; rw [if_neg h]
/-- What Day answers. -/
def isMon (y m : Int) : Bool := decide (2000 ≤ y ∧ y ≤ 2093 ∧ 1 ≤ m ∧ m ≤ 12)
def fstD (y m : Int) : Int := monS (12 * (y - 2000).toNat + (m - 1).toNat)
def okD (y m d : Int) : Bool := isMon y m && decide (1 ≤ d ∧ d ≤ lenM y m.toNat)
def dyF (y m d : Int) : Int × Int := if okD y m d = true then (if fstD y m + d - 1 ≤ 34000 then (fstD y m + d - 1, 0) else (0, 3)) else (0, 1)
theorem isMon_iff {y m : Int} : isMon y m = true ↔ 2000 ≤ y ∧ y ≤ 2093 ∧ 1 ≤ m ∧ m ≤ 12 := by unfold isMon; exact decide_eq_true_iff
end Go.Proofs.YtchbeheekahhiaaDoor
