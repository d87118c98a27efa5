/-
  Elements, products, powers, challenges, by both implementations, walked.
-/
import Derived.Test.YtepjobjkcigbmaaDoorG2
namespace Go.Proofs.YtepjobjkcigbmaaDoor
open Go.RowKit Go.Sort
set_option linter.unusedSimpArgs false
set_option linter.unusedVariables false
set_option maxRecDepth 100000

/-- An integer is an element. -/
def memB (a : Int) : Bool := decide (0 < a) && (decide (a < 2147483579) && (((pw 2147483579 a.toNat 1073741789 : Nat) : Int) == 1))
/-- An integer is from lo to Q - 1. -/
def inQ (x lo : Int) : Bool := decide (lo ≤ x) && decide (x < 1073741789)

theorem memB_lt {a : Int} (h : memB a = true) : 0 < a ∧ a < 2147483579 := by
  simp only [memB, Bool.and_eq_true, decide_eq_true_eq] at h
  exact ⟨h.1, h.2.1⟩
theorem inQ_lt {x lo : Int} (h : inQ x lo = true) : lo ≤ x ∧ x < 1073741789 := by
  simpa [inQ] using h

theorem member_any (a : Int) (w : World) : Calls Tryd.prog 13 #[.int .i64 a] w fun e w' => e = .returned (.bool (memB a)) ∧ Ext w w' := by
  by_cases h0 : 0 < a
  · by_cases h1 : a < 2147483579
    · have hm : memB a = (((pw 2147483579 a.toNat 1073741789 : Nat) : Int) == 1) := by simp [memB, h0, h1]
      rw [hm]
      have hp := fun w => power_any a.toNat 1073741789 (by omega) (by omega) w
      rw [show ((a.toNat : Nat) : Int) = a by omega] at hp
      generalize pw 2147483579 a.toNat 1073741789 = V at *
      clear hm
      go_enter Tryd.func13, Tryd.ntmps13
      go_wp2_with (go_at_call 29; refine (hp _).mono ?_; rintro e w1 ⟨rfl, hE1⟩)
      go_ret
      exact ⟨rfl, hE1⟩
    · have hm : memB a = false := by simp [memB, h1]
      rw [hm]
      go_enter Tryd.func13, Tryd.ntmps13
      go_wp2_with fail
      go_ret
      exact ⟨rfl, Ext.refl w⟩
  · have hm : memB a = false := by simp [memB, h0]
    rw [hm]
    go_enter Tryd.func13, Tryd.ntmps13
    go_wp2_with fail
    go_ret
    exact ⟨rfl, Ext.refl w⟩

theorem rmember_any (a : Int) (w : World) : Calls Tryd.prog 14 #[.int .i64 a] w fun e w' => e = .returned (.bool (memB a)) ∧ w' = w := by
  by_cases h0 : 0 < a
  · have h0' : 1 ≤ a := by omega
    by_cases h1 : a < 2147483579
    · have hm : memB a = (((pw 2147483579 a.toNat 1073741789 : Nat) : Int) == 1) := by simp [memB, h0, h1]
      rw [hm]
      have hp := fun w => rpower_any 2147483579 a.toNat 1073741789 (by omega) (by omega) (by omega) (by omega) w
      rw [show ((a.toNat : Nat) : Int) = a by omega] at hp
      generalize pw 2147483579 a.toNat 1073741789 = V at *
      clear hm
      go_enter Tryd.func14, Tryd.ntmps14
      go_wp2_with (go_at_call 30; refine (hp _).mono ?_; rintro e w1 ⟨rfl, rfl⟩)
      go_ret
      exact ⟨rfl, rfl⟩
    · have hm : memB a = false := by simp [memB, h1]
      rw [hm]
      go_enter Tryd.func14, Tryd.ntmps14
      go_wp2_with fail
      go_ret
      exact ⟨rfl, rfl⟩
  · have hm : memB a = false := by simp [memB, h0]
    have h0' : ¬ 1 ≤ a := by omega
    rw [hm]
    go_enter Tryd.func14, Tryd.ntmps14
    go_wp2_with fail
    go_ret
    exact ⟨rfl, rfl⟩

theorem within_any (x lo : Int) (w : World) : Calls Tryd.prog 31 #[.int .i64 x, .int .i64 lo] w fun e w' => e = .returned (.bool (inQ x lo)) ∧ w' = w := by
  unfold inQ
  by_cases h0 : lo ≤ x
  all_goals
    go_enter Tryd.func31, Tryd.ntmps31
    go_wp2_with fail
    go_ret
    exact ⟨ret_bool (by first | (simp [h0]; done) | (rw [Bool.eq_iff_iff]; simp; omega)), rfl⟩
theorem rexponent_any (x : Int) (w : World) : Calls Tryd.prog 27 #[.int .i64 x] w fun e w' => e = .returned (.bool (inQ x 0)) ∧ w' = w := by
  unfold inQ
  by_cases h0 : 0 ≤ x
  all_goals
    go_enter Tryd.func27, Tryd.ntmps27
    go_wp2_with fail
    go_ret
    exact ⟨ret_bool (by first | (simp [h0]; done) | (rw [Bool.eq_iff_iff]; simp; omega)), rfl⟩
theorem rkey_any (x : Int) (w : World) : Calls Tryd.prog 33 #[.int .i64 x] w fun e w' => e = .returned (.bool (inQ x 1)) ∧ w' = w := by
  unfold inQ
  by_cases h0 : 1 ≤ x
  all_goals
    go_enter Tryd.func33, Tryd.ntmps33
    go_wp2_with fail
    go_ret
    exact ⟨ret_bool (by first | (simp [h0]; done) | (rw [Bool.eq_iff_iff]; simp; omega)), rfl⟩

def mulV (a b : Int) : Int := if memB a && memB b then a * b % 2147483579 else 0
def mulE (a b : Int) : Int := if memB a && memB b then 0 else 1
def expV (a x : Int) : Int := if memB a && inQ x 0 then ((pw 2147483579 a.toNat x.toNat : Nat) : Int) else 0
def expE (a x : Int) : Int := if memB a && inQ x 0 then 0 else 1

theorem mul_mod (a b : Int) (ha : 0 < a ∧ a < 2147483579) (hb : 0 < b ∧ b < 2147483579) : (a * b).tmod 2147483579 = a * b % 2147483579 ∧ 0 ≤ a * b ∧ a * b ≤ 9223372036854775807 := by
  obtain ⟨n, rfl⟩ : ∃ n : Nat, a = n := ⟨a.toNat, by omega⟩
  obtain ⟨m, rfl⟩ : ∃ m : Nat, b = m := ⟨b.toNat, by omega⟩
  have h1 : n * m ≤ 2147483579 * 2147483579 := Nat.mul_le_mul (by omega) (by omega)
  have e : (n : Int) * m = ((n * m : Nat) : Int) := by push_cast; rfl
  rw [e]
  exact ⟨rfl, by omega, by omega⟩

theorem mul_any (a b : Int) (w : World) : Calls Tryd.prog 11 #[.int .i64 a, .int .i64 b] w fun e w' => e = .returned (.tuple #[.int .i64 (mulV a b), .int .i64 (mulE a b)]) ∧ Ext w w' := by
  unfold mulV mulE
  have hma := fun w => member_any a w
  have hmb := fun w => member_any b w
  have HMA := Lib.hid hma
  have HMB := Lib.hid hmb
  have lta := @memB_lt a
  have ltb := @memB_lt b
  clear hma hmb
  generalize memB a = A at *
  generalize memB b = B at *
  cases A
  · go_enter Tryd.func11, Tryd.ntmps11
    go_wp2_with (go_at_call 13; refine (HMA.out _).mono ?_; rintro e w1 ⟨rfl, hE1⟩)
    go_ret2
    exact ⟨rfl, hE1⟩
  · cases B
    · go_enter Tryd.func11, Tryd.ntmps11
      go_wp2_with fail
      refine (HMA.out _).mono ?_
      rintro e w1 ⟨rfl, hE1⟩
      go_wp2_with fail
      refine (HMB.out _).mono ?_
      rintro e w2 ⟨rfl, hE2⟩
      go_wp2_with fail
      go_ret2
      exact ⟨rfl, hE1.trans hE2⟩
    · obtain ⟨m1, m2, m3⟩ := mul_mod a b (lta rfl) (ltb rfl)
      clear lta ltb
      simp only [Bool.and_self, if_true]
      generalize hab : a * b = AB at *
      clear m1
      go_enter Tryd.func11, Tryd.ntmps11
      go_wp2_with fail
      refine (HMA.out _).mono ?_
      rintro e w1 ⟨rfl, hE1⟩
      go_wp2_with fail
      refine (HMB.out _).mono ?_
      rintro e w2 ⟨rfl, hE2⟩
      go_wp2_with fail
      go_ret2
      exact ⟨rfl, hE1.trans hE2⟩

theorem rmul_any (a b : Int) (w : World) : Calls Tryd.prog 12 #[.int .i64 a, .int .i64 b] w fun e w' => e = .returned (.tuple #[.int .i64 (mulV a b), .int .i64 (mulE a b)]) ∧ w' = w := by
  unfold mulV mulE
  have hma := fun w => rmember_any a w
  have hmb := fun w => rmember_any b w
  have HMA := Lib.hid hma
  have HMB := Lib.hid hmb
  have lta := @memB_lt a
  have ltb := @memB_lt b
  clear hma hmb
  generalize memB a = A at *
  generalize memB b = B at *
  cases A
  · go_enter Tryd.func12, Tryd.ntmps12
    go_wp2_with (go_at_call 14; refine (HMA.out _).mono ?_; rintro e w1 ⟨rfl, rfl⟩)
    go_ret2
    exact ⟨rfl, rfl⟩
  · cases B
    · go_enter Tryd.func12, Tryd.ntmps12
      go_wp2_with fail
      refine (HMA.out _).mono ?_
      rintro e w1 ⟨rfl, rfl⟩
      go_wp2_with fail
      refine (HMB.out _).mono ?_
      rintro e w2 ⟨rfl, rfl⟩
      go_wp2_with fail
      go_ret2
      exact ⟨rfl, rfl⟩
    · obtain ⟨m1, m2, m3⟩ := mul_mod a b (lta rfl) (ltb rfl)
      clear lta ltb
      simp only [Bool.and_self, if_true]
      generalize hab : a * b = AB at *
      clear m1
      go_enter Tryd.func12, Tryd.ntmps12
      go_wp2_with fail
      refine (HMA.out _).mono ?_
      rintro e w1 ⟨rfl, rfl⟩
      go_wp2_with fail
      refine (HMB.out _).mono ?_
      rintro e w2 ⟨rfl, rfl⟩
      go_wp2_with fail
      go_ret2
      exact ⟨rfl, rfl⟩

theorem exp_any (a x : Int) (w : World) : Calls Tryd.prog 15 #[.int .i64 a, .int .i64 x] w fun e w' => e = .returned (.tuple #[.int .i64 (expV a x), .int .i64 (expE a x)]) ∧ Ext w w' := by
  unfold expV expE
  have hma := fun w => member_any a w
  have hmb := fun w => within_any x 0 w
  have HMA := Lib.hid hma
  have HMB := Lib.hid hmb
  have lta := @memB_lt a
  have ltb := @inQ_lt x 0
  clear hma hmb
  generalize memB a = A at *
  generalize inQ x 0 = B at *
  cases A
  · go_enter Tryd.func15, Tryd.ntmps15
    go_wp2_with (go_at_call 13; refine (HMA.out _).mono ?_; rintro e w1 ⟨rfl, hE1⟩)
    go_ret2
    exact ⟨rfl, hE1⟩
  · cases B
    · go_enter Tryd.func15, Tryd.ntmps15
      go_wp2_with fail
      refine (HMA.out _).mono ?_
      rintro e w1 ⟨rfl, hE1⟩
      go_wp2_with fail
      refine (HMB.out _).mono ?_
      rintro e w2 ⟨rfl, rfl⟩
      go_wp2_with fail
      go_ret2
      exact ⟨rfl, hE1⟩
    · have l1 := lta rfl
      have l2 := ltb rfl
      clear lta ltb
      simp only [Bool.and_self, if_true]
      have hp := fun w => power_any a.toNat x.toNat (by omega) (by omega) w
      rw [show ((a.toNat : Nat) : Int) = a by omega, show ((x.toNat : Nat) : Int) = x by omega] at hp
      generalize pw 2147483579 a.toNat x.toNat = V at *
      have HP := Lib.hid hp
      clear hp
      go_enter Tryd.func15, Tryd.ntmps15
      go_wp2_with fail
      refine (HMA.out _).mono ?_
      rintro e w1 ⟨rfl, hE1⟩
      go_wp2_with fail
      refine (HMB.out _).mono ?_
      rintro e w2 ⟨rfl, rfl⟩
      go_wp2_with fail
      refine (HP.out _).mono ?_
      rintro e w3 ⟨rfl, hE3⟩
      go_wp2_with fail
      go_ret2
      exact ⟨rfl, hE1.trans hE3⟩

theorem rexp_any (a x : Int) (w : World) : Calls Tryd.prog 16 #[.int .i64 a, .int .i64 x] w fun e w' => e = .returned (.tuple #[.int .i64 (expV a x), .int .i64 (expE a x)]) ∧ w' = w := by
  unfold expV expE
  have hma := fun w => rmember_any a w
  have hmb := fun w => rexponent_any x w
  have HMA := Lib.hid hma
  have HMB := Lib.hid hmb
  have lta := @memB_lt a
  have ltb := @inQ_lt x 0
  clear hma hmb
  generalize memB a = A at *
  generalize inQ x 0 = B at *
  cases A
  · go_enter Tryd.func16, Tryd.ntmps16
    go_wp2_with (go_at_call 14; refine (HMA.out _).mono ?_; rintro e w1 ⟨rfl, rfl⟩)
    go_ret2
    exact ⟨rfl, rfl⟩
  · cases B
    · go_enter Tryd.func16, Tryd.ntmps16
      go_wp2_with fail
      refine (HMA.out _).mono ?_
      rintro e w1 ⟨rfl, rfl⟩
      go_wp2_with fail
      refine (HMB.out _).mono ?_
      rintro e w2 ⟨rfl, rfl⟩
      go_wp2_with fail
      go_ret2
      exact ⟨rfl, rfl⟩
    · have l1 := lta rfl
      have l2 := ltb rfl
      clear lta ltb
      simp only [Bool.and_self, if_true]
      have hp := fun w => rpower_any 2147483579 a.toNat x.toNat (by omega) (by omega) (by omega) (by omega) w
      rw [show ((a.toNat : Nat) : Int) = a by omega, show ((x.toNat : Nat) : Int) = x by omega] at hp
      generalize pw 2147483579 a.toNat x.toNat = V at *
      have HP := Lib.hid hp
      clear hp
      go_enter Tryd.func16, Tryd.ntmps16
      go_wp2_with fail
      refine (HMA.out _).mono ?_
      rintro e w1 ⟨rfl, rfl⟩
      go_wp2_with fail
      refine (HMB.out _).mono ?_
      rintro e w2 ⟨rfl, rfl⟩
      go_wp2_with fail
      refine (HP.out _).mono ?_
      rintro e w3 ⟨rfl, rfl⟩
      go_wp2_with fail
      go_ret2
      exact ⟨rfl, rfl⟩
end Go.Proofs.YtepjobjkcigbmaaDoor
