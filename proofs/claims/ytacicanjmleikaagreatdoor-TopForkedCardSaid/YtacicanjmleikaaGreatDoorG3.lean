/-
  Elements, products, powers, challenges, by both implementations, walked.
-/
import Derived.Test.YtacicanjmleikaaGreatDoorG2
namespace Go.Proofs.YtacicanjmleikaaGreatDoor
open Go.RowKit Go.Sort
set_option linter.unusedSimpArgs false
set_option linter.unusedVariables false
set_option maxRecDepth 100000

/-- An integer is an element. -/
def memB (a : Int) : Bool := decide (0 < a) && (decide (a < 2147483579) && (((pw 2147483579 a.toNat 1073741789 : Nat) : Int) == 1))
/-- An integer is from lo to Q - 1. -/
def inQ (x lo : Int) : Bool := decide (lo ≤ x) && decide (x < 1073741789)

theorem memB_lt {a : Int} (h : memB a = true) : 0 < a ∧ a < 2147483579 := by
  simp only [memB, Bool.and_eq_true, decide_eq_true_eq] at h
  exact ⟨h.1, h.2.1⟩
theorem inQ_lt {x lo : Int} (h : inQ x lo = true) : lo ≤ x ∧ x < 1073741789 := by
  simpa [inQ] using h

theorem member_any (a : Int) (w : World) : Calls Tryz.prog 92 #[.int .i64 a] w fun e w' => e = .returned (.bool (memB a)) ∧ Ext w w' := by
  by_cases h0 : 0 < a
  · by_cases h1 : a < 2147483579
    · have hm : memB a = (((pw 2147483579 a.toNat 1073741789 : Nat) : Int) == 1) := by simp [memB, h0, h1]
      rw [hm]
      have hp := fun w => power_any a.toNat 1073741789 (by omega) (by omega) w
      rw [show ((a.toNat : Nat) : Int) = a by omega] at hp
      generalize pw 2147483579 a.toNat 1073741789 = V at *
      clear hm
      go_enter Tryz.func92, Tryz.ntmps92
      go_wp2_with (go_at_call 66; refine (hp _).mono ?_; rintro e w1 ⟨rfl, hE1⟩)
      go_ret
      exact ⟨rfl, hE1⟩
    · have hm : memB a = false := by simp [memB, h1]
      rw [hm]
      go_enter Tryz.func92, Tryz.ntmps92
      go_wp2_with fail
      go_ret
      exact ⟨rfl, Ext.refl w⟩
  · have hm : memB a = false := by simp [memB, h0]
    rw [hm]
    go_enter Tryz.func92, Tryz.ntmps92
    go_wp2_with fail
    go_ret
    exact ⟨rfl, Ext.refl w⟩

theorem within_any (x lo : Int) (w : World) : Calls Tryz.prog 64 #[.int .i64 x, .int .i64 lo] w fun e w' => e = .returned (.bool (inQ x lo)) ∧ w' = w := by
  unfold inQ
  by_cases h0 : lo ≤ x
  all_goals
    go_enter Tryz.func64, Tryz.ntmps64
    go_wp2_with fail
    go_ret
    exact ⟨ret_bool (by first | (simp [h0]; done) | (rw [Bool.eq_iff_iff]; simp; omega)), rfl⟩
def mulV (a b : Int) : Int := if memB a && memB b then a * b % 2147483579 else 0
def mulE (a b : Int) : Int := if memB a && memB b then 0 else 1
def expV (a x : Int) : Int := if memB a && inQ x 0 then ((pw 2147483579 a.toNat x.toNat : Nat) : Int) else 0
def expE (a x : Int) : Int := if memB a && inQ x 0 then 0 else 1

theorem mul_mod (a b : Int) (ha : 0 < a ∧ a < 2147483579) (hb : 0 < b ∧ b < 2147483579) : (a * b).tmod 2147483579 = a * b % 2147483579 ∧ 0 ≤ a * b ∧ a * b ≤ 9223372036854775807 := by
  obtain ⟨n, rfl⟩ : ∃ n : Nat, a = n := ⟨a.toNat, by omega⟩
  obtain ⟨m, rfl⟩ : ∃ m : Nat, b = m := ⟨b.toNat, by omega⟩
  have h1 : n * m ≤ 2147483579 * 2147483579 := Nat.mul_le_mul (by omega) (by omega)
  have e : (n : Int) * m = ((n * m : Nat) : Int) := by push_cast; rfl
  rw [e]
  exact ⟨rfl, by omega, by omega⟩

end Go.Proofs.YtacicanjmleikaaGreatDoor
