/-
  The law GroupOrder, walked.
-/
import Derived.Test.YtepjobjkcigbmaaDoorG10
namespace Go.Proofs.YtepjobjkcigbmaaDoor
open Go.RowKit Go.Sort Go.Shelf
set_option linter.unusedSimpArgs false
set_option linter.unusedVariables false
set_option maxRecDepth 100000

theorem elem_one {A : Nat} (hA : Elem A) : A * pw 2147483579 A 1073741788 % 2147483579 = 1 := by
  have h1 : pw 2147483579 A 1 = A := by
    rw [pw_def, Nat.pow_one]; exact Nat.mod_eq_of_lt hA.lt
  have h2 := pw_mul A 1 1073741788
  rw [h1] at h2
  rw [h2]
  have h3 := hA.one
  rw [← pw_def, show pP = 2147483579 from rfl, show pQ = 1073741789 from rfl] at h3
  exact h3
theorem elem_cancel {A B C : Nat} (hA : Elem A) (hB : Elem B) (hC : Elem C) : (((A * B % 2147483579 : Nat) : Int) == ((A * C % 2147483579 : Nat) : Int)) = (((B : Nat) : Int) == ((C : Nat) : Int)) := by
  rw [Bool.eq_iff_iff]
  simp only [beq_iff_eq, Int.ofNat_inj]
  exact ⟨fun h => hA.cancel hB.lt hC.lt h, fun h => by rw [h]⟩
theorem elem_inj {A : Nat} (hA : Elem A) (h1 : A ≠ 1) {r s : Int} (hr : 0 ≤ r ∧ r < 1073741789) (hs : 0 ≤ s ∧ s < 1073741789) : (((pw 2147483579 A r.toNat : Nat) : Int) == ((pw 2147483579 A s.toNat : Nat) : Int)) = (r == s) := by
  have e : pQ = 1073741789 := rfl
  rw [Bool.eq_iff_iff]
  simp only [beq_iff_eq, Int.ofNat_inj]
  constructor
  · intro h
    rw [pw_def, pw_def] at h
    have := hA.inj h1 (r := r.toNat) (s := s.toNat) (by rw [e]; omega) (by rw [e]; omega) h
    omega
  · rintro rfl; rfl

set_option maxHeartbeats 1000000 in
theorem gorder_any (n m o i k : Int) (hn : 0 ≤ n ∧ n ≤ 18446744073709551615) (hm : 0 ≤ m ∧ m ≤ 18446744073709551615) (hoo : 0 ≤ o ∧ o ≤ 18446744073709551615) (hi : 0 ≤ i ∧ i ≤ 18446744073709551615) (hk : 0 ≤ k ∧ k ≤ 18446744073709551615) (w : World) (ht : TB w) :
    Calls Tryd.prog 5 #[.int .u64 n, .int .u64 m, .int .u64 o, .int .u64 i, .int .u64 k] w (Yes w) := by
  have hA := elem_pw (n % 1073741789).toNat
  have hB := elem_pw (m % 1073741789).toNat
  have hC := elem_pw (o % 1073741789).toNat
  have r1 := fun w => relement_any n hn w
  have r2 := fun w => relement_any m hm w
  have r3 := fun w => relement_any o hoo w
  generalize pw 2147483579 4 (n % 1073741789).toNat = A at *
  generalize pw 2147483579 4 (m % 1073741789).toNat = B at *
  generalize pw 2147483579 4 (o % 1073741789).toNat = C at *
  have hx : 0 ≤ i % 1073741789 ∧ i % 1073741789 < 1073741789 := by omega
  have hy : 0 ≤ k % 1073741789 ∧ k % 1073741789 < 1073741789 := by omega
  have c1 := fun w => exp_el hA 1073741788 (by omega) w
  have c2 := fun w => mul_el hA (elem_pow hA 1073741788) w
  rw [elem_one hA] at c2
  rw [show (1073741788 : Int).toNat = 1073741788 from rfl] at c1
  have c3 := fun w => mul_el hA hB w
  have c4 := fun w => mul_el hA hC w
  have c5 := fun w => exp_el hA _ hx w
  have c6 := fun w => exp_el hA _ hy w
  have q1 := elem_cancel hA hB hC
  have q2 := fun h => elem_inj hA h hx hy
  generalize pw 2147483579 A 1073741788 = P1 at *
  generalize ((A * B % 2147483579 : Nat) : Int) = X at *
  generalize ((A * C % 2147483579 : Nat) : Int) = Y at *
  generalize hU : ((pw 2147483579 A (i % 1073741789).toNat : Nat) : Int) = U at *
  generalize hV : ((pw 2147483579 A (k % 1073741789).toNat : Nat) : Int) = V at *
  clear hU hV
  have ha1 : ¬ ((A : Int) = 1) → A ≠ 1 := fun h e => h (by rw [e]; rfl)
  have q2' : ¬ ((A : Int) = 1) → (U == V) = (i % 1073741789 == k % 1073741789) := fun h => q2 (ha1 h)
  clear q2 ha1 hA hB hC
  generalize (A : Int) = a at *
  generalize (B : Int) = b at *
  generalize (C : Int) = c at *
  have C1 := Lib.hid c1
  have C2 := Lib.hid c2
  have C3 := Lib.hid c3
  have C4 := Lib.hid c4
  have C5 := Lib.hid c5
  have C6 := Lib.hid c6
  have R1 := Lib.hid r1
  have R2 := Lib.hid r2
  have R3 := Lib.hid r3
  have Q2 := Lib.hid q2'
  clear c1 c2 c3 c4 c5 c6 r1 r2 r3 q2'
  go_enter Tryd.func5, Tryd.ntmps5
  go_wp2_with fail
  refine (ghead_any w ht).mono ?_
  rintro e w1 ⟨rfl, hE1⟩
  clear ht
  go_wp2_with fail
  refine (R1.out w1).mono ?_
  rintro e w' ⟨rfl, hw⟩
  rw [hw]
  clear hw w'
  go_wp2_with fail
  refine (R2.out w1).mono ?_
  rintro e w' ⟨rfl, hw⟩
  rw [hw]
  clear hw w'
  go_wp2_with fail
  refine (R3.out w1).mono ?_
  rintro e w' ⟨rfl, hw⟩
  rw [hw]
  clear hw w'
  go_wp2_with fail
  refine (C1.out w1).mono ?_
  rintro e w2 ⟨rfl, hE2⟩
  replace hE2 := hE1.trans hE2; clear hE1
  go_wp2_with fail
  refine (C2.out w2).mono ?_
  rintro e w3 ⟨rfl, hE3⟩
  replace hE3 := hE2.trans hE3; clear hE2
  go_wp2_with fail
  refine (C3.out w3).mono ?_
  rintro e w4 ⟨rfl, hE4⟩
  replace hE4 := hE3.trans hE4; clear hE3
  go_wp2_with fail
  refine (C4.out w4).mono ?_
  rintro e w5 ⟨rfl, hE5⟩
  replace hE5 := hE4.trans hE5; clear hE4
  go_wp2_with fail
  generalize hxx : i % 1073741789 = x at *
  generalize hyy : k % 1073741789 = y at *
  refine (C5.out w5).mono ?_
  rintro e w6 ⟨rfl, hE6⟩
  replace hE6 := hE5.trans hE6; clear hE5
  go_wp2_with fail
  refine (C6.out w6).mono ?_
  rintro e w7 ⟨rfl, hE7⟩
  replace hE7 := hE6.trans hE7; clear hE6
  by_cases ha : a = 1
  · have ha' : (a == 1) = true := by simpa using ha
    have HA := Lib.hid ha
    clear ha
    go_wp2_with fail
    go_ret
    exact ⟨rfl, hE7⟩
  · have q2 := Q2.out ha
    have ha' : (a == 1) = false := by simpa using ha
    have HA := Lib.hid ha
    clear ha
    go_wp2_with fail
    go_ret
    exact ⟨rfl, hE7⟩
end Go.Proofs.YtepjobjkcigbmaaDoor
