/-
  The laws GroupPowers and GroupOrder, walked.
-/
import Derived.Test.YtepjobjkcigbmaaDoorG8
namespace Go.Proofs.YtepjobjkcigbmaaDoor
open Go.RowKit Go.Sort Go.Shelf
set_option linter.unusedSimpArgs false
set_option linter.unusedVariables false
set_option maxRecDepth 100000

theorem elem_pw (x : Nat) : Elem (pw 2147483579 4 x) := by rw [pw_def]; exact Elem.gen.pow x
theorem elem_pow {a : Nat} (h : Elem a) (x : Nat) : Elem (pw 2147483579 a x) := by rw [pw_def]; exact h.pow x
theorem elem_mul {a b : Nat} (h : Elem a) (k : Elem b) : Elem (a * b % 2147483579) := h.mul k

theorem mul_el {A B : Nat} (hA : Elem A) (hB : Elem B) (w : World) : Calls Tryd.prog 11 #[.int .i64 A, .int .i64 B] w fun e w' => e = .returned (.tuple #[.int .i64 ((A * B % 2147483579 : Nat) : Int), .int .i64 0]) ∧ Ext w w' := by
  have h := mul_any (A : Int) (B : Int) w
  have e1 : mulV (A : Int) (B : Int) = ((A * B % 2147483579 : Nat) : Int) := by
    unfold mulV; rw [memB_elem.2 hA, memB_elem.2 hB]; simp
  have e2 : mulE (A : Int) (B : Int) = 0 := by unfold mulE; rw [memB_elem.2 hA, memB_elem.2 hB]; rfl
  rw [e1, e2] at h
  exact h
theorem exp_el {A : Nat} (hA : Elem A) (x : Int) (hx : 0 ≤ x ∧ x < 1073741789) (w : World) : Calls Tryd.prog 15 #[.int .i64 A, .int .i64 x] w fun e w' => e = .returned (.tuple #[.int .i64 ((pw 2147483579 A x.toNat : Nat) : Int), .int .i64 0]) ∧ Ext w w' := by
  have h := exp_any (A : Int) x w
  have hq : inQ x 0 = true := by simp [inQ]; omega
  have e1 : expV (A : Int) x = ((pw 2147483579 A x.toNat : Nat) : Int) := by
    unfold expV; rw [memB_elem.2 hA, hq, Int.toNat_natCast]; rfl
  have e2 : expE (A : Int) x = 0 := by unfold expE; rw [memB_elem.2 hA, hq]; rfl
  rw [e1, e2] at h
  exact h
theorem mem_el {A : Nat} (hA : Elem A) (w : World) : Calls Tryd.prog 13 #[.int .i64 A] w fun e w' => e = .returned (.bool true) ∧ Ext w w' := by
  have h := member_any (A : Int) w
  rw [memB_elem.2 hA] at h
  exact h

theorem sum_exp {A : Nat} (hA : Elem A) {x y : Int} (hx : 0 ≤ x) (hy : 0 ≤ y) : pw 2147483579 A x.toNat * pw 2147483579 A y.toNat % 2147483579 = pw 2147483579 A ((x + y) % 1073741789).toNat := by
  obtain ⟨n, rfl⟩ : ∃ n : Nat, x = n := ⟨x.toNat, by omega⟩
  obtain ⟨m, rfl⟩ : ∃ m : Nat, y = m := ⟨y.toNat, by omega⟩
  rw [Int.toNat_natCast, Int.toNat_natCast, pw_mul, pw_red hA]
  congr 1
theorem prod_exp {A : Nat} (hA : Elem A) {x y : Int} (hx : 0 ≤ x) (hy : 0 ≤ y) : pw 2147483579 (pw 2147483579 A x.toNat) y.toNat = pw 2147483579 A ((x * y) % 1073741789).toNat := by
  obtain ⟨n, rfl⟩ : ∃ n : Nat, x = n := ⟨x.toNat, by omega⟩
  obtain ⟨m, rfl⟩ : ∃ m : Nat, y = m := ⟨y.toNat, by omega⟩
  rw [Int.toNat_natCast, Int.toNat_natCast, pw_pw, pw_red hA]
  congr 1
theorem prod_bd {x y : Int} (hx : 0 ≤ x ∧ x < 1073741789) (hy : 0 ≤ y ∧ y < 1073741789) : 0 ≤ x * y ∧ x * y ≤ 2000000000000000000 := by
  obtain ⟨n, rfl⟩ : ∃ n : Nat, x = n := ⟨x.toNat, by omega⟩
  obtain ⟨m, rfl⟩ : ∃ m : Nat, y = m := ⟨y.toNat, by omega⟩
  have h1 : n * m ≤ 1073741789 * 1073741789 := Nat.mul_le_mul (by omega) (by omega)
  have e : (n : Int) * m = ((n * m : Nat) : Int) := by push_cast; rfl
  rw [e]; omega

set_option maxHeartbeats 1000000 in
theorem gpowers_any (n m i k : Int) (hn : 0 ≤ n ∧ n ≤ 18446744073709551615) (hm : 0 ≤ m ∧ m ≤ 18446744073709551615) (hi : 0 ≤ i ∧ i ≤ 18446744073709551615) (hk : 0 ≤ k ∧ k ≤ 18446744073709551615) (w : World) (ht : TB w) :
    Calls Tryd.prog 4 #[.int .u64 n, .int .u64 m, .int .u64 i, .int .u64 k] w (Yes w) := by
  go_enter Tryd.func4, Tryd.ntmps4
  go_wp2_with fail
  refine (ghead_any w ht).mono ?_
  rintro e w1 ⟨rfl, hE1⟩
  clear ht
  go_wp2_with fail
  refine (relement_any n hn w1).mono ?_
  rintro e w' ⟨rfl, hw⟩
  rw [hw]
  clear hw w'
  go_wp2_with fail
  refine (relement_any m hm w1).mono ?_
  rintro e w' ⟨rfl, hw⟩
  rw [hw]
  clear hw w'
  have hA := elem_pw (n % 1073741789).toNat
  have hB := elem_pw (m % 1073741789).toNat
  generalize pw 2147483579 4 (n % 1073741789).toNat = A at *
  generalize pw 2147483579 4 (m % 1073741789).toNat = B at *
  go_wp2_with fail
  have hx : 0 ≤ i % 1073741789 ∧ i % 1073741789 < 1073741789 := by omega
  have hy : 0 ≤ k % 1073741789 ∧ k % 1073741789 < 1073741789 := by omega
  generalize i % 1073741789 = x at *
  generalize k % 1073741789 = y at *
  refine (mul_el hA hB w1).mono ?_
  rintro e w2 ⟨rfl, hE2⟩
  replace hE2 := hE1.trans hE2; clear hE1
  have hAB := elem_mul hA hB
  have hBA : B * A % 2147483579 = A * B % 2147483579 := by rw [Nat.mul_comm]
  have hmulBA := fun w => mul_el hB hA w
  rw [hBA] at hmulBA
  clear hBA
  generalize A * B % 2147483579 = AB at *
  have HM := Lib.hid hmulBA
  clear hmulBA
  go_wp2_with fail
  refine (HM.out w2).mono ?_
  rintro e w3 ⟨rfl, hE3⟩
  replace hE3 := hE2.trans hE3; clear hE2
  go_wp2_with fail
  refine (mem_el hAB w3).mono ?_
  rintro e w4 ⟨rfl, hE4⟩
  replace hE4 := hE3.trans hE4; clear hE3
  go_wp2_with fail
  refine (exp_el hA x hx w4).mono ?_
  rintro e w5 ⟨rfl, hE5⟩
  replace hE5 := hE4.trans hE5; clear hE4
  have e1 := sum_exp hA hx.1 hy.1
  have e2 := prod_exp hA hx.1 hy.1
  have hV1 := elem_pow hA x.toNat
  have hV2 := elem_pow hA y.toNat
  have hmul := fun w => mul_el hV1 hV2 w
  rw [e1] at hmul
  have hexp := fun w => exp_el hV1 y hy w
  rw [e2] at hexp
  have hxy := prod_bd hx hy
  generalize hXY : x * y = XY at *
  have hsum : 0 ≤ (x + y) % 1073741789 ∧ (x + y) % 1073741789 < 1073741789 := by omega
  have hprod : 0 ≤ XY % 1073741789 ∧ XY % 1073741789 < 1073741789 := by omega
  have hex2 := fun w => exp_el hA y hy w
  have hex3 := fun w => exp_el hA _ hsum w
  have hex4 := fun w => exp_el hA _ hprod w
  clear e1 e2
  generalize pw 2147483579 A x.toNat = V1 at *
  generalize pw 2147483579 A y.toNat = V2 at *
  generalize pw 2147483579 A ((x + y) % 1073741789).toNat = V3 at *
  generalize pw 2147483579 A (XY % 1073741789).toNat = V4 at *
  have H1 := Lib.hid hmul
  have H2 := Lib.hid hexp
  have H3 := Lib.hid hex2
  have H4 := Lib.hid hex3
  have H5 := Lib.hid hex4
  clear hmul hexp hex2 hex3 hex4
  go_wp2_with fail
  refine (H3.out w5).mono ?_
  rintro e w6 ⟨rfl, hE6⟩
  replace hE6 := hE5.trans hE6; clear hE5
  go_wp2_with fail
  refine (H4.out w6).mono ?_
  rintro e w7 ⟨rfl, hE7⟩
  replace hE7 := hE6.trans hE7; clear hE6
  go_wp2_with fail
  refine (mem_el hV1 w7).mono ?_
  rintro e w8 ⟨rfl, hE8⟩
  replace hE8 := hE7.trans hE8; clear hE7
  go_wp2_with fail
  refine (mem_el hV2 w8).mono ?_
  rintro e w9 ⟨rfl, hE9⟩
  replace hE9 := hE8.trans hE9; clear hE8
  go_wp2_with fail
  refine (H1.out w9).mono ?_
  rintro e w10 ⟨rfl, hE10⟩
  replace hE10 := hE9.trans hE10; clear hE9
  go_wp2_with fail
  refine (H2.out w10).mono ?_
  rintro e w11 ⟨rfl, hE11⟩
  replace hE11 := hE10.trans hE11; clear hE10
  go_wp2_with fail
  refine (H5.out w11).mono ?_
  rintro e w12 ⟨rfl, hE12⟩
  replace hE12 := hE11.trans hE12; clear hE11
  go_wp2_with fail
  go_ret
  exact ⟨rfl, hE12⟩
end Go.Proofs.YtepjobjkcigbmaaDoor
