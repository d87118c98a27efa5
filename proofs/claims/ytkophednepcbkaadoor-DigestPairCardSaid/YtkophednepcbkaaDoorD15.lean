/-
  The laws DigestBehind, DigestNext, DigestOneByte and DigestPair, walked.
-/
import Derived.Test.YtkophednepcbkaaDoorD14
namespace Go.Proofs.YtkophednepcbkaaDoor
open Go.RowKit Go.Sort
set_option linter.unusedSimpArgs false
set_option linter.unusedVariables false
set_option maxRecDepth 100000

theorem txt_app (xs ys : List Int) : txt (xs ++ ys) = txt xs ++ txt ys := by simp [txt]

theorem beq_iff {a b c d : Int} (h : a = b ↔ c = d) : ((a == b) == (c == d)) = true := by
  have e : (a == b) = (c == d) := by rw [Bool.eq_iff_iff]; simpa using h
  rw [e]; simp

/-! ### One byte of a number is changed -/
theorem byte_xor (D w i j : Nat) (hw : w < 256) : ((D ^^^ (w * 256 ^ j)) / 256 ^ i) % 256 = if i = j then (D / 256 ^ i % 256) ^^^ w else D / 256 ^ i % 256 := by
  have e256 : ∀ k, (256 : Nat) ^ k = 2 ^ (8 * k) := fun k => by rw [show (256 : Nat) = 2 ^ 8 from rfl, ← Nat.pow_mul]
  have h1 : (D ^^^ (w * 256 ^ j)) / 256 ^ i = (D / 256 ^ i) ^^^ (w * 256 ^ j / 256 ^ i) := by
    rw [e256 i]; exact Nat.xor_div_two_pow
  have h2 : ∀ x y : Nat, (x ^^^ y) % 256 = (x % 256) ^^^ (y % 256) := fun x y => by
    have := @Nat.xor_mod_two_pow x y 8
    simpa using this
  rw [h1, h2]
  have h3 : w * 256 ^ j / 256 ^ i % 256 = if i = j then w else 0 := by
    by_cases h : i = j
    · subst h
      rw [if_pos rfl, Nat.mul_div_cancel _ (Nat.pow_pos (by omega))]
      omega
    · rw [if_neg h]
      rcases Nat.lt_or_gt_of_ne h with hlt | hgt
      · obtain ⟨k, rfl⟩ : ∃ k, j = i + (k + 1) := ⟨j - i - 1, by omega⟩
        rw [Nat.pow_add, ← Nat.mul_assoc, Nat.mul_comm w, Nat.mul_assoc, Nat.mul_div_cancel_left _ (Nat.pow_pos (by omega)), Nat.pow_succ, ← Nat.mul_assoc, Nat.mul_mod_left]
      · rw [Nat.div_eq_of_lt]
        calc w * 256 ^ j < 256 * 256 ^ j := Nat.mul_lt_mul_of_pos_right hw (Nat.pow_pos (by omega))
          _ = 256 ^ (j + 1) := by rw [Nat.pow_succ, Nat.mul_comm]
          _ ≤ 256 ^ i := Nat.pow_le_pow_right (by omega) (by omega)
  rw [h3]
  split <;> simp

theorem xor_ne {x w : Nat} (hw : w ≠ 0) : x ^^^ w ≠ x := by
  intro h
  apply hw
  have := congrArg (x ^^^ ·) h
  simpa [← Nat.xor_assoc] using this
theorem xor_lt {x w : Nat} (hx : x < 256) (hw : w < 256) : x ^^^ w < 256 := Nat.xor_lt_two_pow (n := 8) hx hw

/-- The bytes of a number one byte of which was changed. -/
theorem be8_xor (D w j : Nat) (hw : w < 256) (hw0 : w ≠ 0) (hj : j < 8) : ∃ (pre post : List Int) (x y : Int), be8 D = pre ++ x :: post ∧ be8 (D ^^^ (w * 256 ^ j)) = pre ++ y :: post ∧ 0 ≤ x ∧ x ≤ 255 ∧ 0 ≤ y ∧ y ≤ 255 ∧ x ≠ y := by
  have hb := fun i => byte_xor D w i j hw
  have b0 := hb 0; have b1 := hb 1; have b2 := hb 2; have b3 := hb 3; have b4 := hb 4; have b5 := hb 5; have b6 := hb 6; have b7 := hb 7
  have key : ∀ i, (((D / 256 ^ i % 256 : Nat) : Int)) ≠ (((D / 256 ^ i % 256) ^^^ w : Nat) : Int) := fun i h => xor_ne hw0 (by omega : (D / 256 ^ i % 256) ^^^ w = D / 256 ^ i % 256)
  have rng : ∀ i, (((D / 256 ^ i % 256) ^^^ w : Nat) : Int) ≤ 255 := fun i => by have := xor_lt (x := D / 256 ^ i % 256) (w := w) (by omega) hw; omega
  have hform : ∀ E, be8 E = [((E / 256 ^ 7 % 256 : Nat) : Int), ((E / 256 ^ 6 % 256 : Nat) : Int), ((E / 256 ^ 5 % 256 : Nat) : Int), ((E / 256 ^ 4 % 256 : Nat) : Int), ((E / 256 ^ 3 % 256 : Nat) : Int), ((E / 256 ^ 2 % 256 : Nat) : Int), ((E / 256 ^ 1 % 256 : Nat) : Int), ((E / 256 ^ 0 % 256 : Nat) : Int)] := by
    intro E
    simp [be8]
  rw [hform D, hform (D ^^^ (w * 256 ^ j)), b0, b1, b2, b3, b4, b5, b6, b7]
  match j, hj with
  | 0, _ => exact ⟨[((D / 256 ^ 7 % 256 : Nat) : Int), ((D / 256 ^ 6 % 256 : Nat) : Int), ((D / 256 ^ 5 % 256 : Nat) : Int), ((D / 256 ^ 4 % 256 : Nat) : Int), ((D / 256 ^ 3 % 256 : Nat) : Int), ((D / 256 ^ 2 % 256 : Nat) : Int), ((D / 256 ^ 1 % 256 : Nat) : Int)], [], ((D / 256 ^ 0 % 256 : Nat) : Int), (((D / 256 ^ 0 % 256) ^^^ w : Nat) : Int), rfl, by simp, by omega, by omega, by omega, rng 0, key 0⟩
  | 1, _ => exact ⟨[((D / 256 ^ 7 % 256 : Nat) : Int), ((D / 256 ^ 6 % 256 : Nat) : Int), ((D / 256 ^ 5 % 256 : Nat) : Int), ((D / 256 ^ 4 % 256 : Nat) : Int), ((D / 256 ^ 3 % 256 : Nat) : Int), ((D / 256 ^ 2 % 256 : Nat) : Int)], [((D / 256 ^ 0 % 256 : Nat) : Int)], ((D / 256 ^ 1 % 256 : Nat) : Int), (((D / 256 ^ 1 % 256) ^^^ w : Nat) : Int), rfl, by simp, by omega, by omega, by omega, rng 1, key 1⟩
  | 2, _ => exact ⟨[((D / 256 ^ 7 % 256 : Nat) : Int), ((D / 256 ^ 6 % 256 : Nat) : Int), ((D / 256 ^ 5 % 256 : Nat) : Int), ((D / 256 ^ 4 % 256 : Nat) : Int), ((D / 256 ^ 3 % 256 : Nat) : Int)], [((D / 256 ^ 1 % 256 : Nat) : Int), ((D / 256 ^ 0 % 256 : Nat) : Int)], ((D / 256 ^ 2 % 256 : Nat) : Int), (((D / 256 ^ 2 % 256) ^^^ w : Nat) : Int), rfl, by simp, by omega, by omega, by omega, rng 2, key 2⟩
  | 3, _ => exact ⟨[((D / 256 ^ 7 % 256 : Nat) : Int), ((D / 256 ^ 6 % 256 : Nat) : Int), ((D / 256 ^ 5 % 256 : Nat) : Int), ((D / 256 ^ 4 % 256 : Nat) : Int)], [((D / 256 ^ 2 % 256 : Nat) : Int), ((D / 256 ^ 1 % 256 : Nat) : Int), ((D / 256 ^ 0 % 256 : Nat) : Int)], ((D / 256 ^ 3 % 256 : Nat) : Int), (((D / 256 ^ 3 % 256) ^^^ w : Nat) : Int), rfl, by simp, by omega, by omega, by omega, rng 3, key 3⟩
  | 4, _ => exact ⟨[((D / 256 ^ 7 % 256 : Nat) : Int), ((D / 256 ^ 6 % 256 : Nat) : Int), ((D / 256 ^ 5 % 256 : Nat) : Int)], [((D / 256 ^ 3 % 256 : Nat) : Int), ((D / 256 ^ 2 % 256 : Nat) : Int), ((D / 256 ^ 1 % 256 : Nat) : Int), ((D / 256 ^ 0 % 256 : Nat) : Int)], ((D / 256 ^ 4 % 256 : Nat) : Int), (((D / 256 ^ 4 % 256) ^^^ w : Nat) : Int), rfl, by simp, by omega, by omega, by omega, rng 4, key 4⟩
  | 5, _ => exact ⟨[((D / 256 ^ 7 % 256 : Nat) : Int), ((D / 256 ^ 6 % 256 : Nat) : Int)], [((D / 256 ^ 4 % 256 : Nat) : Int), ((D / 256 ^ 3 % 256 : Nat) : Int), ((D / 256 ^ 2 % 256 : Nat) : Int), ((D / 256 ^ 1 % 256 : Nat) : Int), ((D / 256 ^ 0 % 256 : Nat) : Int)], ((D / 256 ^ 5 % 256 : Nat) : Int), (((D / 256 ^ 5 % 256) ^^^ w : Nat) : Int), rfl, by simp, by omega, by omega, by omega, rng 5, key 5⟩
  | 6, _ => exact ⟨[((D / 256 ^ 7 % 256 : Nat) : Int)], [((D / 256 ^ 5 % 256 : Nat) : Int), ((D / 256 ^ 4 % 256 : Nat) : Int), ((D / 256 ^ 3 % 256 : Nat) : Int), ((D / 256 ^ 2 % 256 : Nat) : Int), ((D / 256 ^ 1 % 256 : Nat) : Int), ((D / 256 ^ 0 % 256 : Nat) : Int)], ((D / 256 ^ 6 % 256 : Nat) : Int), (((D / 256 ^ 6 % 256) ^^^ w : Nat) : Int), rfl, by simp, by omega, by omega, by omega, rng 6, key 6⟩
  | 7, _ => exact ⟨[], [((D / 256 ^ 6 % 256 : Nat) : Int), ((D / 256 ^ 5 % 256 : Nat) : Int), ((D / 256 ^ 4 % 256 : Nat) : Int), ((D / 256 ^ 3 % 256 : Nat) : Int), ((D / 256 ^ 2 % 256 : Nat) : Int), ((D / 256 ^ 1 % 256 : Nat) : Int), ((D / 256 ^ 0 % 256 : Nat) : Int)], ((D / 256 ^ 7 % 256 : Nat) : Int), (((D / 256 ^ 7 % 256) ^^^ w : Nat) : Int), rfl, by simp, by omega, by omega, by omega, rng 7, key 7⟩

/-- A guarded operation that is wanted is walked as if it had no guard. -/
theorem guarded {P : Program} {ops : Array Oper} {rest : List Oper} {o : Oper} {a : Act} {w : World} {Q : Exit → Act → World → Prop} (hw : Region.wanted o (yielded ops a.tmps) = true)
    (h : wpList P ops Q ({ o with guard := none } :: rest) a w) : wpList P ops Q (o :: rest) a w := by
  unfold wpList at h ⊢
  rw [if_pos hw]
  rw [if_pos (by simp [Region.wanted])] at h
  exact h

theorem dbehind_any (a b : Int) (ha : 0 ≤ a ∧ a ≤ 18446744073709551615) (hb : 0 ≤ b ∧ b ≤ 18446744073709551615) (a1 : Option Addr) (n1 c1 : Nat) (xs : List Int) (a2 : Option Addr) (n2 c2 : Nat) (ys : List Int) (a3 : Option Addr) (n3 c3 : Nat) (zs : List Int) (w : World)
    (h1 : Sl .i64 w a1 n1 c1 xs) (h2 : Sl .i64 w a2 n2 c2 ys) (h3 : Sl .i64 w a3 n3 c3 zs) (ht : TB w) :
    Calls Tryd.prog 7 #[.int .u64 a, .int .u64 b, .slice a1 n1 c1, .slice a2 n2 c2, .slice a3 n3 c3] w (Yes w) := by
  have b1 := h1.bd
  have b2 := h2.bd
  have b3 := h3.bd
  have HT := Lib.hid ht
  clear ht
  by_cases hs1 : 100 < n1
  · go_enter Tryd.func7, Tryd.ntmps7
    go_wp2_with fail
    refine (head_any w HT.out).mono ?_
    rintro e w1 ⟨rfl, hE1⟩
    go_wp2_with fail
    go_ret
    exact ⟨rfl, hE1⟩
  have q1 : decide ((100 : Int) < (n1 : Int)) = false := by simp; omega
  by_cases hs2 : 100 < n2
  · go_enter Tryd.func7, Tryd.ntmps7
    go_wp2_with fail
    refine (head_any w HT.out).mono ?_
    rintro e w1 ⟨rfl, hE1⟩
    go_wp2_with fail
    go_ret
    exact ⟨rfl, hE1⟩
  have q2 : decide ((100 : Int) < (n2 : Int)) = false := by simp; omega
  by_cases hs3 : 100 < n3
  · go_enter Tryd.func7, Tryd.ntmps7
    go_wp2_with fail
    refine (head_any w HT.out).mono ?_
    rintro e w1 ⟨rfl, hE1⟩
    go_wp2_with fail
    go_ret
    exact ⟨rfl, hE1⟩
  have q3 : decide ((100 : Int) < (n3 : Int)) = false := by simp; omega
  go_enter Tryd.func7, Tryd.ntmps7
  go_wp2_with fail
  refine (head_any w HT.out).mono ?_
  rintro e w1 ⟨rfl, hE1⟩
  have hl0 : Ext w1 (w1.alloc (.cells #[] 3)) := (Ext.refl w1).alloc _
  have ho0 := OwI.lit .i64 3 (base := w1.heap.size) w1 [] (Nat.le_refl _) (by simp) #[] rfl
  have k1 := h1.ext (hE1.trans hl0)
  simp only [List.length_nil] at ho0
  go_wp2_with (at_builtin; refine appA el_i64 rfl _ _ rfl _ w1.heap.size _ _ _ _ rfl ho0 _ _ _ _ rfl k1 (by simp) (by unfold maxLen; omega) (by omega) ?_; intro ax cx w2 ho2 hB2; refine hold ?_)
  refine held ?_
  have hE2 : Ext w w2 := hE1.trans (Below.trans hl0 hB2)
  have hz2 : w1.heap.size ≤ w2.heap.size := (Below.trans hl0 hB2).size
  have k3 := h3.ext hE2
  simp only [Nat.zero_add, List.nil_append] at ho2 ⊢
  clear hB2 ho0 k1
  go_wp2_with (at_builtin; refine appA el_i64 rfl _ _ rfl _ w1.heap.size _ _ _ _ rfl ho2 _ _ _ _ rfl k3 hz2 (by unfold maxLen; omega) (by omega) ?_; intro ay cy w3 ho3 hB3; refine hold ?_)
  refine held ?_
  have hE3 : Ext w w3 := Below.trans hE2 (Below.mono hB3 hE1.sz)
  have sx := ho3.sl (fun x hx => (List.mem_append.1 hx).elim (h1.wf x) (h3.wf x))
  clear hB3 ho3 ho2 k3 hE2 hz2 hE1 hl0
  have hl1 : Ext w3 (w3.alloc (.cells #[] 3)) := (Ext.refl w3).alloc _
  have ho4 := OwI.lit .i64 3 (base := w3.heap.size) w3 [] (Nat.le_refl _) (by simp) #[] rfl
  have k2 := h2.ext (hE3.trans hl1)
  simp only [List.length_nil] at ho4
  go_wp2_with (at_builtin; refine appA el_i64 rfl _ _ rfl _ w3.heap.size _ _ _ _ rfl ho4 _ _ _ _ rfl k2 (by simp) (by unfold maxLen; omega) (by omega) ?_; intro au cu w4 ho5 hB4; refine hold ?_)
  refine held ?_
  have hE4 : Ext w3 w4 := Below.trans hl1 hB4
  have k4 := h3.ext (hE3.trans hE4)
  have hz4 := hE4.sz
  simp only [Nat.zero_add, List.nil_append] at ho5 ⊢
  clear hB4 ho4 k2
  go_wp2_with (at_builtin; refine appA el_i64 rfl _ _ rfl _ w3.heap.size _ _ _ _ rfl ho5 _ _ _ _ rfl k4 hz4 (by unfold maxLen; omega) (by omega) ?_; intro av cv w5 ho6 hB5; refine hold ?_)
  refine held ?_
  have hE5 : Ext w3 w5 := Below.trans hE4 hB5
  have sy := ho6.sl (fun x hx => (List.mem_append.1 hx).elim (h2.wf x) (h3.wf x))
  have tx := sx.ext hE5
  have hE : Ext w w5 := hE3.trans hE5
  clear hB5 ho6 ho5 k4 hE4 hz4 hl1 hE5 hE3 sx
  have hfin := beq_iff (fnv_behind (be8 a.toNat ++ txt xs) (be8 b.toNat ++ txt ys) (txt zs))
  simp only [List.append_assoc, ← txt_app] at hfin
  have HF := Lib.hid hfin
  clear hfin
  go_wp2_with fail
  refine (dnext_any a ha _ _ _ _ w5 tx (by omega) (TB.ext HT.out hE)).mono ?_
  rintro e w6 ⟨rfl, hE6⟩
  have sy6 := sy.ext hE6
  replace hE6 := hE.trans hE6
  clear hE tx sy
  go_wp2_with fail
  refine (dnext_any b hb _ _ _ _ w6 sy6 (by omega) (TB.ext HT.out hE6)).mono ?_
  rintro e w7 ⟨rfl, hE7⟩
  replace hE7 := hE6.trans hE7
  clear hE6 sy6
  go_wp2_with fail
  refine (dnext_any a ha _ _ _ _ w7 (h1.ext hE7) (by omega) (TB.ext HT.out hE7)).mono ?_
  rintro e w8 ⟨rfl, hE8⟩
  replace hE8 := hE7.trans hE8
  clear hE7
  go_wp2_with fail
  refine (dnext_any b hb _ _ _ _ w8 (h2.ext hE8) (by omega) (TB.ext HT.out hE8)).mono ?_
  rintro e w9 ⟨rfl, hE9⟩
  replace hE9 := hE8.trans hE9
  clear hE8
  have hF := HF.out
  go_wp2_with fail
  go_ret
  exact ⟨rfl, hE9⟩

theorem next_change (D w j : Nat) (hw : w < 256) (hw0 : w ≠ 0) (hj : j < 8) (pre zs : List Int) : fnv (pre ++ (be8 (D ^^^ (w * 256 ^ j)) ++ zs)) ≠ fnv (pre ++ (be8 D ++ zs)) := by
  obtain ⟨p, q, x, y, h1, h2, x0, x1, y0, y1, hne⟩ := be8_xor D w j hw hw0 hj
  rw [h1, h2]
  have := @fnv_byte (pre ++ p) (q ++ zs) y x ⟨y0, y1⟩ ⟨x0, x1⟩ (Ne.symm hne)
  simpa [List.append_assoc] using this

theorem xor_u64 {d S : Int} (hd : 0 ≤ d ∧ d ≤ 18446744073709551615) (hS : 0 ≤ S ∧ S ≤ 18446744073709551615) : bits .xor .u64 d S = ((d.toNat ^^^ S.toNat : Nat) : Int) := by
  show IntKind.u64.wrap ((BitVec.ofInt 64 d ^^^ BitVec.ofInt 64 S).toNat : Int) = _
  rw [IntKind.wrap_u64, BitVec.toNat_xor, BitVec.toNat_ofInt, BitVec.toNat_ofInt]
  have e : ∀ x : Int, 0 ≤ x ∧ x ≤ 18446744073709551615 → (x % ((2 ^ 64 : Nat) : Int)).toNat = x.toNat := fun x hx => by omega
  rw [e d hd, e S hS]
  have := Nat.xor_lt_two_pow (n := 64) (x := d.toNat) (y := S.toNat) (by omega) (by omega)
  omega
theorem change_val {d wi : Int} {k : Nat} (hd : 0 ≤ d ∧ d ≤ 18446744073709551615) (hw : 0 ≤ wi ∧ wi ≤ 255) (hk : k < 8) :
    bits .xor .u64 d (IntKind.u64.wrap (wi * 2 ^ (8 * k))) = ((d.toNat ^^^ (wi.toNat * 256 ^ k) : Nat) : Int) ∧ 0 ≤ bits .xor .u64 d (IntKind.u64.wrap (wi * 2 ^ (8 * k))) ∧ bits .xor .u64 d (IntKind.u64.wrap (wi * 2 ^ (8 * k))) ≤ 18446744073709551615 := by
  obtain ⟨n, rfl⟩ : ∃ n : Nat, wi = n := ⟨wi.toNat, by omega⟩
  have e1 : ((n : Int) * 2 ^ (8 * k)) = ((n * 256 ^ k : Nat) : Int) := by rw [show (256 : Nat) = 2 ^ 8 from rfl, ← Nat.pow_mul]; push_cast; rfl
  have e2 : n * 256 ^ k < 18446744073709551616 := by
    calc n * 256 ^ k < 256 * 256 ^ k := Nat.mul_lt_mul_of_pos_right (by omega) (Nat.pow_pos (by omega))
      _ = 256 ^ (k + 1) := by rw [Nat.pow_succ, Nat.mul_comm]
      _ ≤ 256 ^ 8 := Nat.pow_le_pow_right (by omega) (by omega)
  have e3 : IntKind.u64.wrap ((n : Int) * 2 ^ (8 * k)) = ((n * 256 ^ k : Nat) : Int) := by rw [e1, IntKind.wrap_u64]; omega
  rw [e3, xor_u64 hd (by omega)]
  have := Nat.xor_lt_two_pow (n := 64) (x := d.toNat) (y := n * 256 ^ k) (by omega) (by omega)
  refine ⟨by rw [Int.toNat_natCast, Int.toNat_natCast], by omega, ?_⟩
  simp only [Int.toNat_natCast]
  omega

theorem dnext_law (d : Int) (hd : 0 ≤ d ∧ d ≤ 18446744073709551615) (a1 : Option Addr) (n1 c1 : Nat) (xs : List Int) (at_ by_ wi : Int) (ha : -9223372036854775808 ≤ at_ ∧ at_ ≤ 9223372036854775807) (hb : 0 ≤ by_ ∧ by_ ≤ 255) (hwi : 0 ≤ wi ∧ wi ≤ 255) (w : World) (h1 : Sl .i64 w a1 n1 c1 xs) (ht : TB w) :
    Calls Tryd.prog 6 #[.int .u64 d, .slice a1 n1 c1, .int .i64 at_, .int .u8 by_, .int .u8 wi] w (Yes w) := by
  have b1 := h1.bd
  have HT := Lib.hid ht
  clear ht
  by_cases hs1 : 100 < n1
  · go_enter Tryd.func6, Tryd.ntmps6
    go_wp2_with fail
    refine (head_any w HT.out).mono ?_
    rintro e w1 ⟨rfl, hE1⟩
    go_wp2_with fail
    go_ret
    exact ⟨rfl, hE1⟩
  have q1 : decide ((100 : Int) < (n1 : Int)) = false := by simp; omega
  have ht := txt_len_le h1.wf
  have e1 := h1.hlen
  have hk2 : ∃ k : Nat, (at_.tmod 8 + 8).tmod 8 = (k : Int) ∧ k < 8 ∧ -8 < at_.tmod 8 ∧ at_.tmod 8 < 8 := by
    have h2 := Int.tmod_lt_of_pos at_ (show (0 : Int) < 8 by omega)
    have h3 := Int.lt_tmod_of_pos at_ (show (0 : Int) < 8 by omega)
    have h4 := Int.tmod_nonneg (8 : Int) (show 0 ≤ at_.tmod 8 + 8 by omega)
    have h5 := Int.tmod_lt_of_pos (at_.tmod 8 + 8) (show (0 : Int) < 8 by omega)
    exact ⟨((at_.tmod 8 + 8).tmod 8).toNat, by omega, by omega, by omega, by omega⟩
  obtain ⟨k, hk, hk8, r1, r2⟩ := hk2
  generalize hrr : at_.tmod 8 = r at *
  go_enter Tryd.func6, Tryd.ntmps6
  go_wp2_with fail
  refine (head_any w HT.out).mono ?_
  rintro e w1 ⟨rfl, hE1⟩
  go_wp2_with fail
  refine (dnext_any d hd _ _ _ _ w1 (h1.ext hE1) (by omega) (TB.ext HT.out hE1)).mono ?_
  rintro e w2 ⟨rfl, hE2⟩
  replace hE2 := hE1.trans hE2; clear hE1
  go_wp2_with fail
  refine (eight_any d hd w2).mono ?_
  rintro e w3 ⟨g3, c3, rfl, ho3, hE3⟩
  have hz3 := hE3.sz
  have hE3' := hE2.trans hE3
  go_wp2_with fail
  refine (rtext_any _ _ _ _ w3 (h1.ext hE3') (by omega)).mono ?_
  rintro e w4 ⟨a4, c4, rfl, ho4, hE4⟩
  have ho5 := ho3.ext hE4
  have hsl := ho4.sl (txt_wf xs)
  have hz4 := hE4.sz
  have hE4' := hE3'.trans hE4
  clear ho3 ho4 hE3 hE4 hE3'
  go_wp2_with (at_builtin; refine guarded (by rfl) ?_; refine appA el_u8 rfl _ _ rfl _ w2.heap.size _ _ _ _ rfl ho5 _ _ _ _ rfl hsl (by omega) (by unfold maxLen; omega) (by omega) ?_; intro a6 c6 w5 ho6 hB6; refine hold ?_)
  refine held ?_
  have hsl6 := ho6.sl (fun x hx => (List.mem_append.1 hx).elim (be8_wf _ x) (txt_wf xs x))
  have hE5 : Ext w w5 := Below.trans hE4' (Below.mono hB6 hE2.sz)
  clear ho6 ho5 hsl hB6 hE4' hz4 hz3
  go_wp2_with fail
  refine (sum_any _ _ _ _ _ hsl6).mono ?_
  rintro e w' ⟨rfl, rfl⟩
  clear hsl6 hE2
  by_cases hw0 : wi = 0
  · have hq : decide ((0 : Int) < wi) = false := by simp; omega
    have HW := Lib.hid hw0
    clear hw0
    go_wp2_with fail
    refine (digit_any _ _ _ _ at_ by_ ha hb w5 (h1.ext hE5) (by omega)).mono ?_
    rintro e w7 ⟨a7, m7, c7, zs, b, rfl, hz, hE7, hD⟩
    replace hE7 := hE5.trans hE7; clear hE5
    cases b
    · go_wp2_with fail
      go_ret
      exact ⟨rfl, hE7⟩
    · obtain ⟨hD, hm7⟩ := hD rfl
      have hne : (fnv (be8 d.toNat ++ txt zs) != fnv (be8 d.toNat ++ txt xs)) = true := by simpa using digit_fnv _ hD
      have HN := Lib.hid hne
      clear hne
      go_wp2_with fail
      refine (dnext_any d hd _ _ _ _ w7 hz (by omega) (TB.ext HT.out hE7)).mono ?_
      rintro e w8 ⟨rfl, hE8⟩
      replace hE8 := hE7.trans hE8; clear hE7
      have hne := HN.out
      go_wp2_with fail
      go_ret
      exact ⟨rfl, hE8⟩
  · have hq : decide ((0 : Int) < wi) = true := by simp; omega
    obtain ⟨v1, v2⟩ := change_val (k := k) hd hwi hk8
    have hne : (fnv (be8 (bits .xor .u64 d (IntKind.u64.wrap (wi * 2 ^ (8 * k)))).toNat ++ txt xs) == fnv (be8 d.toNat ++ txt xs)) = false := by
      rw [v1]
      simpa using next_change d.toNat wi.toNat k (by omega) (by omega) hk8 [] (txt xs)
    clear v1
    generalize hdd : bits .xor .u64 d (IntKind.u64.wrap (wi * 2 ^ (8 * k))) = dd at *
    have HN := Lib.hid hne
    have HW := Lib.hid hw0
    clear hne hw0
    go_wp2_with fail
    refine (dnext_any dd v2 _ _ _ _ w5 (h1.ext hE5) (by omega) (TB.ext HT.out hE5)).mono ?_
    rintro e w6 ⟨rfl, hE6⟩
    replace hE6 := hE5.trans hE6; clear hE5
    have hne := HN.out
    go_wp2_with fail
    clear hne
    refine (digit_any _ _ _ _ at_ by_ ha hb w6 (h1.ext hE6) (by omega)).mono ?_
    rintro e w7 ⟨a7, m7, c7, zs, b, rfl, hz, hE7, hD⟩
    replace hE7 := hE6.trans hE7; clear hE6
    cases b
    · go_wp2_with fail
      go_ret
      exact ⟨rfl, hE7⟩
    · obtain ⟨hD, hm7⟩ := hD rfl
      have hne : (fnv (be8 d.toNat ++ txt zs) != fnv (be8 d.toNat ++ txt xs)) = true := by simpa using digit_fnv _ hD
      have HN := Lib.hid hne
      clear hne
      go_wp2_with fail
      refine (dnext_any d hd _ _ _ _ w7 hz (by omega) (TB.ext HT.out hE7)).mono ?_
      rintro e w8 ⟨rfl, hE8⟩
      replace hE8 := hE7.trans hE8; clear hE7
      have hne := HN.out
      go_wp2_with fail
      go_ret
      exact ⟨rfl, hE8⟩
end Go.Proofs.YtkophednepcbkaaDoor
