/-
  The laws DigestMatchesReference, DigestInts, DigestBehind, walked.
-/
import Derived.Test.YtkophednepcbkaaDoorD13
namespace Go.Proofs.YtkophednepcbkaaDoor
open Go.RowKit Go.Sort
set_option linter.unusedSimpArgs false
set_option linter.unusedVariables false
set_option maxRecDepth 100000

/-- The table of the powers of ten lies here. -/
def TB (w : World) : Prop := Lib.TabBelow Tryd.prog w.heap.size w "internal/strconv.uint64pow10" .u64 Lib.pow10Tab
theorem TB.ext {w W : World} (h : TB w) (hE : Ext w W) : TB W := fun w' h' => h w' (Below.trans hE (Below.mono h' hE.sz))

def Yes (w : World) : Ending → World → Prop := fun e w' => e = .returned (.bool true) ∧ Ext w w'

theorem dmatch_any (a1 : Option Addr) (n1 c1 : Nat) (xs : List Int) (a2 : Option Addr) (n2 c2 : Nat) (ys : List Int) (c d : Int) (hc : 0 ≤ c ∧ c ≤ 18446744073709551615) (hd : 0 ≤ d ∧ d ≤ 18446744073709551615) (w : World) (h1 : Sl .u8 w a1 n1 c1 xs) (h2 : Sl .i64 w a2 n2 c2 ys) (ht : TB w) :
    Calls Tryd.prog 3 #[.slice a1 n1 c1, .slice a2 n2 c2, .int .u64 c, .int .u64 d] w (Yes w) := by
  have b1 := h1.bd
  have b2 := h2.bd
  have HT := Lib.hid ht
  clear ht
  by_cases hs1 : 300 < n1
  · go_enter Tryd.func3, Tryd.ntmps3
    go_wp2_with fail
    refine (head_any w HT.out).mono ?_
    rintro e w1 ⟨rfl, hE1⟩
    go_wp2_with fail
    go_ret
    exact ⟨rfl, hE1⟩
  by_cases hs2 : 300 < n2
  · go_enter Tryd.func3, Tryd.ntmps3
    go_wp2_with fail
    refine (head_any w HT.out).mono ?_
    rintro e w1 ⟨rfl, hE1⟩
    go_wp2_with fail
    go_ret
    exact ⟨rfl, hE1⟩
  have q1 : decide ((300 : Int) < (n1 : Int)) = false := by simp; omega
  have q2 : decide ((300 : Int) < (n2 : Int)) = false := by simp; omega
  go_enter Tryd.func3, Tryd.ntmps3
  go_wp2_with fail
  refine (head_any w HT.out).mono ?_
  rintro e w1 ⟨rfl, hE1⟩
  go_wp2_with fail
  refine (sum_any _ _ _ _ w1 (h1.ext hE1)).mono ?_
  rintro e w' ⟨rfl, rfl⟩
  go_wp2_with fail
  refine (rsum_any _ _ _ _ w1 (h1.ext hE1)).mono ?_
  rintro e w' ⟨rfl, rfl⟩
  go_wp2_with fail
  refine (dints_any _ _ _ _ w1 (h2.ext hE1) (by omega) (TB.ext HT.out hE1)).mono ?_
  rintro e w2 ⟨rfl, hE2⟩
  replace hE2 := hE1.trans hE2; clear hE1
  go_wp2_with fail
  refine (rints_any _ _ _ _ w2 (h2.ext hE2) (by omega)).mono ?_
  rintro e w3 ⟨rfl, hE3⟩
  replace hE3 := hE2.trans hE3; clear hE2
  go_wp2_with fail
  refine (dnext_any c hc _ _ _ _ w3 (h2.ext hE3) (by omega) (TB.ext HT.out hE3)).mono ?_
  rintro e w4 ⟨rfl, hE4⟩
  replace hE4 := hE3.trans hE4; clear hE3
  go_wp2_with fail
  refine (rnext_any c hc _ _ _ _ w4 (h2.ext hE4) (by omega)).mono ?_
  rintro e w5 ⟨rfl, hE5⟩
  replace hE5 := hE4.trans hE5; clear hE4
  go_wp2_with fail
  refine (dpair_any c d hc hd w5).mono ?_
  rintro e w6 ⟨rfl, hE6⟩
  replace hE6 := hE5.trans hE6; clear hE5
  go_wp2_with fail
  refine (rpair_any c d hc hd w6).mono ?_
  rintro e w7 ⟨rfl, hE7⟩
  replace hE7 := hE6.trans hE7; clear hE6
  go_wp2_with fail
  go_ret
  exact ⟨rfl, hE7⟩

theorem dints_law (a1 : Option Addr) (n1 c1 : Nat) (xs : List Int) (at_ by_ : Int) (ha : -9223372036854775808 ≤ at_ ∧ at_ ≤ 9223372036854775807) (hb : 0 ≤ by_ ∧ by_ ≤ 255) (w : World) (h1 : Sl .i64 w a1 n1 c1 xs) (ht : TB w) :
    Calls Tryd.prog 5 #[.slice a1 n1 c1, .int .i64 at_, .int .u8 by_] w (Yes w) := by
  have b1 := h1.bd
  have HT := Lib.hid ht
  clear ht
  by_cases hs1 : 100 < n1
  · go_enter Tryd.func5, Tryd.ntmps5
    go_wp2_with fail
    refine (head_any w HT.out).mono ?_
    rintro e w1 ⟨rfl, hE1⟩
    go_wp2_with fail
    go_ret
    exact ⟨rfl, hE1⟩
  have q1 : decide ((100 : Int) < (n1 : Int)) = false := by simp; omega
  go_enter Tryd.func5, Tryd.ntmps5
  go_wp2_with fail
  refine (head_any w HT.out).mono ?_
  rintro e w1 ⟨rfl, hE1⟩
  go_wp2_with fail
  refine (dints_any _ _ _ _ w1 (h1.ext hE1) (by omega) (TB.ext HT.out hE1)).mono ?_
  rintro e w2 ⟨rfl, hE2⟩
  replace hE2 := hE1.trans hE2; clear hE1
  go_wp2_with fail
  refine (rtext_any _ _ _ _ w2 (h1.ext hE2) (by omega)).mono ?_
  rintro e w3 ⟨a', c', rfl, ho, hE3⟩
  replace hE3 := hE2.trans hE3; clear hE2
  go_wp2_with fail
  refine (sum_any _ _ _ _ w3 (ho.sl (txt_wf xs))).mono ?_
  rintro e w' ⟨rfl, rfl⟩
  clear ho
  go_wp2_with fail
  refine (digit_any _ _ _ _ at_ by_ ha hb w3 (h1.ext hE3) (by omega)).mono ?_
  rintro e w4 ⟨a4, m4, c4, zs, b, rfl, hz, hE4, hD⟩
  replace hE4 := hE3.trans hE4; clear hE3
  cases b
  · go_wp2_with fail
    go_ret
    exact ⟨rfl, hE4⟩
  · obtain ⟨hD, hm4⟩ := hD rfl
    have hne : (fnv (txt zs) != fnv (txt xs)) = true := by simpa using digit_ints hD
    have HN := Lib.hid hne
    clear hne
    go_wp2_with fail
    refine (dints_any _ _ _ _ w4 hz (by omega) (TB.ext HT.out hE4)).mono ?_
    rintro e w5 ⟨rfl, hE5⟩
    replace hE5 := hE4.trans hE5; clear hE4
    go_wp2_with fail
    refine (dints_any _ _ _ _ w5 (h1.ext hE5) (by omega) (TB.ext HT.out hE5)).mono ?_
    rintro e w6 ⟨rfl, hE6⟩
    replace hE6 := hE5.trans hE6; clear hE5
    have hne := HN.out
    go_wp2_with fail
    go_ret
    exact ⟨rfl, hE6⟩
end Go.Proofs.YtkophednepcbkaaDoor
