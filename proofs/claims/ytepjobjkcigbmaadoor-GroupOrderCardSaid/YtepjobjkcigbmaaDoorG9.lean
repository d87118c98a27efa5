/-
  The law GroupMatchesReference, walked.
-/
import Derived.Test.YtepjobjkcigbmaaDoorG8
namespace Go.Proofs.YtepjobjkcigbmaaDoor
open Go.RowKit Go.Sort Go.Shelf
set_option linter.unusedSimpArgs false
set_option linter.unusedVariables false
set_option maxRecDepth 100000

set_option maxHeartbeats 1000000 in
theorem gmatch_any (a b x y C S : Int) (a1 : Option Addr) (n1 c1 : Nat) (ms : List Int) (w : World) (h1 : Sl .i64 w a1 n1 c1 ms) (ht : TB w) :
    Calls Tryd.prog 3 #[.int .i64 a, .int .i64 b, .int .i64 x, .int .i64 y, .agg #[.int .i64 C, .int .i64 S], .slice a1 n1 c1] w (Yes w) := by
  have b1 := h1.bd
  have HT := Lib.hid ht
  clear ht
  have hB0 := World.alloc_heap_new w (.cells #[.int .i64 C, .int .i64 S] 23)
  have hE0 : Ext w (w.alloc (.cells #[.int .i64 C, .int .i64 S] 23)) := (Ext.refl w).alloc _
  have hq := fun (p q : Int) (w : World) => eqSig p q p q w
  have hd : ∀ p q : Int, decide (p = p ∧ q = q) = true := fun p q => by simp
  simp only [hd] at hq
  clear hd
  go_enter Tryd.func3, Tryd.ntmps3
  go_wp2_with fail
  generalize w.alloc (.cells #[.int .i64 C, .int .i64 S] 23) = W at *
  refine (ghead_any W (TB.ext HT.out hE0)).mono ?_
  rintro e w1 ⟨rfl, hE1⟩
  have hB1 := (hE1.block _ (lt_of_block hB0)).trans hB0
  replace hE1 := hE0.trans hE1
  clear hE0 hB0
  go_wp2_with fail
  refine (gfew_any a1 n1 c1 ms w1 (h1.ext hE1)).mono ?_
  rintro e w' ⟨rfl, hw⟩
  rw [← hw]
  clear hw w'
  have h2 := h1.take (m := min n1 20) (by omega)
  have hm20 : min n1 20 ≤ 500 := by omega
  generalize min n1 20 = m at *
  generalize ms.take m = ns at *
  clear h1 b1
  go_wp2_with fail
  refine (mul_any a b w1).mono ?_
  rintro e w2 ⟨rfl, hE2⟩
  have hB2 := (hE2.block _ (lt_of_block hB1)).trans hB1
  replace hE2 := hE1.trans hE2
  clear hE1 hB1
  go_wp2_with fail
  refine (rmul_any a b w2).mono ?_
  rintro e w' ⟨rfl, hw⟩
  rw [hw]
  clear hw w'
  go_wp2_with fail
  refine (member_any a w2).mono ?_
  rintro e w3 ⟨rfl, hE3⟩
  have hB3 := (hE3.block _ (lt_of_block hB2)).trans hB2
  replace hE3 := hE2.trans hE3
  clear hE2 hB2
  go_wp2_with fail
  refine (rmember_any a w3).mono ?_
  rintro e w' ⟨rfl, hw⟩
  rw [hw]
  clear hw w'
  generalize mulV a b = MV
  generalize mulE a b = ME
  generalize memB a = MB
  go_wp2_with fail
  refine (exp_any a x w3).mono ?_
  rintro e w4 ⟨rfl, hE4⟩
  have hB4 := (hE4.block _ (lt_of_block hB3)).trans hB3
  replace hE4 := hE3.trans hE4
  clear hE3 hB3
  go_wp2_with fail
  refine (rexp_any a x w4).mono ?_
  rintro e w' ⟨rfl, hw⟩
  rw [hw]
  clear hw w'
  generalize expV a x = XV
  generalize expE a x = XE
  go_wp2_with fail
  refine (sign_any x y a1 m c1 ns w4 (h2.ext hE4) hm20 (TB.ext HT.out hE4)).mono ?_
  rintro e w5 ⟨rfl, hE5⟩
  have hB5 := (hE5.block _ (lt_of_block hB4)).trans hB4
  replace hE5 := hE4.trans hE5
  clear hE4 hB4
  generalize hsc : sgC x y ns = SC
  generalize hss : sgS x y ns = SS
  generalize hse : sgE x y = SE
  have HSC := Lib.hid hsc
  have HSS := Lib.hid hss
  have HSE := Lib.hid hse
  clear hsc hss hse
  have g5 := World.alloc_heap_new w5 (.cells #[.int .i64 SC, .int .i64 SS] 23)
  have hB6 := (((Ext.refl w5).alloc (.cells #[.int .i64 SC, .int .i64 SS] 23)).block _ (lt_of_block hB5)).trans hB5
  have hE6 := hE5.alloc (.cells #[.int .i64 SC, .int .i64 SS] 23)
  clear hB5 hE5
  go_wp2_with fail
  generalize w5.alloc (.cells #[.int .i64 SC, .int .i64 SS] 23) = w6 at *
  generalize w5.heap.size = b5 at *
  refine (rsign_any x y a1 m c1 ns w6 (h2.ext hE6) hm20).mono ?_
  rintro e w7 ⟨rfl, hE7⟩
  rw [HSC.out, HSS.out, HSE.out]
  have hB7 := (hE7.block _ (lt_of_block hB6)).trans hB6
  have g7 := (hE7.block _ (lt_of_block g5)).trans g5
  replace hE7 := hE6.trans hE7
  clear hE6 hB6 g5
  have g8 := World.alloc_heap_new w7 (.cells #[.int .i64 SC, .int .i64 SS] 23)
  have x8 := (Ext.refl w7).alloc (.cells #[.int .i64 SC, .int .i64 SS] 23)
  have hB8 := (x8.block _ (lt_of_block hB7)).trans hB7
  have g9 := (x8.block _ (lt_of_block g7)).trans g7
  have hE8 := hE7.trans x8
  have d1 := cell_of_block g8 0 _ rfl
  have d2 := cell_of_block g8 1 _ rfl
  have d3 := cell_of_block g9 0 _ rfl
  have d4 := cell_of_block g9 1 _ rfl
  have d5 := cell_of_block hB8 0 _ rfl
  have d6 := cell_of_block hB8 1 _ rfl
  clear hB7 g7 hE7 x8 g8 g9
  go_wp2_with fail
  refine (verify_any a C S a1 m c1 ns _ (h2.ext hE8) hm20 (TB.ext HT.out hE8)).mono ?_
  rintro e w9 ⟨rfl, hE9⟩
  have hB9 := (hE9.block _ (lt_of_block hB8)).trans hB8
  replace hE9 := hE8.trans hE9
  clear hE8 hB8 d1 d2 d3 d4 d5 d6
  have d5 := cell_of_block hB9 0 _ rfl
  have d6 := cell_of_block hB9 1 _ rfl
  generalize hvb : verB a C S ns = VB
  generalize hve : verE a C S = VE
  have HVB := Lib.hid hvb
  have HVE := Lib.hid hve
  clear hvb hve
  go_wp2_with fail
  refine (rverify_any a C S a1 m c1 ns _ (h2.ext hE9) hm20).mono ?_
  rintro e w10 ⟨rfl, hE10⟩
  rw [HVB.out, HVE.out]
  go_wp2_with fail
  go_ret
  exact ⟨rfl, hE9.trans hE10⟩
end Go.Proofs.YtepjobjkcigbmaaDoor
