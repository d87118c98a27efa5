/-
  The law EditionMoves. Written by wip/gen_el4.py.
-/
import Derived.Test.YtcohdojfbnijpaaDoorEL2
namespace Go.Proofs.YtcohdojfbnijpaaDoor
open Go.RowKit Go.Sort Go.Shelf
set_option linter.unusedSimpArgs false
set_option linter.unusedVariables false
set_option maxRecDepth 100000

theorem isDay_of {l : List Lp} {d m : Int} (h0 : 0 ≤ m) (h9 : m < lenL l d) : IsDay l (startL l d + m) d := by
  have := startL_succ l d
  exact ⟨by omega, by omega⟩
theorem toF_in {l : List Lp} {t d : Int} (hv : validL l = true) (hd : IsDay l t d) (h0 : 0 ≤ d) (h9 : d ≤ 34000) (ht : t ≤ 3000000000000000) : toF l t = ((d, t - startL l d), 0) := toF_of (dayF_in hv hd h0 h9 ht)
theorem froF_in {l : List Lp} {d m : Int} (hv : validL l = true) (d0 : 0 ≤ d) (d9 : d ≤ 34000) (h0 : 0 ≤ m) (h9 : m < lenL l d) : froF l d m = (startL l d + m, 0) := by
  unfold froF; rw [if_pos ⟨rightL_iff.2 ⟨hv, d0, d9⟩, h0⟩, if_pos h9]
theorem froF_cases {l : List Lp} (hv : validL l = true) (d m : Int) : (∃ z, z ≠ 0 ∧ froF l d m = (0, z)) ∨ (0 ≤ d ∧ d ≤ 34000 ∧ 0 ≤ m ∧ m < lenL l d ∧ startL l d + m ≤ 3000000000000000) := by
  by_cases h : rightL l d = true ∧ 0 ≤ m
  · by_cases h2 : m < lenL l d
    · right
      obtain ⟨-, h3, h4⟩ := rightL_iff.1 h.1
      have b1 := startL_bd hv h3 (by omega)
      have b2 := lenL_bd hv d
      exact ⟨h3, h4, h.2, h2, by omega⟩
    · exact .inl ⟨40, by decide, by unfold froF; rw [if_pos h, if_neg h2]⟩
  · exact .inl ⟨1, by decide, by unfold froF; rw [if_neg h]⟩
theorem movF_err {l l2 : List Lp} {d m z : Int} (hv : validL l = true) (hv2 : validL l2 = true) (hz : z ≠ 0) (h : froF l d m = (0, z)) : movF l l2 d m = ((0, 0), z) := by
  unfold movF; rw [if_pos ⟨hv, hv2⟩, h, if_neg hz]
theorem movF_ok {l l2 : List Lp} {d m : Int} (hv : validL l = true) (hv2 : validL l2 = true) (d0 : 0 ≤ d) (d9 : d ≤ 34000) (h0 : 0 ≤ m) (h9 : m < lenL l d) : movF l l2 d m = toF l2 (startL l d + m) := by
  unfold movF; rw [if_pos ⟨hv, hv2⟩, froF_in hv d0 d9 h0 h9, if_pos rfl]
theorem movF_self {l : List Lp} {d m : Int} (hv : validL l = true) (d0 : 0 ≤ d) (d9 : d ≤ 34000) (h0 : 0 ≤ m) (h9 : m < lenL l d) (ht : startL l d + m ≤ 3000000000000000) : movF l l d m = ((d, m), 0) := by
  rw [movF_ok hv hv d0 d9 h0 h9, toF_in hv (isDay_of h0 h9) d0 d9 ht, show startL l d + m - startL l d = m by omega]
/-- What a move does: one of four things. -/
theorem moves_plain {l l2 : List Lp} (hv : validL l = true) (hv2 : validL l2 = true) (d m : Int) :
    (∃ z, z ≠ 0 ∧ movF l l d m = ((0, 0), z) ∧ movF l l2 d m = ((0, 0), z)) ∨
    (movF l l d m = ((d, m), 0) ∧ ((difL l l2 = none ∧ movF l l2 d m = ((d, m), 0) ∧ movF l2 l d m = ((d, m), 0)) ∨ ∃ D, difL l l2 = some D ∧
      ((d < D ∧ movF l l2 d m = ((d, m), 0) ∧ movF l2 l d m = ((d, m), 0)) ∨ (D < d ∧ movF l l2 d m = ((0, 0), 3)) ∨ (D ≤ d ∧ ∃ e k, movF l l2 d m = ((e, k), 0) ∧ movF l2 l e k = ((d, m), 0))))) := by
  rcases froF_cases hv d m with ⟨z, hz, h⟩ | ⟨d0, d9, h0, h9, ht⟩
  · exact .inl ⟨z, hz, movF_err hv hv hz h, movF_err hv hv2 hz h⟩
  right
  have hs := movF_self hv d0 d9 h0 h9 ht
  refine ⟨hs, ?_⟩
  cases hd : difL l l2 with
  | none =>
    left
    have e := difL_none.1 hd
    subst e
    exact ⟨rfl, hs, hs⟩
  | some D =>
    right
    refine ⟨D, rfl, ?_⟩
    obtain ⟨q1, q2, -, -⟩ := difL_step (validL_from hv) (validL_from hv2) hd
    have hdb := difL_bd hv hv2 hd
    have hi := isDay_of h0 h9
    have hm := movF_ok hv hv2 d0 d9 h0 h9
    have b0 := startL_bd hv d0 (by omega)
    by_cases hlt : d < D
    · left
      have s1 := startL_same hv hv2 q1 d0 (by omega)
      have s2 := startL_same hv hv2 q1 (show 0 ≤ d + 1 by omega) (by omega)
      have l1 := startL_succ l d
      have l2' := startL_succ l2 d
      have hl : m < lenL l2 d := by omega
      refine ⟨hlt, ?_, ?_⟩
      · rw [hm, s1, toF_in hv2 (isDay_of h0 hl) d0 d9 (by omega), show startL l2 d + m - startL l2 d = m by omega]
      · rw [movF_ok hv2 hv d0 d9 h0 hl, ← s1, toF_in hv hi d0 d9 ht, show startL l d + m - startL l d = m by omega]
    · right
      rcases dayF_cases l2 (startL l d + m) with hq | hq | ⟨e, hq, hr, he, -, -⟩
      · exfalso
        unfold dayF at hq
        rw [if_pos ⟨hv2, by omega, ht⟩] at hq
        split at hq <;> simp at hq
      · left
        refine ⟨?_, by rw [hm, toF_err hq (by decide)]⟩
        rcases Int.lt_or_le D d with h | h
        · exact h
        · exfalso
          have hdD : d = D := by omega
          subst hdD
          have s1 := startL_same hv hv2 q1 d0 (Int.le_refl d)
          have l0 := startL_succ l2 d
          have l1 := startL_succ l2 (d + 1)
          have b1 := lenL_bd hv2 d
          have b2 := lenL_bd hv2 (d + 1)
          have b3 := lenL_bd hv d
          have b4 := startL_mono hv2 (show d + 1 + 1 ≤ 34001 by omega)
          unfold dayF at hq
          rw [if_pos ⟨hv2, by omega, ht⟩, if_pos (by omega)] at hq
          simp at hq
      · right
        obtain ⟨-, e0, e9⟩ := rightL_iff.1 hr
        have hmi := isDay_micro he
        refine ⟨by omega, e, startL l d + m - startL l2 e, by rw [hm, toF_of hq], ?_⟩
        rw [movF_ok hv2 hv e0 e9 hmi.1 hmi.2, show startL l2 e + (startL l d + m - startL l2 e) = startL l d + m by omega, toF_in hv hi d0 d9 ht, show startL l d + m - startL l d = m by omega]

set_option maxHeartbeats 8000000 in
theorem emoves_law (a : Option Addr) (n c : Nat) (l : List Lp) (a2 : Option Addr) (n2 c2 : Nat) (l2 : List Lp) (d m : Int) (w : World) (h1 : Rw w a n c l) (h2 : Rw w a2 n2 c2 l2) (ht : TB w) :
    Calls Tryd.prog 8 #[.slice a n c, .slice a2 n2 c2, .agg #[.int .i64 d, .int .i64 m]] w (Yes w) := by
  have HT := Lib.hid ht
  have b1 := Lib.hid h1.bd
  have b2 := Lib.hid h2.bd
  clear ht
  have hB := Bk.new w 29 #[.int .i64 d, .int .i64 m]
  have hE : Ext w (w.alloc (.cells #[.int .i64 d, .int .i64 m] 29)) := (Ext.refl w).alloc _
  go_enter Tryd.func8, Tryd.ntmps8
  go_upto_region 1 with fail
  generalize w.alloc (.cells #[.int .i64 d, .int .i64 m] 29) = W at *
  generalize w.heap.size = b at hB ⊢
  have bb0 := hB.c 0 _ rfl
  have bb1 := hB.c 1 _ rfl
  go_wp2_with fail
  refine (ehead_any W (TB.ext HT.out hE)).mono ?_
  rintro _ w1 ⟨rfl, hx⟩
  replace hB := hB.ext hx
  replace hE := hE.trans hx
  clear hx bb0 bb1
  have bb0 := hB.c 0 _ rfl
  have bb1 := hB.c 1 _ rfl
  go_wp2_with fail
  refine (l20few_any none 0 0 [] a n c a2 n2 c2 w1 (edr0 w1) b1.out.2.2 b2.out.2.2).mono ?_
  rintro _ w2 ⟨rfl, hx⟩
  replace hB := hB.ext hx
  replace hE := hE.trans hx
  clear hx bb0 bb1
  have bb0 := hB.c 0 _ rfl
  have bb1 := hB.c 1 _ rfl
  rcases hv : few3 [] n n2 with _ | _
  · clear hv
    go_wp2_with fail
    go_ret
    exact ⟨rfl, hE⟩
  have HF := Lib.hid hv
  clear hv
  go_wp2_with fail
  refine (rvalid17_any a n c l w2 (h1.ext hE)).mono ?_
  rintro _ w3 ⟨rfl, hx⟩
  replace hB := hB.ext hx
  replace hE := hE.trans hx
  clear hx bb0 bb1
  have bb0 := hB.c 0 _ rfl
  have bb1 := hB.c 1 _ rfl
  rcases hv : validL l with _ | _
  · clear hv
    go_wp2_with fail
    go_ret
    exact ⟨rfl, hE⟩
  have HV := Lib.hid hv
  clear hv
  go_wp2_with fail
  refine (rvalid17_any a2 n2 c2 l2 w3 (h2.ext hE)).mono ?_
  rintro _ w4 ⟨rfl, hx⟩
  replace hB := hB.ext hx
  replace hE := hE.trans hx
  clear hx bb0 bb1
  have bb0 := hB.c 0 _ rfl
  have bb1 := hB.c 1 _ rfl
  rcases hv : validL l2 with _ | _
  · clear hv
    go_wp2_with fail
    go_ret
    exact ⟨rfl, hE⟩
  have HV2 := Lib.hid hv
  clear hv
  have QQ := fun x y x' y' W => eqCv x y x' y' W
  clear QQ
  rcases moves_plain HV.out HV2.out d m with ⟨z, hz, m1, m2⟩ | ⟨m1, hh⟩
  · have M2 := Lib.hid m2
    clear m2
    have z1 := beq_eq_false_iff_ne.2 hz
    have z2 := decide_eq_false hz
    go_wp2_with fail
    refine (emov_any a n c l a n c l d m w4 (h1.ext hE) (h1.ext hE)).mono ?_
    rintro _ w5 ⟨rfl, hx⟩
    rw [m1]
    go_upto_region 5 with fail
    have hM := Bk.new w5 29 #[.int .i64 0, .int .i64 0]
    replace hx := hx.alloc (.cells #[.int .i64 0, .int .i64 0] 29)
    generalize w5.alloc (.cells #[.int .i64 0, .int .i64 0] 29) = V5 at *
    generalize w5.heap.size = phM at *
    replace hB := hB.ext hx
    replace hE := hE.trans hx
    clear hx bb0 bb1
    have bb0 := hB.c 0 _ rfl
    have bb1 := hB.c 1 _ rfl
    have mm0 := hM.c 0 _ rfl
    have mm1 := hM.c 1 _ rfl
    go_wp2_with fail
    refine (emov_any a n c l a2 n2 c2 l2 d m V5 (h1.ext hE) (h2.ext hE)).mono ?_
    rintro _ w6 ⟨rfl, hx⟩
    rw [M2.out]
    go_upto_region 7 with fail
    have hN := Bk.new w6 29 #[.int .i64 0, .int .i64 0]
    replace hx := hx.alloc (.cells #[.int .i64 0, .int .i64 0] 29)
    generalize w6.alloc (.cells #[.int .i64 0, .int .i64 0] 29) = V6 at *
    generalize w6.heap.size = phN at *
    replace hB := hB.ext hx
    replace hM := hM.ext hx
    replace hE := hE.trans hx
    clear hx bb0 bb1 mm0 mm1
    have bb0 := hB.c 0 _ rfl
    have bb1 := hB.c 1 _ rfl
    have mm0 := hM.c 0 _ rfl
    have mm1 := hM.c 1 _ rfl
    have nn0 := hN.c 0 _ rfl
    have nn1 := hN.c 1 _ rfl
    have qq := fun W => eqCv 0 0 0 0 W
    go_wp2_with fail
    go_ret
    exact ⟨rfl, hE⟩
  have HH := Lib.hid hh
  clear hh
  go_wp2_with fail
  refine (emov_any a n c l a n c l d m w4 (h1.ext hE) (h1.ext hE)).mono ?_
  rintro _ w5 ⟨rfl, hx⟩
  rw [m1]
  go_upto_region 5 with fail
  have hM := Bk.new w5 29 #[.int .i64 d, .int .i64 m]
  replace hx := hx.alloc (.cells #[.int .i64 d, .int .i64 m] 29)
  generalize w5.alloc (.cells #[.int .i64 d, .int .i64 m] 29) = V5 at *
  generalize w5.heap.size = phM at *
  replace hB := hB.ext hx
  replace hE := hE.trans hx
  clear hx bb0 bb1
  have bb0 := hB.c 0 _ rfl
  have bb1 := hB.c 1 _ rfl
  have mm0 := hM.c 0 _ rfl
  have mm1 := hM.c 1 _ rfl
  rcases HH.out with ⟨hd, m2, m3⟩ | ⟨D, hd, hh⟩
  · have HD := Lib.hid (dfrF_none HV.out HV2.out hd)
    clear hd
    have M2 := Lib.hid m2
    have M3 := Lib.hid m3
    clear m2 m3
    go_wp2_with fail
    refine (edif_any a n c l a2 n2 c2 l2 V5 (h1.ext hE) (h2.ext hE)).mono ?_
    rintro _ w6 ⟨rfl, hx⟩
    rw [HD.out]
    replace hB := hB.ext hx
    replace hM := hM.ext hx
    replace hE := hE.trans hx
    clear hx bb0 bb1 mm0 mm1
    have bb0 := hB.c 0 _ rfl
    have bb1 := hB.c 1 _ rfl
    have mm0 := hM.c 0 _ rfl
    have mm1 := hM.c 1 _ rfl
    go_wp2_with fail
    refine (emov_any a n c l a2 n2 c2 l2 d m w6 (h1.ext hE) (h2.ext hE)).mono ?_
    rintro _ w7 ⟨rfl, hx⟩
    rw [M2.out]
    go_upto_region 10 with fail
    have hX := Bk.new w7 29 #[.int .i64 d, .int .i64 m]
    replace hx := hx.alloc (.cells #[.int .i64 d, .int .i64 m] 29)
    generalize w7.alloc (.cells #[.int .i64 d, .int .i64 m] 29) = V7 at *
    generalize w7.heap.size = phX at *
    replace hB := hB.ext hx
    replace hM := hM.ext hx
    replace hE := hE.trans hx
    clear hx bb0 bb1 mm0 mm1
    have bb0 := hB.c 0 _ rfl
    have bb1 := hB.c 1 _ rfl
    have mm0 := hM.c 0 _ rfl
    have mm1 := hM.c 1 _ rfl
    have xx0 := hX.c 0 _ rfl
    have xx1 := hX.c 1 _ rfl
    have qq := fun W => eqCv d m d m W
    go_wp2_with fail
    refine (emov_any a2 n2 c2 l2 a n c l d m V7 (h2.ext hE) (h1.ext hE)).mono ?_
    rintro _ w8 ⟨rfl, hx⟩
    rw [M3.out]
    go_upto_region 15 with fail
    have hY := Bk.new w8 29 #[.int .i64 d, .int .i64 m]
    replace hx := hx.alloc (.cells #[.int .i64 d, .int .i64 m] 29)
    generalize w8.alloc (.cells #[.int .i64 d, .int .i64 m] 29) = V8 at *
    generalize w8.heap.size = phY at *
    replace hB := hB.ext hx
    replace hM := hM.ext hx
    replace hX := hX.ext hx
    replace hE := hE.trans hx
    clear hx bb0 bb1 mm0 mm1 xx0 xx1
    have bb0 := hB.c 0 _ rfl
    have bb1 := hB.c 1 _ rfl
    have mm0 := hM.c 0 _ rfl
    have mm1 := hM.c 1 _ rfl
    have xx0 := hX.c 0 _ rfl
    have xx1 := hX.c 1 _ rfl
    have yy0 := hY.c 0 _ rfl
    have yy1 := hY.c 1 _ rfl
    go_wp2_with fail
    go_ret
    exact ⟨rfl, hE⟩
  have HD := Lib.hid (dfrF_some HV.out HV2.out hd)
  have HH2 := Lib.hid hh
  clear hd hh
  rcases HH2.out with ⟨hc, m2, m3⟩ | ⟨hc, m2⟩ | ⟨hc, e, k, m2, m3⟩
  · have k1 := decide_eq_false (show ¬ D ≤ d by omega)
    have k2 : ¬ D ≤ d := by omega
    clear hc
    have M2 := Lib.hid m2
    have M3 := Lib.hid m3
    clear m2 m3
    go_wp2_with fail
    refine (edif_any a n c l a2 n2 c2 l2 V5 (h1.ext hE) (h2.ext hE)).mono ?_
    rintro _ w6 ⟨rfl, hx⟩
    rw [HD.out]
    replace hB := hB.ext hx
    replace hM := hM.ext hx
    replace hE := hE.trans hx
    clear hx bb0 bb1 mm0 mm1
    have bb0 := hB.c 0 _ rfl
    have bb1 := hB.c 1 _ rfl
    have mm0 := hM.c 0 _ rfl
    have mm1 := hM.c 1 _ rfl
    go_wp2_with fail
    refine (emov_any a n c l a2 n2 c2 l2 d m w6 (h1.ext hE) (h2.ext hE)).mono ?_
    rintro _ w7 ⟨rfl, hx⟩
    rw [M2.out]
    go_upto_region 10 with fail
    have hX := Bk.new w7 29 #[.int .i64 d, .int .i64 m]
    replace hx := hx.alloc (.cells #[.int .i64 d, .int .i64 m] 29)
    generalize w7.alloc (.cells #[.int .i64 d, .int .i64 m] 29) = V7 at *
    generalize w7.heap.size = phX at *
    replace hB := hB.ext hx
    replace hM := hM.ext hx
    replace hE := hE.trans hx
    clear hx bb0 bb1 mm0 mm1
    have bb0 := hB.c 0 _ rfl
    have bb1 := hB.c 1 _ rfl
    have mm0 := hM.c 0 _ rfl
    have mm1 := hM.c 1 _ rfl
    have xx0 := hX.c 0 _ rfl
    have xx1 := hX.c 1 _ rfl
    have qq := fun W => eqCv d m d m W
    go_wp2_with fail
    refine (emov_any a2 n2 c2 l2 a n c l d m V7 (h2.ext hE) (h1.ext hE)).mono ?_
    rintro _ w8 ⟨rfl, hx⟩
    rw [M3.out]
    go_upto_region 15 with fail
    have hY := Bk.new w8 29 #[.int .i64 d, .int .i64 m]
    replace hx := hx.alloc (.cells #[.int .i64 d, .int .i64 m] 29)
    generalize w8.alloc (.cells #[.int .i64 d, .int .i64 m] 29) = V8 at *
    generalize w8.heap.size = phY at *
    replace hB := hB.ext hx
    replace hM := hM.ext hx
    replace hX := hX.ext hx
    replace hE := hE.trans hx
    clear hx bb0 bb1 mm0 mm1 xx0 xx1
    have bb0 := hB.c 0 _ rfl
    have bb1 := hB.c 1 _ rfl
    have mm0 := hM.c 0 _ rfl
    have mm1 := hM.c 1 _ rfl
    have xx0 := hX.c 0 _ rfl
    have xx1 := hX.c 1 _ rfl
    have yy0 := hY.c 0 _ rfl
    have yy1 := hY.c 1 _ rfl
    go_wp2_with fail
    go_ret
    exact ⟨rfl, hE⟩
  · have M2 := Lib.hid m2
    have k1 := decide_eq_true hc
    have k2 := hc
    clear m2 hc
    go_wp2_with fail
    refine (edif_any a n c l a2 n2 c2 l2 V5 (h1.ext hE) (h2.ext hE)).mono ?_
    rintro _ w6 ⟨rfl, hx⟩
    rw [HD.out]
    replace hB := hB.ext hx
    replace hM := hM.ext hx
    replace hE := hE.trans hx
    clear hx bb0 bb1 mm0 mm1
    have bb0 := hB.c 0 _ rfl
    have bb1 := hB.c 1 _ rfl
    have mm0 := hM.c 0 _ rfl
    have mm1 := hM.c 1 _ rfl
    have qq := fun W => eqCv d m d m W
    go_wp2_with fail
    refine (emov_any a n c l a2 n2 c2 l2 d m w6 (h1.ext hE) (h2.ext hE)).mono ?_
    rintro _ w7 ⟨rfl, hx⟩
    rw [M2.out]
    go_upto_region 10 with fail
    have hX := Bk.new w7 29 #[.int .i64 0, .int .i64 0]
    replace hx := hx.alloc (.cells #[.int .i64 0, .int .i64 0] 29)
    generalize w7.alloc (.cells #[.int .i64 0, .int .i64 0] 29) = V7 at *
    generalize w7.heap.size = phX at *
    replace hB := hB.ext hx
    replace hM := hM.ext hx
    replace hE := hE.trans hx
    clear hx bb0 bb1 mm0 mm1
    have bb0 := hB.c 0 _ rfl
    have bb1 := hB.c 1 _ rfl
    have mm0 := hM.c 0 _ rfl
    have mm1 := hM.c 1 _ rfl
    have xx0 := hX.c 0 _ rfl
    have xx1 := hX.c 1 _ rfl
    go_wp2_with fail
    go_ret
    exact ⟨rfl, hE⟩
  · have M2 := Lib.hid m2
    have M3 := Lib.hid m3
    have k1 := decide_eq_true hc
    have k2 := hc
    clear m2 m3 hc
    go_wp2_with fail
    refine (edif_any a n c l a2 n2 c2 l2 V5 (h1.ext hE) (h2.ext hE)).mono ?_
    rintro _ w6 ⟨rfl, hx⟩
    rw [HD.out]
    replace hB := hB.ext hx
    replace hM := hM.ext hx
    replace hE := hE.trans hx
    clear hx bb0 bb1 mm0 mm1
    have bb0 := hB.c 0 _ rfl
    have bb1 := hB.c 1 _ rfl
    have mm0 := hM.c 0 _ rfl
    have mm1 := hM.c 1 _ rfl
    have qq := fun W => eqCv d m d m W
    go_wp2_with fail
    refine (emov_any a n c l a2 n2 c2 l2 d m w6 (h1.ext hE) (h2.ext hE)).mono ?_
    rintro _ w7 ⟨rfl, hx⟩
    rw [M2.out]
    go_upto_region 10 with fail
    have hX := Bk.new w7 29 #[.int .i64 e, .int .i64 k]
    replace hx := hx.alloc (.cells #[.int .i64 e, .int .i64 k] 29)
    generalize w7.alloc (.cells #[.int .i64 e, .int .i64 k] 29) = V7 at *
    generalize w7.heap.size = phX at *
    replace hB := hB.ext hx
    replace hM := hM.ext hx
    replace hE := hE.trans hx
    clear hx bb0 bb1 mm0 mm1
    have bb0 := hB.c 0 _ rfl
    have bb1 := hB.c 1 _ rfl
    have mm0 := hM.c 0 _ rfl
    have mm1 := hM.c 1 _ rfl
    have xx0 := hX.c 0 _ rfl
    have xx1 := hX.c 1 _ rfl
    go_wp2_with fail
    refine (emov_any a2 n2 c2 l2 a n c l e k V7 (h2.ext hE) (h1.ext hE)).mono ?_
    rintro _ w8 ⟨rfl, hx⟩
    rw [M3.out]
    go_upto_region 15 with fail
    have hY := Bk.new w8 29 #[.int .i64 d, .int .i64 m]
    replace hx := hx.alloc (.cells #[.int .i64 d, .int .i64 m] 29)
    generalize w8.alloc (.cells #[.int .i64 d, .int .i64 m] 29) = V8 at *
    generalize w8.heap.size = phY at *
    replace hB := hB.ext hx
    replace hM := hM.ext hx
    replace hX := hX.ext hx
    replace hE := hE.trans hx
    clear hx bb0 bb1 mm0 mm1 xx0 xx1
    have bb0 := hB.c 0 _ rfl
    have bb1 := hB.c 1 _ rfl
    have mm0 := hM.c 0 _ rfl
    have mm1 := hM.c 1 _ rfl
    have xx0 := hX.c 0 _ rfl
    have xx1 := hX.c 1 _ rfl
    have yy0 := hY.c 0 _ rfl
    have yy1 := hY.c 1 _ rfl
    go_wp2_with fail
    go_ret
    exact ⟨rfl, hE⟩
end Go.Proofs.YtcohdojfbnijpaaDoor
