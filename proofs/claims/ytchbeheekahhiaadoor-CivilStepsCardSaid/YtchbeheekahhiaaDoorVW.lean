/-
  The law CivilSteps, walked.
-/
import Derived.Test.YtchbeheekahhiaaDoorVV
namespace Go.Proofs.YtchbeheekahhiaaDoor
open Go.RowKit Go.Sort Go.Shelf
set_option linter.unusedSimpArgs false
set_option linter.unusedVariables false
set_option maxRecDepth 100000

/-- What a wall clock shows, over all days. -/
def totW (d m : Int) : Int := (d * 86400 + min (m / 1000000) 86399) * 1000000 + m % 1000000
def wantW (m len : Int) : Int := if m + 1 = len ∧ len < 86400000000 then 1000001 else if m + 1 = 86400000000 ∧ 86400000000 < len then -999999 else 1
theorem shoF_ok {l : List Lp} {t d s m : Int} (h : shoF l t = ((d, s, m), 0)) : ∃ M, toF l t = ((d, M), 0) ∧ s = min (M / 1000000) 86399 ∧ m = M % 1000000 := by
  unfold shoF at h
  by_cases h0 : (toF l t).2 = 0
  · rw [if_pos h0] at h
    simp only [Prod.mk.injEq, and_true] at h
    obtain ⟨rfl, rfl, rfl⟩ := h
    exact ⟨(toF l t).1.2, Prod.ext (Prod.ext rfl rfl) h0, rfl, rfl⟩
  · rw [if_neg h0] at h
    simp only [Prod.mk.injEq] at h
    exact absurd h.2 h0
theorem next_plain {l : List Lp} {t d m d2 m2 : Int} (h1 : toF l t = ((d, m), 0)) (h2 : toF l (t + 1) = ((d2, m2), 0)) : (m + 1 < lenL l d ∧ d2 = d ∧ m2 = m + 1) ∨ (m + 1 = lenL l d ∧ d2 = d + 1 ∧ m2 = 0) := by
  obtain ⟨hv, -, i1, rfl, -⟩ := toF_ok h1
  obtain ⟨-, -, i2, rfl, -⟩ := toF_ok h2
  have hs := startL_succ l d
  have hb := isDay_micro i1
  by_cases h : t - startL l d + 1 < lenL l d
  · left
    have i3 : IsDay l (t + 1) d := ⟨by have := i1.1; omega, by omega⟩
    have e := IsDay.uniq hv i2 i3
    subst e
    exact ⟨h, rfl, by omega⟩
  · right
    have hb2 := lenL_bd hv (d + 1)
    have hs2 := startL_succ l (d + 1)
    have i3 : IsDay l (t + 1) (d + 1) := ⟨by omega, by omega⟩
    have e := IsDay.uniq hv i2 i3
    subst e
    exact ⟨by omega, rfl, by omega⟩
theorem steps_plain {l : List Lp} {t d m d2 m2 : Int} (h1 : toF l t = ((d, m), 0)) (h2 : toF l (t + 1) = ((d2, m2), 0)) : totW d2 m2 - totW d m = wantW m (lenL l d) := by
  have hn := next_plain h1 h2
  obtain ⟨hv, -, i1, hm, -⟩ := toF_ok h1
  have hb := isDay_micro i1
  rw [← hm] at hb
  have hl := lenL_bd hv d
  unfold totW wantW
  generalize lenL l d = L at *
  rcases hn with ⟨h3, rfl, rfl⟩ | ⟨h3, rfl, rfl⟩
  · rcases hl with rfl | rfl | rfl
    · rw [if_neg (by omega), if_neg (by omega)]; omega
    · rw [if_neg (by omega)]
      by_cases h4 : m + 1 = 86400000000
      · rw [if_pos ⟨h4, by omega⟩]; omega
      · rw [if_neg (by omega)]; omega
    · rw [if_neg (by omega), if_neg (by omega)]; omega
  · rcases hl with rfl | rfl | rfl
    · rw [if_neg (by omega), if_neg (by omega)]; omega
    · rw [if_neg (by omega), if_neg (by omega)]; omega
    · rw [if_pos (by omega)]; omega
-- WALK
set_option maxHeartbeats 8000000 in
theorem csteps_law (a : Option Addr) (n c : Nat) (l : List Lp) (t : Int) (w : World) (h1 : Rw w a n c l) (ht : TB w) (hl : TL w) :
    Calls Tryd.prog 8 #[.slice a n c, .int .i64 t] w (Yes w) := by
  have HT := Lib.hid ht
  have HTL := Lib.hid hl
  clear ht hl
  go_enter Tryd.func8, Tryd.ntmps8
  go_wp2_with fail
  refine (vhead_any w HT.out HTL.out).mono ?_
  rintro e w1 ⟨rfl, hE⟩
  go_wp2_with fail
  refine (lusable_any a n c l w1 (h1.ext hE)).mono ?_
  rintro e w2 ⟨rfl, hx⟩
  replace hE := hE.trans hx
  clear hx
  rcases hv : validL l with _ | _
  · clear hv
    go_wp2_with fail
    go_ret
    exact ⟨rfl, hE⟩
  have HV := Lib.hid hv
  clear hv
  go_wp2_with fail
  refine (cshow_any a n c l t w2 (h1.ext hE)).mono ?_
  rintro e w3 ⟨rfl, hx⟩
  generalize hS3 : shoF l t = S3 at *
  obtain ⟨⟨d3, s3, m3⟩, E3⟩ := S3
  have HS3 := Lib.hid hS3
  clear hS3
  go_upto_region 5 with fail
  have b3 := Bk.new w3 26 #[.int .i64 d3, .int .i64 s3, .int .i64 m3]
  replace hx := hx.alloc (.cells #[.int .i64 d3, .int .i64 s3, .int .i64 m3] 26)
  generalize w3.alloc (.cells #[.int .i64 d3, .int .i64 s3, .int .i64 m3] 26) = V3 at *
  generalize w3.heap.size = p3 at *
  replace hE := hE.trans hx
  clear hx
  by_cases hE3 : E3 = 0
  · subst hE3
    obtain ⟨M, hM, rfl, rfl⟩ := shoF_ok HS3.out
    have tq := toF_ok hM
    have tq1 : 0 ≤ t := tq.2.2.2.2.1
    have tq2 : t ≤ 3000000000000000 := tq.2.2.2.2.2
    have HM := Lib.hid hM
    have HTQ := Lib.hid tq
    clear hM tq
    go_wp2_with fail
    refine (cshow_any a n c l (t + 1) V3 (h1.ext hE)).mono ?_
    rintro e w4 ⟨rfl, hx⟩
    generalize hS4 : shoF l (t + 1) = S4 at *
    obtain ⟨⟨d4, s4, m4⟩, E4⟩ := S4
    have HS4 := Lib.hid hS4
    clear hS4
    go_upto_region 6 with fail
    have b4 := Bk.new w4 26 #[.int .i64 d4, .int .i64 s4, .int .i64 m4]
    replace hx := hx.alloc (.cells #[.int .i64 d4, .int .i64 s4, .int .i64 m4] 26)
    generalize w4.alloc (.cells #[.int .i64 d4, .int .i64 s4, .int .i64 m4] 26) = V4 at *
    generalize w4.heap.size = p4 at *
    replace hE := hE.trans hx
    replace b3 := b3.ext hx
    clear hx
    have c0 := b3.c 0 _ rfl
    have c1 := b3.c 1 _ rfl
    have c2 := b3.c 2 _ rfl
    have e0 := b4.c 0 _ rfl
    have e1 := b4.c 1 _ rfl
    have e2 := b4.c 2 _ rfl
    by_cases hE4 : E4 = 0
    · subst hE4
      obtain ⟨M2, hM2, rfl, rfl⟩ := shoF_ok HS4.out
      have HM2 := Lib.hid hM2
      clear hM2
      have tr := toF_ok HM2.out
      have ba := isDay_micro HTQ.out.2.2.1
      rw [← HTQ.out.2.2.2.1] at ba
      have bb := isDay_micro tr.2.2.1
      rw [← tr.2.2.2.1] at bb
      have ra := rightL_iff.1 HTQ.out.2.1
      have rb := rightL_iff.1 tr.2.1
      have la := lenL_bd HV.out d3
      have lb := lenL_bd HV.out d4
      have TW := Lib.hid (steps_plain HM.out HM2.out)
      have HA := Lib.hid (fun w => ltotal_any d3 (min (M / 1000000) 86399) (M % 1000000) ⟨by omega, by omega⟩ ⟨by omega, by omega⟩ ⟨by omega, by omega⟩ w)
      have HB := Lib.hid (fun w => ltotal_any d4 (min (M2 / 1000000) 86399) (M2 % 1000000) ⟨by omega, by omega⟩ ⟨by omega, by omega⟩ ⟨by omega, by omega⟩ w)
      have hta : totW d3 M = (d3 * 86400 + min (M / 1000000) 86399) * 1000000 + M % 1000000 := rfl
      have htb : totW d4 M2 = (d4 * 86400 + min (M2 / 1000000) 86399) * 1000000 + M2 % 1000000 := rfl
      have na : 0 ≤ totW d3 M ∧ totW d3 M ≤ 10000000000000000 := by rw [hta]; omega
      have nb : 0 ≤ totW d4 M2 ∧ totW d4 M2 ≤ 10000000000000000 := by rw [htb]; omega
      rw [← hta] at HA
      rw [← htb] at HB
      have hst : t + 1 - startL l d3 = M + 1 := by have := HTQ.out.2.2.2.1; omega
      have hsb : 0 ≤ startL l d3 ∧ startL l d3 ≤ 3000000000000000 := by have := HTQ.out.2.2.2.1; have := startL_bd HV.out ra.2.1 (show d3 ≤ 34001 by omega); omega
      have fL : lengthF l d3 = (lenL l d3, 0) := by unfold lengthF; rw [if_pos HTQ.out.2.1]
      have fS : startF l d3 = (startL l d3, 0) := by unfold startF; rw [if_pos HTQ.out.2.1]
      have FL := Lib.hid fL
      have FSt := Lib.hid fS
      have ba2 := ba.2
      have ba1 := ba.1
      clear hta htb fL fS tr bb rb lb ba ra HTQ
      generalize totW d3 M = TA at *
      generalize totW d4 M2 = TB2 at *
      generalize min (M / 1000000) 86399 = sa at *
      generalize min (M2 / 1000000) 86399 = sb at *
      generalize M % 1000000 = ma at *
      generalize M2 % 1000000 = mb at *
      go_wp2_with fail
      refine (lLength_any a n c l d3 V4 (h1.ext hE)).mono ?_
      rintro e w5 ⟨rfl, hx⟩
      rw [FL.out]
      replace hE := hE.trans hx
      replace b3 := b3.ext hx
      replace b4 := b4.ext hx
      clear hx c0 c1 c2 e0 e1 e2
      have c0 := b3.c 0 _ rfl
      have c1 := b3.c 1 _ rfl
      have c2 := b3.c 2 _ rfl
      have e0 := b4.c 0 _ rfl
      have e1 := b4.c 1 _ rfl
      have e2 := b4.c 2 _ rfl
      go_wp2_with fail
      refine (lStart_any a n c l d3 w5 (h1.ext hE)).mono ?_
      rintro e w6 ⟨rfl, hx⟩
      rw [FSt.out]
      replace hE := hE.trans hx
      replace b3 := b3.ext hx
      replace b4 := b4.ext hx
      clear hx c0 c1 c2 e0 e1 e2
      have c0 := b3.c 0 _ rfl
      have c1 := b3.c 1 _ rfl
      have c2 := b3.c 2 _ rfl
      have e0 := b4.c 0 _ rfl
      have e1 := b4.c 1 _ rfl
      have e2 := b4.c 2 _ rfl
      clear FL FSt
      generalize startL l d3 = st at *
      generalize lenL l d3 = L at *
      have m1 : 0 < t + 1 - st := by omega
      have hst' : t + 1 - st ≤ L := by omega
      generalize hM1 : M + 1 = M1 at *
      have hMM : M = M1 - 1 := by omega
      have TW2 : Hid (TB2 - TA = if M1 = L ∧ L < 86400000000 then 1000001 else if M1 = 86400000000 ∧ 86400000000 < L then -999999 else 1) := Lib.hid (by have := TW.out; unfold wantW at this; rw [hM1] at this; exact this)
      have H1 := Lib.hid hst
      clear hst TW hM1 hMM
      rcases la with rfl | rfl | rfl
      · have tt : TB2 - TA = 1 := by have h := TW2.out; have h1 := H1.out; rw [if_neg (by omega), if_neg (by omega)] at h; exact h
        go_upto_region 15 with fail
        all_goals (
          have lb3 := b3.lt
          have lb4 := b4.lt
          have hg := @grow_cell
          refine region_ext (by kernel_rfl) (by kernel_rfl) ?_
          go_big_quiet_step (fail)
          repeat (go_big_quiet_step ((go_at_call 29; first | with_reducible exact Calls.regrown_of (HA.out _) | with_reducible exact Calls.regrown_of (HB.out _))))
          refine wpQuiet_nil ?_
          intro w9 hx
          go_wp2_with fail
          go_ret
          exact ⟨rfl, hE.trans hx⟩)
      · by_cases q : t + 1 - st = 86400000000
        · have tt : TB2 - TA = -999999 := by have h := TW2.out; have h1 := H1.out; rw [if_neg (by omega), if_pos (by omega)] at h; exact h
          go_upto_region 15 with fail
          all_goals (
            have lb3 := b3.lt
            have lb4 := b4.lt
            have hg := @grow_cell
            refine region_ext (by kernel_rfl) (by kernel_rfl) ?_
            go_big_quiet_step (fail)
            repeat (go_big_quiet_step ((go_at_call 29; first | with_reducible exact Calls.regrown_of (HA.out _) | with_reducible exact Calls.regrown_of (HB.out _))))
            refine wpQuiet_nil ?_
            intro w9 hx
            go_wp2_with fail
            go_ret
            exact ⟨rfl, hE.trans hx⟩)
        · have tt : TB2 - TA = 1 := by have h := TW2.out; have h1 := H1.out; rw [if_neg (by omega), if_neg (by omega)] at h; exact h
          go_upto_region 15 with fail
          all_goals (
            have lb3 := b3.lt
            have lb4 := b4.lt
            have hg := @grow_cell
            refine region_ext (by kernel_rfl) (by kernel_rfl) ?_
            go_big_quiet_step (fail)
            repeat (go_big_quiet_step ((go_at_call 29; first | with_reducible exact Calls.regrown_of (HA.out _) | with_reducible exact Calls.regrown_of (HB.out _))))
            refine wpQuiet_nil ?_
            intro w9 hx
            go_wp2_with fail
            go_ret
            exact ⟨rfl, hE.trans hx⟩)
      · by_cases q : t + 1 - st = 86399000000
        · have tt : TB2 - TA = 1000001 := by have h := TW2.out; have h1 := H1.out; rw [if_pos (by omega)] at h; exact h
          go_upto_region 15 with fail
          all_goals (
            have lb3 := b3.lt
            have lb4 := b4.lt
            have hg := @grow_cell
            refine region_ext (by kernel_rfl) (by kernel_rfl) ?_
            go_big_quiet_step (fail)
            repeat (go_big_quiet_step ((go_at_call 29; first | with_reducible exact Calls.regrown_of (HA.out _) | with_reducible exact Calls.regrown_of (HB.out _))))
            refine wpQuiet_nil ?_
            intro w9 hx
            go_wp2_with fail
            go_ret
            exact ⟨rfl, hE.trans hx⟩)
        · have tt : TB2 - TA = 1 := by have h := TW2.out; have h1 := H1.out; rw [if_neg (by omega), if_neg (by omega)] at h; exact h
          go_upto_region 15 with fail
          all_goals (
            have lb3 := b3.lt
            have lb4 := b4.lt
            have hg := @grow_cell
            refine region_ext (by kernel_rfl) (by kernel_rfl) ?_
            go_big_quiet_step (fail)
            repeat (go_big_quiet_step ((go_at_call 29; first | with_reducible exact Calls.regrown_of (HA.out _) | with_reducible exact Calls.regrown_of (HB.out _))))
            refine wpQuiet_nil ?_
            intro w9 hx
            go_wp2_with fail
            go_ret
            exact ⟨rfl, hE.trans hx⟩)
    · go_wp2_with fail
      go_ret
      exact ⟨rfl, hE⟩
  · go_wp2_with fail
    refine (cshow_any a n c l _ V3 (h1.ext hE)).mono ?_
    rintro e w4 ⟨rfl, hx⟩
    generalize shoF l (wrap64 (t + 1)) = S4 at *
    obtain ⟨⟨d4, s4, m4⟩, E4⟩ := S4
    go_upto_region 6 with fail
    have b4 := Bk.new w4 26 #[.int .i64 d4, .int .i64 s4, .int .i64 m4]
    replace hx := hx.alloc (.cells #[.int .i64 d4, .int .i64 s4, .int .i64 m4] 26)
    generalize w4.alloc (.cells #[.int .i64 d4, .int .i64 s4, .int .i64 m4] 26) = V4 at *
    generalize w4.heap.size = p4 at *
    replace hE := hE.trans hx
    clear hx
    go_wp2_with fail
    go_ret
    exact ⟨rfl, hE⟩
end Go.Proofs.YtchbeheekahhiaaDoor
