/-
  The law CivilInverse, walked. Written by wip/gen_vx.py.
-/
import Derived.Test.YtchbeheekahhiaaDoorVV
namespace Go.Proofs.YtchbeheekahhiaaDoor
open Go.RowKit Go.Sort Go.Shelf
set_option linter.unusedSimpArgs false
set_option linter.unusedVariables false
set_option maxRecDepth 100000

theorem lengthF_yes {l : List Lp} {d : Int} (h : rightL l d = true) : lengthF l d = (lenL l d, 0) := by unfold lengthF; rw [if_pos h]
theorem lengthF_no {l : List Lp} {d : Int} (h : rightL l d = false) : lengthF l d = (0, 1) := by unfold lengthF; rw [if_neg (by rw [h]; decide)]
theorem inv_to {l : List Lp} {t d m : Int} (h : toF l t = ((d, m), 0)) : froF l d m = (t, 0) ∧ civB d m = true := by
  obtain ⟨hv, hr, i1, rfl, -⟩ := toF_ok h
  have hb := isDay_micro i1
  have hl := lenL_bd hv d
  obtain ⟨-, r1, r2⟩ := rightL_iff.1 hr
  refine ⟨?_, ?_⟩
  · unfold froF
    rw [if_pos ⟨hr, hb.1⟩, if_pos hb.2, show startL l d + (t - startL l d) = t by omega]
  · unfold civB
    rw [inW_yes r1 r2, inW_yes hb.1 (by omega)]; rfl
theorem inv_cases (l : List Lp) (cd cm : Int) : (froF l cd cm = (startL l cd + cm, 0) ∧ rightL l cd = true ∧ 0 ≤ cm ∧ cm < lenL l cd ∧ toF l (startL l cd + cm) = ((cd, cm), 0)) ∨
    (True ∧ ∃ n0 f0, froF l cd cm = (n0, f0) ∧ f0 ≠ 0 ∧ (¬ (lengthF l cd).2 = 0 ∨ cm < 0 ∨ (lengthF l cd).1 ≤ cm)) := by
  by_cases hr : rightL l cd = true
  · by_cases hm : 0 ≤ cm
    · by_cases h9 : cm < lenL l cd
      · left
        obtain ⟨hv, r1, r2⟩ := rightL_iff.1 hr
        have hs := startL_succ l cd
        have hb := startL_bd hv r1 (by omega)
        have hl := lenL_bd hv cd
        have hd : IsDay l (startL l cd + cm) cd := ⟨by omega, by omega⟩
        refine ⟨by unfold froF; rw [if_pos ⟨hr, hm⟩, if_pos h9], hr, hm, h9, ?_⟩
        rw [toF_of (dayF_at hv hd r1 r2 (by omega)), show startL l cd + cm - startL l cd = cm by omega]
      · right
        exact ⟨trivial, 0, 40, by unfold froF; rw [if_pos ⟨hr, hm⟩, if_neg h9], by decide, .inr (.inr (by rw [lengthF_yes hr]; show lenL l cd ≤ cm; omega))⟩
    · right
      exact ⟨trivial, 0, 1, by unfold froF; rw [if_neg (fun h => hm h.2)], by decide, .inr (.inl (by omega))⟩
  · right
    exact ⟨trivial, 0, 1, by unfold froF; rw [if_neg (fun h => hr h.1)], by decide, .inl (by rw [lengthF_no (by simpa using hr)]; decide)⟩

set_option maxHeartbeats 8000000 in
theorem cinverse_law (a : Option Addr) (n c : Nat) (l : List Lp) (t cd cm : Int) (w : World) (h1 : Rw w a n c l) (ht : TB w) (hl : TL w) :
    Calls Tryd.prog 4 #[.slice a n c, .int .i64 t, .agg #[.int .i64 cd, .int .i64 cm]] w (Yes w) := by
  have HT := Lib.hid ht
  have HTL := Lib.hid hl
  clear ht hl
  have hB := Bk.new w 24 #[.int .i64 cd, .int .i64 cm]
  have hE : Ext w (w.alloc (.cells #[.int .i64 cd, .int .i64 cm] 24)) := (Ext.refl w).alloc _
  go_enter Tryd.func4, Tryd.ntmps4
  go_upto_region 1 with fail
  generalize w.alloc (.cells #[.int .i64 cd, .int .i64 cm] 24) = W at *
  generalize w.heap.size = b at hB ⊢
  have c0 := hB.c 0 _ rfl
  have c1 := hB.c 1 _ rfl
  go_wp2_with fail
  refine (vhead_any W (TB.ext HT.out hE) (TL.ext HTL.out hE)).mono ?_
  rintro e w1 ⟨rfl, hx⟩
  replace hB := hB.ext hx
  replace hE := hE.trans hx
  clear hx c0 c1
  have c0 := hB.c 0 _ rfl
  have c1 := hB.c 1 _ rfl
  go_wp2_with fail
  refine (lusable_any a n c l w1 (h1.ext hE)).mono ?_
  rintro e w2 ⟨rfl, hx⟩
  replace hB := hB.ext hx
  replace hE := hE.trans hx
  clear hx c0 c1
  have c0 := hB.c 0 _ rfl
  have c1 := hB.c 1 _ rfl
  rcases hv : validL l with _ | _
  · clear hv
    go_wp2_with fail
    go_ret
    exact ⟨rfl, hE⟩
  clear hv
  go_wp2_with fail
  refine (cto_any a n c l t w2 (h1.ext hE)).mono ?_
  rintro e w3 ⟨rfl, hx⟩
  generalize hT1 : toF l t = T1 at *
  obtain ⟨⟨d1, m1⟩, E1⟩ := T1
  have HT1 := Lib.hid hT1
  clear hT1
  go_upto_region 5 with fail
  have b8 := Bk.new w3 24 #[.int .i64 d1, .int .i64 m1]
  replace hx := hx.alloc (.cells #[.int .i64 d1, .int .i64 m1] 24)
  generalize w3.alloc (.cells #[.int .i64 d1, .int .i64 m1] 24) = V at *
  generalize w3.heap.size = p8 at *
  replace hB := hB.ext hx
  replace hE := hE.trans hx
  clear hx c0 c1
  have c0 := hB.c 0 _ rfl
  have c1 := hB.c 1 _ rfl
  have g0 := b8.c 0 _ rfl
  have g1 := b8.c 1 _ rfl
  by_cases hE1 : E1 = 0
  · subst hE1
    obtain ⟨i1, i2⟩ := inv_to HT1.out
    have I1 := Lib.hid i1
    have I2 := Lib.hid i2
    clear i1 i2
    go_wp2_with fail
    refine (cfrom_any a n c l d1 m1 V (h1.ext hE)).mono ?_
    rintro e w4 ⟨rfl, hx⟩
    rw [I1.out]
    replace b8 := b8.ext hx
    clear g0 g1
    have g0 := b8.c 0 _ rfl
    have g1 := b8.c 1 _ rfl
    replace hB := hB.ext hx
    replace hE := hE.trans hx
    clear hx c0 c1
    have c0 := hB.c 0 _ rfl
    have c1 := hB.c 1 _ rfl
    go_wp2_with fail
    refine (rcivil_any d1 m1 w4).mono ?_
    rintro e w4b ⟨rfl, hx⟩
    rw [I2.out]
    clear g0 g1 b8
    replace hB := hB.ext hx
    replace hE := hE.trans hx
    clear hx c0 c1
    have c0 := hB.c 0 _ rfl
    have c1 := hB.c 1 _ rfl
    go_wp2_with fail
    refine (cfrom_any a n c l cd cm _ (h1.ext hE)).mono ?_
    rintro e w5 ⟨rfl, hx⟩
    replace hB := hB.ext hx
    replace hE := hE.trans hx
    clear hx c0 c1
    have c0 := hB.c 0 _ rfl
    have c1 := hB.c 1 _ rfl
    rcases inv_cases l cd cm with ⟨hf, hr, hm0, hm9, ht2⟩ | ⟨hf, hbad⟩
    · rw [hf]
      clear hf
      go_wp2_with fail
      refine (lLength_any a n c l cd w5 (h1.ext hE)).mono ?_
      rintro e w6 ⟨rfl, hx⟩
      rw [lengthF_yes hr]
      replace hB := hB.ext hx
      replace hE := hE.trans hx
      clear hx c0 c1
      have c0 := hB.c 0 _ rfl
      have c1 := hB.c 1 _ rfl
      go_wp2_with fail
      refine (cto_any a n c l (startL l cd + cm) w6 (h1.ext hE)).mono ?_
      rintro e w7 ⟨rfl, hx⟩
      rw [ht2]
      go_upto_region 13 with fail
      have b16 := Bk.new w7 24 #[.int .i64 cd, .int .i64 cm]
      replace hx := hx.alloc (.cells #[.int .i64 cd, .int .i64 cm] 24)
      generalize w7.alloc (.cells #[.int .i64 cd, .int .i64 cm] 24) = V7 at *
      generalize w7.heap.size = p16 at *
      replace hB := hB.ext hx
      replace hE := hE.trans hx
      clear hx c0 c1
      have c0 := hB.c 0 _ rfl
      have c1 := hB.c 1 _ rfl
      have e0 := b16.c 0 _ rfl
      have e1 := b16.c 1 _ rfl
      have q1 := fun W => eqCiv cd cm cd cm W
      generalize lenL l cd = LL at *
      go_wp2_with fail
      go_ret
      exact ⟨rfl, hE⟩
    · obtain ⟨n0, f0, hfq, hf0, hor⟩ := hbad
      rw [hfq]
      clear hf hfq
      go_wp2_with fail
      refine (lLength_any a n c l cd w5 (h1.ext hE)).mono ?_
      rintro e w6 ⟨rfl, hx⟩
      replace hB := hB.ext hx
      replace hE := hE.trans hx
      clear hx c0 c1
      have c0 := hB.c 0 _ rfl
      have c1 := hB.c 1 _ rfl
      generalize hLF : lengthF l cd = LF at *
      obtain ⟨len, g⟩ := LF
      clear hLF
      rcases hor with hg | hg | hg
      · go_wp2_with fail
        go_ret
        exact ⟨rfl, hE⟩
      · go_wp2_with fail
        all_goals (go_ret; exact ⟨rfl, hE⟩)
      · go_wp2_with fail
        all_goals (go_ret; exact ⟨rfl, hE⟩)
  · clear g0 g1 b8
    go_wp2_with fail
    refine (cfrom_any a n c l cd cm _ (h1.ext hE)).mono ?_
    rintro e w5 ⟨rfl, hx⟩
    replace hB := hB.ext hx
    replace hE := hE.trans hx
    clear hx c0 c1
    have c0 := hB.c 0 _ rfl
    have c1 := hB.c 1 _ rfl
    rcases inv_cases l cd cm with ⟨hf, hr, hm0, hm9, ht2⟩ | ⟨hf, hbad⟩
    · rw [hf]
      clear hf
      go_wp2_with fail
      refine (lLength_any a n c l cd w5 (h1.ext hE)).mono ?_
      rintro e w6 ⟨rfl, hx⟩
      rw [lengthF_yes hr]
      replace hB := hB.ext hx
      replace hE := hE.trans hx
      clear hx c0 c1
      have c0 := hB.c 0 _ rfl
      have c1 := hB.c 1 _ rfl
      go_wp2_with fail
      refine (cto_any a n c l (startL l cd + cm) w6 (h1.ext hE)).mono ?_
      rintro e w7 ⟨rfl, hx⟩
      rw [ht2]
      go_upto_region 13 with fail
      have b16 := Bk.new w7 24 #[.int .i64 cd, .int .i64 cm]
      replace hx := hx.alloc (.cells #[.int .i64 cd, .int .i64 cm] 24)
      generalize w7.alloc (.cells #[.int .i64 cd, .int .i64 cm] 24) = V7 at *
      generalize w7.heap.size = p16 at *
      replace hB := hB.ext hx
      replace hE := hE.trans hx
      clear hx c0 c1
      have c0 := hB.c 0 _ rfl
      have c1 := hB.c 1 _ rfl
      have e0 := b16.c 0 _ rfl
      have e1 := b16.c 1 _ rfl
      have q1 := fun W => eqCiv cd cm cd cm W
      generalize lenL l cd = LL at *
      go_wp2_with fail
      go_ret
      exact ⟨rfl, hE⟩
    · obtain ⟨n0, f0, hfq, hf0, hor⟩ := hbad
      rw [hfq]
      clear hf hfq
      go_wp2_with fail
      refine (lLength_any a n c l cd w5 (h1.ext hE)).mono ?_
      rintro e w6 ⟨rfl, hx⟩
      replace hB := hB.ext hx
      replace hE := hE.trans hx
      clear hx c0 c1
      have c0 := hB.c 0 _ rfl
      have c1 := hB.c 1 _ rfl
      generalize hLF : lengthF l cd = LF at *
      obtain ⟨len, g⟩ := LF
      clear hLF
      rcases hor with hg | hg | hg
      · go_wp2_with fail
        go_ret
        exact ⟨rfl, hE⟩
      · go_wp2_with fail
        all_goals (go_ret; exact ⟨rfl, hE⟩)
      · go_wp2_with fail
        all_goals (go_ret; exact ⟨rfl, hE⟩)
end Go.Proofs.YtchbeheekahhiaaDoor
