/-
  The law CivilText, walked. Written by wip/gen_va1.py.
-/
import Derived.Test.YtchbeheekahhiaaDoorVZ
import Derived.Test.YtchbeheekahhiaaDoorVV
namespace Go.Proofs.YtchbeheekahhiaaDoor
open Go.RowKit Go.Sort Go.Shelf
set_option linter.unusedSimpArgs false
set_option linter.unusedVariables false
set_option maxRecDepth 100000

set_option maxHeartbeats 8000000 in
theorem ctextlaw_any (d1 m1 d2 m2 : Int) (l : List UInt8) (hl9 : l.length ≤ maxLen) (w : World) (ht : TB w) (hl : TL w) :
    Calls Tryd.prog 7 #[.agg #[.int .i64 d1, .int .i64 m1], .agg #[.int .i64 d2, .int .i64 m2], .string (mkS l)] w (Yes w) := by
  have HT := Lib.hid ht
  have HTL := Lib.hid hl
  clear ht hl
  have hA := Bk.new w 24 #[.int .i64 d1, .int .i64 m1]
  have hB := Bk.new (w.alloc (.cells #[.int .i64 d1, .int .i64 m1] 24)) 24 #[.int .i64 d2, .int .i64 m2]
  rw [World.size_alloc] at hB
  replace hA := hA.ext ((Ext.refl _).alloc (.cells #[.int .i64 d2, .int .i64 m2] 24))
  have hE : Ext w ((w.alloc (.cells #[.int .i64 d1, .int .i64 m1] 24)).alloc (.cells #[.int .i64 d2, .int .i64 m2] 24)) := ((Ext.refl w).alloc _).alloc _
  have hLz := mkS_size l
  unfold maxLen at hl9
  go_enter Tryd.func7, Tryd.ntmps7
  go_upto_region 1 with fail
  generalize (w.alloc (.cells #[.int .i64 d1, .int .i64 m1] 24)).alloc (.cells #[.int .i64 d2, .int .i64 m2] 24) = W at *
  generalize w.heap.size = b at *
  have c0 := hA.c 0 _ rfl
  have c1 := hA.c 1 _ rfl
  have e0 := hB.c 0 _ rfl
  have e1 := hB.c 1 _ rfl
  go_wp2_with fail
  refine (vhead_any W (TB.ext HT.out hE) (TL.ext HTL.out hE)).mono ?_
  rintro e w1 ⟨rfl, hx⟩
  replace hA := hA.ext hx
  replace hB := hB.ext hx
  replace hE := hE.trans hx
  clear hx
  clear c0 c1 e0 e1
  have c0 := hA.c 0 _ rfl
  have c1 := hA.c 1 _ rfl
  have e0 := hB.c 0 _ rfl
  have e1 := hB.c 1 _ rfl
  by_cases hlen : l.length ≤ 100
  · go_wp2_with fail
    refine (ctext_any d1 m1 w1 (TB.ext HT.out hE) (TL.ext HTL.out hE)).mono ?_
    rintro e w2 ⟨rfl, hx⟩
    replace hA := hA.ext hx
    replace hB := hB.ext hx
    replace hE := hE.trans hx
    clear hx
    clear c0 c1 e0 e1
    have c0 := hA.c 0 _ rfl
    have c1 := hA.c 1 _ rfl
    have e0 := hB.c 0 _ rfl
    have e1 := hB.c 1 _ rfl
    go_wp2_with fail
    refine (ctext_any d2 m2 w2 (TB.ext HT.out hE) (TL.ext HTL.out hE)).mono ?_
    rintro e w3 ⟨rfl, hx⟩
    replace hA := hA.ext hx
    replace hB := hB.ext hx
    replace hE := hE.trans hx
    clear hx
    clear c0 c1 e0 e1
    have c0 := hA.c 0 _ rfl
    have c1 := hA.c 1 _ rfl
    have e0 := hB.c 0 _ rfl
    have e1 := hB.c 1 _ rfl
    have HLT : Hid ((txtF d1 m1).2 = 0 → (txtF d2 m2).2 = 0 → Op.bytesLess (txtF d1 m1).1.toList (txtF d2 m2).1.toList = decide (d1 < d2 ∨ (d1 = d2 ∧ m1 < m2))) := Lib.hid (fun h1 h2 => txt_less h1 h2)
    have HRD : Hid ((txtF d1 m1).2 = 0 → ∃ l : List UInt8, (txtF d1 m1).1 = mkS l ∧ l.length = 26 ∧ prsF l = ((d1, m1), 0)) := Lib.hid (fun h1 => txt_read h1)
    generalize txtF d1 m1 = TE1 at *
    generalize txtF d2 m2 = TE2 at *
    obtain ⟨T1, E1⟩ := TE1
    obtain ⟨T2, E2⟩ := TE2
    by_cases h1 : E1 = 0
    · subst h1
      obtain ⟨l1, hT1, h26, hpr⟩ := HRD.out rfl
      replace HLT := Lib.hid (HLT.out rfl)
      have HPR := Lib.hid hpr
      have hL1 := mkS_size l1
      simp only at hT1
      have H26 := Lib.hid h26
      rw [h26] at hL1
      clear HRD hpr h26
      subst hT1
      go_wp2_with fail
      refine (cparse_any l1 (by rw [H26.out]; decide) w3 (TL.ext HTL.out hE)).mono ?_
      rintro e wp0 ⟨rfl, hx⟩
      rw [HPR.out]
      have b12 := Bk.new wp0 24 #[.int .i64 d1, .int .i64 m1]
      replace hx := hx.alloc (.cells #[.int .i64 d1, .int .i64 m1] 24)
      go_upto_region 8 with fail
      generalize wp0.alloc (.cells #[.int .i64 d1, .int .i64 m1] 24) = w4 at *
      generalize wp0.heap.size = p12 at *
      replace hA := hA.ext hx
      replace hB := hB.ext hx
      replace hE := hE.trans hx
      clear hx
      clear c0 c1 e0 e1
      have c0 := hA.c 0 _ rfl
      have c1 := hA.c 1 _ rfl
      have e0 := hB.c 0 _ rfl
      have e1 := hB.c 1 _ rfl
      have i0 := b12.c 0 _ rfl
      have i1 := b12.c 1 _ rfl
      have q0 := fun W => eqCiv d1 m1 d1 m1 W
      go_upto_region 9 with fail
      clear i0 i1 b12 q0
      generalize mkS l1 = T1 at *
      clear HPR hL1 H26
      by_cases h2 : E2 = 0
      · subst h2
        have TL12 := Lib.hid (HLT.out rfl)
        by_cases hd : d1 < d2
        · have HL : Op.bytesLess T1.toList T2.toList = true := by
            rw [TL12.out]
            exact decide_eq_true (by omega)
          go_wp2_with fail
          refine (cparse_any l (by omega) w4 (TL.ext HTL.out hE)).mono ?_
          rintro e wp ⟨rfl, hx⟩
          replace hA := hA.ext hx
          replace hB := hB.ext hx
          replace hE := hE.trans hx
          clear hx
          clear c0 c1 e0 e1
          have c0 := hA.c 0 _ rfl
          have c1 := hA.c 1 _ rfl
          have e0 := hB.c 0 _ rfl
          have e1 := hB.c 1 _ rfl
          rcases hp : prsF l with ⟨⟨d3, m3⟩, z3⟩
          have HP := Lib.hid hp
          clear hp
          have b14 := Bk.new wp 24 #[.int .i64 d3, .int .i64 m3]
          have hx := (Ext.refl wp).alloc (.cells #[.int .i64 d3, .int .i64 m3] 24)
          go_upto_region 12 with fail
          generalize wp.alloc (.cells #[.int .i64 d3, .int .i64 m3] 24) = V9 at *
          generalize wp.heap.size = p14 at *
          replace hA := hA.ext hx
          replace hB := hB.ext hx
          replace hE := hE.trans hx
          clear hx
          clear c0 c1 e0 e1
          have c0 := hA.c 0 _ rfl
          have c1 := hA.c 1 _ rfl
          have e0 := hB.c 0 _ rfl
          have e1 := hB.c 1 _ rfl
          have g0 := b14.c 0 _ rfl
          have g1 := b14.c 1 _ rfl
          by_cases hz : z3 = 0
          · subst hz
            obtain ⟨ht3, hd3, hm3⟩ := read_txt HP.out
            have HT3 := Lib.hid ht3
            have HC : Hid (civB d3 m3 = true) := Lib.hid (by unfold civB; rw [inW_yes hd3.1 hd3.2, inW_yes hm3.1 hm3.2]; rfl)
            clear ht3 hd3 hm3
            go_wp2_with fail
            refine (ctext_any d3 m3 V9 (TB.ext HT.out hE) (TL.ext HTL.out hE)).mono ?_
            rintro e wq ⟨rfl, hx⟩
            rw [HT3.out]
            replace b14 := b14.ext hx
            clear g0 g1
            have g0 := b14.c 0 _ rfl
            have g1 := b14.c 1 _ rfl
            replace hA := hA.ext hx
            replace hB := hB.ext hx
            replace hE := hE.trans hx
            clear hx
            clear c0 c1 e0 e1
            have c0 := hA.c 0 _ rfl
            have c1 := hA.c 1 _ rfl
            have e0 := hB.c 0 _ rfl
            have e1 := hB.c 1 _ rfl
            go_wp2_with fail
            refine (rcivil_any d3 m3 wq).mono ?_
            rintro e wr ⟨rfl, hx⟩
            rw [HC.out]
            replace hE := hE.trans hx
            go_wp2_with fail
            go_ret
            exact ⟨rfl, hE⟩
          · have hp7 : d3 = 0 ∧ m3 = 0 ∧ z3 = 7 := by
              have h := prsF_two l
              rw [HP.out] at h
              rcases h with h | h
              · exact absurd h hz
              · simp only [Prod.mk.injEq] at h
                exact ⟨h.1.1, h.1.2, h.2⟩
            obtain ⟨rfl, rfl, rfl⟩ := hp7
            have q1 := fun W => eqCiv 0 0 0 0 W
            go_wp2_with fail
            go_ret
            exact ⟨rfl, hE⟩
        · by_cases hde : d1 = d2
          · by_cases hm : m1 < m2
            · have HL : Op.bytesLess T1.toList T2.toList = true := by
                rw [TL12.out]
                exact decide_eq_true (by omega)
              go_wp2_with fail
              refine (cparse_any l (by omega) w4 (TL.ext HTL.out hE)).mono ?_
              rintro e wp ⟨rfl, hx⟩
              replace hA := hA.ext hx
              replace hB := hB.ext hx
              replace hE := hE.trans hx
              clear hx
              clear c0 c1 e0 e1
              have c0 := hA.c 0 _ rfl
              have c1 := hA.c 1 _ rfl
              have e0 := hB.c 0 _ rfl
              have e1 := hB.c 1 _ rfl
              rcases hp : prsF l with ⟨⟨d3, m3⟩, z3⟩
              have HP := Lib.hid hp
              clear hp
              have b14 := Bk.new wp 24 #[.int .i64 d3, .int .i64 m3]
              have hx := (Ext.refl wp).alloc (.cells #[.int .i64 d3, .int .i64 m3] 24)
              go_upto_region 12 with fail
              generalize wp.alloc (.cells #[.int .i64 d3, .int .i64 m3] 24) = V9 at *
              generalize wp.heap.size = p14 at *
              replace hA := hA.ext hx
              replace hB := hB.ext hx
              replace hE := hE.trans hx
              clear hx
              clear c0 c1 e0 e1
              have c0 := hA.c 0 _ rfl
              have c1 := hA.c 1 _ rfl
              have e0 := hB.c 0 _ rfl
              have e1 := hB.c 1 _ rfl
              have g0 := b14.c 0 _ rfl
              have g1 := b14.c 1 _ rfl
              by_cases hz : z3 = 0
              · subst hz
                obtain ⟨ht3, hd3, hm3⟩ := read_txt HP.out
                have HT3 := Lib.hid ht3
                have HC : Hid (civB d3 m3 = true) := Lib.hid (by unfold civB; rw [inW_yes hd3.1 hd3.2, inW_yes hm3.1 hm3.2]; rfl)
                clear ht3 hd3 hm3
                go_wp2_with fail
                refine (ctext_any d3 m3 V9 (TB.ext HT.out hE) (TL.ext HTL.out hE)).mono ?_
                rintro e wq ⟨rfl, hx⟩
                rw [HT3.out]
                replace b14 := b14.ext hx
                clear g0 g1
                have g0 := b14.c 0 _ rfl
                have g1 := b14.c 1 _ rfl
                replace hA := hA.ext hx
                replace hB := hB.ext hx
                replace hE := hE.trans hx
                clear hx
                clear c0 c1 e0 e1
                have c0 := hA.c 0 _ rfl
                have c1 := hA.c 1 _ rfl
                have e0 := hB.c 0 _ rfl
                have e1 := hB.c 1 _ rfl
                go_wp2_with fail
                refine (rcivil_any d3 m3 wq).mono ?_
                rintro e wr ⟨rfl, hx⟩
                rw [HC.out]
                replace hE := hE.trans hx
                go_wp2_with fail
                go_ret
                exact ⟨rfl, hE⟩
              · have hp7 : d3 = 0 ∧ m3 = 0 ∧ z3 = 7 := by
                  have h := prsF_two l
                  rw [HP.out] at h
                  rcases h with h | h
                  · exact absurd h hz
                  · simp only [Prod.mk.injEq] at h
                    exact ⟨h.1.1, h.1.2, h.2⟩
                obtain ⟨rfl, rfl, rfl⟩ := hp7
                have q1 := fun W => eqCiv 0 0 0 0 W
                go_wp2_with fail
                go_ret
                exact ⟨rfl, hE⟩
            · have HL : Op.bytesLess T1.toList T2.toList = false := by
                rw [TL12.out]
                exact decide_eq_false (by omega)
              go_wp2_with fail
              refine (cparse_any l (by omega) w4 (TL.ext HTL.out hE)).mono ?_
              rintro e wp ⟨rfl, hx⟩
              replace hA := hA.ext hx
              replace hB := hB.ext hx
              replace hE := hE.trans hx
              clear hx
              clear c0 c1 e0 e1
              have c0 := hA.c 0 _ rfl
              have c1 := hA.c 1 _ rfl
              have e0 := hB.c 0 _ rfl
              have e1 := hB.c 1 _ rfl
              rcases hp : prsF l with ⟨⟨d3, m3⟩, z3⟩
              have HP := Lib.hid hp
              clear hp
              have b14 := Bk.new wp 24 #[.int .i64 d3, .int .i64 m3]
              have hx := (Ext.refl wp).alloc (.cells #[.int .i64 d3, .int .i64 m3] 24)
              go_upto_region 12 with fail
              generalize wp.alloc (.cells #[.int .i64 d3, .int .i64 m3] 24) = V9 at *
              generalize wp.heap.size = p14 at *
              replace hA := hA.ext hx
              replace hB := hB.ext hx
              replace hE := hE.trans hx
              clear hx
              clear c0 c1 e0 e1
              have c0 := hA.c 0 _ rfl
              have c1 := hA.c 1 _ rfl
              have e0 := hB.c 0 _ rfl
              have e1 := hB.c 1 _ rfl
              have g0 := b14.c 0 _ rfl
              have g1 := b14.c 1 _ rfl
              by_cases hz : z3 = 0
              · subst hz
                obtain ⟨ht3, hd3, hm3⟩ := read_txt HP.out
                have HT3 := Lib.hid ht3
                have HC : Hid (civB d3 m3 = true) := Lib.hid (by unfold civB; rw [inW_yes hd3.1 hd3.2, inW_yes hm3.1 hm3.2]; rfl)
                clear ht3 hd3 hm3
                go_wp2_with fail
                refine (ctext_any d3 m3 V9 (TB.ext HT.out hE) (TL.ext HTL.out hE)).mono ?_
                rintro e wq ⟨rfl, hx⟩
                rw [HT3.out]
                replace b14 := b14.ext hx
                clear g0 g1
                have g0 := b14.c 0 _ rfl
                have g1 := b14.c 1 _ rfl
                replace hA := hA.ext hx
                replace hB := hB.ext hx
                replace hE := hE.trans hx
                clear hx
                clear c0 c1 e0 e1
                have c0 := hA.c 0 _ rfl
                have c1 := hA.c 1 _ rfl
                have e0 := hB.c 0 _ rfl
                have e1 := hB.c 1 _ rfl
                go_wp2_with fail
                refine (rcivil_any d3 m3 wq).mono ?_
                rintro e wr ⟨rfl, hx⟩
                rw [HC.out]
                replace hE := hE.trans hx
                go_wp2_with fail
                go_ret
                exact ⟨rfl, hE⟩
              · have hp7 : d3 = 0 ∧ m3 = 0 ∧ z3 = 7 := by
                  have h := prsF_two l
                  rw [HP.out] at h
                  rcases h with h | h
                  · exact absurd h hz
                  · simp only [Prod.mk.injEq] at h
                    exact ⟨h.1.1, h.1.2, h.2⟩
                obtain ⟨rfl, rfl, rfl⟩ := hp7
                have q1 := fun W => eqCiv 0 0 0 0 W
                go_wp2_with fail
                go_ret
                exact ⟨rfl, hE⟩
          · have HL : Op.bytesLess T1.toList T2.toList = false := by
              rw [TL12.out]
              exact decide_eq_false (by omega)
            go_wp2_with fail
            refine (cparse_any l (by omega) w4 (TL.ext HTL.out hE)).mono ?_
            rintro e wp ⟨rfl, hx⟩
            replace hA := hA.ext hx
            replace hB := hB.ext hx
            replace hE := hE.trans hx
            clear hx
            clear c0 c1 e0 e1
            have c0 := hA.c 0 _ rfl
            have c1 := hA.c 1 _ rfl
            have e0 := hB.c 0 _ rfl
            have e1 := hB.c 1 _ rfl
            rcases hp : prsF l with ⟨⟨d3, m3⟩, z3⟩
            have HP := Lib.hid hp
            clear hp
            have b14 := Bk.new wp 24 #[.int .i64 d3, .int .i64 m3]
            have hx := (Ext.refl wp).alloc (.cells #[.int .i64 d3, .int .i64 m3] 24)
            go_upto_region 12 with fail
            generalize wp.alloc (.cells #[.int .i64 d3, .int .i64 m3] 24) = V9 at *
            generalize wp.heap.size = p14 at *
            replace hA := hA.ext hx
            replace hB := hB.ext hx
            replace hE := hE.trans hx
            clear hx
            clear c0 c1 e0 e1
            have c0 := hA.c 0 _ rfl
            have c1 := hA.c 1 _ rfl
            have e0 := hB.c 0 _ rfl
            have e1 := hB.c 1 _ rfl
            have g0 := b14.c 0 _ rfl
            have g1 := b14.c 1 _ rfl
            by_cases hz : z3 = 0
            · subst hz
              obtain ⟨ht3, hd3, hm3⟩ := read_txt HP.out
              have HT3 := Lib.hid ht3
              have HC : Hid (civB d3 m3 = true) := Lib.hid (by unfold civB; rw [inW_yes hd3.1 hd3.2, inW_yes hm3.1 hm3.2]; rfl)
              clear ht3 hd3 hm3
              go_wp2_with fail
              refine (ctext_any d3 m3 V9 (TB.ext HT.out hE) (TL.ext HTL.out hE)).mono ?_
              rintro e wq ⟨rfl, hx⟩
              rw [HT3.out]
              replace b14 := b14.ext hx
              clear g0 g1
              have g0 := b14.c 0 _ rfl
              have g1 := b14.c 1 _ rfl
              replace hA := hA.ext hx
              replace hB := hB.ext hx
              replace hE := hE.trans hx
              clear hx
              clear c0 c1 e0 e1
              have c0 := hA.c 0 _ rfl
              have c1 := hA.c 1 _ rfl
              have e0 := hB.c 0 _ rfl
              have e1 := hB.c 1 _ rfl
              go_wp2_with fail
              refine (rcivil_any d3 m3 wq).mono ?_
              rintro e wr ⟨rfl, hx⟩
              rw [HC.out]
              replace hE := hE.trans hx
              go_wp2_with fail
              go_ret
              exact ⟨rfl, hE⟩
            · have hp7 : d3 = 0 ∧ m3 = 0 ∧ z3 = 7 := by
                have h := prsF_two l
                rw [HP.out] at h
                rcases h with h | h
                · exact absurd h hz
                · simp only [Prod.mk.injEq] at h
                  exact ⟨h.1.1, h.1.2, h.2⟩
              obtain ⟨rfl, rfl, rfl⟩ := hp7
              have q1 := fun W => eqCiv 0 0 0 0 W
              go_wp2_with fail
              go_ret
              exact ⟨rfl, hE⟩
      · go_wp2_with fail
        refine (cparse_any l (by omega) w4 (TL.ext HTL.out hE)).mono ?_
        rintro e wp ⟨rfl, hx⟩
        replace hA := hA.ext hx
        replace hB := hB.ext hx
        replace hE := hE.trans hx
        clear hx
        clear c0 c1 e0 e1
        have c0 := hA.c 0 _ rfl
        have c1 := hA.c 1 _ rfl
        have e0 := hB.c 0 _ rfl
        have e1 := hB.c 1 _ rfl
        rcases hp : prsF l with ⟨⟨d3, m3⟩, z3⟩
        have HP := Lib.hid hp
        clear hp
        have b14 := Bk.new wp 24 #[.int .i64 d3, .int .i64 m3]
        have hx := (Ext.refl wp).alloc (.cells #[.int .i64 d3, .int .i64 m3] 24)
        go_upto_region 12 with fail
        generalize wp.alloc (.cells #[.int .i64 d3, .int .i64 m3] 24) = V9 at *
        generalize wp.heap.size = p14 at *
        replace hA := hA.ext hx
        replace hB := hB.ext hx
        replace hE := hE.trans hx
        clear hx
        clear c0 c1 e0 e1
        have c0 := hA.c 0 _ rfl
        have c1 := hA.c 1 _ rfl
        have e0 := hB.c 0 _ rfl
        have e1 := hB.c 1 _ rfl
        have g0 := b14.c 0 _ rfl
        have g1 := b14.c 1 _ rfl
        by_cases hz : z3 = 0
        · subst hz
          obtain ⟨ht3, hd3, hm3⟩ := read_txt HP.out
          have HT3 := Lib.hid ht3
          have HC : Hid (civB d3 m3 = true) := Lib.hid (by unfold civB; rw [inW_yes hd3.1 hd3.2, inW_yes hm3.1 hm3.2]; rfl)
          clear ht3 hd3 hm3
          go_wp2_with fail
          refine (ctext_any d3 m3 V9 (TB.ext HT.out hE) (TL.ext HTL.out hE)).mono ?_
          rintro e wq ⟨rfl, hx⟩
          rw [HT3.out]
          replace b14 := b14.ext hx
          clear g0 g1
          have g0 := b14.c 0 _ rfl
          have g1 := b14.c 1 _ rfl
          replace hA := hA.ext hx
          replace hB := hB.ext hx
          replace hE := hE.trans hx
          clear hx
          clear c0 c1 e0 e1
          have c0 := hA.c 0 _ rfl
          have c1 := hA.c 1 _ rfl
          have e0 := hB.c 0 _ rfl
          have e1 := hB.c 1 _ rfl
          go_wp2_with fail
          refine (rcivil_any d3 m3 wq).mono ?_
          rintro e wr ⟨rfl, hx⟩
          rw [HC.out]
          replace hE := hE.trans hx
          go_wp2_with fail
          go_ret
          exact ⟨rfl, hE⟩
        · have hp7 : d3 = 0 ∧ m3 = 0 ∧ z3 = 7 := by
            have h := prsF_two l
            rw [HP.out] at h
            rcases h with h | h
            · exact absurd h hz
            · simp only [Prod.mk.injEq] at h
              exact ⟨h.1.1, h.1.2, h.2⟩
          obtain ⟨rfl, rfl, rfl⟩ := hp7
          have q1 := fun W => eqCiv 0 0 0 0 W
          go_wp2_with fail
          go_ret
          exact ⟨rfl, hE⟩
    · clear HLT HRD
      go_wp2_with fail
      refine (cparse_any l (by omega) w3 (TL.ext HTL.out hE)).mono ?_
      rintro e wp ⟨rfl, hx⟩
      replace hA := hA.ext hx
      replace hB := hB.ext hx
      replace hE := hE.trans hx
      clear hx
      clear c0 c1 e0 e1
      have c0 := hA.c 0 _ rfl
      have c1 := hA.c 1 _ rfl
      have e0 := hB.c 0 _ rfl
      have e1 := hB.c 1 _ rfl
      rcases hp : prsF l with ⟨⟨d3, m3⟩, z3⟩
      have HP := Lib.hid hp
      clear hp
      have b14 := Bk.new wp 24 #[.int .i64 d3, .int .i64 m3]
      have hx := (Ext.refl wp).alloc (.cells #[.int .i64 d3, .int .i64 m3] 24)
      go_upto_region 12 with fail
      generalize wp.alloc (.cells #[.int .i64 d3, .int .i64 m3] 24) = V9 at *
      generalize wp.heap.size = p14 at *
      replace hA := hA.ext hx
      replace hB := hB.ext hx
      replace hE := hE.trans hx
      clear hx
      clear c0 c1 e0 e1
      have c0 := hA.c 0 _ rfl
      have c1 := hA.c 1 _ rfl
      have e0 := hB.c 0 _ rfl
      have e1 := hB.c 1 _ rfl
      have g0 := b14.c 0 _ rfl
      have g1 := b14.c 1 _ rfl
      by_cases hz : z3 = 0
      · subst hz
        obtain ⟨ht3, hd3, hm3⟩ := read_txt HP.out
        have HT3 := Lib.hid ht3
        have HC : Hid (civB d3 m3 = true) := Lib.hid (by unfold civB; rw [inW_yes hd3.1 hd3.2, inW_yes hm3.1 hm3.2]; rfl)
        clear ht3 hd3 hm3
        go_wp2_with fail
        refine (ctext_any d3 m3 V9 (TB.ext HT.out hE) (TL.ext HTL.out hE)).mono ?_
        rintro e wq ⟨rfl, hx⟩
        rw [HT3.out]
        replace b14 := b14.ext hx
        clear g0 g1
        have g0 := b14.c 0 _ rfl
        have g1 := b14.c 1 _ rfl
        replace hA := hA.ext hx
        replace hB := hB.ext hx
        replace hE := hE.trans hx
        clear hx
        clear c0 c1 e0 e1
        have c0 := hA.c 0 _ rfl
        have c1 := hA.c 1 _ rfl
        have e0 := hB.c 0 _ rfl
        have e1 := hB.c 1 _ rfl
        go_wp2_with fail
        refine (rcivil_any d3 m3 wq).mono ?_
        rintro e wr ⟨rfl, hx⟩
        rw [HC.out]
        replace hE := hE.trans hx
        go_wp2_with fail
        go_ret
        exact ⟨rfl, hE⟩
      · have hp7 : d3 = 0 ∧ m3 = 0 ∧ z3 = 7 := by
          have h := prsF_two l
          rw [HP.out] at h
          rcases h with h | h
          · exact absurd h hz
          · simp only [Prod.mk.injEq] at h
            exact ⟨h.1.1, h.1.2, h.2⟩
        obtain ⟨rfl, rfl, rfl⟩ := hp7
        have q1 := fun W => eqCiv 0 0 0 0 W
        go_wp2_with fail
        go_ret
        exact ⟨rfl, hE⟩
  · go_wp2_with fail
    go_ret
    exact ⟨rfl, hE⟩
end Go.Proofs.YtchbeheekahhiaaDoor
