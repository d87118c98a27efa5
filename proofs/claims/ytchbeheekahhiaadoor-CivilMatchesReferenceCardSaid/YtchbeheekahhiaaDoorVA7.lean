/-
  The reference's Parse, walked. Written by wip/gen_va7.py.
-/
import Derived.Test.YtchbeheekahhiaaDoorVA6
namespace Go.Proofs.YtchbeheekahhiaaDoor
open Go.RowKit Go.Sort Go.Shelf
set_option linter.unusedSimpArgs false
set_option linter.unusedVariables false
set_option maxRecDepth 100000

theorem numF_bd (l : List UInt8) (h : l.length ≤ 6) : -1 ≤ numF l ∧ numF l ≤ 999999 := by
  unfold numF
  by_cases ha : allB l 0 l.length = true
  · rw [if_pos ha]
    have := numB_bd ha
    have h6 : (10 : Int) ^ l.length ≤ 1000000 := by
      have : l.length = 0 ∨ l.length = 1 ∨ l.length = 2 ∨ l.length = 3 ∨ l.length = 4 ∨ l.length = 5 ∨ l.length = 6 := by omega
      rcases this with e | e | e | e | e | e | e <;> rw [e] <;> decide
    omega
  · rw [if_neg ha]; omega
/-- Part k's number, by the reference. -/
def segN (l : List UInt8) (k : Nat) : Int := numF ((l.drop (off k)).take (wid k))
theorem allB_seg (l : List UInt8) (o w : Nat) : ∀ j, j ≤ w → allB ((l.drop o).take w) 0 j = allB l o j ∧ numB ((l.drop o).take w) 0 j = numB l o j
  | 0, _ => ⟨rfl, rfl⟩
  | j + 1, h => by
    obtain ⟨h1, h2⟩ := allB_seg l o w j (by omega)
    have e : nthB ((l.drop o).take w) (0 + j) = nthB l (o + j) := by rw [Nat.zero_add, nthB_take _ _ _ (by omega), nthB_drop]
    simp only [allB, numB]
    rw [h1, h2, e]
    exact ⟨rfl, rfl⟩
theorem segN_eq {l : List UInt8} (h : l.length = 26) (k : Nat) (hk : k < 7) : segN l k = if allB l (off k) (wid k) = true then valB l k else -1 := by
  have hw : off k + wid k ≤ 26 := by
    have : k = 0 ∨ k = 1 ∨ k = 2 ∨ k = 3 ∨ k = 4 ∨ k = 5 ∨ k = 6 := by omega
    rcases this with rfl | rfl | rfl | rfl | rfl | rfl | rfl <;> decide
  unfold segN numF valB
  have hl : ((l.drop (off k)).take (wid k)).length = wid k := by rw [List.length_take, List.length_drop]; omega
  rw [hl]
  obtain ⟨h1, h2⟩ := allB_seg l (off k) (wid k) (wid k) (Nat.le_refl _)
  rw [h1, h2]
theorem fmt_sep {l : List UInt8} (h : fmtB l = true) (k : Nat) (hk : k < 6) : nthB l (off k + wid k) = sgn k := by
  have hu : okUp l 7 = true := by unfold fmtB at h; simp only [Bool.and_eq_true] at h; exact h.1
  have := okUp_at hu k (by omega)
  unfold okG at this
  simp only [Bool.and_eq_true, Bool.or_eq_true, decide_eq_true_eq] at this
  rcases this.2.2 with h1 | h1
  · omega
  · exact h1.2
theorem prsF_fmt {l : List UInt8} (h : fmtB l = false) : prsF l = ((0, 0), 7) := by
  unfold prsF
  rw [if_neg]
  rintro ⟨h1, -⟩
  rw [h] at h1
  cases h1
theorem fmtB_of {l : List UInt8} (h : l.length = 26) (hs : ∀ k, k < 6 → nthB l (off k + wid k) = sgn k) (ha : ∀ k, k < 7 → allB l (off k) (wid k) = true) : fmtB l = true := by
  have g : ∀ k, k < 7 → okG l k = true := by
    intro k hk
    have hk7 : k = 0 ∨ k = 1 ∨ k = 2 ∨ k = 3 ∨ k = 4 ∨ k = 5 ∨ k = 6 := by omega
    unfold okG
    rw [h, ha k hk]
    rcases hk7 with rfl | rfl | rfl | rfl | rfl | rfl | rfl
    · rw [hs 0 (by omega)]; decide
    · rw [hs 1 (by omega)]; decide
    · rw [hs 2 (by omega)]; decide
    · rw [hs 3 (by omega)]; decide
    · rw [hs 4 (by omega)]; decide
    · rw [hs 5 (by omega)]; decide
    · rfl
  unfold fmtB
  simp only [okUp, g 0 (by omega), g 1 (by omega), g 2 (by omega), g 3 (by omega), g 4 (by omega), g 5 (by omega), g 6 (by omega), h, Bool.and_self, decide_true]

/-- What is wrong, by the reference. -/
def RBad (e h mi s us : Int) : Prop := e ≠ 0 ∨ h < 0 ∨ 23 < h ∨ mi < 0 ∨ 59 < mi ∨ s < 0 ∨ 60 < s ∨ us < 0 ∨ (s = 60 ∧ (h ≠ 23 ∨ mi ≠ 59))
instance (e h mi s us : Int) : Decidable (RBad e h mi s us) := by unfold RBad; infer_instance
theorem dyF_bad {y m d : Int} (h : y = -1 ∨ m = -1 ∨ d = -1) : (dyF y m d).2 ≠ 0 := by
  have : okD y m d = false := by
    unfold okD
    rw [Bool.eq_false_iff]
    intro hh
    rw [Bool.and_eq_true, isMon_iff, decide_eq_true_iff] at hh
    omega
  unfold dyF
  rw [this, if_neg (by decide)]
  decide
theorem prsF_ref {l : List UInt8} (h : l.length = 26) (hs : ∀ k, k < 6 → nthB l (off k + wid k) = sgn k) :
    prsF l = if RBad (dyF (segN l 0) (segN l 1) (segN l 2)).2 (segN l 3) (segN l 4) (segN l 5) (segN l 6) then ((0, 0), 7) else (((dyF (segN l 0) (segN l 1) (segN l 2)).1, (segN l 3 * 3600 + segN l 4 * 60 + segN l 5) * 1000000 + segN l 6), 0) := by
  by_cases ha : ∀ k, k < 7 → allB l (off k) (wid k) = true
  · have hf := fmtB_of h hs ha
    have e : ∀ k, k < 7 → segN l k = valB l k := fun k hk => by rw [segN_eq h k hk, if_pos (ha k hk)]
    rw [e 0 (by omega), e 1 (by omega), e 2 (by omega), e 3 (by omega), e 4 (by omega), e 5 (by omega), e 6 (by omega)]
    have b3 := valB_bd hf 3 (by omega)
    have b4 := valB_bd hf 4 (by omega)
    have b5 := valB_bd hf 5 (by omega)
    have b6 := valB_bd hf 6 (by omega)
    unfold prsF
    by_cases hb : BadT (dyF (valB l 0) (valB l 1) (valB l 2)).2 (valB l 3) (valB l 4) (valB l 5)
    · rw [if_neg (fun h => h.2 hb), if_pos (by unfold BadT at hb; unfold RBad; omega)]
    · rw [if_pos ⟨hf, hb⟩, if_neg (by unfold BadT at hb; unfold RBad; omega)]
  · have hf : fmtB l = false := by
      rw [Bool.eq_false_iff]
      intro hf
      exact ha (fmtB_all hf).2
    rw [prsF_fmt hf, if_pos]
    have hex : ∃ k, k < 7 ∧ segN l k = -1 := by
      apply Classical.byContradiction
      intro hn
      apply ha
      intro k hk
      cases hq : allB l (off k) (wid k) with
      | true => rfl
      | false => exact absurd ⟨k, hk, by rw [segN_eq h k hk, if_neg (by rw [hq]; decide)]⟩ hn
    obtain ⟨k, hk, he⟩ := hex
    have hk7 : k = 0 ∨ k = 1 ∨ k = 2 ∨ k = 3 ∨ k = 4 ∨ k = 5 ∨ k = 6 := by omega
    rcases hk7 with rfl | rfl | rfl | rfl | rfl | rfl | rfl
    · exact .inl (dyF_bad (.inl he))
    · exact .inl (dyF_bad (.inr (.inl he)))
    · exact .inl (dyF_bad (.inr (.inr he)))
    · unfold RBad; omega
    · unfold RBad; omega
    · unfold RBad; omega
    · unfold RBad; omega

theorem res_r18parse (W : World) (b : Nat) (d m z : Int) (tmps : Array Value) (h4 : tmps[2]?.getD undef = .pointer (some ⟨b, 0, none⟩)) (h5 : tmps[3]?.getD undef = .int .i64 z) (h : Bk W b 24 #[.int .i64 d, .int .i64 m]) :
    (results Tryd.f23 tmps).run Tryd.prog W = .ok (.tuple #[.agg #[.int .i64 d, .int .i64 m], .int .i64 z]) W := by
  have c0 := h.c 0 _ rfl
  have c1 := h.c 1 _ rfl
  simp [results, Tryd.results23, go_sem, h4, h5, c0, c1]

set_option maxHeartbeats 60000000 in
theorem r18parse_any (l : List UInt8) (hl : l.length ≤ 1000000000000) (w : World) :
    Calls Tryd.prog 23 #[.string (mkS l)] w fun e w' => e = .returned (.tuple #[.agg #[.int .i64 (prsF l).1.1, .int .i64 (prsF l).1.2], .int .i64 (prsF l).2]) ∧ Ext w w' := by
  have hB := Bk.new w 24 #[.int .i64 0, .int .i64 0]
  have hE : Ext w (w.alloc (.cells #[.int .i64 0, .int .i64 0] 24)) := (Ext.refl w).alloc _
  have hLz := mkS_size l
  go_enter Tryd.func23, Tryd.ntmps23
  go_upto_region 1 with fail
  generalize w.alloc (.cells #[.int .i64 0, .int .i64 0] 24) = W at *
  generalize hbe : w.heap.size = b at hB ⊢
  have hbs : w.heap.size ≤ b := Nat.le_of_eq hbe
  clear hbe
  have g0 := hB.c 0 _ rfl
  have g1 := hB.c 1 _ rfl
  have f0 := hB.free 0
  have f1 := hB.free 1
  by_cases hlen : l.length = 26
  · have HLN := Lib.hid hlen
    have hix0 : ∀ W : World, (Instr.index 9 (.string (mkS l)) (.int .i64 4)).run Tryd.prog W = .ok (.int .u8 (nthB l 4)) W := fun W => index_mkS l 4 (by omega) 9 (by kernel_rfl) W
    have hix1 : ∀ W : World, (Instr.index 9 (.string (mkS l)) (.int .i64 7)).run Tryd.prog W = .ok (.int .u8 (nthB l 7)) W := fun W => index_mkS l 7 (by omega) 9 (by kernel_rfl) W
    have hix2 : ∀ W : World, (Instr.index 9 (.string (mkS l)) (.int .i64 10)).run Tryd.prog W = .ok (.int .u8 (nthB l 10)) W := fun W => index_mkS l 10 (by omega) 9 (by kernel_rfl) W
    have hix3 : ∀ W : World, (Instr.index 9 (.string (mkS l)) (.int .i64 13)).run Tryd.prog W = .ok (.int .u8 (nthB l 13)) W := fun W => index_mkS l 13 (by omega) 9 (by kernel_rfl) W
    have hix4 : ∀ W : World, (Instr.index 9 (.string (mkS l)) (.int .i64 16)).run Tryd.prog W = .ok (.int .u8 (nthB l 16)) W := fun W => index_mkS l 16 (by omega) 9 (by kernel_rfl) W
    have hix5 : ∀ W : World, (Instr.index 9 (.string (mkS l)) (.int .i64 19)).run Tryd.prog W = .ok (.int .u8 (nthB l 19)) W := fun W => index_mkS l 19 (by omega) 9 (by kernel_rfl) W
    by_cases hs0 : nthB l 4 = 45
    · have HI0 := Lib.hid hs0
      rw [hs0] at hix0
      clear hs0
      by_cases hs1 : nthB l 7 = 45
      · have HI1 := Lib.hid hs1
        rw [hs1] at hix1
        clear hs1
        by_cases hs2 : nthB l 10 = 84
        · have HI2 := Lib.hid hs2
          rw [hs2] at hix2
          clear hs2
          by_cases hs3 : nthB l 13 = 58
          · have HI3 := Lib.hid hs3
            rw [hs3] at hix3
            clear hs3
            by_cases hs4 : nthB l 16 = 58
            · have HI4 := Lib.hid hs4
              rw [hs4] at hix4
              clear hs4
              by_cases hs5 : nthB l 19 = 46
              · have HI5 := Lib.hid hs5
                rw [hs5] at hix5
                clear hs5
                have hX0 : (mkS l).extract 0 4 = mkS ((l.drop 0).take 4) := by rw [mkS_extract]
                obtain ⟨N0, hN0⟩ : ∃ N, numF ((l.drop 0).take 4) = N := ⟨_, rfl⟩
                have c0 : ∀ W, Calls Tryd.prog 45 #[.string (mkS ((l.drop 0).take 4))] W fun e w' => e = .returned (.int .i64 N0) ∧ Ext W w' := fun W => by
                  rw [← hN0]
                  exact (r18num_any ((l.drop 0).take 4) (by rw [List.length_take]; omega) W).mono fun e w' ⟨h1, h2⟩ => ⟨h1, by rw [h2]; exact Ext.refl _⟩
                have b0 := numF_bd ((l.drop 0).take 4) (by rw [List.length_take]; omega)
                rw [hN0] at b0
                have hX1 : (mkS l).extract 5 7 = mkS ((l.drop 5).take 2) := by rw [mkS_extract]
                obtain ⟨N1, hN1⟩ : ∃ N, numF ((l.drop 5).take 2) = N := ⟨_, rfl⟩
                have c1 : ∀ W, Calls Tryd.prog 45 #[.string (mkS ((l.drop 5).take 2))] W fun e w' => e = .returned (.int .i64 N1) ∧ Ext W w' := fun W => by
                  rw [← hN1]
                  exact (r18num_any ((l.drop 5).take 2) (by rw [List.length_take]; omega) W).mono fun e w' ⟨h1, h2⟩ => ⟨h1, by rw [h2]; exact Ext.refl _⟩
                have b1 := numF_bd ((l.drop 5).take 2) (by rw [List.length_take]; omega)
                rw [hN1] at b1
                have hX2 : (mkS l).extract 8 10 = mkS ((l.drop 8).take 2) := by rw [mkS_extract]
                obtain ⟨N2, hN2⟩ : ∃ N, numF ((l.drop 8).take 2) = N := ⟨_, rfl⟩
                have c2 : ∀ W, Calls Tryd.prog 45 #[.string (mkS ((l.drop 8).take 2))] W fun e w' => e = .returned (.int .i64 N2) ∧ Ext W w' := fun W => by
                  rw [← hN2]
                  exact (r18num_any ((l.drop 8).take 2) (by rw [List.length_take]; omega) W).mono fun e w' ⟨h1, h2⟩ => ⟨h1, by rw [h2]; exact Ext.refl _⟩
                have b2 := numF_bd ((l.drop 8).take 2) (by rw [List.length_take]; omega)
                rw [hN2] at b2
                have hX3 : (mkS l).extract 11 13 = mkS ((l.drop 11).take 2) := by rw [mkS_extract]
                obtain ⟨N3, hN3⟩ : ∃ N, numF ((l.drop 11).take 2) = N := ⟨_, rfl⟩
                have c3 : ∀ W, Calls Tryd.prog 45 #[.string (mkS ((l.drop 11).take 2))] W fun e w' => e = .returned (.int .i64 N3) ∧ Ext W w' := fun W => by
                  rw [← hN3]
                  exact (r18num_any ((l.drop 11).take 2) (by rw [List.length_take]; omega) W).mono fun e w' ⟨h1, h2⟩ => ⟨h1, by rw [h2]; exact Ext.refl _⟩
                have b3 := numF_bd ((l.drop 11).take 2) (by rw [List.length_take]; omega)
                rw [hN3] at b3
                have hX4 : (mkS l).extract 14 16 = mkS ((l.drop 14).take 2) := by rw [mkS_extract]
                obtain ⟨N4, hN4⟩ : ∃ N, numF ((l.drop 14).take 2) = N := ⟨_, rfl⟩
                have c4 : ∀ W, Calls Tryd.prog 45 #[.string (mkS ((l.drop 14).take 2))] W fun e w' => e = .returned (.int .i64 N4) ∧ Ext W w' := fun W => by
                  rw [← hN4]
                  exact (r18num_any ((l.drop 14).take 2) (by rw [List.length_take]; omega) W).mono fun e w' ⟨h1, h2⟩ => ⟨h1, by rw [h2]; exact Ext.refl _⟩
                have b4 := numF_bd ((l.drop 14).take 2) (by rw [List.length_take]; omega)
                rw [hN4] at b4
                have hX5 : (mkS l).extract 17 19 = mkS ((l.drop 17).take 2) := by rw [mkS_extract]
                obtain ⟨N5, hN5⟩ : ∃ N, numF ((l.drop 17).take 2) = N := ⟨_, rfl⟩
                have c5 : ∀ W, Calls Tryd.prog 45 #[.string (mkS ((l.drop 17).take 2))] W fun e w' => e = .returned (.int .i64 N5) ∧ Ext W w' := fun W => by
                  rw [← hN5]
                  exact (r18num_any ((l.drop 17).take 2) (by rw [List.length_take]; omega) W).mono fun e w' ⟨h1, h2⟩ => ⟨h1, by rw [h2]; exact Ext.refl _⟩
                have b5 := numF_bd ((l.drop 17).take 2) (by rw [List.length_take]; omega)
                rw [hN5] at b5
                have hX6 : (mkS l).extract 20 26 = mkS ((l.drop 20).take 6) := by rw [mkS_extract]
                obtain ⟨N6, hN6⟩ : ∃ N, numF ((l.drop 20).take 6) = N := ⟨_, rfl⟩
                have c6 : ∀ W, Calls Tryd.prog 45 #[.string (mkS ((l.drop 20).take 6))] W fun e w' => e = .returned (.int .i64 N6) ∧ Ext W w' := fun W => by
                  rw [← hN6]
                  exact (r18num_any ((l.drop 20).take 6) (by rw [List.length_take]; omega) W).mono fun e w' ⟨h1, h2⟩ => ⟨h1, by rw [h2]; exact Ext.refl _⟩
                have b6 := numF_bd ((l.drop 20).take 6) (by rw [List.length_take]; omega)
                rw [hN6] at b6
                have HP : Hid (prsF l = if RBad (dyF N0 N1 N2).2 N3 N4 N5 N6 then ((0, 0), 7) else (((dyF N0 N1 N2).1, (N3 * 3600 + N4 * 60 + N5) * 1000000 + N6), 0)) := Lib.hid (by
                  rw [prsF_ref hlen (by intro k hk; have : k = 0 ∨ k = 1 ∨ k = 2 ∨ k = 3 ∨ k = 4 ∨ k = 5 := by omega
                                        rcases this with rfl | rfl | rfl | rfl | rfl | rfl
                                        · exact HI0.out
                                        · exact HI1.out
                                        · exact HI2.out
                                        · exact HI3.out
                                        · exact HI4.out
                                        · exact HI5.out)]
                  simp only [segN, off, wid, List.getD_cons_zero, List.getD_cons_succ]
                  rw [hN0, hN1, hN2, hN3, hN4, hN5, hN6])
                have cd : ∀ W, Calls Tryd.prog 44 #[.int .i64 N0, .int .i64 N1, .int .i64 N2] W fun e w' => e = .returned (.tuple #[.int .i64 (dyF N0 N1 N2).1, .int .i64 (dyF N0 N1 N2).2]) ∧ Ext W w' := fun W => (r05day_any N0 N1 N2 (by omega) W).mono fun e w' ⟨h1, h2⟩ => ⟨h1, by rw [h2]; exact Ext.refl _⟩
                have HC0 := Lib.hid c0
                have HC1 := Lib.hid c1
                have HC2 := Lib.hid c2
                have HC3 := Lib.hid c3
                have HC4 := Lib.hid c4
                have HC5 := Lib.hid c5
                have HC6 := Lib.hid c6
                have HCD := Lib.hid cd
                have HLEN := Lib.hid hlen
                rw [hlen] at hLz
                generalize dyF N0 N1 N2 = DE at *
                obtain ⟨DY, E⟩ := DE
                clear c0 c1 c2 c3 c4 c5 c6 cd hN0 hN1 hN2 hN3 hN4 hN5 hN6 hlen
                go_upto_region 3 with fail
                clear hix0 hix1 hix2 hix3 hix4 hix5
                generalize mkS ((l.drop 0).take 4) = Z0 at *
                generalize mkS ((l.drop 5).take 2) = Z1 at *
                generalize mkS ((l.drop 8).take 2) = Z2 at *
                generalize mkS ((l.drop 11).take 2) = Z3 at *
                generalize mkS ((l.drop 14).take 2) = Z4 at *
                generalize mkS ((l.drop 17).take 2) = Z5 at *
                generalize mkS ((l.drop 20).take 6) = Z6 at *
                generalize mkS l = SS at *
                refine region_ext (by kernel_rfl) (by kernel_rfl) ?_
                repeat (go_big_quiet_step (first | (go_at_call 45; first | with_reducible exact Calls.regrown_of (HC0.out _) | with_reducible exact Calls.regrown_of (HC1.out _) | with_reducible exact Calls.regrown_of (HC2.out _)) | (go_at_call 44; with_reducible exact Calls.regrown_of (HCD.out _))))
                refine wpQuiet_nil ?_
                intro V hx
                replace hB := hB.ext hx
                replace hE := hE.trans hx
                clear hx g0 g1 f0 f1 HC0 HC1 HC2 HCD
                go_wp2_with fail
                refine (HC3.out V).mono ?_
                rintro e V1 ⟨rfl, hx⟩
                replace hB := hB.ext hx
                replace hE := hE.trans hx
                clear hx
                go_wp2_with fail
                refine (HC4.out V1).mono ?_
                rintro e V2 ⟨rfl, hx⟩
                replace hB := hB.ext hx
                replace hE := hE.trans hx
                clear hx
                go_wp2_with fail
                refine (HC5.out V2).mono ?_
                rintro e V3 ⟨rfl, hx⟩
                replace hB := hB.ext hx
                replace hE := hE.trans hx
                clear hx
                go_wp2_with fail
                refine (HC6.out V3).mono ?_
                rintro e V4 ⟨rfl, hx⟩
                replace hB := hB.ext hx
                replace hE := hE.trans hx
                clear hx HC3 HC4 HC5 HC6
                have g0 := hB.c 0 _ rfl
                have g1 := hB.c 1 _ rfl
                have f0 := hB.free 0
                have f1 := hB.free 1
                try simp only at HP
                by_cases k0 : E = 0
                · subst k0
                  by_cases k1 : N3 < 0
                  · have d1 := decide_eq_true k1
                    have HR : Hid (prsF l = ((0, 0), 7)) := Lib.hid (by rw [HP.out, if_pos (by unfold RBad; omega)])
                    go_wp2_with fail
                    all_goals first | (exfalso; omega) | exact bodyPost_ret (res_r18parse _ b 0 0 7 _ (by rfl) (by rfl) (hB.set2 _ _)) rfl ⟨by rw [HR.out], (hE.setCell (p := ⟨b, 0, none⟩) hbs _).setCell (p := ⟨b, 1, none⟩) hbs _⟩
                  · have d1 := decide_eq_false k1
                    by_cases k2 : 23 < N3
                    · have d2 := decide_eq_true k2
                      have HR : Hid (prsF l = ((0, 0), 7)) := Lib.hid (by rw [HP.out, if_pos (by unfold RBad; omega)])
                      go_wp2_with fail
                      all_goals first | (exfalso; omega) | exact bodyPost_ret (res_r18parse _ b 0 0 7 _ (by rfl) (by rfl) (hB.set2 _ _)) rfl ⟨by rw [HR.out], (hE.setCell (p := ⟨b, 0, none⟩) hbs _).setCell (p := ⟨b, 1, none⟩) hbs _⟩
                    · have d2 := decide_eq_false k2
                      by_cases k3 : N4 < 0
                      · have d3 := decide_eq_true k3
                        have HR : Hid (prsF l = ((0, 0), 7)) := Lib.hid (by rw [HP.out, if_pos (by unfold RBad; omega)])
                        go_wp2_with fail
                        all_goals first | (exfalso; omega) | exact bodyPost_ret (res_r18parse _ b 0 0 7 _ (by rfl) (by rfl) (hB.set2 _ _)) rfl ⟨by rw [HR.out], (hE.setCell (p := ⟨b, 0, none⟩) hbs _).setCell (p := ⟨b, 1, none⟩) hbs _⟩
                      · have d3 := decide_eq_false k3
                        by_cases k4 : 59 < N4
                        · have d4 := decide_eq_true k4
                          have HR : Hid (prsF l = ((0, 0), 7)) := Lib.hid (by rw [HP.out, if_pos (by unfold RBad; omega)])
                          go_wp2_with fail
                          all_goals first | (exfalso; omega) | exact bodyPost_ret (res_r18parse _ b 0 0 7 _ (by rfl) (by rfl) (hB.set2 _ _)) rfl ⟨by rw [HR.out], (hE.setCell (p := ⟨b, 0, none⟩) hbs _).setCell (p := ⟨b, 1, none⟩) hbs _⟩
                        · have d4 := decide_eq_false k4
                          by_cases k5 : N5 < 0
                          · have d5 := decide_eq_true k5
                            have HR : Hid (prsF l = ((0, 0), 7)) := Lib.hid (by rw [HP.out, if_pos (by unfold RBad; omega)])
                            go_wp2_with fail
                            all_goals first | (exfalso; omega) | exact bodyPost_ret (res_r18parse _ b 0 0 7 _ (by rfl) (by rfl) (hB.set2 _ _)) rfl ⟨by rw [HR.out], (hE.setCell (p := ⟨b, 0, none⟩) hbs _).setCell (p := ⟨b, 1, none⟩) hbs _⟩
                          · have d5 := decide_eq_false k5
                            by_cases k6 : 60 < N5
                            · have d6 := decide_eq_true k6
                              have HR : Hid (prsF l = ((0, 0), 7)) := Lib.hid (by rw [HP.out, if_pos (by unfold RBad; omega)])
                              go_wp2_with fail
                              all_goals first | (exfalso; omega) | exact bodyPost_ret (res_r18parse _ b 0 0 7 _ (by rfl) (by rfl) (hB.set2 _ _)) rfl ⟨by rw [HR.out], (hE.setCell (p := ⟨b, 0, none⟩) hbs _).setCell (p := ⟨b, 1, none⟩) hbs _⟩
                            · have d6 := decide_eq_false k6
                              by_cases k7 : N6 < 0
                              · have d7 := decide_eq_true k7
                                have HR : Hid (prsF l = ((0, 0), 7)) := Lib.hid (by rw [HP.out, if_pos (by unfold RBad; omega)])
                                go_wp2_with fail
                                all_goals first | (exfalso; omega) | exact bodyPost_ret (res_r18parse _ b 0 0 7 _ (by rfl) (by rfl) (hB.set2 _ _)) rfl ⟨by rw [HR.out], (hE.setCell (p := ⟨b, 0, none⟩) hbs _).setCell (p := ⟨b, 1, none⟩) hbs _⟩
                              · have d7 := decide_eq_false k7
                                have hnb : ¬ RBad 0 N3 N4 N5 N6 ↔ ¬ (N5 = 60 ∧ (N3 ≠ 23 ∨ N4 ≠ 59)) := by unfold RBad; omega
                                by_cases h60 : N5 = 60
                                · clear d5 d6
                                  subst h60
                                  by_cases h23 : N3 = 23
                                  · clear d1 d2
                                    subst h23
                                    by_cases h59 : N4 = 59
                                    · clear d3 d4
                                      subst h59
                                      have HR : Hid (prsF l = ((DY, 86400000000 + N6), 0)) := Lib.hid (by rw [HP.out, if_neg (hnb.2 (by omega)), show ((23 : Int) * 3600 + 59 * 60 + 60) * 1000000 = 86400000000 from rfl])
                                      clear hnb
                                      go_wp2_with fail
                                      all_goals first | (exfalso; omega) | exact bodyPost_ret (res_r18parse _ b DY (86400000000 + N6) 0 _ (by rfl) (by rfl) (hB.set2 _ _)) rfl ⟨by rw [HR.out], (hE.setCell (p := ⟨b, 0, none⟩) hbs _).setCell (p := ⟨b, 1, none⟩) hbs _⟩
                                    · have HR : Hid (prsF l = ((0, 0), 7)) := Lib.hid (by rw [HP.out, if_pos (by unfold RBad; omega)])
                                      clear hnb
                                      go_wp2_with fail
                                      all_goals first | (exfalso; omega) | exact bodyPost_ret (res_r18parse _ b 0 0 7 _ (by rfl) (by rfl) (hB.set2 _ _)) rfl ⟨by rw [HR.out], (hE.setCell (p := ⟨b, 0, none⟩) hbs _).setCell (p := ⟨b, 1, none⟩) hbs _⟩
                                  · have HR : Hid (prsF l = ((0, 0), 7)) := Lib.hid (by rw [HP.out, if_pos (by unfold RBad; omega)])
                                    clear hnb
                                    go_wp2_with fail
                                    all_goals first | (exfalso; omega) | exact bodyPost_ret (res_r18parse _ b 0 0 7 _ (by rfl) (by rfl) (hB.set2 _ _)) rfl ⟨by rw [HR.out], (hE.setCell (p := ⟨b, 0, none⟩) hbs _).setCell (p := ⟨b, 1, none⟩) hbs _⟩
                                · have HR : Hid (prsF l = ((DY, (N3 * 3600 + N4 * 60 + N5) * 1000000 + N6), 0)) := Lib.hid (by rw [HP.out, if_neg (hnb.2 (by omega))])
                                  clear hnb
                                  go_wp2_with fail
                                  all_goals first | (exfalso; omega) | exact bodyPost_ret (res_r18parse _ b DY ((N3 * 3600 + N4 * 60 + N5) * 1000000 + N6) 0 _ (by rfl) (by rfl) (hB.set2 _ _)) rfl ⟨by rw [HR.out], (hE.setCell (p := ⟨b, 0, none⟩) hbs _).setCell (p := ⟨b, 1, none⟩) hbs _⟩
                · have d0 := decide_eq_false k0
                  have HR : Hid (prsF l = ((0, 0), 7)) := Lib.hid (by rw [HP.out, if_pos (by unfold RBad; omega)])
                  go_wp2_with fail
                  all_goals first | (exfalso; omega) | exact bodyPost_ret (res_r18parse _ b 0 0 7 _ (by rfl) (by rfl) (hB.set2 _ _)) rfl ⟨by rw [HR.out], (hE.setCell (p := ⟨b, 0, none⟩) hbs _).setCell (p := ⟨b, 1, none⟩) hbs _⟩
              · have HR : Hid (prsF l = ((0, 0), 7)) := Lib.hid (prsF_fmt (by
                  rw [Bool.eq_false_iff]
                  intro h
                  exact hs5 (fmt_sep h 5 (by omega))))
                have q5 : ¬ nthB l 19 = 46 := hs5
                clear hs5
                generalize nthB l 19 = x5 at *
                go_wp2_with fail
                all_goals first | (exfalso; omega) | exact bodyPost_ret (res_r18parse _ b 0 0 7 _ (by rfl) (by rfl) (hB.set2 _ _)) rfl ⟨by rw [HR.out], (hE.setCell (p := ⟨b, 0, none⟩) hbs _).setCell (p := ⟨b, 1, none⟩) hbs _⟩
            · have HR : Hid (prsF l = ((0, 0), 7)) := Lib.hid (prsF_fmt (by
                rw [Bool.eq_false_iff]
                intro h
                exact hs4 (fmt_sep h 4 (by omega))))
              have q4 : ¬ nthB l 16 = 58 := hs4
              clear hs4
              generalize nthB l 16 = x4 at *
              go_wp2_with fail
              all_goals first | (exfalso; omega) | exact bodyPost_ret (res_r18parse _ b 0 0 7 _ (by rfl) (by rfl) (hB.set2 _ _)) rfl ⟨by rw [HR.out], (hE.setCell (p := ⟨b, 0, none⟩) hbs _).setCell (p := ⟨b, 1, none⟩) hbs _⟩
          · have HR : Hid (prsF l = ((0, 0), 7)) := Lib.hid (prsF_fmt (by
              rw [Bool.eq_false_iff]
              intro h
              exact hs3 (fmt_sep h 3 (by omega))))
            have q3 : ¬ nthB l 13 = 58 := hs3
            clear hs3
            generalize nthB l 13 = x3 at *
            go_wp2_with fail
            all_goals first | (exfalso; omega) | exact bodyPost_ret (res_r18parse _ b 0 0 7 _ (by rfl) (by rfl) (hB.set2 _ _)) rfl ⟨by rw [HR.out], (hE.setCell (p := ⟨b, 0, none⟩) hbs _).setCell (p := ⟨b, 1, none⟩) hbs _⟩
        · have HR : Hid (prsF l = ((0, 0), 7)) := Lib.hid (prsF_fmt (by
            rw [Bool.eq_false_iff]
            intro h
            exact hs2 (fmt_sep h 2 (by omega))))
          have q2 : ¬ nthB l 10 = 84 := hs2
          clear hs2
          generalize nthB l 10 = x2 at *
          go_wp2_with fail
          all_goals first | (exfalso; omega) | exact bodyPost_ret (res_r18parse _ b 0 0 7 _ (by rfl) (by rfl) (hB.set2 _ _)) rfl ⟨by rw [HR.out], (hE.setCell (p := ⟨b, 0, none⟩) hbs _).setCell (p := ⟨b, 1, none⟩) hbs _⟩
      · have HR : Hid (prsF l = ((0, 0), 7)) := Lib.hid (prsF_fmt (by
          rw [Bool.eq_false_iff]
          intro h
          exact hs1 (fmt_sep h 1 (by omega))))
        have q1 : ¬ nthB l 7 = 45 := hs1
        clear hs1
        generalize nthB l 7 = x1 at *
        go_wp2_with fail
        all_goals first | (exfalso; omega) | exact bodyPost_ret (res_r18parse _ b 0 0 7 _ (by rfl) (by rfl) (hB.set2 _ _)) rfl ⟨by rw [HR.out], (hE.setCell (p := ⟨b, 0, none⟩) hbs _).setCell (p := ⟨b, 1, none⟩) hbs _⟩
    · have HR : Hid (prsF l = ((0, 0), 7)) := Lib.hid (prsF_fmt (by
        rw [Bool.eq_false_iff]
        intro h
        exact hs0 (fmt_sep h 0 (by omega))))
      have q0 : ¬ nthB l 4 = 45 := hs0
      clear hs0
      generalize nthB l 4 = x0 at *
      go_wp2_with fail
      all_goals first | (exfalso; omega) | exact bodyPost_ret (res_r18parse _ b 0 0 7 _ (by rfl) (by rfl) (hB.set2 _ _)) rfl ⟨by rw [HR.out], (hE.setCell (p := ⟨b, 0, none⟩) hbs _).setCell (p := ⟨b, 1, none⟩) hbs _⟩
  · have HR : Hid (prsF l = ((0, 0), 7)) := Lib.hid (prsF_fmt (by
      rw [Bool.eq_false_iff]
      intro h
      exact hlen (fmtB_all h).1))
    have q : ¬ (l.length : Int) = 26 := by omega
    clear hlen
    go_wp2_with fail
    all_goals first | (exfalso; omega) | exact bodyPost_ret (res_r18parse _ b 0 0 7 _ (by rfl) (by rfl) (hB.set2 _ _)) rfl ⟨by rw [HR.out], (hE.setCell (p := ⟨b, 0, none⟩) hbs _).setCell (p := ⟨b, 1, none⟩) hbs _⟩
end Go.Proofs.YtchbeheekahhiaaDoor
