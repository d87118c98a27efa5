/-
  civil.Parse, walked. Written by wip/gen_vp.py.
-/
import Derived.Test.YtchbeheekahhiaaDoorVO
namespace Go.Proofs.YtchbeheekahhiaaDoor
open Go.RowKit Go.Sort Go.Shelf
set_option linter.unusedSimpArgs false
set_option linter.unusedVariables false
set_option maxRecDepth 100000

theorem lenlit22 {vs : List Value} (h : vs.length = 22) : ∃ x0 x1 x2 x3 x4 x5 x6 x7 x8 x9 x10 x11 x12 x13 x14 x15 x16 x17 x18 x19 x20 x21 : Value, vs = [x0, x1, x2, x3, x4, x5, x6, x7, x8, x9, x10, x11, x12, x13, x14, x15, x16, x17, x18, x19, x20, x21] := by
  obtain ⟨x0, v0, rfl, h0⟩ := len_cons h
  obtain ⟨x1, v1, rfl, h1⟩ := len_cons h0
  obtain ⟨x2, v2, rfl, h2⟩ := len_cons h1
  obtain ⟨x3, v3, rfl, h3⟩ := len_cons h2
  obtain ⟨x4, v4, rfl, h4⟩ := len_cons h3
  obtain ⟨x5, v5, rfl, h5⟩ := len_cons h4
  obtain ⟨x6, v6, rfl, h6⟩ := len_cons h5
  obtain ⟨x7, v7, rfl, h7⟩ := len_cons h6
  obtain ⟨x8, v8, rfl, h8⟩ := len_cons h7
  obtain ⟨x9, v9, rfl, h9⟩ := len_cons h8
  obtain ⟨x10, v10, rfl, h10⟩ := len_cons h9
  obtain ⟨x11, v11, rfl, h11⟩ := len_cons h10
  obtain ⟨x12, v12, rfl, h12⟩ := len_cons h11
  obtain ⟨x13, v13, rfl, h13⟩ := len_cons h12
  obtain ⟨x14, v14, rfl, h14⟩ := len_cons h13
  obtain ⟨x15, v15, rfl, h15⟩ := len_cons h14
  obtain ⟨x16, v16, rfl, h16⟩ := len_cons h15
  obtain ⟨x17, v17, rfl, h17⟩ := len_cons h16
  obtain ⟨x18, v18, rfl, h18⟩ := len_cons h17
  obtain ⟨x19, v19, rfl, h19⟩ := len_cons h18
  obtain ⟨x20, v20, rfl, h20⟩ := len_cons h19
  obtain ⟨x21, v21, rfl, h21⟩ := len_cons h20
  obtain rfl := len_nil h21
  exact ⟨x0, x1, x2, x3, x4, x5, x6, x7, x8, x9, x10, x11, x12, x13, x14, x15, x16, x17, x18, x19, x20, x21, rfl⟩


/-- What is wrong with a date and a time. -/
def BadT (E n3 n4 n5 : Int) : Prop := E ≠ 0 ∨ 23 < n3 ∨ 59 < n4 ∨ (59 < n5 ∧ ¬ (n3 = 23 ∧ n4 = 59 ∧ n5 = 60))
instance (E n3 n4 n5 : Int) : Decidable (BadT E n3 n4 n5) := by unfold BadT; infer_instance
/-- What Parse answers. -/
def prsF (l : List UInt8) : (Int × Int) × Int :=
  if fmtB l = true ∧ ¬ BadT (dyF (valB l 0) (valB l 1) (valB l 2)).2 (valB l 3) (valB l 4) (valB l 5) then (((dyF (valB l 0) (valB l 1) (valB l 2)).1, (valB l 3 * 3600 + valB l 4 * 60 + valB l 5) * 1000000 + valB l 6), 0) else ((0, 0), 7)
theorem fmtB_all {l : List UInt8} (h : fmtB l = true) : l.length = 26 ∧ ∀ k, k < 7 → allB l (off k) (wid k) = true := by
  simp only [fmtB, Bool.and_eq_true, decide_eq_true_eq] at h
  refine ⟨h.2, fun k hk => ?_⟩
  have := okUp_at h.1 k hk
  unfold okG at this
  simp only [Bool.and_eq_true] at this
  exact this.2.1
theorem valB_bd {l : List UInt8} (h : fmtB l = true) (k : Nat) (hk : k < 7) : 0 ≤ valB l k ∧ valB l k < 10 ^ wid k := numB_bd ((fmtB_all h).2 k hk)
def RBk (b : Nat) (T : TypeId) (cs : Array Value) : RelL Ext := ⟨none, fun _ _ W => Bk W b T cs, fun _ _ W W' h hE => h.ext hE⟩
theorem res_parse (W : World) (b : Nat) (d m z : Int) (tmps : Array Value) (h4 : tmps[2]?.getD undef = .pointer (some ⟨b, 0, none⟩)) (h5 : tmps[3]?.getD undef = .int .i64 z) (h : Bk W b 24 #[.int .i64 d, .int .i64 m]) :
    (results Tryd.f22 tmps).run Tryd.prog W = .ok (.tuple #[.agg #[.int .i64 d, .int .i64 m], .int .i64 z]) W := by
  have c0 := h.c 0 _ rfl
  have c1 := h.c 1 _ rfl
  simp [results, Tryd.results22, go_sem, h4, h5, c0, c1]

set_option maxHeartbeats 8000000 in
theorem cparse_any (l : List UInt8) (hl : l.length ≤ 1000000000000) (w : World) (ht : TL w) :
    Calls Tryd.prog 22 #[.string (mkS l)] w fun e w' => e = .returned (.tuple #[.agg #[.int .i64 (prsF l).1.1, .int .i64 (prsF l).1.2], .int .i64 (prsF l).2]) ∧ Ext w w' := by
  have HT := Lib.hid ht
  clear ht
  have hB := Bk.new w 24 #[.int .i64 0, .int .i64 0]
  have hE : Ext w (w.alloc (.cells #[.int .i64 0, .int .i64 0] 24)) := (Ext.refl w).alloc _
  have hLz := mkS_size l
  go_enter Tryd.func22, Tryd.ntmps22
  go_upto_region 1 with fail
  generalize w.alloc (.cells #[.int .i64 0, .int .i64 0] 24) = V at *
  generalize hbe : w.heap.size = b at hB ⊢
  have hbs : w.heap.size ≤ b := Nat.le_of_eq hbe
  clear hbe
  have hLit := Bk.new V 3 #[.int .i64 4, .int .i64 2, .int .i64 2, .int .i64 2, .int .i64 2, .int .i64 2, .int .i64 6]
  have hxL : Ext V (V.alloc (.cells #[.int .i64 4, .int .i64 2, .int .i64 2, .int .i64 2, .int .i64 2, .int .i64 2, .int .i64 6] 3)) := (Ext.refl V).alloc _
  go_wp2_with fail
  refine (cread_any l hl _ _ hLit).mono ?_
  rintro e w1 ⟨aa, m, cc, bb, rfl, hx, hbb, hrow⟩
  replace hB := hB.ext (hxL.trans hx)
  replace hE := hE.trans (hxL.trans hx)
  have HTL := Lib.hid (TL.ext HT.out hE)
  generalize (V.alloc (.cells #[.int .i64 4, .int .i64 2, .int .i64 2, .int .i64 2, .int .i64 2, .int .i64 2, .int .i64 6] 3)).heap.size = B9 at hrow
  clear hLit hxL hx
  have g0 := hB.c 0 _ rfl
  have g1 := hB.c 1 _ rfl
  have f0 := hB.free 0
  have f1 := hB.free 1
  rcases bb with _ | _
  · have HR : Hid (prsF l = ((0, 0), 7)) := Lib.hid (by unfold prsF; rw [if_neg (fun h => by rw [← hbb] at h; cases h.1)])
    clear hbb hrow hLz
    go_wp2_with fail
    exact bodyPost_ret (res_parse _ b 0 0 7 _ (by rfl) (by rfl) (hB.set2 _ _)) rfl ⟨by rw [HR.out], (hE.setCell (p := ⟨b, 0, none⟩) hbs _).setCell (p := ⟨b, 1, none⟩) hbs _⟩
  obtain ⟨rfl, hrow2⟩ := hrow rfl
  have h26 := (fmtB_all hbb.symm).1
  have v0 := valB_bd hbb.symm 0 (by decide)
  have v1 := valB_bd hbb.symm 1 (by decide)
  have v2 := valB_bd hbb.symm 2 (by decide)
  have v3 := valB_bd hbb.symm 3 (by decide)
  have v4 := valB_bd hbb.symm 4 (by decide)
  have v5 := valB_bd hbb.symm 5 (by decide)
  have v6 := valB_bd hbb.symm 6 (by decide)
  simp only [show wid 0 = 4 from rfl, show wid 1 = 2 from rfl, show wid 2 = 2 from rfl, show wid 3 = 2 from rfl, show wid 4 = 2 from rfl, show wid 5 = 2 from rfl, show wid 6 = 6 from rfl] at v0 v1 v2 v3 v4 v5 v6
  have HR : Hid (prsF l = if ¬ BadT (dyF (valB l 0) (valB l 1) (valB l 2)).2 (valB l 3) (valB l 4) (valB l 5) then (((dyF (valB l 0) (valB l 1) (valB l 2)).1, (valB l 3 * 3600 + valB l 4 * 60 + valB l 5) * 1000000 + valB l 6), 0) else ((0, 0), 7)) := Lib.hid (by
    unfold prsF
    by_cases h : BadT (dyF (valB l 0) (valB l 1) (valB l 2)).2 (valB l 3) (valB l 4) (valB l 5)
    · rw [if_neg (fun h2 => h2.2 h), if_neg (fun h2 => h2 h)]
    · rw [if_pos ⟨hbb.symm, h⟩, if_pos h])
  obtain ⟨g, rfl, p0, p1, p2, p3, p4, p5, p6⟩ : ∃ g, aa = some ⟨g, 0, none⟩ ∧ w1.cell? ⟨g, 0, none⟩ = some (.int .i64 (valB l 0)) ∧ w1.cell? ⟨g, 1, none⟩ = some (.int .i64 (valB l 1)) ∧ w1.cell? ⟨g, 2, none⟩ = some (.int .i64 (valB l 2)) ∧ w1.cell? ⟨g, 3, none⟩ = some (.int .i64 (valB l 3)) ∧ w1.cell? ⟨g, 4, none⟩ = some (.int .i64 (valB l 4)) ∧ w1.cell? ⟨g, 5, none⟩ = some (.int .i64 (valB l 5)) ∧ w1.cell? ⟨g, 6, none⟩ = some (.int .i64 (valB l 6)) := by
    rcases hrow2.2 with ⟨hv, h0⟩ | ⟨g, cap, cur, hv, -⟩
    · omega
    · simp only [Value.slice.injEq] at hv
      obtain ⟨rfl, -, rfl⟩ := hv
      exact ⟨g, rfl, hrow2.cellAt (by decide), hrow2.cellAt (by decide), hrow2.cellAt (by decide), hrow2.cellAt (by decide), hrow2.cellAt (by decide), hrow2.cellAt (by decide), hrow2.cellAt (by decide)⟩
  rw [h26] at hLz
  have lg := lt_of_cell p0
  have lb := hB.lt
  generalize mkS l = SS at *
  clear hbb hrow hrow2 h26 hl
  generalize valB l 0 = n0 at *
  generalize valB l 1 = n1 at *
  generalize valB l 2 = n2 at *
  generalize valB l 3 = n3 at *
  generalize valB l 4 = n4 at *
  generalize valB l 5 = n5 at *
  generalize valB l 6 = n6 at *
  go_upto_region 4 with fail
  have H1 := Lib.hid (fun d os => kday_any n0 n1 n2 (by omega) (grow (redrawn w1 d) os) (TL.ext HTL.out (ext_grow w1 d os)))
  obtain ⟨DY, hDY⟩ : ∃ D, (dyF n0 n1 n2).1 = D := ⟨_, rfl⟩
  obtain ⟨E, hEE⟩ : ∃ D, (dyF n0 n1 n2).2 = D := ⟨_, rfl⟩
  rw [hDY, hEE] at H1 HR
  clear hDY hEE
  have hg := @grow_cell
  refine region_ext (by kernel_rfl) (by kernel_rfl) ?_
  repeat (go_big_quiet_step ((go_at_call 43; exact Calls.regrown_of ((H1.out _ _).mono (fun e w' h => ⟨h.1, h.2 ▸ Ext.refl _⟩)))))
  refine wpQuiet_nil ?_
  intro V2 hx
  replace hB := hB.ext hx
  replace hE := hE.trans hx
  replace p3 := hx.cell p3
  replace p4 := hx.cell p4
  replace p5 := hx.cell p5
  replace p6 := hx.cell p6
  clear hx hg H1 g0 g1 f0 f1 p0 p1 p2 lg lb HTL
  have g0 := hB.c 0 _ rfl
  have g1 := hB.c 1 _ rfl
  have f0 := hB.free 0
  have f1 := hB.free 1
  by_cases q0 : E = 0
  · by_cases q1 : 23 < n3
    · have HRF : Hid (prsF l = ((0, 0), 7)) := Lib.hid (by rw [HR.out, if_neg (fun h => h (by unfold BadT; omega))])
      go_wp2_with fail
      all_goals first | exact bodyPost_ret (res_parse _ b 0 0 7 _ (by rfl) (by rfl) (hB.set2 _ _)) rfl ⟨by rw [HRF.out], (hE.setCell (p := ⟨b, 0, none⟩) hbs _).setCell (p := ⟨b, 1, none⟩) hbs _⟩ | (exfalso; simp_all)
    · by_cases q2 : 59 < n4
      · have HRF : Hid (prsF l = ((0, 0), 7)) := Lib.hid (by rw [HR.out, if_neg (fun h => h (by unfold BadT; omega))])
        go_wp2_with fail
        all_goals first | exact bodyPost_ret (res_parse _ b 0 0 7 _ (by rfl) (by rfl) (hB.set2 _ _)) rfl ⟨by rw [HRF.out], (hE.setCell (p := ⟨b, 0, none⟩) hbs _).setCell (p := ⟨b, 1, none⟩) hbs _⟩ | (exfalso; simp_all)
      · by_cases q6 : 59 < n5
        · by_cases q7 : n3 = 23 ∧ n4 = 59 ∧ n5 = 60
          · obtain ⟨q3, q4, q5⟩ := q7
            have HRF : Hid (prsF l = ((DY, ((n3 * 3600 + n4 * 60 + n5) * 1000000 + n6)), 0)) := Lib.hid (by rw [HR.out, if_pos (by unfold BadT; omega)])
            go_upto_region 8 with fail
            clear q0 q1 q2 q3 q4 q5 q6 g0 g1 f0 f1
            have hEz := hE
            generalize V2 = Vz at *
            refine region_relyF (fun listed W' => Ext w W' ∧ (listed 20 = false → Ext Vz W')) [some 77, some 78, some 79, some 80, some 81, some 82, some 83, some 84, some 85, some 86, some 87, some 88, some 89, some 90, some 91, some 92, some 93, some 94, some 95, some 96, none, some 3] [[], [], [1], [1, 2], [1, 2, 3], [], [5], [5, 6], [5, 6, 7], [1, 2, 3, 4, 5, 6, 7, 8], [], [10], [10, 11], [1, 2, 3, 4, 5, 6, 7, 8, 9, 10, 11, 12], [1, 2, 3, 4, 5, 6, 7, 8, 9, 10, 11, 12, 13], [], [15], [15, 16], [1, 2, 3, 4, 5, 6, 7, 8, 9, 10, 11, 12, 13, 14, 15, 16, 17], [0, 1, 2, 3, 4, 5, 6, 7, 8, 9, 10, 11, 12, 13, 14, 15, 16, 17, 18], [0, 1, 2, 3, 4, 5, 6, 7, 8, 9, 10, 11, 12, 13, 14, 15, 16, 17, 18, 19], [0, 1, 2, 3, 4, 5, 6, 7, 8, 9, 10, 11, 12, 13, 14, 15, 16, 17, 18, 19, 20]] [[], [], [1], [2], [3], [], [5], [6], [7], [4, 8], [], [10], [11], [9, 12], [13], [], [15], [16], [14, 17], [0, 18], [19], []] [none, none, none, none, none, none, none, none, none, none, none, none, none, none, none, none, none, none, none, none, none, none] [false, false, false, false, false, false, false, false, false, false, false, false, false, false, false, false, false, false, false, false, false, false] [.one (.int .i64 DY), .one (.slice (some ⟨g, 0, none⟩) 7 cc), .one (.pointer (some ⟨g, 3, none⟩)), .one (.int .i64 n3), .one (.int .i64 (n3 * 3600)), .one (.slice (some ⟨g, 0, none⟩) 7 cc), .one (.pointer (some ⟨g, 4, none⟩)), .one (.int .i64 n4), .one (.int .i64 (n4 * 60)), .one (.int .i64 (n3 * 3600 + n4 * 60)), .one (.slice (some ⟨g, 0, none⟩) 7 cc), .one (.pointer (some ⟨g, 5, none⟩)), .one (.int .i64 n5), .one (.int .i64 (n3 * 3600 + n4 * 60 + n5)), .one (.int .i64 ((n3 * 3600 + n4 * 60 + n5) * 1000000)), .one (.slice (some ⟨g, 0, none⟩) 7 cc), .one (.pointer (some ⟨g, 6, none⟩)), .one (.int .i64 n6), .one (.int .i64 ((n3 * 3600 + n4 * 60 + n5) * 1000000 + n6)), .one (.agg #[.int .i64 DY, .int .i64 ((n3 * 3600 + n4 * 60 + n5) * 1000000 + n6)]), RBk b 24 #[.int .i64 DY, .int .i64 ((n3 * 3600 + n4 * 60 + n5) * 1000000 + n6)], .one (.int .i64 0)] (by kernel_rfl) (by kernel_rfl) rfl ⟨hEz.drew, fun _ => (Ext.refl Vz).drew⟩ ?_ ?_
            · refine stepsF_cons ?_ ?_
              · intro listed vs W' hl hI hd hs hn hu hz ho9
                refine hold ?_
                obtain ⟨x0, x1, x2, x3, x4, x5, x6, x7, x8, x9, x10, x11, x12, x13, x14, x15, x16, x17, x18, x19, x20, x21, rfl⟩ := lenlit22 hl; clear hl
                refine held ?_
                simp only [putAll, Act.put, List.setIfInBounds_toArray, List.set_cons_succ, List.set_cons_zero]
                go_wp2_with fail
                exact relyE_done _ rfl rfl (Ext.refl _) ⟨hI.1, fun h => hI.2 (updE_false h)⟩
              refine stepsF_cons ?_ ?_
              · intro listed vs W' hl hI hd hs hn hu hz ho9
                refine hold ?_
                obtain ⟨x0, x1, x2, x3, x4, x5, x6, x7, x8, x9, x10, x11, x12, x13, x14, x15, x16, x17, x18, x19, x20, x21, rfl⟩ := lenlit22 hl; clear hl
                refine held ?_
                simp only [putAll, Act.put, List.setIfInBounds_toArray, List.set_cons_succ, List.set_cons_zero]
                go_wp2_with fail
                exact relyE_done _ rfl rfl (Ext.refl _) ⟨hI.1, fun h => hI.2 (updE_false h)⟩
              refine stepsF_cons ?_ ?_
              · intro listed vs W' hl hI hd hs hn hu hz ho9
                refine hold ?_
                obtain ⟨x0, x1, x2, x3, x4, x5, x6, x7, x8, x9, x10, x11, x12, x13, x14, x15, x16, x17, x18, x19, x20, x21, rfl⟩ := lenlit22 hl; clear hl
                simp only [factsL, atL, refV, List.getElem?_cons_succ, List.getElem?_cons_zero, List.getD_cons_succ, List.getD_cons_zero, RelL.one, RelL.any, RelL.blk, RelL.law, RBk] at hd
                obtain ⟨rfl, -⟩ := hd
                refine held ?_
                simp only [putAll, Act.put, List.setIfInBounds_toArray, List.set_cons_succ, List.set_cons_zero]
                go_wp2_with fail
                exact relyE_done _ rfl rfl (Ext.refl _) ⟨hI.1, fun h => hI.2 (updE_false h)⟩
              refine stepsF_cons ?_ ?_
              · intro listed vs W' hl hI hd hs hn hu hz ho9
                refine hold ?_
                obtain ⟨x0, x1, x2, x3, x4, x5, x6, x7, x8, x9, x10, x11, x12, x13, x14, x15, x16, x17, x18, x19, x20, x21, rfl⟩ := lenlit22 hl; clear hl
                simp only [factsL, atL, refV, List.getElem?_cons_succ, List.getElem?_cons_zero, List.getD_cons_succ, List.getD_cons_zero, RelL.one, RelL.any, RelL.blk, RelL.law, RBk] at hd
                obtain ⟨rfl, -⟩ := hd
                refine held ?_
                simp only [putAll, Act.put, List.setIfInBounds_toArray, List.set_cons_succ, List.set_cons_zero]
                have h20 : listed 20 = false := by cases h : listed 20 with | false => rfl | true => exact absurd (by decide) (hu 20 h)
                have hz2 := hI.2 h20
                have q := hz2.cell p3
                go_wp2_with fail
                exact relyE_done _ rfl rfl (Ext.refl _) ⟨hI.1, fun h => hI.2 (updE_false h)⟩
              refine stepsF_cons ?_ ?_
              · intro listed vs W' hl hI hd hs hn hu hz ho9
                refine hold ?_
                obtain ⟨x0, x1, x2, x3, x4, x5, x6, x7, x8, x9, x10, x11, x12, x13, x14, x15, x16, x17, x18, x19, x20, x21, rfl⟩ := lenlit22 hl; clear hl
                simp only [factsL, atL, refV, List.getElem?_cons_succ, List.getElem?_cons_zero, List.getD_cons_succ, List.getD_cons_zero, RelL.one, RelL.any, RelL.blk, RelL.law, RBk] at hd
                obtain ⟨rfl, -⟩ := hd
                refine held ?_
                simp only [putAll, Act.put, List.setIfInBounds_toArray, List.set_cons_succ, List.set_cons_zero]
                go_wp2_with fail
                exact relyE_done _ rfl rfl (Ext.refl _) ⟨hI.1, fun h => hI.2 (updE_false h)⟩
              refine stepsF_cons ?_ ?_
              · intro listed vs W' hl hI hd hs hn hu hz ho9
                refine hold ?_
                obtain ⟨x0, x1, x2, x3, x4, x5, x6, x7, x8, x9, x10, x11, x12, x13, x14, x15, x16, x17, x18, x19, x20, x21, rfl⟩ := lenlit22 hl; clear hl
                refine held ?_
                simp only [putAll, Act.put, List.setIfInBounds_toArray, List.set_cons_succ, List.set_cons_zero]
                go_wp2_with fail
                exact relyE_done _ rfl rfl (Ext.refl _) ⟨hI.1, fun h => hI.2 (updE_false h)⟩
              refine stepsF_cons ?_ ?_
              · intro listed vs W' hl hI hd hs hn hu hz ho9
                refine hold ?_
                obtain ⟨x0, x1, x2, x3, x4, x5, x6, x7, x8, x9, x10, x11, x12, x13, x14, x15, x16, x17, x18, x19, x20, x21, rfl⟩ := lenlit22 hl; clear hl
                simp only [factsL, atL, refV, List.getElem?_cons_succ, List.getElem?_cons_zero, List.getD_cons_succ, List.getD_cons_zero, RelL.one, RelL.any, RelL.blk, RelL.law, RBk] at hd
                obtain ⟨rfl, -⟩ := hd
                refine held ?_
                simp only [putAll, Act.put, List.setIfInBounds_toArray, List.set_cons_succ, List.set_cons_zero]
                go_wp2_with fail
                exact relyE_done _ rfl rfl (Ext.refl _) ⟨hI.1, fun h => hI.2 (updE_false h)⟩
              refine stepsF_cons ?_ ?_
              · intro listed vs W' hl hI hd hs hn hu hz ho9
                refine hold ?_
                obtain ⟨x0, x1, x2, x3, x4, x5, x6, x7, x8, x9, x10, x11, x12, x13, x14, x15, x16, x17, x18, x19, x20, x21, rfl⟩ := lenlit22 hl; clear hl
                simp only [factsL, atL, refV, List.getElem?_cons_succ, List.getElem?_cons_zero, List.getD_cons_succ, List.getD_cons_zero, RelL.one, RelL.any, RelL.blk, RelL.law, RBk] at hd
                obtain ⟨rfl, -⟩ := hd
                refine held ?_
                simp only [putAll, Act.put, List.setIfInBounds_toArray, List.set_cons_succ, List.set_cons_zero]
                have h20 : listed 20 = false := by cases h : listed 20 with | false => rfl | true => exact absurd (by decide) (hu 20 h)
                have hz2 := hI.2 h20
                have q := hz2.cell p4
                go_wp2_with fail
                exact relyE_done _ rfl rfl (Ext.refl _) ⟨hI.1, fun h => hI.2 (updE_false h)⟩
              refine stepsF_cons ?_ ?_
              · intro listed vs W' hl hI hd hs hn hu hz ho9
                refine hold ?_
                obtain ⟨x0, x1, x2, x3, x4, x5, x6, x7, x8, x9, x10, x11, x12, x13, x14, x15, x16, x17, x18, x19, x20, x21, rfl⟩ := lenlit22 hl; clear hl
                simp only [factsL, atL, refV, List.getElem?_cons_succ, List.getElem?_cons_zero, List.getD_cons_succ, List.getD_cons_zero, RelL.one, RelL.any, RelL.blk, RelL.law, RBk] at hd
                obtain ⟨rfl, -⟩ := hd
                refine held ?_
                simp only [putAll, Act.put, List.setIfInBounds_toArray, List.set_cons_succ, List.set_cons_zero]
                go_wp2_with fail
                exact relyE_done _ rfl rfl (Ext.refl _) ⟨hI.1, fun h => hI.2 (updE_false h)⟩
              refine stepsF_cons ?_ ?_
              · intro listed vs W' hl hI hd hs hn hu hz ho9
                refine hold ?_
                obtain ⟨x0, x1, x2, x3, x4, x5, x6, x7, x8, x9, x10, x11, x12, x13, x14, x15, x16, x17, x18, x19, x20, x21, rfl⟩ := lenlit22 hl; clear hl
                simp only [factsL, atL, refV, List.getElem?_cons_succ, List.getElem?_cons_zero, List.getD_cons_succ, List.getD_cons_zero, RelL.one, RelL.any, RelL.blk, RelL.law, RBk] at hd
                obtain ⟨rfl, rfl, -⟩ := hd
                refine held ?_
                simp only [putAll, Act.put, List.setIfInBounds_toArray, List.set_cons_succ, List.set_cons_zero]
                go_wp2_with fail
                exact relyE_done _ rfl rfl (Ext.refl _) ⟨hI.1, fun h => hI.2 (updE_false h)⟩
              refine stepsF_cons ?_ ?_
              · intro listed vs W' hl hI hd hs hn hu hz ho9
                refine hold ?_
                obtain ⟨x0, x1, x2, x3, x4, x5, x6, x7, x8, x9, x10, x11, x12, x13, x14, x15, x16, x17, x18, x19, x20, x21, rfl⟩ := lenlit22 hl; clear hl
                refine held ?_
                simp only [putAll, Act.put, List.setIfInBounds_toArray, List.set_cons_succ, List.set_cons_zero]
                go_wp2_with fail
                exact relyE_done _ rfl rfl (Ext.refl _) ⟨hI.1, fun h => hI.2 (updE_false h)⟩
              refine stepsF_cons ?_ ?_
              · intro listed vs W' hl hI hd hs hn hu hz ho9
                refine hold ?_
                obtain ⟨x0, x1, x2, x3, x4, x5, x6, x7, x8, x9, x10, x11, x12, x13, x14, x15, x16, x17, x18, x19, x20, x21, rfl⟩ := lenlit22 hl; clear hl
                simp only [factsL, atL, refV, List.getElem?_cons_succ, List.getElem?_cons_zero, List.getD_cons_succ, List.getD_cons_zero, RelL.one, RelL.any, RelL.blk, RelL.law, RBk] at hd
                obtain ⟨rfl, -⟩ := hd
                refine held ?_
                simp only [putAll, Act.put, List.setIfInBounds_toArray, List.set_cons_succ, List.set_cons_zero]
                go_wp2_with fail
                exact relyE_done _ rfl rfl (Ext.refl _) ⟨hI.1, fun h => hI.2 (updE_false h)⟩
              refine stepsF_cons ?_ ?_
              · intro listed vs W' hl hI hd hs hn hu hz ho9
                refine hold ?_
                obtain ⟨x0, x1, x2, x3, x4, x5, x6, x7, x8, x9, x10, x11, x12, x13, x14, x15, x16, x17, x18, x19, x20, x21, rfl⟩ := lenlit22 hl; clear hl
                simp only [factsL, atL, refV, List.getElem?_cons_succ, List.getElem?_cons_zero, List.getD_cons_succ, List.getD_cons_zero, RelL.one, RelL.any, RelL.blk, RelL.law, RBk] at hd
                obtain ⟨rfl, -⟩ := hd
                refine held ?_
                simp only [putAll, Act.put, List.setIfInBounds_toArray, List.set_cons_succ, List.set_cons_zero]
                have h20 : listed 20 = false := by cases h : listed 20 with | false => rfl | true => exact absurd (by decide) (hu 20 h)
                have hz2 := hI.2 h20
                have q := hz2.cell p5
                go_wp2_with fail
                exact relyE_done _ rfl rfl (Ext.refl _) ⟨hI.1, fun h => hI.2 (updE_false h)⟩
              refine stepsF_cons ?_ ?_
              · intro listed vs W' hl hI hd hs hn hu hz ho9
                refine hold ?_
                obtain ⟨x0, x1, x2, x3, x4, x5, x6, x7, x8, x9, x10, x11, x12, x13, x14, x15, x16, x17, x18, x19, x20, x21, rfl⟩ := lenlit22 hl; clear hl
                simp only [factsL, atL, refV, List.getElem?_cons_succ, List.getElem?_cons_zero, List.getD_cons_succ, List.getD_cons_zero, RelL.one, RelL.any, RelL.blk, RelL.law, RBk] at hd
                obtain ⟨rfl, rfl, -⟩ := hd
                refine held ?_
                simp only [putAll, Act.put, List.setIfInBounds_toArray, List.set_cons_succ, List.set_cons_zero]
                go_wp2_with fail
                exact relyE_done _ rfl rfl (Ext.refl _) ⟨hI.1, fun h => hI.2 (updE_false h)⟩
              refine stepsF_cons ?_ ?_
              · intro listed vs W' hl hI hd hs hn hu hz ho9
                refine hold ?_
                obtain ⟨x0, x1, x2, x3, x4, x5, x6, x7, x8, x9, x10, x11, x12, x13, x14, x15, x16, x17, x18, x19, x20, x21, rfl⟩ := lenlit22 hl; clear hl
                simp only [factsL, atL, refV, List.getElem?_cons_succ, List.getElem?_cons_zero, List.getD_cons_succ, List.getD_cons_zero, RelL.one, RelL.any, RelL.blk, RelL.law, RBk] at hd
                obtain ⟨rfl, -⟩ := hd
                refine held ?_
                simp only [putAll, Act.put, List.setIfInBounds_toArray, List.set_cons_succ, List.set_cons_zero]
                go_wp2_with fail
                exact relyE_done _ rfl rfl (Ext.refl _) ⟨hI.1, fun h => hI.2 (updE_false h)⟩
              refine stepsF_cons ?_ ?_
              · intro listed vs W' hl hI hd hs hn hu hz ho9
                refine hold ?_
                obtain ⟨x0, x1, x2, x3, x4, x5, x6, x7, x8, x9, x10, x11, x12, x13, x14, x15, x16, x17, x18, x19, x20, x21, rfl⟩ := lenlit22 hl; clear hl
                refine held ?_
                simp only [putAll, Act.put, List.setIfInBounds_toArray, List.set_cons_succ, List.set_cons_zero]
                go_wp2_with fail
                exact relyE_done _ rfl rfl (Ext.refl _) ⟨hI.1, fun h => hI.2 (updE_false h)⟩
              refine stepsF_cons ?_ ?_
              · intro listed vs W' hl hI hd hs hn hu hz ho9
                refine hold ?_
                obtain ⟨x0, x1, x2, x3, x4, x5, x6, x7, x8, x9, x10, x11, x12, x13, x14, x15, x16, x17, x18, x19, x20, x21, rfl⟩ := lenlit22 hl; clear hl
                simp only [factsL, atL, refV, List.getElem?_cons_succ, List.getElem?_cons_zero, List.getD_cons_succ, List.getD_cons_zero, RelL.one, RelL.any, RelL.blk, RelL.law, RBk] at hd
                obtain ⟨rfl, -⟩ := hd
                refine held ?_
                simp only [putAll, Act.put, List.setIfInBounds_toArray, List.set_cons_succ, List.set_cons_zero]
                go_wp2_with fail
                exact relyE_done _ rfl rfl (Ext.refl _) ⟨hI.1, fun h => hI.2 (updE_false h)⟩
              refine stepsF_cons ?_ ?_
              · intro listed vs W' hl hI hd hs hn hu hz ho9
                refine hold ?_
                obtain ⟨x0, x1, x2, x3, x4, x5, x6, x7, x8, x9, x10, x11, x12, x13, x14, x15, x16, x17, x18, x19, x20, x21, rfl⟩ := lenlit22 hl; clear hl
                simp only [factsL, atL, refV, List.getElem?_cons_succ, List.getElem?_cons_zero, List.getD_cons_succ, List.getD_cons_zero, RelL.one, RelL.any, RelL.blk, RelL.law, RBk] at hd
                obtain ⟨rfl, -⟩ := hd
                refine held ?_
                simp only [putAll, Act.put, List.setIfInBounds_toArray, List.set_cons_succ, List.set_cons_zero]
                have h20 : listed 20 = false := by cases h : listed 20 with | false => rfl | true => exact absurd (by decide) (hu 20 h)
                have hz2 := hI.2 h20
                have q := hz2.cell p6
                go_wp2_with fail
                exact relyE_done _ rfl rfl (Ext.refl _) ⟨hI.1, fun h => hI.2 (updE_false h)⟩
              refine stepsF_cons ?_ ?_
              · intro listed vs W' hl hI hd hs hn hu hz ho9
                refine hold ?_
                obtain ⟨x0, x1, x2, x3, x4, x5, x6, x7, x8, x9, x10, x11, x12, x13, x14, x15, x16, x17, x18, x19, x20, x21, rfl⟩ := lenlit22 hl; clear hl
                simp only [factsL, atL, refV, List.getElem?_cons_succ, List.getElem?_cons_zero, List.getD_cons_succ, List.getD_cons_zero, RelL.one, RelL.any, RelL.blk, RelL.law, RBk] at hd
                obtain ⟨rfl, rfl, -⟩ := hd
                refine held ?_
                simp only [putAll, Act.put, List.setIfInBounds_toArray, List.set_cons_succ, List.set_cons_zero]
                go_wp2_with fail
                exact relyE_done _ rfl rfl (Ext.refl _) ⟨hI.1, fun h => hI.2 (updE_false h)⟩
              refine stepsF_cons ?_ ?_
              · intro listed vs W' hl hI hd hs hn hu hz ho9
                refine hold ?_
                obtain ⟨x0, x1, x2, x3, x4, x5, x6, x7, x8, x9, x10, x11, x12, x13, x14, x15, x16, x17, x18, x19, x20, x21, rfl⟩ := lenlit22 hl; clear hl
                simp only [factsL, atL, refV, List.getElem?_cons_succ, List.getElem?_cons_zero, List.getD_cons_succ, List.getD_cons_zero, RelL.one, RelL.any, RelL.blk, RelL.law, RBk] at hd
                obtain ⟨rfl, rfl, -⟩ := hd
                refine held ?_
                simp only [putAll, Act.put, List.setIfInBounds_toArray, List.set_cons_succ, List.set_cons_zero]
                go_wp2_with fail
                exact relyE_done _ rfl rfl (Ext.refl _) ⟨hI.1, fun h => hI.2 (updE_false h)⟩
              refine stepsF_cons ?_ ?_
              · intro listed vs W' hl hI hd hs hn hu hz ho9
                refine hold ?_
                obtain ⟨x0, x1, x2, x3, x4, x5, x6, x7, x8, x9, x10, x11, x12, x13, x14, x15, x16, x17, x18, x19, x20, x21, rfl⟩ := lenlit22 hl; clear hl
                simp only [factsL, atL, refV, List.getElem?_cons_succ, List.getElem?_cons_zero, List.getD_cons_succ, List.getD_cons_zero, RelL.one, RelL.any, RelL.blk, RelL.law, RBk] at hd
                obtain ⟨rfl, -⟩ := hd
                refine held ?_
                simp only [putAll, Act.put, List.setIfInBounds_toArray, List.set_cons_succ, List.set_cons_zero]
                have hz2 := hI.2 hz
                have hBz := hB.ext hz2
                have g0 := hBz.c 0 _ rfl
                have g1 := hBz.c 1 _ rfl
                have f0 := hBz.free 0
                have f1 := hBz.free 1
                have hst := hBz.set2 (.int .i64 DY) (.int .i64 ((n3 * 3600 + n4 * 60 + n5) * 1000000 + n6))
                have hI2 := (hI.1.setCell (p := ⟨b, 0, none⟩) hbs (.int .i64 DY)).setCell (p := ⟨b, 1, none⟩) hbs (.int .i64 ((n3 * 3600 + n4 * 60 + n5) * 1000000 + n6))
                go_wp2_with fail
                exact relyE_store undef rfl hst (by simp) ⟨fun _ _ h => h, fun _ _ h => h, fun _ _ h => h, fun _ _ h => h, fun _ _ h => h, fun _ _ h => h, fun _ _ h => h, fun _ _ h => h, fun _ _ h => h, fun _ _ h => h, fun _ _ h => h, fun _ _ h => h, fun _ _ h => h, fun _ _ h => h, fun _ _ h => h, fun _ _ h => h, fun _ _ h => h, fun _ _ h => h, fun _ _ h => h, fun _ _ h => h, fun _ hk _ => absurd rfl hk, fun _ _ h => h, trivial⟩ ⟨hI2, fun h => by simp [updE] at h⟩
              refine stepsF_cons ?_ ?_
              · intro listed vs W' hl hI hd hs hn hu hz ho9
                refine hold ?_
                obtain ⟨x0, x1, x2, x3, x4, x5, x6, x7, x8, x9, x10, x11, x12, x13, x14, x15, x16, x17, x18, x19, x20, x21, rfl⟩ := lenlit22 hl; clear hl
                refine held ?_
                simp only [putAll, Act.put, List.setIfInBounds_toArray, List.set_cons_succ, List.set_cons_zero]
                go_wp2_with fail
                exact relyE_done _ rfl rfl (Ext.refl _) ⟨hI.1, fun h => hI.2 (updE_false h)⟩
              exact trivial
            · intro listed vs W' hl hall hI hd hn
              obtain ⟨x0, x1, x2, x3, x4, x5, x6, x7, x8, x9, x10, x11, x12, x13, x14, x15, x16, x17, x18, x19, x20, x21, rfl⟩ := lenlit22 hl; clear hl
              simp only [List.length_cons, List.length_nil, List.range, List.range.loop, Nat.zero_add, Nat.reduceAdd, factsL, atL, refV, List.getElem?_cons_succ, List.getElem?_cons_zero, List.getD_cons_succ, List.getD_cons_zero, RelL.one, RelL.any, RelL.blk, RelL.law, RBk] at hd
              obtain ⟨rfl, rfl, rfl, rfl, rfl, rfl, rfl, rfl, rfl, rfl, rfl, rfl, rfl, rfl, rfl, rfl, rfl, rfl, rfl, rfl, h20, rfl, -⟩ := hd
              simp only [putAll, Act.put, List.setIfInBounds_toArray, List.set_cons_succ, List.set_cons_zero]
              go_wp2_with fail
              exact bodyPost_ret (res_parse _ b DY ((n3 * 3600 + n4 * 60 + n5) * 1000000 + n6) 0 _ (by rfl) (by rfl) h20) rfl ⟨by rw [HRF.out], hI.1⟩
          · have HN7 := Lib.hid q7
            have fin : n3 = 23 → n4 = 59 → ¬ n5 = 60 := fun a b c => q7 ⟨a, b, c⟩
            have HFIN := Lib.hid fin
            clear q7 fin
            by_cases q3 : n3 = 23
            · by_cases q4 : n4 = 59
              · have q5 : ¬ n5 = 60 := HFIN.out q3 q4
                have q8 : (n5 == 60) = false := by simp; exact q5
                have q9 := HFIN.out
                clear q9
                have HRF : Hid (prsF l = ((0, 0), 7)) := Lib.hid (by rw [HR.out, if_neg (fun h => h (by unfold BadT; have := HN7.out; omega))])
                go_wp2_with fail
                all_goals first | exact bodyPost_ret (res_parse _ b 0 0 7 _ (by rfl) (by rfl) (hB.set2 _ _)) rfl ⟨by rw [HRF.out], (hE.setCell (p := ⟨b, 0, none⟩) hbs _).setCell (p := ⟨b, 1, none⟩) hbs _⟩ | (exfalso; simp_all)
              · have q9 := HFIN.out
                clear q9
                have HRF : Hid (prsF l = ((0, 0), 7)) := Lib.hid (by rw [HR.out, if_neg (fun h => h (by unfold BadT; have := HN7.out; omega))])
                go_wp2_with fail
                all_goals first | exact bodyPost_ret (res_parse _ b 0 0 7 _ (by rfl) (by rfl) (hB.set2 _ _)) rfl ⟨by rw [HRF.out], (hE.setCell (p := ⟨b, 0, none⟩) hbs _).setCell (p := ⟨b, 1, none⟩) hbs _⟩ | (exfalso; simp_all)
            · have q9 := HFIN.out
              clear q9
              have HRF : Hid (prsF l = ((0, 0), 7)) := Lib.hid (by rw [HR.out, if_neg (fun h => h (by unfold BadT; have := HN7.out; omega))])
              go_wp2_with fail
              all_goals first | exact bodyPost_ret (res_parse _ b 0 0 7 _ (by rfl) (by rfl) (hB.set2 _ _)) rfl ⟨by rw [HRF.out], (hE.setCell (p := ⟨b, 0, none⟩) hbs _).setCell (p := ⟨b, 1, none⟩) hbs _⟩ | (exfalso; simp_all)
        · by_cases q3 : n3 = 23
          · by_cases q4 : n4 = 59
            · have q5 : ¬ n5 = 60 := by omega
              have q8 : (n5 == 60) = false := by simp; exact q5
              have HRF : Hid (prsF l = ((DY, ((n3 * 3600 + n4 * 60 + n5) * 1000000 + n6)), 0)) := Lib.hid (by rw [HR.out, if_pos (by unfold BadT; omega)])
              go_upto_region 8 with fail
              clear q0 q1 q2 q3 q4 q5 q6 g0 g1 f0 f1
              have hEz := hE
              generalize V2 = Vz at *
              refine region_relyF (fun listed W' => Ext w W' ∧ (listed 20 = false → Ext Vz W')) [some 77, some 78, some 79, some 80, some 81, some 82, some 83, some 84, some 85, some 86, some 87, some 88, some 89, some 90, some 91, some 92, some 93, some 94, some 95, some 96, none, some 3] [[], [], [1], [1, 2], [1, 2, 3], [], [5], [5, 6], [5, 6, 7], [1, 2, 3, 4, 5, 6, 7, 8], [], [10], [10, 11], [1, 2, 3, 4, 5, 6, 7, 8, 9, 10, 11, 12], [1, 2, 3, 4, 5, 6, 7, 8, 9, 10, 11, 12, 13], [], [15], [15, 16], [1, 2, 3, 4, 5, 6, 7, 8, 9, 10, 11, 12, 13, 14, 15, 16, 17], [0, 1, 2, 3, 4, 5, 6, 7, 8, 9, 10, 11, 12, 13, 14, 15, 16, 17, 18], [0, 1, 2, 3, 4, 5, 6, 7, 8, 9, 10, 11, 12, 13, 14, 15, 16, 17, 18, 19], [0, 1, 2, 3, 4, 5, 6, 7, 8, 9, 10, 11, 12, 13, 14, 15, 16, 17, 18, 19, 20]] [[], [], [1], [2], [3], [], [5], [6], [7], [4, 8], [], [10], [11], [9, 12], [13], [], [15], [16], [14, 17], [0, 18], [19], []] [none, none, none, none, none, none, none, none, none, none, none, none, none, none, none, none, none, none, none, none, none, none] [false, false, false, false, false, false, false, false, false, false, false, false, false, false, false, false, false, false, false, false, false, false] [.one (.int .i64 DY), .one (.slice (some ⟨g, 0, none⟩) 7 cc), .one (.pointer (some ⟨g, 3, none⟩)), .one (.int .i64 n3), .one (.int .i64 (n3 * 3600)), .one (.slice (some ⟨g, 0, none⟩) 7 cc), .one (.pointer (some ⟨g, 4, none⟩)), .one (.int .i64 n4), .one (.int .i64 (n4 * 60)), .one (.int .i64 (n3 * 3600 + n4 * 60)), .one (.slice (some ⟨g, 0, none⟩) 7 cc), .one (.pointer (some ⟨g, 5, none⟩)), .one (.int .i64 n5), .one (.int .i64 (n3 * 3600 + n4 * 60 + n5)), .one (.int .i64 ((n3 * 3600 + n4 * 60 + n5) * 1000000)), .one (.slice (some ⟨g, 0, none⟩) 7 cc), .one (.pointer (some ⟨g, 6, none⟩)), .one (.int .i64 n6), .one (.int .i64 ((n3 * 3600 + n4 * 60 + n5) * 1000000 + n6)), .one (.agg #[.int .i64 DY, .int .i64 ((n3 * 3600 + n4 * 60 + n5) * 1000000 + n6)]), RBk b 24 #[.int .i64 DY, .int .i64 ((n3 * 3600 + n4 * 60 + n5) * 1000000 + n6)], .one (.int .i64 0)] (by kernel_rfl) (by kernel_rfl) rfl ⟨hEz.drew, fun _ => (Ext.refl Vz).drew⟩ ?_ ?_
              · refine stepsF_cons ?_ ?_
                · intro listed vs W' hl hI hd hs hn hu hz ho9
                  refine hold ?_
                  obtain ⟨x0, x1, x2, x3, x4, x5, x6, x7, x8, x9, x10, x11, x12, x13, x14, x15, x16, x17, x18, x19, x20, x21, rfl⟩ := lenlit22 hl; clear hl
                  refine held ?_
                  simp only [putAll, Act.put, List.setIfInBounds_toArray, List.set_cons_succ, List.set_cons_zero]
                  go_wp2_with fail
                  exact relyE_done _ rfl rfl (Ext.refl _) ⟨hI.1, fun h => hI.2 (updE_false h)⟩
                refine stepsF_cons ?_ ?_
                · intro listed vs W' hl hI hd hs hn hu hz ho9
                  refine hold ?_
                  obtain ⟨x0, x1, x2, x3, x4, x5, x6, x7, x8, x9, x10, x11, x12, x13, x14, x15, x16, x17, x18, x19, x20, x21, rfl⟩ := lenlit22 hl; clear hl
                  refine held ?_
                  simp only [putAll, Act.put, List.setIfInBounds_toArray, List.set_cons_succ, List.set_cons_zero]
                  go_wp2_with fail
                  exact relyE_done _ rfl rfl (Ext.refl _) ⟨hI.1, fun h => hI.2 (updE_false h)⟩
                refine stepsF_cons ?_ ?_
                · intro listed vs W' hl hI hd hs hn hu hz ho9
                  refine hold ?_
                  obtain ⟨x0, x1, x2, x3, x4, x5, x6, x7, x8, x9, x10, x11, x12, x13, x14, x15, x16, x17, x18, x19, x20, x21, rfl⟩ := lenlit22 hl; clear hl
                  simp only [factsL, atL, refV, List.getElem?_cons_succ, List.getElem?_cons_zero, List.getD_cons_succ, List.getD_cons_zero, RelL.one, RelL.any, RelL.blk, RelL.law, RBk] at hd
                  obtain ⟨rfl, -⟩ := hd
                  refine held ?_
                  simp only [putAll, Act.put, List.setIfInBounds_toArray, List.set_cons_succ, List.set_cons_zero]
                  go_wp2_with fail
                  exact relyE_done _ rfl rfl (Ext.refl _) ⟨hI.1, fun h => hI.2 (updE_false h)⟩
                refine stepsF_cons ?_ ?_
                · intro listed vs W' hl hI hd hs hn hu hz ho9
                  refine hold ?_
                  obtain ⟨x0, x1, x2, x3, x4, x5, x6, x7, x8, x9, x10, x11, x12, x13, x14, x15, x16, x17, x18, x19, x20, x21, rfl⟩ := lenlit22 hl; clear hl
                  simp only [factsL, atL, refV, List.getElem?_cons_succ, List.getElem?_cons_zero, List.getD_cons_succ, List.getD_cons_zero, RelL.one, RelL.any, RelL.blk, RelL.law, RBk] at hd
                  obtain ⟨rfl, -⟩ := hd
                  refine held ?_
                  simp only [putAll, Act.put, List.setIfInBounds_toArray, List.set_cons_succ, List.set_cons_zero]
                  have h20 : listed 20 = false := by cases h : listed 20 with | false => rfl | true => exact absurd (by decide) (hu 20 h)
                  have hz2 := hI.2 h20
                  have q := hz2.cell p3
                  go_wp2_with fail
                  exact relyE_done _ rfl rfl (Ext.refl _) ⟨hI.1, fun h => hI.2 (updE_false h)⟩
                refine stepsF_cons ?_ ?_
                · intro listed vs W' hl hI hd hs hn hu hz ho9
                  refine hold ?_
                  obtain ⟨x0, x1, x2, x3, x4, x5, x6, x7, x8, x9, x10, x11, x12, x13, x14, x15, x16, x17, x18, x19, x20, x21, rfl⟩ := lenlit22 hl; clear hl
                  simp only [factsL, atL, refV, List.getElem?_cons_succ, List.getElem?_cons_zero, List.getD_cons_succ, List.getD_cons_zero, RelL.one, RelL.any, RelL.blk, RelL.law, RBk] at hd
                  obtain ⟨rfl, -⟩ := hd
                  refine held ?_
                  simp only [putAll, Act.put, List.setIfInBounds_toArray, List.set_cons_succ, List.set_cons_zero]
                  go_wp2_with fail
                  exact relyE_done _ rfl rfl (Ext.refl _) ⟨hI.1, fun h => hI.2 (updE_false h)⟩
                refine stepsF_cons ?_ ?_
                · intro listed vs W' hl hI hd hs hn hu hz ho9
                  refine hold ?_
                  obtain ⟨x0, x1, x2, x3, x4, x5, x6, x7, x8, x9, x10, x11, x12, x13, x14, x15, x16, x17, x18, x19, x20, x21, rfl⟩ := lenlit22 hl; clear hl
                  refine held ?_
                  simp only [putAll, Act.put, List.setIfInBounds_toArray, List.set_cons_succ, List.set_cons_zero]
                  go_wp2_with fail
                  exact relyE_done _ rfl rfl (Ext.refl _) ⟨hI.1, fun h => hI.2 (updE_false h)⟩
                refine stepsF_cons ?_ ?_
                · intro listed vs W' hl hI hd hs hn hu hz ho9
                  refine hold ?_
                  obtain ⟨x0, x1, x2, x3, x4, x5, x6, x7, x8, x9, x10, x11, x12, x13, x14, x15, x16, x17, x18, x19, x20, x21, rfl⟩ := lenlit22 hl; clear hl
                  simp only [factsL, atL, refV, List.getElem?_cons_succ, List.getElem?_cons_zero, List.getD_cons_succ, List.getD_cons_zero, RelL.one, RelL.any, RelL.blk, RelL.law, RBk] at hd
                  obtain ⟨rfl, -⟩ := hd
                  refine held ?_
                  simp only [putAll, Act.put, List.setIfInBounds_toArray, List.set_cons_succ, List.set_cons_zero]
                  go_wp2_with fail
                  exact relyE_done _ rfl rfl (Ext.refl _) ⟨hI.1, fun h => hI.2 (updE_false h)⟩
                refine stepsF_cons ?_ ?_
                · intro listed vs W' hl hI hd hs hn hu hz ho9
                  refine hold ?_
                  obtain ⟨x0, x1, x2, x3, x4, x5, x6, x7, x8, x9, x10, x11, x12, x13, x14, x15, x16, x17, x18, x19, x20, x21, rfl⟩ := lenlit22 hl; clear hl
                  simp only [factsL, atL, refV, List.getElem?_cons_succ, List.getElem?_cons_zero, List.getD_cons_succ, List.getD_cons_zero, RelL.one, RelL.any, RelL.blk, RelL.law, RBk] at hd
                  obtain ⟨rfl, -⟩ := hd
                  refine held ?_
                  simp only [putAll, Act.put, List.setIfInBounds_toArray, List.set_cons_succ, List.set_cons_zero]
                  have h20 : listed 20 = false := by cases h : listed 20 with | false => rfl | true => exact absurd (by decide) (hu 20 h)
                  have hz2 := hI.2 h20
                  have q := hz2.cell p4
                  go_wp2_with fail
                  exact relyE_done _ rfl rfl (Ext.refl _) ⟨hI.1, fun h => hI.2 (updE_false h)⟩
                refine stepsF_cons ?_ ?_
                · intro listed vs W' hl hI hd hs hn hu hz ho9
                  refine hold ?_
                  obtain ⟨x0, x1, x2, x3, x4, x5, x6, x7, x8, x9, x10, x11, x12, x13, x14, x15, x16, x17, x18, x19, x20, x21, rfl⟩ := lenlit22 hl; clear hl
                  simp only [factsL, atL, refV, List.getElem?_cons_succ, List.getElem?_cons_zero, List.getD_cons_succ, List.getD_cons_zero, RelL.one, RelL.any, RelL.blk, RelL.law, RBk] at hd
                  obtain ⟨rfl, -⟩ := hd
                  refine held ?_
                  simp only [putAll, Act.put, List.setIfInBounds_toArray, List.set_cons_succ, List.set_cons_zero]
                  go_wp2_with fail
                  exact relyE_done _ rfl rfl (Ext.refl _) ⟨hI.1, fun h => hI.2 (updE_false h)⟩
                refine stepsF_cons ?_ ?_
                · intro listed vs W' hl hI hd hs hn hu hz ho9
                  refine hold ?_
                  obtain ⟨x0, x1, x2, x3, x4, x5, x6, x7, x8, x9, x10, x11, x12, x13, x14, x15, x16, x17, x18, x19, x20, x21, rfl⟩ := lenlit22 hl; clear hl
                  simp only [factsL, atL, refV, List.getElem?_cons_succ, List.getElem?_cons_zero, List.getD_cons_succ, List.getD_cons_zero, RelL.one, RelL.any, RelL.blk, RelL.law, RBk] at hd
                  obtain ⟨rfl, rfl, -⟩ := hd
                  refine held ?_
                  simp only [putAll, Act.put, List.setIfInBounds_toArray, List.set_cons_succ, List.set_cons_zero]
                  go_wp2_with fail
                  exact relyE_done _ rfl rfl (Ext.refl _) ⟨hI.1, fun h => hI.2 (updE_false h)⟩
                refine stepsF_cons ?_ ?_
                · intro listed vs W' hl hI hd hs hn hu hz ho9
                  refine hold ?_
                  obtain ⟨x0, x1, x2, x3, x4, x5, x6, x7, x8, x9, x10, x11, x12, x13, x14, x15, x16, x17, x18, x19, x20, x21, rfl⟩ := lenlit22 hl; clear hl
                  refine held ?_
                  simp only [putAll, Act.put, List.setIfInBounds_toArray, List.set_cons_succ, List.set_cons_zero]
                  go_wp2_with fail
                  exact relyE_done _ rfl rfl (Ext.refl _) ⟨hI.1, fun h => hI.2 (updE_false h)⟩
                refine stepsF_cons ?_ ?_
                · intro listed vs W' hl hI hd hs hn hu hz ho9
                  refine hold ?_
                  obtain ⟨x0, x1, x2, x3, x4, x5, x6, x7, x8, x9, x10, x11, x12, x13, x14, x15, x16, x17, x18, x19, x20, x21, rfl⟩ := lenlit22 hl; clear hl
                  simp only [factsL, atL, refV, List.getElem?_cons_succ, List.getElem?_cons_zero, List.getD_cons_succ, List.getD_cons_zero, RelL.one, RelL.any, RelL.blk, RelL.law, RBk] at hd
                  obtain ⟨rfl, -⟩ := hd
                  refine held ?_
                  simp only [putAll, Act.put, List.setIfInBounds_toArray, List.set_cons_succ, List.set_cons_zero]
                  go_wp2_with fail
                  exact relyE_done _ rfl rfl (Ext.refl _) ⟨hI.1, fun h => hI.2 (updE_false h)⟩
                refine stepsF_cons ?_ ?_
                · intro listed vs W' hl hI hd hs hn hu hz ho9
                  refine hold ?_
                  obtain ⟨x0, x1, x2, x3, x4, x5, x6, x7, x8, x9, x10, x11, x12, x13, x14, x15, x16, x17, x18, x19, x20, x21, rfl⟩ := lenlit22 hl; clear hl
                  simp only [factsL, atL, refV, List.getElem?_cons_succ, List.getElem?_cons_zero, List.getD_cons_succ, List.getD_cons_zero, RelL.one, RelL.any, RelL.blk, RelL.law, RBk] at hd
                  obtain ⟨rfl, -⟩ := hd
                  refine held ?_
                  simp only [putAll, Act.put, List.setIfInBounds_toArray, List.set_cons_succ, List.set_cons_zero]
                  have h20 : listed 20 = false := by cases h : listed 20 with | false => rfl | true => exact absurd (by decide) (hu 20 h)
                  have hz2 := hI.2 h20
                  have q := hz2.cell p5
                  go_wp2_with fail
                  exact relyE_done _ rfl rfl (Ext.refl _) ⟨hI.1, fun h => hI.2 (updE_false h)⟩
                refine stepsF_cons ?_ ?_
                · intro listed vs W' hl hI hd hs hn hu hz ho9
                  refine hold ?_
                  obtain ⟨x0, x1, x2, x3, x4, x5, x6, x7, x8, x9, x10, x11, x12, x13, x14, x15, x16, x17, x18, x19, x20, x21, rfl⟩ := lenlit22 hl; clear hl
                  simp only [factsL, atL, refV, List.getElem?_cons_succ, List.getElem?_cons_zero, List.getD_cons_succ, List.getD_cons_zero, RelL.one, RelL.any, RelL.blk, RelL.law, RBk] at hd
                  obtain ⟨rfl, rfl, -⟩ := hd
                  refine held ?_
                  simp only [putAll, Act.put, List.setIfInBounds_toArray, List.set_cons_succ, List.set_cons_zero]
                  go_wp2_with fail
                  exact relyE_done _ rfl rfl (Ext.refl _) ⟨hI.1, fun h => hI.2 (updE_false h)⟩
                refine stepsF_cons ?_ ?_
                · intro listed vs W' hl hI hd hs hn hu hz ho9
                  refine hold ?_
                  obtain ⟨x0, x1, x2, x3, x4, x5, x6, x7, x8, x9, x10, x11, x12, x13, x14, x15, x16, x17, x18, x19, x20, x21, rfl⟩ := lenlit22 hl; clear hl
                  simp only [factsL, atL, refV, List.getElem?_cons_succ, List.getElem?_cons_zero, List.getD_cons_succ, List.getD_cons_zero, RelL.one, RelL.any, RelL.blk, RelL.law, RBk] at hd
                  obtain ⟨rfl, -⟩ := hd
                  refine held ?_
                  simp only [putAll, Act.put, List.setIfInBounds_toArray, List.set_cons_succ, List.set_cons_zero]
                  go_wp2_with fail
                  exact relyE_done _ rfl rfl (Ext.refl _) ⟨hI.1, fun h => hI.2 (updE_false h)⟩
                refine stepsF_cons ?_ ?_
                · intro listed vs W' hl hI hd hs hn hu hz ho9
                  refine hold ?_
                  obtain ⟨x0, x1, x2, x3, x4, x5, x6, x7, x8, x9, x10, x11, x12, x13, x14, x15, x16, x17, x18, x19, x20, x21, rfl⟩ := lenlit22 hl; clear hl
                  refine held ?_
                  simp only [putAll, Act.put, List.setIfInBounds_toArray, List.set_cons_succ, List.set_cons_zero]
                  go_wp2_with fail
                  exact relyE_done _ rfl rfl (Ext.refl _) ⟨hI.1, fun h => hI.2 (updE_false h)⟩
                refine stepsF_cons ?_ ?_
                · intro listed vs W' hl hI hd hs hn hu hz ho9
                  refine hold ?_
                  obtain ⟨x0, x1, x2, x3, x4, x5, x6, x7, x8, x9, x10, x11, x12, x13, x14, x15, x16, x17, x18, x19, x20, x21, rfl⟩ := lenlit22 hl; clear hl
                  simp only [factsL, atL, refV, List.getElem?_cons_succ, List.getElem?_cons_zero, List.getD_cons_succ, List.getD_cons_zero, RelL.one, RelL.any, RelL.blk, RelL.law, RBk] at hd
                  obtain ⟨rfl, -⟩ := hd
                  refine held ?_
                  simp only [putAll, Act.put, List.setIfInBounds_toArray, List.set_cons_succ, List.set_cons_zero]
                  go_wp2_with fail
                  exact relyE_done _ rfl rfl (Ext.refl _) ⟨hI.1, fun h => hI.2 (updE_false h)⟩
                refine stepsF_cons ?_ ?_
                · intro listed vs W' hl hI hd hs hn hu hz ho9
                  refine hold ?_
                  obtain ⟨x0, x1, x2, x3, x4, x5, x6, x7, x8, x9, x10, x11, x12, x13, x14, x15, x16, x17, x18, x19, x20, x21, rfl⟩ := lenlit22 hl; clear hl
                  simp only [factsL, atL, refV, List.getElem?_cons_succ, List.getElem?_cons_zero, List.getD_cons_succ, List.getD_cons_zero, RelL.one, RelL.any, RelL.blk, RelL.law, RBk] at hd
                  obtain ⟨rfl, -⟩ := hd
                  refine held ?_
                  simp only [putAll, Act.put, List.setIfInBounds_toArray, List.set_cons_succ, List.set_cons_zero]
                  have h20 : listed 20 = false := by cases h : listed 20 with | false => rfl | true => exact absurd (by decide) (hu 20 h)
                  have hz2 := hI.2 h20
                  have q := hz2.cell p6
                  go_wp2_with fail
                  exact relyE_done _ rfl rfl (Ext.refl _) ⟨hI.1, fun h => hI.2 (updE_false h)⟩
                refine stepsF_cons ?_ ?_
                · intro listed vs W' hl hI hd hs hn hu hz ho9
                  refine hold ?_
                  obtain ⟨x0, x1, x2, x3, x4, x5, x6, x7, x8, x9, x10, x11, x12, x13, x14, x15, x16, x17, x18, x19, x20, x21, rfl⟩ := lenlit22 hl; clear hl
                  simp only [factsL, atL, refV, List.getElem?_cons_succ, List.getElem?_cons_zero, List.getD_cons_succ, List.getD_cons_zero, RelL.one, RelL.any, RelL.blk, RelL.law, RBk] at hd
                  obtain ⟨rfl, rfl, -⟩ := hd
                  refine held ?_
                  simp only [putAll, Act.put, List.setIfInBounds_toArray, List.set_cons_succ, List.set_cons_zero]
                  go_wp2_with fail
                  exact relyE_done _ rfl rfl (Ext.refl _) ⟨hI.1, fun h => hI.2 (updE_false h)⟩
                refine stepsF_cons ?_ ?_
                · intro listed vs W' hl hI hd hs hn hu hz ho9
                  refine hold ?_
                  obtain ⟨x0, x1, x2, x3, x4, x5, x6, x7, x8, x9, x10, x11, x12, x13, x14, x15, x16, x17, x18, x19, x20, x21, rfl⟩ := lenlit22 hl; clear hl
                  simp only [factsL, atL, refV, List.getElem?_cons_succ, List.getElem?_cons_zero, List.getD_cons_succ, List.getD_cons_zero, RelL.one, RelL.any, RelL.blk, RelL.law, RBk] at hd
                  obtain ⟨rfl, rfl, -⟩ := hd
                  refine held ?_
                  simp only [putAll, Act.put, List.setIfInBounds_toArray, List.set_cons_succ, List.set_cons_zero]
                  go_wp2_with fail
                  exact relyE_done _ rfl rfl (Ext.refl _) ⟨hI.1, fun h => hI.2 (updE_false h)⟩
                refine stepsF_cons ?_ ?_
                · intro listed vs W' hl hI hd hs hn hu hz ho9
                  refine hold ?_
                  obtain ⟨x0, x1, x2, x3, x4, x5, x6, x7, x8, x9, x10, x11, x12, x13, x14, x15, x16, x17, x18, x19, x20, x21, rfl⟩ := lenlit22 hl; clear hl
                  simp only [factsL, atL, refV, List.getElem?_cons_succ, List.getElem?_cons_zero, List.getD_cons_succ, List.getD_cons_zero, RelL.one, RelL.any, RelL.blk, RelL.law, RBk] at hd
                  obtain ⟨rfl, -⟩ := hd
                  refine held ?_
                  simp only [putAll, Act.put, List.setIfInBounds_toArray, List.set_cons_succ, List.set_cons_zero]
                  have hz2 := hI.2 hz
                  have hBz := hB.ext hz2
                  have g0 := hBz.c 0 _ rfl
                  have g1 := hBz.c 1 _ rfl
                  have f0 := hBz.free 0
                  have f1 := hBz.free 1
                  have hst := hBz.set2 (.int .i64 DY) (.int .i64 ((n3 * 3600 + n4 * 60 + n5) * 1000000 + n6))
                  have hI2 := (hI.1.setCell (p := ⟨b, 0, none⟩) hbs (.int .i64 DY)).setCell (p := ⟨b, 1, none⟩) hbs (.int .i64 ((n3 * 3600 + n4 * 60 + n5) * 1000000 + n6))
                  go_wp2_with fail
                  exact relyE_store undef rfl hst (by simp) ⟨fun _ _ h => h, fun _ _ h => h, fun _ _ h => h, fun _ _ h => h, fun _ _ h => h, fun _ _ h => h, fun _ _ h => h, fun _ _ h => h, fun _ _ h => h, fun _ _ h => h, fun _ _ h => h, fun _ _ h => h, fun _ _ h => h, fun _ _ h => h, fun _ _ h => h, fun _ _ h => h, fun _ _ h => h, fun _ _ h => h, fun _ _ h => h, fun _ _ h => h, fun _ hk _ => absurd rfl hk, fun _ _ h => h, trivial⟩ ⟨hI2, fun h => by simp [updE] at h⟩
                refine stepsF_cons ?_ ?_
                · intro listed vs W' hl hI hd hs hn hu hz ho9
                  refine hold ?_
                  obtain ⟨x0, x1, x2, x3, x4, x5, x6, x7, x8, x9, x10, x11, x12, x13, x14, x15, x16, x17, x18, x19, x20, x21, rfl⟩ := lenlit22 hl; clear hl
                  refine held ?_
                  simp only [putAll, Act.put, List.setIfInBounds_toArray, List.set_cons_succ, List.set_cons_zero]
                  go_wp2_with fail
                  exact relyE_done _ rfl rfl (Ext.refl _) ⟨hI.1, fun h => hI.2 (updE_false h)⟩
                exact trivial
              · intro listed vs W' hl hall hI hd hn
                obtain ⟨x0, x1, x2, x3, x4, x5, x6, x7, x8, x9, x10, x11, x12, x13, x14, x15, x16, x17, x18, x19, x20, x21, rfl⟩ := lenlit22 hl; clear hl
                simp only [List.length_cons, List.length_nil, List.range, List.range.loop, Nat.zero_add, Nat.reduceAdd, factsL, atL, refV, List.getElem?_cons_succ, List.getElem?_cons_zero, List.getD_cons_succ, List.getD_cons_zero, RelL.one, RelL.any, RelL.blk, RelL.law, RBk] at hd
                obtain ⟨rfl, rfl, rfl, rfl, rfl, rfl, rfl, rfl, rfl, rfl, rfl, rfl, rfl, rfl, rfl, rfl, rfl, rfl, rfl, rfl, h20, rfl, -⟩ := hd
                simp only [putAll, Act.put, List.setIfInBounds_toArray, List.set_cons_succ, List.set_cons_zero]
                go_wp2_with fail
                exact bodyPost_ret (res_parse _ b DY ((n3 * 3600 + n4 * 60 + n5) * 1000000 + n6) 0 _ (by rfl) (by rfl) h20) rfl ⟨by rw [HRF.out], hI.1⟩
            · have HRF : Hid (prsF l = ((DY, ((n3 * 3600 + n4 * 60 + n5) * 1000000 + n6)), 0)) := Lib.hid (by rw [HR.out, if_pos (by unfold BadT; omega)])
              go_upto_region 8 with fail
              clear q0 q1 q2 q3 q4 q6 g0 g1 f0 f1
              have hEz := hE
              generalize V2 = Vz at *
              refine region_relyF (fun listed W' => Ext w W' ∧ (listed 20 = false → Ext Vz W')) [some 77, some 78, some 79, some 80, some 81, some 82, some 83, some 84, some 85, some 86, some 87, some 88, some 89, some 90, some 91, some 92, some 93, some 94, some 95, some 96, none, some 3] [[], [], [1], [1, 2], [1, 2, 3], [], [5], [5, 6], [5, 6, 7], [1, 2, 3, 4, 5, 6, 7, 8], [], [10], [10, 11], [1, 2, 3, 4, 5, 6, 7, 8, 9, 10, 11, 12], [1, 2, 3, 4, 5, 6, 7, 8, 9, 10, 11, 12, 13], [], [15], [15, 16], [1, 2, 3, 4, 5, 6, 7, 8, 9, 10, 11, 12, 13, 14, 15, 16, 17], [0, 1, 2, 3, 4, 5, 6, 7, 8, 9, 10, 11, 12, 13, 14, 15, 16, 17, 18], [0, 1, 2, 3, 4, 5, 6, 7, 8, 9, 10, 11, 12, 13, 14, 15, 16, 17, 18, 19], [0, 1, 2, 3, 4, 5, 6, 7, 8, 9, 10, 11, 12, 13, 14, 15, 16, 17, 18, 19, 20]] [[], [], [1], [2], [3], [], [5], [6], [7], [4, 8], [], [10], [11], [9, 12], [13], [], [15], [16], [14, 17], [0, 18], [19], []] [none, none, none, none, none, none, none, none, none, none, none, none, none, none, none, none, none, none, none, none, none, none] [false, false, false, false, false, false, false, false, false, false, false, false, false, false, false, false, false, false, false, false, false, false] [.one (.int .i64 DY), .one (.slice (some ⟨g, 0, none⟩) 7 cc), .one (.pointer (some ⟨g, 3, none⟩)), .one (.int .i64 n3), .one (.int .i64 (n3 * 3600)), .one (.slice (some ⟨g, 0, none⟩) 7 cc), .one (.pointer (some ⟨g, 4, none⟩)), .one (.int .i64 n4), .one (.int .i64 (n4 * 60)), .one (.int .i64 (n3 * 3600 + n4 * 60)), .one (.slice (some ⟨g, 0, none⟩) 7 cc), .one (.pointer (some ⟨g, 5, none⟩)), .one (.int .i64 n5), .one (.int .i64 (n3 * 3600 + n4 * 60 + n5)), .one (.int .i64 ((n3 * 3600 + n4 * 60 + n5) * 1000000)), .one (.slice (some ⟨g, 0, none⟩) 7 cc), .one (.pointer (some ⟨g, 6, none⟩)), .one (.int .i64 n6), .one (.int .i64 ((n3 * 3600 + n4 * 60 + n5) * 1000000 + n6)), .one (.agg #[.int .i64 DY, .int .i64 ((n3 * 3600 + n4 * 60 + n5) * 1000000 + n6)]), RBk b 24 #[.int .i64 DY, .int .i64 ((n3 * 3600 + n4 * 60 + n5) * 1000000 + n6)], .one (.int .i64 0)] (by kernel_rfl) (by kernel_rfl) rfl ⟨hEz.drew, fun _ => (Ext.refl Vz).drew⟩ ?_ ?_
              · refine stepsF_cons ?_ ?_
                · intro listed vs W' hl hI hd hs hn hu hz ho9
                  refine hold ?_
                  obtain ⟨x0, x1, x2, x3, x4, x5, x6, x7, x8, x9, x10, x11, x12, x13, x14, x15, x16, x17, x18, x19, x20, x21, rfl⟩ := lenlit22 hl; clear hl
                  refine held ?_
                  simp only [putAll, Act.put, List.setIfInBounds_toArray, List.set_cons_succ, List.set_cons_zero]
                  go_wp2_with fail
                  exact relyE_done _ rfl rfl (Ext.refl _) ⟨hI.1, fun h => hI.2 (updE_false h)⟩
                refine stepsF_cons ?_ ?_
                · intro listed vs W' hl hI hd hs hn hu hz ho9
                  refine hold ?_
                  obtain ⟨x0, x1, x2, x3, x4, x5, x6, x7, x8, x9, x10, x11, x12, x13, x14, x15, x16, x17, x18, x19, x20, x21, rfl⟩ := lenlit22 hl; clear hl
                  refine held ?_
                  simp only [putAll, Act.put, List.setIfInBounds_toArray, List.set_cons_succ, List.set_cons_zero]
                  go_wp2_with fail
                  exact relyE_done _ rfl rfl (Ext.refl _) ⟨hI.1, fun h => hI.2 (updE_false h)⟩
                refine stepsF_cons ?_ ?_
                · intro listed vs W' hl hI hd hs hn hu hz ho9
                  refine hold ?_
                  obtain ⟨x0, x1, x2, x3, x4, x5, x6, x7, x8, x9, x10, x11, x12, x13, x14, x15, x16, x17, x18, x19, x20, x21, rfl⟩ := lenlit22 hl; clear hl
                  simp only [factsL, atL, refV, List.getElem?_cons_succ, List.getElem?_cons_zero, List.getD_cons_succ, List.getD_cons_zero, RelL.one, RelL.any, RelL.blk, RelL.law, RBk] at hd
                  obtain ⟨rfl, -⟩ := hd
                  refine held ?_
                  simp only [putAll, Act.put, List.setIfInBounds_toArray, List.set_cons_succ, List.set_cons_zero]
                  go_wp2_with fail
                  exact relyE_done _ rfl rfl (Ext.refl _) ⟨hI.1, fun h => hI.2 (updE_false h)⟩
                refine stepsF_cons ?_ ?_
                · intro listed vs W' hl hI hd hs hn hu hz ho9
                  refine hold ?_
                  obtain ⟨x0, x1, x2, x3, x4, x5, x6, x7, x8, x9, x10, x11, x12, x13, x14, x15, x16, x17, x18, x19, x20, x21, rfl⟩ := lenlit22 hl; clear hl
                  simp only [factsL, atL, refV, List.getElem?_cons_succ, List.getElem?_cons_zero, List.getD_cons_succ, List.getD_cons_zero, RelL.one, RelL.any, RelL.blk, RelL.law, RBk] at hd
                  obtain ⟨rfl, -⟩ := hd
                  refine held ?_
                  simp only [putAll, Act.put, List.setIfInBounds_toArray, List.set_cons_succ, List.set_cons_zero]
                  have h20 : listed 20 = false := by cases h : listed 20 with | false => rfl | true => exact absurd (by decide) (hu 20 h)
                  have hz2 := hI.2 h20
                  have q := hz2.cell p3
                  go_wp2_with fail
                  exact relyE_done _ rfl rfl (Ext.refl _) ⟨hI.1, fun h => hI.2 (updE_false h)⟩
                refine stepsF_cons ?_ ?_
                · intro listed vs W' hl hI hd hs hn hu hz ho9
                  refine hold ?_
                  obtain ⟨x0, x1, x2, x3, x4, x5, x6, x7, x8, x9, x10, x11, x12, x13, x14, x15, x16, x17, x18, x19, x20, x21, rfl⟩ := lenlit22 hl; clear hl
                  simp only [factsL, atL, refV, List.getElem?_cons_succ, List.getElem?_cons_zero, List.getD_cons_succ, List.getD_cons_zero, RelL.one, RelL.any, RelL.blk, RelL.law, RBk] at hd
                  obtain ⟨rfl, -⟩ := hd
                  refine held ?_
                  simp only [putAll, Act.put, List.setIfInBounds_toArray, List.set_cons_succ, List.set_cons_zero]
                  go_wp2_with fail
                  exact relyE_done _ rfl rfl (Ext.refl _) ⟨hI.1, fun h => hI.2 (updE_false h)⟩
                refine stepsF_cons ?_ ?_
                · intro listed vs W' hl hI hd hs hn hu hz ho9
                  refine hold ?_
                  obtain ⟨x0, x1, x2, x3, x4, x5, x6, x7, x8, x9, x10, x11, x12, x13, x14, x15, x16, x17, x18, x19, x20, x21, rfl⟩ := lenlit22 hl; clear hl
                  refine held ?_
                  simp only [putAll, Act.put, List.setIfInBounds_toArray, List.set_cons_succ, List.set_cons_zero]
                  go_wp2_with fail
                  exact relyE_done _ rfl rfl (Ext.refl _) ⟨hI.1, fun h => hI.2 (updE_false h)⟩
                refine stepsF_cons ?_ ?_
                · intro listed vs W' hl hI hd hs hn hu hz ho9
                  refine hold ?_
                  obtain ⟨x0, x1, x2, x3, x4, x5, x6, x7, x8, x9, x10, x11, x12, x13, x14, x15, x16, x17, x18, x19, x20, x21, rfl⟩ := lenlit22 hl; clear hl
                  simp only [factsL, atL, refV, List.getElem?_cons_succ, List.getElem?_cons_zero, List.getD_cons_succ, List.getD_cons_zero, RelL.one, RelL.any, RelL.blk, RelL.law, RBk] at hd
                  obtain ⟨rfl, -⟩ := hd
                  refine held ?_
                  simp only [putAll, Act.put, List.setIfInBounds_toArray, List.set_cons_succ, List.set_cons_zero]
                  go_wp2_with fail
                  exact relyE_done _ rfl rfl (Ext.refl _) ⟨hI.1, fun h => hI.2 (updE_false h)⟩
                refine stepsF_cons ?_ ?_
                · intro listed vs W' hl hI hd hs hn hu hz ho9
                  refine hold ?_
                  obtain ⟨x0, x1, x2, x3, x4, x5, x6, x7, x8, x9, x10, x11, x12, x13, x14, x15, x16, x17, x18, x19, x20, x21, rfl⟩ := lenlit22 hl; clear hl
                  simp only [factsL, atL, refV, List.getElem?_cons_succ, List.getElem?_cons_zero, List.getD_cons_succ, List.getD_cons_zero, RelL.one, RelL.any, RelL.blk, RelL.law, RBk] at hd
                  obtain ⟨rfl, -⟩ := hd
                  refine held ?_
                  simp only [putAll, Act.put, List.setIfInBounds_toArray, List.set_cons_succ, List.set_cons_zero]
                  have h20 : listed 20 = false := by cases h : listed 20 with | false => rfl | true => exact absurd (by decide) (hu 20 h)
                  have hz2 := hI.2 h20
                  have q := hz2.cell p4
                  go_wp2_with fail
                  exact relyE_done _ rfl rfl (Ext.refl _) ⟨hI.1, fun h => hI.2 (updE_false h)⟩
                refine stepsF_cons ?_ ?_
                · intro listed vs W' hl hI hd hs hn hu hz ho9
                  refine hold ?_
                  obtain ⟨x0, x1, x2, x3, x4, x5, x6, x7, x8, x9, x10, x11, x12, x13, x14, x15, x16, x17, x18, x19, x20, x21, rfl⟩ := lenlit22 hl; clear hl
                  simp only [factsL, atL, refV, List.getElem?_cons_succ, List.getElem?_cons_zero, List.getD_cons_succ, List.getD_cons_zero, RelL.one, RelL.any, RelL.blk, RelL.law, RBk] at hd
                  obtain ⟨rfl, -⟩ := hd
                  refine held ?_
                  simp only [putAll, Act.put, List.setIfInBounds_toArray, List.set_cons_succ, List.set_cons_zero]
                  go_wp2_with fail
                  exact relyE_done _ rfl rfl (Ext.refl _) ⟨hI.1, fun h => hI.2 (updE_false h)⟩
                refine stepsF_cons ?_ ?_
                · intro listed vs W' hl hI hd hs hn hu hz ho9
                  refine hold ?_
                  obtain ⟨x0, x1, x2, x3, x4, x5, x6, x7, x8, x9, x10, x11, x12, x13, x14, x15, x16, x17, x18, x19, x20, x21, rfl⟩ := lenlit22 hl; clear hl
                  simp only [factsL, atL, refV, List.getElem?_cons_succ, List.getElem?_cons_zero, List.getD_cons_succ, List.getD_cons_zero, RelL.one, RelL.any, RelL.blk, RelL.law, RBk] at hd
                  obtain ⟨rfl, rfl, -⟩ := hd
                  refine held ?_
                  simp only [putAll, Act.put, List.setIfInBounds_toArray, List.set_cons_succ, List.set_cons_zero]
                  go_wp2_with fail
                  exact relyE_done _ rfl rfl (Ext.refl _) ⟨hI.1, fun h => hI.2 (updE_false h)⟩
                refine stepsF_cons ?_ ?_
                · intro listed vs W' hl hI hd hs hn hu hz ho9
                  refine hold ?_
                  obtain ⟨x0, x1, x2, x3, x4, x5, x6, x7, x8, x9, x10, x11, x12, x13, x14, x15, x16, x17, x18, x19, x20, x21, rfl⟩ := lenlit22 hl; clear hl
                  refine held ?_
                  simp only [putAll, Act.put, List.setIfInBounds_toArray, List.set_cons_succ, List.set_cons_zero]
                  go_wp2_with fail
                  exact relyE_done _ rfl rfl (Ext.refl _) ⟨hI.1, fun h => hI.2 (updE_false h)⟩
                refine stepsF_cons ?_ ?_
                · intro listed vs W' hl hI hd hs hn hu hz ho9
                  refine hold ?_
                  obtain ⟨x0, x1, x2, x3, x4, x5, x6, x7, x8, x9, x10, x11, x12, x13, x14, x15, x16, x17, x18, x19, x20, x21, rfl⟩ := lenlit22 hl; clear hl
                  simp only [factsL, atL, refV, List.getElem?_cons_succ, List.getElem?_cons_zero, List.getD_cons_succ, List.getD_cons_zero, RelL.one, RelL.any, RelL.blk, RelL.law, RBk] at hd
                  obtain ⟨rfl, -⟩ := hd
                  refine held ?_
                  simp only [putAll, Act.put, List.setIfInBounds_toArray, List.set_cons_succ, List.set_cons_zero]
                  go_wp2_with fail
                  exact relyE_done _ rfl rfl (Ext.refl _) ⟨hI.1, fun h => hI.2 (updE_false h)⟩
                refine stepsF_cons ?_ ?_
                · intro listed vs W' hl hI hd hs hn hu hz ho9
                  refine hold ?_
                  obtain ⟨x0, x1, x2, x3, x4, x5, x6, x7, x8, x9, x10, x11, x12, x13, x14, x15, x16, x17, x18, x19, x20, x21, rfl⟩ := lenlit22 hl; clear hl
                  simp only [factsL, atL, refV, List.getElem?_cons_succ, List.getElem?_cons_zero, List.getD_cons_succ, List.getD_cons_zero, RelL.one, RelL.any, RelL.blk, RelL.law, RBk] at hd
                  obtain ⟨rfl, -⟩ := hd
                  refine held ?_
                  simp only [putAll, Act.put, List.setIfInBounds_toArray, List.set_cons_succ, List.set_cons_zero]
                  have h20 : listed 20 = false := by cases h : listed 20 with | false => rfl | true => exact absurd (by decide) (hu 20 h)
                  have hz2 := hI.2 h20
                  have q := hz2.cell p5
                  go_wp2_with fail
                  exact relyE_done _ rfl rfl (Ext.refl _) ⟨hI.1, fun h => hI.2 (updE_false h)⟩
                refine stepsF_cons ?_ ?_
                · intro listed vs W' hl hI hd hs hn hu hz ho9
                  refine hold ?_
                  obtain ⟨x0, x1, x2, x3, x4, x5, x6, x7, x8, x9, x10, x11, x12, x13, x14, x15, x16, x17, x18, x19, x20, x21, rfl⟩ := lenlit22 hl; clear hl
                  simp only [factsL, atL, refV, List.getElem?_cons_succ, List.getElem?_cons_zero, List.getD_cons_succ, List.getD_cons_zero, RelL.one, RelL.any, RelL.blk, RelL.law, RBk] at hd
                  obtain ⟨rfl, rfl, -⟩ := hd
                  refine held ?_
                  simp only [putAll, Act.put, List.setIfInBounds_toArray, List.set_cons_succ, List.set_cons_zero]
                  go_wp2_with fail
                  exact relyE_done _ rfl rfl (Ext.refl _) ⟨hI.1, fun h => hI.2 (updE_false h)⟩
                refine stepsF_cons ?_ ?_
                · intro listed vs W' hl hI hd hs hn hu hz ho9
                  refine hold ?_
                  obtain ⟨x0, x1, x2, x3, x4, x5, x6, x7, x8, x9, x10, x11, x12, x13, x14, x15, x16, x17, x18, x19, x20, x21, rfl⟩ := lenlit22 hl; clear hl
                  simp only [factsL, atL, refV, List.getElem?_cons_succ, List.getElem?_cons_zero, List.getD_cons_succ, List.getD_cons_zero, RelL.one, RelL.any, RelL.blk, RelL.law, RBk] at hd
                  obtain ⟨rfl, -⟩ := hd
                  refine held ?_
                  simp only [putAll, Act.put, List.setIfInBounds_toArray, List.set_cons_succ, List.set_cons_zero]
                  go_wp2_with fail
                  exact relyE_done _ rfl rfl (Ext.refl _) ⟨hI.1, fun h => hI.2 (updE_false h)⟩
                refine stepsF_cons ?_ ?_
                · intro listed vs W' hl hI hd hs hn hu hz ho9
                  refine hold ?_
                  obtain ⟨x0, x1, x2, x3, x4, x5, x6, x7, x8, x9, x10, x11, x12, x13, x14, x15, x16, x17, x18, x19, x20, x21, rfl⟩ := lenlit22 hl; clear hl
                  refine held ?_
                  simp only [putAll, Act.put, List.setIfInBounds_toArray, List.set_cons_succ, List.set_cons_zero]
                  go_wp2_with fail
                  exact relyE_done _ rfl rfl (Ext.refl _) ⟨hI.1, fun h => hI.2 (updE_false h)⟩
                refine stepsF_cons ?_ ?_
                · intro listed vs W' hl hI hd hs hn hu hz ho9
                  refine hold ?_
                  obtain ⟨x0, x1, x2, x3, x4, x5, x6, x7, x8, x9, x10, x11, x12, x13, x14, x15, x16, x17, x18, x19, x20, x21, rfl⟩ := lenlit22 hl; clear hl
                  simp only [factsL, atL, refV, List.getElem?_cons_succ, List.getElem?_cons_zero, List.getD_cons_succ, List.getD_cons_zero, RelL.one, RelL.any, RelL.blk, RelL.law, RBk] at hd
                  obtain ⟨rfl, -⟩ := hd
                  refine held ?_
                  simp only [putAll, Act.put, List.setIfInBounds_toArray, List.set_cons_succ, List.set_cons_zero]
                  go_wp2_with fail
                  exact relyE_done _ rfl rfl (Ext.refl _) ⟨hI.1, fun h => hI.2 (updE_false h)⟩
                refine stepsF_cons ?_ ?_
                · intro listed vs W' hl hI hd hs hn hu hz ho9
                  refine hold ?_
                  obtain ⟨x0, x1, x2, x3, x4, x5, x6, x7, x8, x9, x10, x11, x12, x13, x14, x15, x16, x17, x18, x19, x20, x21, rfl⟩ := lenlit22 hl; clear hl
                  simp only [factsL, atL, refV, List.getElem?_cons_succ, List.getElem?_cons_zero, List.getD_cons_succ, List.getD_cons_zero, RelL.one, RelL.any, RelL.blk, RelL.law, RBk] at hd
                  obtain ⟨rfl, -⟩ := hd
                  refine held ?_
                  simp only [putAll, Act.put, List.setIfInBounds_toArray, List.set_cons_succ, List.set_cons_zero]
                  have h20 : listed 20 = false := by cases h : listed 20 with | false => rfl | true => exact absurd (by decide) (hu 20 h)
                  have hz2 := hI.2 h20
                  have q := hz2.cell p6
                  go_wp2_with fail
                  exact relyE_done _ rfl rfl (Ext.refl _) ⟨hI.1, fun h => hI.2 (updE_false h)⟩
                refine stepsF_cons ?_ ?_
                · intro listed vs W' hl hI hd hs hn hu hz ho9
                  refine hold ?_
                  obtain ⟨x0, x1, x2, x3, x4, x5, x6, x7, x8, x9, x10, x11, x12, x13, x14, x15, x16, x17, x18, x19, x20, x21, rfl⟩ := lenlit22 hl; clear hl
                  simp only [factsL, atL, refV, List.getElem?_cons_succ, List.getElem?_cons_zero, List.getD_cons_succ, List.getD_cons_zero, RelL.one, RelL.any, RelL.blk, RelL.law, RBk] at hd
                  obtain ⟨rfl, rfl, -⟩ := hd
                  refine held ?_
                  simp only [putAll, Act.put, List.setIfInBounds_toArray, List.set_cons_succ, List.set_cons_zero]
                  go_wp2_with fail
                  exact relyE_done _ rfl rfl (Ext.refl _) ⟨hI.1, fun h => hI.2 (updE_false h)⟩
                refine stepsF_cons ?_ ?_
                · intro listed vs W' hl hI hd hs hn hu hz ho9
                  refine hold ?_
                  obtain ⟨x0, x1, x2, x3, x4, x5, x6, x7, x8, x9, x10, x11, x12, x13, x14, x15, x16, x17, x18, x19, x20, x21, rfl⟩ := lenlit22 hl; clear hl
                  simp only [factsL, atL, refV, List.getElem?_cons_succ, List.getElem?_cons_zero, List.getD_cons_succ, List.getD_cons_zero, RelL.one, RelL.any, RelL.blk, RelL.law, RBk] at hd
                  obtain ⟨rfl, rfl, -⟩ := hd
                  refine held ?_
                  simp only [putAll, Act.put, List.setIfInBounds_toArray, List.set_cons_succ, List.set_cons_zero]
                  go_wp2_with fail
                  exact relyE_done _ rfl rfl (Ext.refl _) ⟨hI.1, fun h => hI.2 (updE_false h)⟩
                refine stepsF_cons ?_ ?_
                · intro listed vs W' hl hI hd hs hn hu hz ho9
                  refine hold ?_
                  obtain ⟨x0, x1, x2, x3, x4, x5, x6, x7, x8, x9, x10, x11, x12, x13, x14, x15, x16, x17, x18, x19, x20, x21, rfl⟩ := lenlit22 hl; clear hl
                  simp only [factsL, atL, refV, List.getElem?_cons_succ, List.getElem?_cons_zero, List.getD_cons_succ, List.getD_cons_zero, RelL.one, RelL.any, RelL.blk, RelL.law, RBk] at hd
                  obtain ⟨rfl, -⟩ := hd
                  refine held ?_
                  simp only [putAll, Act.put, List.setIfInBounds_toArray, List.set_cons_succ, List.set_cons_zero]
                  have hz2 := hI.2 hz
                  have hBz := hB.ext hz2
                  have g0 := hBz.c 0 _ rfl
                  have g1 := hBz.c 1 _ rfl
                  have f0 := hBz.free 0
                  have f1 := hBz.free 1
                  have hst := hBz.set2 (.int .i64 DY) (.int .i64 ((n3 * 3600 + n4 * 60 + n5) * 1000000 + n6))
                  have hI2 := (hI.1.setCell (p := ⟨b, 0, none⟩) hbs (.int .i64 DY)).setCell (p := ⟨b, 1, none⟩) hbs (.int .i64 ((n3 * 3600 + n4 * 60 + n5) * 1000000 + n6))
                  go_wp2_with fail
                  exact relyE_store undef rfl hst (by simp) ⟨fun _ _ h => h, fun _ _ h => h, fun _ _ h => h, fun _ _ h => h, fun _ _ h => h, fun _ _ h => h, fun _ _ h => h, fun _ _ h => h, fun _ _ h => h, fun _ _ h => h, fun _ _ h => h, fun _ _ h => h, fun _ _ h => h, fun _ _ h => h, fun _ _ h => h, fun _ _ h => h, fun _ _ h => h, fun _ _ h => h, fun _ _ h => h, fun _ _ h => h, fun _ hk _ => absurd rfl hk, fun _ _ h => h, trivial⟩ ⟨hI2, fun h => by simp [updE] at h⟩
                refine stepsF_cons ?_ ?_
                · intro listed vs W' hl hI hd hs hn hu hz ho9
                  refine hold ?_
                  obtain ⟨x0, x1, x2, x3, x4, x5, x6, x7, x8, x9, x10, x11, x12, x13, x14, x15, x16, x17, x18, x19, x20, x21, rfl⟩ := lenlit22 hl; clear hl
                  refine held ?_
                  simp only [putAll, Act.put, List.setIfInBounds_toArray, List.set_cons_succ, List.set_cons_zero]
                  go_wp2_with fail
                  exact relyE_done _ rfl rfl (Ext.refl _) ⟨hI.1, fun h => hI.2 (updE_false h)⟩
                exact trivial
              · intro listed vs W' hl hall hI hd hn
                obtain ⟨x0, x1, x2, x3, x4, x5, x6, x7, x8, x9, x10, x11, x12, x13, x14, x15, x16, x17, x18, x19, x20, x21, rfl⟩ := lenlit22 hl; clear hl
                simp only [List.length_cons, List.length_nil, List.range, List.range.loop, Nat.zero_add, Nat.reduceAdd, factsL, atL, refV, List.getElem?_cons_succ, List.getElem?_cons_zero, List.getD_cons_succ, List.getD_cons_zero, RelL.one, RelL.any, RelL.blk, RelL.law, RBk] at hd
                obtain ⟨rfl, rfl, rfl, rfl, rfl, rfl, rfl, rfl, rfl, rfl, rfl, rfl, rfl, rfl, rfl, rfl, rfl, rfl, rfl, rfl, h20, rfl, -⟩ := hd
                simp only [putAll, Act.put, List.setIfInBounds_toArray, List.set_cons_succ, List.set_cons_zero]
                go_wp2_with fail
                exact bodyPost_ret (res_parse _ b DY ((n3 * 3600 + n4 * 60 + n5) * 1000000 + n6) 0 _ (by rfl) (by rfl) h20) rfl ⟨by rw [HRF.out], hI.1⟩
          · have HRF : Hid (prsF l = ((DY, ((n3 * 3600 + n4 * 60 + n5) * 1000000 + n6)), 0)) := Lib.hid (by rw [HR.out, if_pos (by unfold BadT; omega)])
            go_upto_region 8 with fail
            clear q0 q1 q2 q3 q6 g0 g1 f0 f1
            have hEz := hE
            generalize V2 = Vz at *
            refine region_relyF (fun listed W' => Ext w W' ∧ (listed 20 = false → Ext Vz W')) [some 77, some 78, some 79, some 80, some 81, some 82, some 83, some 84, some 85, some 86, some 87, some 88, some 89, some 90, some 91, some 92, some 93, some 94, some 95, some 96, none, some 3] [[], [], [1], [1, 2], [1, 2, 3], [], [5], [5, 6], [5, 6, 7], [1, 2, 3, 4, 5, 6, 7, 8], [], [10], [10, 11], [1, 2, 3, 4, 5, 6, 7, 8, 9, 10, 11, 12], [1, 2, 3, 4, 5, 6, 7, 8, 9, 10, 11, 12, 13], [], [15], [15, 16], [1, 2, 3, 4, 5, 6, 7, 8, 9, 10, 11, 12, 13, 14, 15, 16, 17], [0, 1, 2, 3, 4, 5, 6, 7, 8, 9, 10, 11, 12, 13, 14, 15, 16, 17, 18], [0, 1, 2, 3, 4, 5, 6, 7, 8, 9, 10, 11, 12, 13, 14, 15, 16, 17, 18, 19], [0, 1, 2, 3, 4, 5, 6, 7, 8, 9, 10, 11, 12, 13, 14, 15, 16, 17, 18, 19, 20]] [[], [], [1], [2], [3], [], [5], [6], [7], [4, 8], [], [10], [11], [9, 12], [13], [], [15], [16], [14, 17], [0, 18], [19], []] [none, none, none, none, none, none, none, none, none, none, none, none, none, none, none, none, none, none, none, none, none, none] [false, false, false, false, false, false, false, false, false, false, false, false, false, false, false, false, false, false, false, false, false, false] [.one (.int .i64 DY), .one (.slice (some ⟨g, 0, none⟩) 7 cc), .one (.pointer (some ⟨g, 3, none⟩)), .one (.int .i64 n3), .one (.int .i64 (n3 * 3600)), .one (.slice (some ⟨g, 0, none⟩) 7 cc), .one (.pointer (some ⟨g, 4, none⟩)), .one (.int .i64 n4), .one (.int .i64 (n4 * 60)), .one (.int .i64 (n3 * 3600 + n4 * 60)), .one (.slice (some ⟨g, 0, none⟩) 7 cc), .one (.pointer (some ⟨g, 5, none⟩)), .one (.int .i64 n5), .one (.int .i64 (n3 * 3600 + n4 * 60 + n5)), .one (.int .i64 ((n3 * 3600 + n4 * 60 + n5) * 1000000)), .one (.slice (some ⟨g, 0, none⟩) 7 cc), .one (.pointer (some ⟨g, 6, none⟩)), .one (.int .i64 n6), .one (.int .i64 ((n3 * 3600 + n4 * 60 + n5) * 1000000 + n6)), .one (.agg #[.int .i64 DY, .int .i64 ((n3 * 3600 + n4 * 60 + n5) * 1000000 + n6)]), RBk b 24 #[.int .i64 DY, .int .i64 ((n3 * 3600 + n4 * 60 + n5) * 1000000 + n6)], .one (.int .i64 0)] (by kernel_rfl) (by kernel_rfl) rfl ⟨hEz.drew, fun _ => (Ext.refl Vz).drew⟩ ?_ ?_
            · refine stepsF_cons ?_ ?_
              · intro listed vs W' hl hI hd hs hn hu hz ho9
                refine hold ?_
                obtain ⟨x0, x1, x2, x3, x4, x5, x6, x7, x8, x9, x10, x11, x12, x13, x14, x15, x16, x17, x18, x19, x20, x21, rfl⟩ := lenlit22 hl; clear hl
                refine held ?_
                simp only [putAll, Act.put, List.setIfInBounds_toArray, List.set_cons_succ, List.set_cons_zero]
                go_wp2_with fail
                exact relyE_done _ rfl rfl (Ext.refl _) ⟨hI.1, fun h => hI.2 (updE_false h)⟩
              refine stepsF_cons ?_ ?_
              · intro listed vs W' hl hI hd hs hn hu hz ho9
                refine hold ?_
                obtain ⟨x0, x1, x2, x3, x4, x5, x6, x7, x8, x9, x10, x11, x12, x13, x14, x15, x16, x17, x18, x19, x20, x21, rfl⟩ := lenlit22 hl; clear hl
                refine held ?_
                simp only [putAll, Act.put, List.setIfInBounds_toArray, List.set_cons_succ, List.set_cons_zero]
                go_wp2_with fail
                exact relyE_done _ rfl rfl (Ext.refl _) ⟨hI.1, fun h => hI.2 (updE_false h)⟩
              refine stepsF_cons ?_ ?_
              · intro listed vs W' hl hI hd hs hn hu hz ho9
                refine hold ?_
                obtain ⟨x0, x1, x2, x3, x4, x5, x6, x7, x8, x9, x10, x11, x12, x13, x14, x15, x16, x17, x18, x19, x20, x21, rfl⟩ := lenlit22 hl; clear hl
                simp only [factsL, atL, refV, List.getElem?_cons_succ, List.getElem?_cons_zero, List.getD_cons_succ, List.getD_cons_zero, RelL.one, RelL.any, RelL.blk, RelL.law, RBk] at hd
                obtain ⟨rfl, -⟩ := hd
                refine held ?_
                simp only [putAll, Act.put, List.setIfInBounds_toArray, List.set_cons_succ, List.set_cons_zero]
                go_wp2_with fail
                exact relyE_done _ rfl rfl (Ext.refl _) ⟨hI.1, fun h => hI.2 (updE_false h)⟩
              refine stepsF_cons ?_ ?_
              · intro listed vs W' hl hI hd hs hn hu hz ho9
                refine hold ?_
                obtain ⟨x0, x1, x2, x3, x4, x5, x6, x7, x8, x9, x10, x11, x12, x13, x14, x15, x16, x17, x18, x19, x20, x21, rfl⟩ := lenlit22 hl; clear hl
                simp only [factsL, atL, refV, List.getElem?_cons_succ, List.getElem?_cons_zero, List.getD_cons_succ, List.getD_cons_zero, RelL.one, RelL.any, RelL.blk, RelL.law, RBk] at hd
                obtain ⟨rfl, -⟩ := hd
                refine held ?_
                simp only [putAll, Act.put, List.setIfInBounds_toArray, List.set_cons_succ, List.set_cons_zero]
                have h20 : listed 20 = false := by cases h : listed 20 with | false => rfl | true => exact absurd (by decide) (hu 20 h)
                have hz2 := hI.2 h20
                have q := hz2.cell p3
                go_wp2_with fail
                exact relyE_done _ rfl rfl (Ext.refl _) ⟨hI.1, fun h => hI.2 (updE_false h)⟩
              refine stepsF_cons ?_ ?_
              · intro listed vs W' hl hI hd hs hn hu hz ho9
                refine hold ?_
                obtain ⟨x0, x1, x2, x3, x4, x5, x6, x7, x8, x9, x10, x11, x12, x13, x14, x15, x16, x17, x18, x19, x20, x21, rfl⟩ := lenlit22 hl; clear hl
                simp only [factsL, atL, refV, List.getElem?_cons_succ, List.getElem?_cons_zero, List.getD_cons_succ, List.getD_cons_zero, RelL.one, RelL.any, RelL.blk, RelL.law, RBk] at hd
                obtain ⟨rfl, -⟩ := hd
                refine held ?_
                simp only [putAll, Act.put, List.setIfInBounds_toArray, List.set_cons_succ, List.set_cons_zero]
                go_wp2_with fail
                exact relyE_done _ rfl rfl (Ext.refl _) ⟨hI.1, fun h => hI.2 (updE_false h)⟩
              refine stepsF_cons ?_ ?_
              · intro listed vs W' hl hI hd hs hn hu hz ho9
                refine hold ?_
                obtain ⟨x0, x1, x2, x3, x4, x5, x6, x7, x8, x9, x10, x11, x12, x13, x14, x15, x16, x17, x18, x19, x20, x21, rfl⟩ := lenlit22 hl; clear hl
                refine held ?_
                simp only [putAll, Act.put, List.setIfInBounds_toArray, List.set_cons_succ, List.set_cons_zero]
                go_wp2_with fail
                exact relyE_done _ rfl rfl (Ext.refl _) ⟨hI.1, fun h => hI.2 (updE_false h)⟩
              refine stepsF_cons ?_ ?_
              · intro listed vs W' hl hI hd hs hn hu hz ho9
                refine hold ?_
                obtain ⟨x0, x1, x2, x3, x4, x5, x6, x7, x8, x9, x10, x11, x12, x13, x14, x15, x16, x17, x18, x19, x20, x21, rfl⟩ := lenlit22 hl; clear hl
                simp only [factsL, atL, refV, List.getElem?_cons_succ, List.getElem?_cons_zero, List.getD_cons_succ, List.getD_cons_zero, RelL.one, RelL.any, RelL.blk, RelL.law, RBk] at hd
                obtain ⟨rfl, -⟩ := hd
                refine held ?_
                simp only [putAll, Act.put, List.setIfInBounds_toArray, List.set_cons_succ, List.set_cons_zero]
                go_wp2_with fail
                exact relyE_done _ rfl rfl (Ext.refl _) ⟨hI.1, fun h => hI.2 (updE_false h)⟩
              refine stepsF_cons ?_ ?_
              · intro listed vs W' hl hI hd hs hn hu hz ho9
                refine hold ?_
                obtain ⟨x0, x1, x2, x3, x4, x5, x6, x7, x8, x9, x10, x11, x12, x13, x14, x15, x16, x17, x18, x19, x20, x21, rfl⟩ := lenlit22 hl; clear hl
                simp only [factsL, atL, refV, List.getElem?_cons_succ, List.getElem?_cons_zero, List.getD_cons_succ, List.getD_cons_zero, RelL.one, RelL.any, RelL.blk, RelL.law, RBk] at hd
                obtain ⟨rfl, -⟩ := hd
                refine held ?_
                simp only [putAll, Act.put, List.setIfInBounds_toArray, List.set_cons_succ, List.set_cons_zero]
                have h20 : listed 20 = false := by cases h : listed 20 with | false => rfl | true => exact absurd (by decide) (hu 20 h)
                have hz2 := hI.2 h20
                have q := hz2.cell p4
                go_wp2_with fail
                exact relyE_done _ rfl rfl (Ext.refl _) ⟨hI.1, fun h => hI.2 (updE_false h)⟩
              refine stepsF_cons ?_ ?_
              · intro listed vs W' hl hI hd hs hn hu hz ho9
                refine hold ?_
                obtain ⟨x0, x1, x2, x3, x4, x5, x6, x7, x8, x9, x10, x11, x12, x13, x14, x15, x16, x17, x18, x19, x20, x21, rfl⟩ := lenlit22 hl; clear hl
                simp only [factsL, atL, refV, List.getElem?_cons_succ, List.getElem?_cons_zero, List.getD_cons_succ, List.getD_cons_zero, RelL.one, RelL.any, RelL.blk, RelL.law, RBk] at hd
                obtain ⟨rfl, -⟩ := hd
                refine held ?_
                simp only [putAll, Act.put, List.setIfInBounds_toArray, List.set_cons_succ, List.set_cons_zero]
                go_wp2_with fail
                exact relyE_done _ rfl rfl (Ext.refl _) ⟨hI.1, fun h => hI.2 (updE_false h)⟩
              refine stepsF_cons ?_ ?_
              · intro listed vs W' hl hI hd hs hn hu hz ho9
                refine hold ?_
                obtain ⟨x0, x1, x2, x3, x4, x5, x6, x7, x8, x9, x10, x11, x12, x13, x14, x15, x16, x17, x18, x19, x20, x21, rfl⟩ := lenlit22 hl; clear hl
                simp only [factsL, atL, refV, List.getElem?_cons_succ, List.getElem?_cons_zero, List.getD_cons_succ, List.getD_cons_zero, RelL.one, RelL.any, RelL.blk, RelL.law, RBk] at hd
                obtain ⟨rfl, rfl, -⟩ := hd
                refine held ?_
                simp only [putAll, Act.put, List.setIfInBounds_toArray, List.set_cons_succ, List.set_cons_zero]
                go_wp2_with fail
                exact relyE_done _ rfl rfl (Ext.refl _) ⟨hI.1, fun h => hI.2 (updE_false h)⟩
              refine stepsF_cons ?_ ?_
              · intro listed vs W' hl hI hd hs hn hu hz ho9
                refine hold ?_
                obtain ⟨x0, x1, x2, x3, x4, x5, x6, x7, x8, x9, x10, x11, x12, x13, x14, x15, x16, x17, x18, x19, x20, x21, rfl⟩ := lenlit22 hl; clear hl
                refine held ?_
                simp only [putAll, Act.put, List.setIfInBounds_toArray, List.set_cons_succ, List.set_cons_zero]
                go_wp2_with fail
                exact relyE_done _ rfl rfl (Ext.refl _) ⟨hI.1, fun h => hI.2 (updE_false h)⟩
              refine stepsF_cons ?_ ?_
              · intro listed vs W' hl hI hd hs hn hu hz ho9
                refine hold ?_
                obtain ⟨x0, x1, x2, x3, x4, x5, x6, x7, x8, x9, x10, x11, x12, x13, x14, x15, x16, x17, x18, x19, x20, x21, rfl⟩ := lenlit22 hl; clear hl
                simp only [factsL, atL, refV, List.getElem?_cons_succ, List.getElem?_cons_zero, List.getD_cons_succ, List.getD_cons_zero, RelL.one, RelL.any, RelL.blk, RelL.law, RBk] at hd
                obtain ⟨rfl, -⟩ := hd
                refine held ?_
                simp only [putAll, Act.put, List.setIfInBounds_toArray, List.set_cons_succ, List.set_cons_zero]
                go_wp2_with fail
                exact relyE_done _ rfl rfl (Ext.refl _) ⟨hI.1, fun h => hI.2 (updE_false h)⟩
              refine stepsF_cons ?_ ?_
              · intro listed vs W' hl hI hd hs hn hu hz ho9
                refine hold ?_
                obtain ⟨x0, x1, x2, x3, x4, x5, x6, x7, x8, x9, x10, x11, x12, x13, x14, x15, x16, x17, x18, x19, x20, x21, rfl⟩ := lenlit22 hl; clear hl
                simp only [factsL, atL, refV, List.getElem?_cons_succ, List.getElem?_cons_zero, List.getD_cons_succ, List.getD_cons_zero, RelL.one, RelL.any, RelL.blk, RelL.law, RBk] at hd
                obtain ⟨rfl, -⟩ := hd
                refine held ?_
                simp only [putAll, Act.put, List.setIfInBounds_toArray, List.set_cons_succ, List.set_cons_zero]
                have h20 : listed 20 = false := by cases h : listed 20 with | false => rfl | true => exact absurd (by decide) (hu 20 h)
                have hz2 := hI.2 h20
                have q := hz2.cell p5
                go_wp2_with fail
                exact relyE_done _ rfl rfl (Ext.refl _) ⟨hI.1, fun h => hI.2 (updE_false h)⟩
              refine stepsF_cons ?_ ?_
              · intro listed vs W' hl hI hd hs hn hu hz ho9
                refine hold ?_
                obtain ⟨x0, x1, x2, x3, x4, x5, x6, x7, x8, x9, x10, x11, x12, x13, x14, x15, x16, x17, x18, x19, x20, x21, rfl⟩ := lenlit22 hl; clear hl
                simp only [factsL, atL, refV, List.getElem?_cons_succ, List.getElem?_cons_zero, List.getD_cons_succ, List.getD_cons_zero, RelL.one, RelL.any, RelL.blk, RelL.law, RBk] at hd
                obtain ⟨rfl, rfl, -⟩ := hd
                refine held ?_
                simp only [putAll, Act.put, List.setIfInBounds_toArray, List.set_cons_succ, List.set_cons_zero]
                go_wp2_with fail
                exact relyE_done _ rfl rfl (Ext.refl _) ⟨hI.1, fun h => hI.2 (updE_false h)⟩
              refine stepsF_cons ?_ ?_
              · intro listed vs W' hl hI hd hs hn hu hz ho9
                refine hold ?_
                obtain ⟨x0, x1, x2, x3, x4, x5, x6, x7, x8, x9, x10, x11, x12, x13, x14, x15, x16, x17, x18, x19, x20, x21, rfl⟩ := lenlit22 hl; clear hl
                simp only [factsL, atL, refV, List.getElem?_cons_succ, List.getElem?_cons_zero, List.getD_cons_succ, List.getD_cons_zero, RelL.one, RelL.any, RelL.blk, RelL.law, RBk] at hd
                obtain ⟨rfl, -⟩ := hd
                refine held ?_
                simp only [putAll, Act.put, List.setIfInBounds_toArray, List.set_cons_succ, List.set_cons_zero]
                go_wp2_with fail
                exact relyE_done _ rfl rfl (Ext.refl _) ⟨hI.1, fun h => hI.2 (updE_false h)⟩
              refine stepsF_cons ?_ ?_
              · intro listed vs W' hl hI hd hs hn hu hz ho9
                refine hold ?_
                obtain ⟨x0, x1, x2, x3, x4, x5, x6, x7, x8, x9, x10, x11, x12, x13, x14, x15, x16, x17, x18, x19, x20, x21, rfl⟩ := lenlit22 hl; clear hl
                refine held ?_
                simp only [putAll, Act.put, List.setIfInBounds_toArray, List.set_cons_succ, List.set_cons_zero]
                go_wp2_with fail
                exact relyE_done _ rfl rfl (Ext.refl _) ⟨hI.1, fun h => hI.2 (updE_false h)⟩
              refine stepsF_cons ?_ ?_
              · intro listed vs W' hl hI hd hs hn hu hz ho9
                refine hold ?_
                obtain ⟨x0, x1, x2, x3, x4, x5, x6, x7, x8, x9, x10, x11, x12, x13, x14, x15, x16, x17, x18, x19, x20, x21, rfl⟩ := lenlit22 hl; clear hl
                simp only [factsL, atL, refV, List.getElem?_cons_succ, List.getElem?_cons_zero, List.getD_cons_succ, List.getD_cons_zero, RelL.one, RelL.any, RelL.blk, RelL.law, RBk] at hd
                obtain ⟨rfl, -⟩ := hd
                refine held ?_
                simp only [putAll, Act.put, List.setIfInBounds_toArray, List.set_cons_succ, List.set_cons_zero]
                go_wp2_with fail
                exact relyE_done _ rfl rfl (Ext.refl _) ⟨hI.1, fun h => hI.2 (updE_false h)⟩
              refine stepsF_cons ?_ ?_
              · intro listed vs W' hl hI hd hs hn hu hz ho9
                refine hold ?_
                obtain ⟨x0, x1, x2, x3, x4, x5, x6, x7, x8, x9, x10, x11, x12, x13, x14, x15, x16, x17, x18, x19, x20, x21, rfl⟩ := lenlit22 hl; clear hl
                simp only [factsL, atL, refV, List.getElem?_cons_succ, List.getElem?_cons_zero, List.getD_cons_succ, List.getD_cons_zero, RelL.one, RelL.any, RelL.blk, RelL.law, RBk] at hd
                obtain ⟨rfl, -⟩ := hd
                refine held ?_
                simp only [putAll, Act.put, List.setIfInBounds_toArray, List.set_cons_succ, List.set_cons_zero]
                have h20 : listed 20 = false := by cases h : listed 20 with | false => rfl | true => exact absurd (by decide) (hu 20 h)
                have hz2 := hI.2 h20
                have q := hz2.cell p6
                go_wp2_with fail
                exact relyE_done _ rfl rfl (Ext.refl _) ⟨hI.1, fun h => hI.2 (updE_false h)⟩
              refine stepsF_cons ?_ ?_
              · intro listed vs W' hl hI hd hs hn hu hz ho9
                refine hold ?_
                obtain ⟨x0, x1, x2, x3, x4, x5, x6, x7, x8, x9, x10, x11, x12, x13, x14, x15, x16, x17, x18, x19, x20, x21, rfl⟩ := lenlit22 hl; clear hl
                simp only [factsL, atL, refV, List.getElem?_cons_succ, List.getElem?_cons_zero, List.getD_cons_succ, List.getD_cons_zero, RelL.one, RelL.any, RelL.blk, RelL.law, RBk] at hd
                obtain ⟨rfl, rfl, -⟩ := hd
                refine held ?_
                simp only [putAll, Act.put, List.setIfInBounds_toArray, List.set_cons_succ, List.set_cons_zero]
                go_wp2_with fail
                exact relyE_done _ rfl rfl (Ext.refl _) ⟨hI.1, fun h => hI.2 (updE_false h)⟩
              refine stepsF_cons ?_ ?_
              · intro listed vs W' hl hI hd hs hn hu hz ho9
                refine hold ?_
                obtain ⟨x0, x1, x2, x3, x4, x5, x6, x7, x8, x9, x10, x11, x12, x13, x14, x15, x16, x17, x18, x19, x20, x21, rfl⟩ := lenlit22 hl; clear hl
                simp only [factsL, atL, refV, List.getElem?_cons_succ, List.getElem?_cons_zero, List.getD_cons_succ, List.getD_cons_zero, RelL.one, RelL.any, RelL.blk, RelL.law, RBk] at hd
                obtain ⟨rfl, rfl, -⟩ := hd
                refine held ?_
                simp only [putAll, Act.put, List.setIfInBounds_toArray, List.set_cons_succ, List.set_cons_zero]
                go_wp2_with fail
                exact relyE_done _ rfl rfl (Ext.refl _) ⟨hI.1, fun h => hI.2 (updE_false h)⟩
              refine stepsF_cons ?_ ?_
              · intro listed vs W' hl hI hd hs hn hu hz ho9
                refine hold ?_
                obtain ⟨x0, x1, x2, x3, x4, x5, x6, x7, x8, x9, x10, x11, x12, x13, x14, x15, x16, x17, x18, x19, x20, x21, rfl⟩ := lenlit22 hl; clear hl
                simp only [factsL, atL, refV, List.getElem?_cons_succ, List.getElem?_cons_zero, List.getD_cons_succ, List.getD_cons_zero, RelL.one, RelL.any, RelL.blk, RelL.law, RBk] at hd
                obtain ⟨rfl, -⟩ := hd
                refine held ?_
                simp only [putAll, Act.put, List.setIfInBounds_toArray, List.set_cons_succ, List.set_cons_zero]
                have hz2 := hI.2 hz
                have hBz := hB.ext hz2
                have g0 := hBz.c 0 _ rfl
                have g1 := hBz.c 1 _ rfl
                have f0 := hBz.free 0
                have f1 := hBz.free 1
                have hst := hBz.set2 (.int .i64 DY) (.int .i64 ((n3 * 3600 + n4 * 60 + n5) * 1000000 + n6))
                have hI2 := (hI.1.setCell (p := ⟨b, 0, none⟩) hbs (.int .i64 DY)).setCell (p := ⟨b, 1, none⟩) hbs (.int .i64 ((n3 * 3600 + n4 * 60 + n5) * 1000000 + n6))
                go_wp2_with fail
                exact relyE_store undef rfl hst (by simp) ⟨fun _ _ h => h, fun _ _ h => h, fun _ _ h => h, fun _ _ h => h, fun _ _ h => h, fun _ _ h => h, fun _ _ h => h, fun _ _ h => h, fun _ _ h => h, fun _ _ h => h, fun _ _ h => h, fun _ _ h => h, fun _ _ h => h, fun _ _ h => h, fun _ _ h => h, fun _ _ h => h, fun _ _ h => h, fun _ _ h => h, fun _ _ h => h, fun _ _ h => h, fun _ hk _ => absurd rfl hk, fun _ _ h => h, trivial⟩ ⟨hI2, fun h => by simp [updE] at h⟩
              refine stepsF_cons ?_ ?_
              · intro listed vs W' hl hI hd hs hn hu hz ho9
                refine hold ?_
                obtain ⟨x0, x1, x2, x3, x4, x5, x6, x7, x8, x9, x10, x11, x12, x13, x14, x15, x16, x17, x18, x19, x20, x21, rfl⟩ := lenlit22 hl; clear hl
                refine held ?_
                simp only [putAll, Act.put, List.setIfInBounds_toArray, List.set_cons_succ, List.set_cons_zero]
                go_wp2_with fail
                exact relyE_done _ rfl rfl (Ext.refl _) ⟨hI.1, fun h => hI.2 (updE_false h)⟩
              exact trivial
            · intro listed vs W' hl hall hI hd hn
              obtain ⟨x0, x1, x2, x3, x4, x5, x6, x7, x8, x9, x10, x11, x12, x13, x14, x15, x16, x17, x18, x19, x20, x21, rfl⟩ := lenlit22 hl; clear hl
              simp only [List.length_cons, List.length_nil, List.range, List.range.loop, Nat.zero_add, Nat.reduceAdd, factsL, atL, refV, List.getElem?_cons_succ, List.getElem?_cons_zero, List.getD_cons_succ, List.getD_cons_zero, RelL.one, RelL.any, RelL.blk, RelL.law, RBk] at hd
              obtain ⟨rfl, rfl, rfl, rfl, rfl, rfl, rfl, rfl, rfl, rfl, rfl, rfl, rfl, rfl, rfl, rfl, rfl, rfl, rfl, rfl, h20, rfl, -⟩ := hd
              simp only [putAll, Act.put, List.setIfInBounds_toArray, List.set_cons_succ, List.set_cons_zero]
              go_wp2_with fail
              exact bodyPost_ret (res_parse _ b DY ((n3 * 3600 + n4 * 60 + n5) * 1000000 + n6) 0 _ (by rfl) (by rfl) h20) rfl ⟨by rw [HRF.out], hI.1⟩
  · have HRF : Hid (prsF l = ((0, 0), 7)) := Lib.hid (by rw [HR.out, if_neg (fun h => h (by unfold BadT; omega))])
    go_wp2_with fail
    all_goals first | exact bodyPost_ret (res_parse _ b 0 0 7 _ (by rfl) (by rfl) (hB.set2 _ _)) rfl ⟨by rw [HRF.out], (hE.setCell (p := ⟨b, 0, none⟩) hbs _).setCell (p := ⟨b, 1, none⟩) hbs _⟩ | (exfalso; simp_all)
end Go.Proofs.YtchbeheekahhiaaDoor
