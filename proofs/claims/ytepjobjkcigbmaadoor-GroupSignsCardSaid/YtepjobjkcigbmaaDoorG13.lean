/-
  The law GroupSigns, walked.
-/
import Derived.Test.YtepjobjkcigbmaaDoorG12
import Derived.Test.YtepjobjkcigbmaaDoorLib12
namespace Go.Proofs.YtepjobjkcigbmaaDoor
open Go.RowKit Go.Sort Go.Shelf
set_option linter.unusedSimpArgs false
set_option linter.unusedVariables false
set_option maxRecDepth 100000

theorem verify_pub {k c s : Nat} (hc : c < 1073741789) (hs : s < 1073741789) (a1 : Option Addr) (n1 c1 : Nat) (ms : List Int) (w : World) (h1 : Sl .i64 w a1 n1 c1 ms) (hn : n1 ≤ 500) (ht : TB w) :
    Calls Tryd.prog 19 #[.int .i64 (pw 2147483579 4 k : Nat), .agg #[.int .i64 c, .int .i64 s], .slice a1 n1 c1] w fun e w' => e = .returned (.tuple #[.bool (chal (backN (pw 2147483579 4 k) c s : Nat) (pw 2147483579 4 k : Nat) ms == (c : Int)), .int .i64 0]) ∧ Ext w w' := by
  have h := verify_any ((pw 2147483579 4 k : Nat) : Int) (c : Int) (s : Int) a1 n1 c1 ms w h1 hn ht
  have e1 : verB ((pw 2147483579 4 k : Nat) : Int) (c : Int) (s : Int) ms = (chal (backN (pw 2147483579 4 k) c s : Nat) (pw 2147483579 4 k : Nat) ms == (c : Int)) := by
    unfold verB
    rw [vOk_pub hc hs, Int.toNat_natCast, Int.toNat_natCast, Int.toNat_natCast, Bool.true_and]
  have e2 : verE ((pw 2147483579 4 k : Nat) : Int) (c : Int) (s : Int) = 0 := by unfold verE; rw [vOk_pub hc hs]; rfl
  rw [e1, e2] at h
  exact h

theorem lenlit19 {vs : List Value} (h : vs.length = 19) : ∃ x0 x1 x2 x3 x4 x5 x6 x7 x8 x9 x10 x11 x12 x13 x14 x15 x16 x17 x18 : Value, vs = [x0, x1, x2, x3, x4, x5, x6, x7, x8, x9, x10, x11, x12, x13, x14, x15, x16, x17, x18] := by
  obtain ⟨x0, v0, rfl, h0⟩ := len_cons h
  obtain ⟨x1, v1, rfl, h1⟩ := len_cons h0
  obtain ⟨x2, v2, rfl, h2⟩ := len_cons h1
  obtain ⟨x3, v3, rfl, h3⟩ := len_cons h2
  obtain ⟨x4, v4, rfl, h4⟩ := len_cons h3
  obtain ⟨x5, v5, rfl, h5⟩ := len_cons h4
  obtain ⟨x6, v6, rfl, h6⟩ := len_cons h5
  obtain ⟨x7, v7, rfl, h7⟩ := len_cons h6
  obtain ⟨x8, v8, rfl, h8⟩ := len_cons h7
  obtain ⟨x9, v9, rfl, h9⟩ := len_cons h8
  obtain ⟨x10, v10, rfl, h10⟩ := len_cons h9
  obtain ⟨x11, v11, rfl, h11⟩ := len_cons h10
  obtain ⟨x12, v12, rfl, h12⟩ := len_cons h11
  obtain ⟨x13, v13, rfl, h13⟩ := len_cons h12
  obtain ⟨x14, v14, rfl, h14⟩ := len_cons h13
  obtain ⟨x15, v15, rfl, h15⟩ := len_cons h14
  obtain ⟨x16, v16, rfl, h16⟩ := len_cons h15
  obtain ⟨x17, v17, rfl, h17⟩ := len_cons h16
  obtain ⟨x18, v18, rfl, h18⟩ := len_cons h17
  obtain rfl := len_nil h18
  exact ⟨x0, x1, x2, x3, x4, x5, x6, x7, x8, x9, x10, x11, x12, x13, x14, x15, x16, x17, x18, rfl⟩

set_option maxHeartbeats 8000000 in
theorem gsigns_any (key once : Int) (hkey : 0 ≤ key ∧ key ≤ 18446744073709551615) (honce : 0 ≤ once ∧ once ≤ 18446744073709551615) (a1 : Option Addr) (n1 c1 : Nat) (xs : List Int) (C S : Int) (hC : -9223372036854775808 ≤ C ∧ C ≤ 9223372036854775807) (hS : -9223372036854775808 ≤ S ∧ S ≤ 9223372036854775807) (w : World) (h1 : Sl .i64 w a1 n1 c1 xs) (ht : TB w) :
    Calls Tryd.prog 6 #[.int .u64 key, .int .u64 once, .slice a1 n1 c1, .agg #[.int .i64 C, .int .i64 S]] w (Yes w) := by
  have b1 := h1.bd
  have HT := Lib.hid ht
  clear ht
  have r1 := fun w => rsecret_any key hkey w
  have r2 := fun w => rsecret_any once honce w
  obtain ⟨k, ek, hk⟩ := sec_of key hkey
  obtain ⟨o, eo, ho⟩ := sec_of once honce
  rw [ek] at r1
  rw [eo] at r2
  clear ek eo
  have p1 := fun w => rpublic_any k (by have := hk.lt; omega) w
  have f1 := fun w h => gfew_any a1 n1 c1 xs w h
  have t1 := h1.take (m := min n1 20) (by omega)
  have m1 : min n1 20 ≤ 500 := by omega
  generalize min n1 20 = l1 at *
  generalize xs.take l1 = us at *
  have sg := fun w (h : Ext w w) h1 ht => sign_sec hk ho a1 l1 c1 us w h1 m1 ht
  have vf := fun w (h : Ext w w) h1 ht => verify_sec hk ho us a1 l1 c1 us w h1 m1 ht
  simp only [beq_self_eq_true] at vf
  obtain ⟨c, ec, hc⟩ : ∃ c : Nat, C % 1073741789 = (c : Int) ∧ c < 1073741789 := ⟨(C % 1073741789).toNat, by omega, by omega⟩
  obtain ⟨s, es, hs⟩ : ∃ s : Nat, S % 1073741789 = (s : Int) ∧ s < 1073741789 := ⟨(S % 1073741789).toNat, by omega, by omega⟩
  have q1 := fun w => rrest_any C hC w
  have q2 := fun w => rrest_any S hS w
  rw [ec] at q1
  rw [es] at q2
  have w2 := pw_lt (m := 2147483579) (a := 4) (x := k) (by omega)
  have vp := fun w (h : Ext w w) h1 ht => verify_pub (k := k) hc hs a1 l1 c1 us w h1 m1 ht
  have bk := fun w => rback_any (pw 2147483579 4 k) c s w2 hc hs w
  have ch := fun w h1 => rchallenge_any ((backN (pw 2147483579 4 k) c s : Nat) : Int) ((pw 2147483579 4 k : Nat) : Int) (wfN (backN_lt _ _ _)) (wfN w2) a1 l1 c1 us w h1 m1
  generalize ((backN (pw 2147483579 4 k) c s : Nat) : Int) = Bk at *
  generalize ((pw 2147483579 4 k : Nat) : Int) = Pb at *
  generalize chal Bk Pb us = K at *
  generalize sgC k o us = SC at *
  generalize sgS k o us = SS at *
  have R1 := Lib.hid r1
  have R2 := Lib.hid r2
  have P1 := Lib.hid p1
  have F1 := Lib.hid f1
  have SG := Lib.hid sg
  have VF := Lib.hid vf
  have Q1 := Lib.hid q1
  have Q2 := Lib.hid q2
  have VP := Lib.hid vp
  have BK := Lib.hid bk
  have CH := Lib.hid ch
  clear r1 r2 p1 f1 sg vf q1 q2 vp bk ch w2 hk ho ec es hc hs
  generalize (k : Int) = ki at *
  generalize (o : Int) = oi at *
  generalize (c : Int) = ci at *
  generalize (s : Int) = si at *
  have hB0 := World.alloc_heap_new w (.cells #[.int .i64 C, .int .i64 S] 23)
  have hE0 : Ext w (w.alloc (.cells #[.int .i64 C, .int .i64 S] 23)) := (Ext.refl w).alloc _
  go_enter Tryd.func6, Tryd.ntmps6
  go_wp2_with fail
  generalize w.alloc (.cells #[.int .i64 C, .int .i64 S] 23) = W at *
  have hge : w.heap.size ≤ w.heap.size := Nat.le_refl _
  refine (ghead_any W (TB.ext HT.out hE0)).mono ?_
  rintro e w1 ⟨rfl, hE1⟩
  have hB1 := (hE1.block _ (lt_of_block hB0)).trans hB0
  replace hE1 := hE0.trans hE1; clear hE0 hB0
  go_wp2_with fail
  refine (F1.out w1 (h1.ext hE1)).mono ?_
  rintro e w' ⟨rfl, hw⟩
  rw [← hw]
  clear hw w'
  go_wp2_with fail
  refine (R1.out w1).mono ?_
  rintro e w' ⟨rfl, hw⟩
  rw [hw]
  clear hw w'
  go_wp2_with fail
  refine (P1.out w1).mono ?_
  rintro e w' ⟨rfl, hw⟩
  rw [hw]
  clear hw w'
  go_wp2_with fail
  refine (R2.out w1).mono ?_
  rintro e w' ⟨rfl, hw⟩
  rw [hw]
  clear hw w'
  go_wp2_with fail
  refine (SG.out w1 (Ext.refl _) (t1.ext hE1) (TB.ext HT.out hE1)).mono ?_
  rintro e w2 ⟨rfl, hE2⟩
  have hB2 := (hE2.block _ (lt_of_block hB1)).trans hB1
  replace hE2 := hE1.trans hE2; clear hE1 hB1
  have g2 := World.alloc_heap_new w2 (.cells #[.int .i64 SC, .int .i64 SS] 23)
  have hE3 := hE2.alloc (.cells #[.int .i64 SC, .int .i64 SS] 23)
  have hB3 := (((Ext.refl w2).alloc (.cells #[.int .i64 SC, .int .i64 SS] 23)).block _ (lt_of_block hB2)).trans hB2
  have d0 := cell_of_block g2 0 _ rfl
  have d1 := cell_of_block g2 1 _ rfl
  clear hE2 hB2
  go_wp2_with fail
  generalize w2.alloc (.cells #[.int .i64 SC, .int .i64 SS] 23) = w3 at *
  generalize w2.heap.size = gb at *
  refine (VF.out w3 (Ext.refl _) (t1.ext hE3) (TB.ext HT.out hE3)).mono ?_
  rintro e w4 ⟨rfl, hE4⟩
  have hB4 := (hE4.block _ (lt_of_block hB3)).trans hB3
  replace hE4 := hE3.trans hE4; clear hE3 hB3 g2 d0 d1
  have d0 := cell_of_block hB4 0 _ rfl
  have d1 := cell_of_block hB4 1 _ rfl
  go_wp2_with fail
  have hlt := lt_of_block hB4
  refine region_tail 7 (by kernel_rfl) (by kernel_rfl) ?_
  simp only [List.take_succ_cons, List.take_zero, List.drop_succ_cons, List.drop_zero]
  have hg := @grow_cell
  repeat (go_big_quiet_step (first | (go_at_call_of 24 (Value.int IntKind.i64 C); exact Calls.regrown_of (toExt (Q1.out _))) | (go_at_call_of 24 (Value.int IntKind.i64 S); exact Calls.regrown_of (toExt (Q2.out _)))))
  refine wpQuiet_nil ?_
  intro w5 hE5
  clear hg
  have hB5 := (hE5.block _ (lt_of_block hB4)).trans hB4
  replace hE5 := hE4.trans hE5; clear hE4 hB4 d0 d1
  have d0 := cell_of_block hB5 0 _ rfl
  have d1 := cell_of_block hB5 1 _ rfl
  have d2 := free_of_block hB5
  go_wp2_with fail
  have hE6 : Ext w ((w5.setCell ⟨w.heap.size, 0, none⟩ (.int .i64 ci)).setCell ⟨w.heap.size, 1, none⟩ (.int .i64 si)) := (hE5.setCell (Nat.le_refl _) _).setCell (Nat.le_refl _) _
  have c0 : ((w5.setCell ⟨w.heap.size, 0, none⟩ (.int .i64 ci)).setCell ⟨w.heap.size, 1, none⟩ (.int .i64 si)).cell? ⟨w.heap.size, 0, none⟩ = some (.int .i64 ci) := by rw [World.cell?_setCell_other _ _ _ _ (by simp)]; exact World.cell?_setCell_same _ _ _ d0
  have c1' : ((w5.setCell ⟨w.heap.size, 0, none⟩ (.int .i64 ci)).setCell ⟨w.heap.size, 1, none⟩ (.int .i64 si)).cell? ⟨w.heap.size, 1, none⟩ = some (.int .i64 si) := World.cell?_setCell_same _ _ _ (by rw [World.cell?_setCell_other _ _ _ _ (by simp)]; exact d1)
  generalize (w5.setCell ⟨w.heap.size, 0, none⟩ (.int .i64 ci)).setCell ⟨w.heap.size, 1, none⟩ (.int .i64 si) = w6 at *
  clear hE5 hB5 d0 d1 d2
  refine (VP.out w6 (Ext.refl _) (t1.ext hE6) (TB.ext HT.out hE6)).mono ?_
  rintro e w7 ⟨rfl, hE7⟩
  have d0 := hE7.cell c0
  have d1 := hE7.cell c1'
  replace hE7 := hE6.trans hE7; clear hE6 c0 c1'
  go_wp2_with fail
  refine region_rely (S := Ext) (fun W' => Ext w7 W') [some 65, some 66, some 67, some 68, some 69, some 70, some 71, some 72, some 73, some 74, some 75, some 76, some 77, some 78, some 79, some 80, some 81, some 82, some 8] [[], [0], [1], [1, 2], [1, 3], [4], [5], [5], [5], [5, 7, 8], [5], [5], [5, 9, 10, 11], [5], [5, 13], [5, 12, 14], [5, 6, 15], [5, 16], [17]] [[], [], [], [], [], [], [], [], [], [], [], [], [], [], [], [], [], [], []] [.one (.bool true), .one (.bool true), .one (.int .i64 0), .one (.bool true), .one (.bool true), .one (.bool true), .one (.bool (K == ci)), .one (.int .i64 Pb), .one (.agg #[.int .i64 ci, .int .i64 si]), .one (.int .i64 Bk), .one (.int .i64 Pb), .one (.slice a1 l1 c1), .one (.int .i64 K), .one (.pointer (some ⟨w.heap.size, 0, none⟩)), .one (.int .i64 ci), .one (.bool (K == ci)), .one (.bool true), .one (.bool true), .one (.bool true)] (by kernel_rfl) (by kernel_rfl) (Ext.refl w7).drew ?_ ?_
  · refine stepsR_cons ?_ ?_
    · intro vs W' hl hI hd ho
      refine hold ?_
      obtain ⟨x0, x1, x2, x3, x4, x5, x6, x7, x8, x9, x10, x11, x12, x13, x14, x15, x16, x17, x18, rfl⟩ := lenlit19 hl; clear hl
      refine held ?_
      simp only [putAll, Act.put, List.setIfInBounds_toArray, List.set_cons_succ, List.set_cons_zero]
      go_wp2_with fail
      exact rely_done _ rfl rfl (Ext.refl _) hI
    refine stepsR_cons ?_ ?_
    · intro vs W' hl hI hd ho
      refine hold ?_
      obtain ⟨x0, x1, x2, x3, x4, x5, x6, x7, x8, x9, x10, x11, x12, x13, x14, x15, x16, x17, x18, rfl⟩ := lenlit19 hl; clear hl
      simp only [factsR, atR, List.getElem?_cons_succ, List.getElem?_cons_zero, Rel.one, Rel.blk] at hd
      obtain ⟨rfl, -⟩ := hd
      refine held ?_
      simp only [putAll, Act.put, List.setIfInBounds_toArray, List.set_cons_succ, List.set_cons_zero]
      go_wp2_with fail
      exact rely_done _ rfl rfl (Ext.refl _) hI
    refine stepsR_cons ?_ ?_
    · intro vs W' hl hI hd ho
      refine hold ?_
      obtain ⟨x0, x1, x2, x3, x4, x5, x6, x7, x8, x9, x10, x11, x12, x13, x14, x15, x16, x17, x18, rfl⟩ := lenlit19 hl; clear hl
      simp only [factsR, atR, List.getElem?_cons_succ, List.getElem?_cons_zero, Rel.one, Rel.blk] at hd
      obtain ⟨rfl, -⟩ := hd
      refine held ?_
      simp only [putAll, Act.put, List.setIfInBounds_toArray, List.set_cons_succ, List.set_cons_zero]
      refine wantedOp (by rfl) ?_
      go_wp2_with fail
      exact rely_done _ rfl rfl (Ext.refl _) hI
    refine stepsR_cons ?_ ?_
    · intro vs W' hl hI hd ho
      refine hold ?_
      obtain ⟨x0, x1, x2, x3, x4, x5, x6, x7, x8, x9, x10, x11, x12, x13, x14, x15, x16, x17, x18, rfl⟩ := lenlit19 hl; clear hl
      simp only [factsR, atR, List.getElem?_cons_succ, List.getElem?_cons_zero, Rel.one, Rel.blk] at hd
      obtain ⟨rfl, rfl, -⟩ := hd
      refine held ?_
      simp only [putAll, Act.put, List.setIfInBounds_toArray, List.set_cons_succ, List.set_cons_zero]
      refine wantedOp (by rfl) ?_
      go_wp2_with fail
      exact rely_done _ rfl rfl (Ext.refl _) hI
    refine stepsR_cons ?_ ?_
    · intro vs W' hl hI hd ho
      refine hold ?_
      obtain ⟨x0, x1, x2, x3, x4, x5, x6, x7, x8, x9, x10, x11, x12, x13, x14, x15, x16, x17, x18, rfl⟩ := lenlit19 hl; clear hl
      simp only [factsR, atR, List.getElem?_cons_succ, List.getElem?_cons_zero, Rel.one, Rel.blk] at hd
      obtain ⟨rfl, rfl, -⟩ := hd
      refine held ?_
      simp only [putAll, Act.put, List.setIfInBounds_toArray, List.set_cons_succ, List.set_cons_zero]
      go_wp2_with fail
      exact rely_done _ rfl rfl (Ext.refl _) hI
    refine stepsR_cons ?_ ?_
    · intro vs W' hl hI hd ho
      refine hold ?_
      obtain ⟨x0, x1, x2, x3, x4, x5, x6, x7, x8, x9, x10, x11, x12, x13, x14, x15, x16, x17, x18, rfl⟩ := lenlit19 hl; clear hl
      simp only [factsR, atR, List.getElem?_cons_succ, List.getElem?_cons_zero, Rel.one, Rel.blk] at hd
      obtain ⟨rfl, -⟩ := hd
      refine held ?_
      simp only [putAll, Act.put, List.setIfInBounds_toArray, List.set_cons_succ, List.set_cons_zero]
      go_wp2_with fail
      exact rely_done _ rfl rfl (Ext.refl _) hI
    refine stepsR_cons ?_ ?_
    · intro vs W' hl hI hd ho
      refine hold ?_
      obtain ⟨x0, x1, x2, x3, x4, x5, x6, x7, x8, x9, x10, x11, x12, x13, x14, x15, x16, x17, x18, rfl⟩ := lenlit19 hl; clear hl
      simp only [factsR, atR, List.getElem?_cons_succ, List.getElem?_cons_zero, Rel.one, Rel.blk] at hd
      obtain ⟨rfl, -⟩ := hd
      refine held ?_
      simp only [putAll, Act.put, List.setIfInBounds_toArray, List.set_cons_succ, List.set_cons_zero]
      refine wantedOp (by rfl) ?_
      go_wp2_with fail
      exact rely_done _ rfl rfl (Ext.refl _) hI
    refine stepsR_cons ?_ ?_
    · intro vs W' hl hI hd ho
      refine hold ?_
      obtain ⟨x0, x1, x2, x3, x4, x5, x6, x7, x8, x9, x10, x11, x12, x13, x14, x15, x16, x17, x18, rfl⟩ := lenlit19 hl; clear hl
      simp only [factsR, atR, List.getElem?_cons_succ, List.getElem?_cons_zero, Rel.one, Rel.blk] at hd
      obtain ⟨rfl, -⟩ := hd
      refine held ?_
      simp only [putAll, Act.put, List.setIfInBounds_toArray, List.set_cons_succ, List.set_cons_zero]
      refine wantedOp (by rfl) ?_
      go_wp2_with fail
      exact rely_done _ rfl rfl (Ext.refl _) hI
    refine stepsR_cons ?_ ?_
    · intro vs W' hl hI hd ho
      refine hold ?_
      obtain ⟨x0, x1, x2, x3, x4, x5, x6, x7, x8, x9, x10, x11, x12, x13, x14, x15, x16, x17, x18, rfl⟩ := lenlit19 hl; clear hl
      simp only [factsR, atR, List.getElem?_cons_succ, List.getElem?_cons_zero, Rel.one, Rel.blk] at hd
      obtain ⟨rfl, -⟩ := hd
      refine held ?_
      simp only [putAll, Act.put, List.setIfInBounds_toArray, List.set_cons_succ, List.set_cons_zero]
      refine wantedOp (by rfl) ?_
      have e0 := hI.cell d0
      have e1 := hI.cell d1
      go_wp2_with fail
      exact rely_done _ rfl rfl (Ext.refl _) hI
    refine stepsR_cons ?_ ?_
    · intro vs W' hl hI hd ho
      refine hold ?_
      obtain ⟨x0, x1, x2, x3, x4, x5, x6, x7, x8, x9, x10, x11, x12, x13, x14, x15, x16, x17, x18, rfl⟩ := lenlit19 hl; clear hl
      simp only [factsR, atR, List.getElem?_cons_succ, List.getElem?_cons_zero, Rel.one, Rel.blk] at hd
      obtain ⟨rfl, rfl, rfl, -⟩ := hd
      refine held ?_
      simp only [putAll, Act.put, List.setIfInBounds_toArray, List.set_cons_succ, List.set_cons_zero]
      refine wantedOp (by rfl) ?_
      go_wp2_with fail
      refine (BK.out W').mono ?_
      rintro e w8 ⟨rfl, hE8⟩
      go_wp2_with fail
      exact rely_done _ rfl rfl hE8 (hI.trans hE8)
    refine stepsR_cons ?_ ?_
    · intro vs W' hl hI hd ho
      refine hold ?_
      obtain ⟨x0, x1, x2, x3, x4, x5, x6, x7, x8, x9, x10, x11, x12, x13, x14, x15, x16, x17, x18, rfl⟩ := lenlit19 hl; clear hl
      simp only [factsR, atR, List.getElem?_cons_succ, List.getElem?_cons_zero, Rel.one, Rel.blk] at hd
      obtain ⟨rfl, -⟩ := hd
      refine held ?_
      simp only [putAll, Act.put, List.setIfInBounds_toArray, List.set_cons_succ, List.set_cons_zero]
      refine wantedOp (by rfl) ?_
      go_wp2_with fail
      exact rely_done _ rfl rfl (Ext.refl _) hI
    refine stepsR_cons ?_ ?_
    · intro vs W' hl hI hd ho
      refine hold ?_
      obtain ⟨x0, x1, x2, x3, x4, x5, x6, x7, x8, x9, x10, x11, x12, x13, x14, x15, x16, x17, x18, rfl⟩ := lenlit19 hl; clear hl
      simp only [factsR, atR, List.getElem?_cons_succ, List.getElem?_cons_zero, Rel.one, Rel.blk] at hd
      obtain ⟨rfl, -⟩ := hd
      refine held ?_
      simp only [putAll, Act.put, List.setIfInBounds_toArray, List.set_cons_succ, List.set_cons_zero]
      refine wantedOp (by rfl) ?_
      go_wp2_with fail
      exact rely_done _ rfl rfl (Ext.refl _) hI
    refine stepsR_cons ?_ ?_
    · intro vs W' hl hI hd ho
      refine hold ?_
      obtain ⟨x0, x1, x2, x3, x4, x5, x6, x7, x8, x9, x10, x11, x12, x13, x14, x15, x16, x17, x18, rfl⟩ := lenlit19 hl; clear hl
      simp only [factsR, atR, List.getElem?_cons_succ, List.getElem?_cons_zero, Rel.one, Rel.blk] at hd
      obtain ⟨rfl, rfl, rfl, rfl, -⟩ := hd
      refine held ?_
      simp only [putAll, Act.put, List.setIfInBounds_toArray, List.set_cons_succ, List.set_cons_zero]
      refine wantedOp (by rfl) ?_
      go_wp2_with fail
      refine (CH.out W' (t1.ext (hE7.trans hI))).mono ?_
      rintro e w8 ⟨rfl, hE8⟩
      go_wp2_with fail
      exact rely_done _ rfl rfl hE8 (hI.trans hE8)
    refine stepsR_cons ?_ ?_
    · intro vs W' hl hI hd ho
      refine hold ?_
      obtain ⟨x0, x1, x2, x3, x4, x5, x6, x7, x8, x9, x10, x11, x12, x13, x14, x15, x16, x17, x18, rfl⟩ := lenlit19 hl; clear hl
      simp only [factsR, atR, List.getElem?_cons_succ, List.getElem?_cons_zero, Rel.one, Rel.blk] at hd
      obtain ⟨rfl, -⟩ := hd
      refine held ?_
      simp only [putAll, Act.put, List.setIfInBounds_toArray, List.set_cons_succ, List.set_cons_zero]
      refine wantedOp (by rfl) ?_
      go_wp2_with fail
      exact rely_done _ rfl rfl (Ext.refl _) hI
    refine stepsR_cons ?_ ?_
    · intro vs W' hl hI hd ho
      refine hold ?_
      obtain ⟨x0, x1, x2, x3, x4, x5, x6, x7, x8, x9, x10, x11, x12, x13, x14, x15, x16, x17, x18, rfl⟩ := lenlit19 hl; clear hl
      simp only [factsR, atR, List.getElem?_cons_succ, List.getElem?_cons_zero, Rel.one, Rel.blk] at hd
      obtain ⟨rfl, rfl, -⟩ := hd
      refine held ?_
      simp only [putAll, Act.put, List.setIfInBounds_toArray, List.set_cons_succ, List.set_cons_zero]
      refine wantedOp (by rfl) ?_
      have e0 := hI.cell d0
      go_wp2_with fail
      exact rely_done _ rfl rfl (Ext.refl _) hI
    refine stepsR_cons ?_ ?_
    · intro vs W' hl hI hd ho
      refine hold ?_
      obtain ⟨x0, x1, x2, x3, x4, x5, x6, x7, x8, x9, x10, x11, x12, x13, x14, x15, x16, x17, x18, rfl⟩ := lenlit19 hl; clear hl
      simp only [factsR, atR, List.getElem?_cons_succ, List.getElem?_cons_zero, Rel.one, Rel.blk] at hd
      obtain ⟨rfl, rfl, rfl, -⟩ := hd
      refine held ?_
      simp only [putAll, Act.put, List.setIfInBounds_toArray, List.set_cons_succ, List.set_cons_zero]
      refine wantedOp (by rfl) ?_
      go_wp2_with fail
      exact rely_done _ rfl rfl (Ext.refl _) hI
    refine stepsR_cons ?_ ?_
    · intro vs W' hl hI hd ho
      refine hold ?_
      obtain ⟨x0, x1, x2, x3, x4, x5, x6, x7, x8, x9, x10, x11, x12, x13, x14, x15, x16, x17, x18, rfl⟩ := lenlit19 hl; clear hl
      simp only [factsR, atR, List.getElem?_cons_succ, List.getElem?_cons_zero, Rel.one, Rel.blk] at hd
      obtain ⟨rfl, rfl, rfl, -⟩ := hd
      refine held ?_
      simp only [putAll, Act.put, List.setIfInBounds_toArray, List.set_cons_succ, List.set_cons_zero]
      refine wantedOp (by rfl) ?_
      go_wp2_with fail
      exact rely_done _ rfl rfl (Ext.refl _) hI
    refine stepsR_cons ?_ ?_
    · intro vs W' hl hI hd ho
      refine hold ?_
      obtain ⟨x0, x1, x2, x3, x4, x5, x6, x7, x8, x9, x10, x11, x12, x13, x14, x15, x16, x17, x18, rfl⟩ := lenlit19 hl; clear hl
      simp only [factsR, atR, List.getElem?_cons_succ, List.getElem?_cons_zero, Rel.one, Rel.blk] at hd
      obtain ⟨rfl, rfl, -⟩ := hd
      refine held ?_
      simp only [putAll, Act.put, List.setIfInBounds_toArray, List.set_cons_succ, List.set_cons_zero]
      go_wp2_with fail
      exact rely_done _ rfl rfl (Ext.refl _) hI
    refine stepsR_cons ?_ ?_
    · intro vs W' hl hI hd ho
      refine hold ?_
      obtain ⟨x0, x1, x2, x3, x4, x5, x6, x7, x8, x9, x10, x11, x12, x13, x14, x15, x16, x17, x18, rfl⟩ := lenlit19 hl; clear hl
      simp only [factsR, atR, List.getElem?_cons_succ, List.getElem?_cons_zero, Rel.one, Rel.blk] at hd
      obtain ⟨rfl, -⟩ := hd
      refine held ?_
      simp only [putAll, Act.put, List.setIfInBounds_toArray, List.set_cons_succ, List.set_cons_zero]
      go_wp2_with fail
      exact rely_done _ rfl rfl (Ext.refl _) hI
    exact trivial
  · intro vs W' hl hI hd
    obtain ⟨x0, x1, x2, x3, x4, x5, x6, x7, x8, x9, x10, x11, x12, x13, x14, x15, x16, x17, x18, rfl⟩ := lenlit19 hl; clear hl
    simp only [List.length_cons, List.length_nil, List.range, List.range.loop, Nat.zero_add, Nat.reduceAdd, factsR, atR, List.getElem?_cons_succ, List.getElem?_cons_zero, Rel.one, Rel.blk] at hd
    obtain ⟨rfl, rfl, rfl, rfl, rfl, rfl, rfl, rfl, rfl, rfl, rfl, rfl, rfl, rfl, rfl, rfl, rfl, rfl, rfl, -⟩ := hd
    simp only [putAll, Act.put, List.setIfInBounds_toArray, List.set_cons_succ, List.set_cons_zero]
    go_wp2_with fail
    go_ret
    exact ⟨rfl, hE7.trans hI⟩
end Go.Proofs.YtepjobjkcigbmaaDoor
