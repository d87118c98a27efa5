/-
  The law GroupMessages, walked.
-/
import Derived.Test.YtepjobjkcigbmaaDoorG10
namespace Go.Proofs.YtepjobjkcigbmaaDoor
open Go.RowKit Go.Sort Go.Shelf
set_option linter.unusedSimpArgs false
set_option linter.unusedVariables false
set_option maxRecDepth 100000

theorem sec_of (n : Int) (hn : 0 ≤ n ∧ n ≤ 18446744073709551615) : ∃ k : Nat, 1 + n % 1073741788 = (k : Int) ∧ Sec k := ⟨(1 + n % 1073741788).toNat, by omega, by omega, by omega⟩

theorem sign_sec {k o : Nat} (hk : Sec k) (ho : Sec o) (a1 : Option Addr) (n1 c1 : Nat) (ms : List Int) (w : World) (h1 : Sl .i64 w a1 n1 c1 ms) (hn : n1 ≤ 500) (ht : TB w) :
    Calls Tryd.prog 17 #[.int .i64 k, .int .i64 o, .slice a1 n1 c1] w fun e w' => e = .returned (.tuple #[.agg #[.int .i64 (sgC k o ms), .int .i64 (sgS k o ms)], .int .i64 0]) ∧ Ext w w' := by
  have h := sign_any (k : Int) (o : Int) a1 n1 c1 ms w h1 hn ht
  rw [sgE_ok hk ho] at h
  exact h
theorem verify_sec {k o : Nat} (hk : Sec k) (ho : Sec o) (one : List Int) (a1 : Option Addr) (n1 c1 : Nat) (two : List Int) (w : World) (h1 : Sl .i64 w a1 n1 c1 two) (hn : n1 ≤ 500) (ht : TB w) :
    Calls Tryd.prog 19 #[.int .i64 (pw 2147483579 4 k : Nat), .agg #[.int .i64 (sgC k o one), .int .i64 (sgS k o one)], .slice a1 n1 c1] w fun e w' => e = .returned (.tuple #[.bool (chal (pw 2147483579 4 o : Nat) (pw 2147483579 4 k : Nat) one == chal (pw 2147483579 4 o : Nat) (pw 2147483579 4 k : Nat) two), .int .i64 0]) ∧ Ext w w' := by
  have h := verify_any ((pw 2147483579 4 k : Nat) : Int) (sgC k o one) (sgS k o one) a1 n1 c1 two w h1 hn ht
  obtain ⟨v1, v2⟩ := verB_sign hk ho one two
  rw [v1, v2, show (chal (pw 2147483579 4 o : Nat) (pw 2147483579 4 k : Nat) two == chal (pw 2147483579 4 o : Nat) (pw 2147483579 4 k : Nat) one) = (chal (pw 2147483579 4 o : Nat) (pw 2147483579 4 k : Nat) one == chal (pw 2147483579 4 o : Nat) (pw 2147483579 4 k : Nat) two) by
    rw [Bool.eq_iff_iff]; simp only [beq_iff_eq]; exact eq_comm] at h
  exact h

set_option maxHeartbeats 1000000 in
theorem gmessages_any (key once : Int) (hkey : 0 ≤ key ∧ key ≤ 18446744073709551615) (honce : 0 ≤ once ∧ once ≤ 18446744073709551615) (a1 : Option Addr) (n1 c1 : Nat) (xs : List Int) (a2 : Option Addr) (n2 c2 : Nat) (ys : List Int) (w : World) (h1 : Sl .i64 w a1 n1 c1 xs) (h2 : Sl .i64 w a2 n2 c2 ys) (ht : TB w) :
    Calls Tryd.prog 7 #[.int .u64 key, .int .u64 once, .slice a1 n1 c1, .slice a2 n2 c2] w (Yes w) := by
  have b1 := h1.bd
  have b2 := h2.bd
  have HT := Lib.hid ht
  clear ht
  have r1 := fun w => rsecret_any key hkey w
  have r2 := fun w => rsecret_any once honce w
  obtain ⟨k, ek, hk⟩ := sec_of key hkey
  obtain ⟨o, eo, ho⟩ := sec_of once honce
  rw [ek] at r1
  rw [eo] at r2
  clear ek eo
  have p1 := fun w => rpublic_any k (by have := hk.lt; omega) w
  have p2 := fun w => rpublic_any o (by have := ho.lt; omega) w
  have f1 := fun w h => gfew_any a1 n1 c1 xs w h
  have f2 := fun w h => gfew_any a2 n2 c2 ys w h
  have t1 := h1.take (m := min n1 20) (by omega)
  have t2 := h2.take (m := min n2 20) (by omega)
  have m1 : min n1 20 ≤ 500 := by omega
  have m2 : min n2 20 ≤ 500 := by omega
  generalize min n1 20 = l1 at *
  generalize min n2 20 = l2 at *
  generalize xs.take l1 = us at *
  generalize ys.take l2 = vs at *
  have sg := fun w (h : Ext w w) h1 ht => sign_sec hk ho a1 l1 c1 us w h1 m1 ht
  have vf := fun w (h : Ext w w) h1 ht => verify_sec hk ho us a2 l2 c2 vs w h1 m2 ht
  have w1 := wfN (pw_lt (m := 2147483579) (a := 4) (x := o) (by omega))
  have w2 := wfN (pw_lt (m := 2147483579) (a := 4) (x := k) (by omega))
  have ch1 := fun w h1 => rchallenge_any ((pw 2147483579 4 o : Nat) : Int) ((pw 2147483579 4 k : Nat) : Int) w1 w2 a1 l1 c1 us w h1 m1
  have ch2 := fun w h1 => rchallenge_any ((pw 2147483579 4 o : Nat) : Int) ((pw 2147483579 4 k : Nat) : Int) w1 w2 a2 l2 c2 vs w h1 m2
  generalize ((pw 2147483579 4 o : Nat) : Int) = Bg at *
  generalize ((pw 2147483579 4 k : Nat) : Int) = Pb at *
  generalize chal Bg Pb us = K1 at *
  generalize chal Bg Pb vs = K2 at *
  generalize sgC k o us = SC at *
  generalize sgS k o us = SS at *
  have R1 := Lib.hid r1
  have R2 := Lib.hid r2
  have P1 := Lib.hid p1
  have P2 := Lib.hid p2
  have F1 := Lib.hid f1
  have F2 := Lib.hid f2
  have SG := Lib.hid sg
  have VF := Lib.hid vf
  have CH1 := Lib.hid ch1
  have CH2 := Lib.hid ch2
  clear r1 r2 p1 p2 f1 f2 sg vf ch1 ch2 w1 w2 hk ho
  generalize (k : Int) = ki at *
  generalize (o : Int) = oi at *
  go_enter Tryd.func7, Tryd.ntmps7
  go_wp2_with fail
  refine (ghead_any w HT.out).mono ?_
  rintro e w1 ⟨rfl, hE1⟩
  go_wp2_with fail
  refine (R1.out w1).mono ?_
  rintro e w' ⟨rfl, hw⟩
  rw [hw]
  clear hw w'
  go_wp2_with fail
  refine (R2.out w1).mono ?_
  rintro e w' ⟨rfl, hw⟩
  rw [hw]
  clear hw w'
  go_wp2_with fail
  refine (P1.out w1).mono ?_
  rintro e w' ⟨rfl, hw⟩
  rw [hw]
  clear hw w'
  go_wp2_with fail
  refine (P2.out w1).mono ?_
  rintro e w' ⟨rfl, hw⟩
  rw [hw]
  clear hw w'
  go_wp2_with fail
  refine (F1.out w1 (h1.ext hE1)).mono ?_
  rintro e w' ⟨rfl, hw⟩
  rw [← hw]
  clear hw w'
  go_wp2_with fail
  refine (SG.out w1 (Ext.refl _) (t1.ext hE1) (TB.ext HT.out hE1)).mono ?_
  rintro e w2 ⟨rfl, hE2⟩
  replace hE2 := hE1.trans hE2; clear hE1
  have g2 := World.alloc_heap_new w2 (.cells #[.int .i64 SC, .int .i64 SS] 23)
  have hE3 := hE2.alloc (.cells #[.int .i64 SC, .int .i64 SS] 23)
  clear hE2
  go_wp2_with fail
  generalize w2.alloc (.cells #[.int .i64 SC, .int .i64 SS] 23) = w3 at *
  generalize w2.heap.size = gb at *
  have d0 := cell_of_block g2 0 _ rfl
  have d1 := cell_of_block g2 1 _ rfl
  clear g2
  refine region_rely (S := Ext) (fun W' => Ext w3 W') [some 36, some 37, some 38, some 39, some 40, some 35, some 41, some 42, some 16, some 17] [[], [], [], [2], [0, 1, 2, 3], [0, 1, 2, 3, 4], [0, 1, 2, 3, 4, 5], [0, 1, 2, 3, 4, 5], [0, 1, 2, 3, 4, 5, 6], [0, 1, 2, 3, 4, 5, 6, 7, 8]] [[], [], [], [], [], [], [], [], [], []] [.one (.int .i64 Pb), .one (.agg #[.int .i64 SC, .int .i64 SS]), .one (.slice a2 n2 c2), .one (.slice a2 l2 c2), .one (.tuple #[.bool (K1 == K2), .int .i64 0]), .one (.tuple #[.bool (K1 == K2), .int .i64 0]), .one (.bool (K1 == K2)), .one (.int .i64 0), .one (.bool (K1 == K2)), .one (.int .i64 0)] (by kernel_rfl) (by kernel_rfl) (Ext.refl w3).drew ?_ ?_
  · refine stepsR_cons ?_ (stepsR_cons ?_ (stepsR_cons ?_ (stepsR_cons ?_ (stepsR_cons ?_ (stepsR_cons ?_ (stepsR_cons ?_ (stepsR_cons ?_ (stepsR_cons ?_ (stepsR_cons ?_ (trivial))))))))))
    · intro vs W' hl hI hd ho
      obtain ⟨x0, v0, rfl, l0⟩ := len_cons hl; obtain ⟨x1, v1, rfl, l1⟩ := len_cons l0; obtain ⟨x2, v2, rfl, l2⟩ := len_cons l1; obtain ⟨x3, v3, rfl, l3⟩ := len_cons l2; obtain ⟨x4, v4, rfl, l4⟩ := len_cons l3; obtain ⟨x5, v5, rfl, l5⟩ := len_cons l4; obtain ⟨x6, v6, rfl, l6⟩ := len_cons l5; obtain ⟨x7, v7, rfl, l7⟩ := len_cons l6; obtain ⟨x8, v8, rfl, l8⟩ := len_cons l7; obtain ⟨x9, v9, rfl, l9⟩ := len_cons l8; obtain rfl := len_nil l9; clear hl l0 l1 l2 l3 l4 l5 l6 l7 l8 l9
      simp only [putAll, Act.put, List.setIfInBounds_toArray, List.set_cons_succ, List.set_cons_zero]
      go_wp2_with fail
      exact rely_done _ rfl rfl (Ext.refl _) hI
    · intro vs W' hl hI hd ho
      obtain ⟨x0, v0, rfl, l0⟩ := len_cons hl; obtain ⟨x1, v1, rfl, l1⟩ := len_cons l0; obtain ⟨x2, v2, rfl, l2⟩ := len_cons l1; obtain ⟨x3, v3, rfl, l3⟩ := len_cons l2; obtain ⟨x4, v4, rfl, l4⟩ := len_cons l3; obtain ⟨x5, v5, rfl, l5⟩ := len_cons l4; obtain ⟨x6, v6, rfl, l6⟩ := len_cons l5; obtain ⟨x7, v7, rfl, l7⟩ := len_cons l6; obtain ⟨x8, v8, rfl, l8⟩ := len_cons l7; obtain ⟨x9, v9, rfl, l9⟩ := len_cons l8; obtain rfl := len_nil l9; clear hl l0 l1 l2 l3 l4 l5 l6 l7 l8 l9
      simp only [putAll, Act.put, List.setIfInBounds_toArray, List.set_cons_succ, List.set_cons_zero]
      have e0 := hI.cell d0
      have e1 := hI.cell d1
      go_wp2_with fail
      exact rely_done _ rfl rfl (Ext.refl _) hI
    · intro vs W' hl hI hd ho
      obtain ⟨x0, v0, rfl, l0⟩ := len_cons hl; obtain ⟨x1, v1, rfl, l1⟩ := len_cons l0; obtain ⟨x2, v2, rfl, l2⟩ := len_cons l1; obtain ⟨x3, v3, rfl, l3⟩ := len_cons l2; obtain ⟨x4, v4, rfl, l4⟩ := len_cons l3; obtain ⟨x5, v5, rfl, l5⟩ := len_cons l4; obtain ⟨x6, v6, rfl, l6⟩ := len_cons l5; obtain ⟨x7, v7, rfl, l7⟩ := len_cons l6; obtain ⟨x8, v8, rfl, l8⟩ := len_cons l7; obtain ⟨x9, v9, rfl, l9⟩ := len_cons l8; obtain rfl := len_nil l9; clear hl l0 l1 l2 l3 l4 l5 l6 l7 l8 l9
      simp only [putAll, Act.put, List.setIfInBounds_toArray, List.set_cons_succ, List.set_cons_zero]
      go_wp2_with fail
      exact rely_done _ rfl rfl (Ext.refl _) hI
    · intro vs W' hl hI hd ho
      obtain ⟨x0, v0, rfl, l0⟩ := len_cons hl; obtain ⟨x1, v1, rfl, l1⟩ := len_cons l0; obtain ⟨x2, v2, rfl, l2⟩ := len_cons l1; obtain ⟨x3, v3, rfl, l3⟩ := len_cons l2; obtain ⟨x4, v4, rfl, l4⟩ := len_cons l3; obtain ⟨x5, v5, rfl, l5⟩ := len_cons l4; obtain ⟨x6, v6, rfl, l6⟩ := len_cons l5; obtain ⟨x7, v7, rfl, l7⟩ := len_cons l6; obtain ⟨x8, v8, rfl, l8⟩ := len_cons l7; obtain ⟨x9, v9, rfl, l9⟩ := len_cons l8; obtain rfl := len_nil l9; clear hl l0 l1 l2 l3 l4 l5 l6 l7 l8 l9
      simp only [factsR, atR, List.getElem?_cons_succ, List.getElem?_cons_zero, Rel.one, Rel.blk] at hd
      obtain ⟨rfl, -⟩ := hd
      simp only [putAll, Act.put, List.setIfInBounds_toArray, List.set_cons_succ, List.set_cons_zero]
      go_wp2_with fail
      refine (F2.out W' (h2.ext (hE3.trans hI))).mono ?_
      rintro e w' ⟨rfl, hw⟩
      rw [← hw]
      clear hw w'
      go_wp2_with fail
      exact rely_done _ rfl rfl (Ext.refl _) hI
    · intro vs W' hl hI hd ho
      obtain ⟨x0, v0, rfl, l0⟩ := len_cons hl; obtain ⟨x1, v1, rfl, l1⟩ := len_cons l0; obtain ⟨x2, v2, rfl, l2⟩ := len_cons l1; obtain ⟨x3, v3, rfl, l3⟩ := len_cons l2; obtain ⟨x4, v4, rfl, l4⟩ := len_cons l3; obtain ⟨x5, v5, rfl, l5⟩ := len_cons l4; obtain ⟨x6, v6, rfl, l6⟩ := len_cons l5; obtain ⟨x7, v7, rfl, l7⟩ := len_cons l6; obtain ⟨x8, v8, rfl, l8⟩ := len_cons l7; obtain ⟨x9, v9, rfl, l9⟩ := len_cons l8; obtain rfl := len_nil l9; clear hl l0 l1 l2 l3 l4 l5 l6 l7 l8 l9
      simp only [factsR, atR, List.getElem?_cons_succ, List.getElem?_cons_zero, Rel.one, Rel.blk] at hd
      obtain ⟨rfl, rfl, rfl, rfl, -⟩ := hd
      simp only [putAll, Act.put, List.setIfInBounds_toArray, List.set_cons_succ, List.set_cons_zero]
      go_wp2_with fail
      refine (VF.out W' (Ext.refl _) (t2.ext (hE3.trans hI)) (TB.ext HT.out (hE3.trans hI))).mono ?_
      rintro e w4 ⟨rfl, hE4⟩
      go_wp2_with fail
      exact rely_done _ rfl rfl hE4 (hI.trans hE4)
    · intro vs W' hl hI hd ho
      obtain ⟨x0, v0, rfl, l0⟩ := len_cons hl; obtain ⟨x1, v1, rfl, l1⟩ := len_cons l0; obtain ⟨x2, v2, rfl, l2⟩ := len_cons l1; obtain ⟨x3, v3, rfl, l3⟩ := len_cons l2; obtain ⟨x4, v4, rfl, l4⟩ := len_cons l3; obtain ⟨x5, v5, rfl, l5⟩ := len_cons l4; obtain ⟨x6, v6, rfl, l6⟩ := len_cons l5; obtain ⟨x7, v7, rfl, l7⟩ := len_cons l6; obtain ⟨x8, v8, rfl, l8⟩ := len_cons l7; obtain ⟨x9, v9, rfl, l9⟩ := len_cons l8; obtain rfl := len_nil l9; clear hl l0 l1 l2 l3 l4 l5 l6 l7 l8 l9
      simp only [factsR, atR, List.getElem?_cons_succ, List.getElem?_cons_zero, Rel.one, Rel.blk] at hd
      obtain ⟨rfl, rfl, rfl, rfl, rfl, -⟩ := hd
      simp only [putAll, Act.put, List.setIfInBounds_toArray, List.set_cons_succ, List.set_cons_zero]
      go_wp2_with fail
      exact rely_done _ rfl rfl (Ext.refl _) hI
    · intro vs W' hl hI hd ho
      obtain ⟨x0, v0, rfl, l0⟩ := len_cons hl; obtain ⟨x1, v1, rfl, l1⟩ := len_cons l0; obtain ⟨x2, v2, rfl, l2⟩ := len_cons l1; obtain ⟨x3, v3, rfl, l3⟩ := len_cons l2; obtain ⟨x4, v4, rfl, l4⟩ := len_cons l3; obtain ⟨x5, v5, rfl, l5⟩ := len_cons l4; obtain ⟨x6, v6, rfl, l6⟩ := len_cons l5; obtain ⟨x7, v7, rfl, l7⟩ := len_cons l6; obtain ⟨x8, v8, rfl, l8⟩ := len_cons l7; obtain ⟨x9, v9, rfl, l9⟩ := len_cons l8; obtain rfl := len_nil l9; clear hl l0 l1 l2 l3 l4 l5 l6 l7 l8 l9
      simp only [factsR, atR, List.getElem?_cons_succ, List.getElem?_cons_zero, Rel.one, Rel.blk] at hd
      obtain ⟨rfl, rfl, rfl, rfl, rfl, rfl, -⟩ := hd
      simp only [putAll, Act.put, List.setIfInBounds_toArray, List.set_cons_succ, List.set_cons_zero]
      go_wp2_with fail
      exact rely_done _ rfl rfl (Ext.refl _) hI
    · intro vs W' hl hI hd ho
      obtain ⟨x0, v0, rfl, l0⟩ := len_cons hl; obtain ⟨x1, v1, rfl, l1⟩ := len_cons l0; obtain ⟨x2, v2, rfl, l2⟩ := len_cons l1; obtain ⟨x3, v3, rfl, l3⟩ := len_cons l2; obtain ⟨x4, v4, rfl, l4⟩ := len_cons l3; obtain ⟨x5, v5, rfl, l5⟩ := len_cons l4; obtain ⟨x6, v6, rfl, l6⟩ := len_cons l5; obtain ⟨x7, v7, rfl, l7⟩ := len_cons l6; obtain ⟨x8, v8, rfl, l8⟩ := len_cons l7; obtain ⟨x9, v9, rfl, l9⟩ := len_cons l8; obtain rfl := len_nil l9; clear hl l0 l1 l2 l3 l4 l5 l6 l7 l8 l9
      simp only [factsR, atR, List.getElem?_cons_succ, List.getElem?_cons_zero, Rel.one, Rel.blk] at hd
      obtain ⟨rfl, rfl, rfl, rfl, rfl, rfl, -⟩ := hd
      simp only [putAll, Act.put, List.setIfInBounds_toArray, List.set_cons_succ, List.set_cons_zero]
      go_wp2_with fail
      exact rely_done _ rfl rfl (Ext.refl _) hI
    · intro vs W' hl hI hd ho
      obtain ⟨x0, v0, rfl, l0⟩ := len_cons hl; obtain ⟨x1, v1, rfl, l1⟩ := len_cons l0; obtain ⟨x2, v2, rfl, l2⟩ := len_cons l1; obtain ⟨x3, v3, rfl, l3⟩ := len_cons l2; obtain ⟨x4, v4, rfl, l4⟩ := len_cons l3; obtain ⟨x5, v5, rfl, l5⟩ := len_cons l4; obtain ⟨x6, v6, rfl, l6⟩ := len_cons l5; obtain ⟨x7, v7, rfl, l7⟩ := len_cons l6; obtain ⟨x8, v8, rfl, l8⟩ := len_cons l7; obtain ⟨x9, v9, rfl, l9⟩ := len_cons l8; obtain rfl := len_nil l9; clear hl l0 l1 l2 l3 l4 l5 l6 l7 l8 l9
      simp only [factsR, atR, List.getElem?_cons_succ, List.getElem?_cons_zero, Rel.one, Rel.blk] at hd
      obtain ⟨rfl, rfl, rfl, rfl, rfl, rfl, rfl, -⟩ := hd
      simp only [putAll, Act.put, List.setIfInBounds_toArray, List.set_cons_succ, List.set_cons_zero]
      go_wp2_with fail
      exact rely_done _ rfl rfl (Ext.refl _) hI
    · intro vs W' hl hI hd ho
      obtain ⟨x0, v0, rfl, l0⟩ := len_cons hl; obtain ⟨x1, v1, rfl, l1⟩ := len_cons l0; obtain ⟨x2, v2, rfl, l2⟩ := len_cons l1; obtain ⟨x3, v3, rfl, l3⟩ := len_cons l2; obtain ⟨x4, v4, rfl, l4⟩ := len_cons l3; obtain ⟨x5, v5, rfl, l5⟩ := len_cons l4; obtain ⟨x6, v6, rfl, l6⟩ := len_cons l5; obtain ⟨x7, v7, rfl, l7⟩ := len_cons l6; obtain ⟨x8, v8, rfl, l8⟩ := len_cons l7; obtain ⟨x9, v9, rfl, l9⟩ := len_cons l8; obtain rfl := len_nil l9; clear hl l0 l1 l2 l3 l4 l5 l6 l7 l8 l9
      simp only [factsR, atR, List.getElem?_cons_succ, List.getElem?_cons_zero, Rel.one, Rel.blk] at hd
      obtain ⟨rfl, rfl, rfl, rfl, rfl, rfl, rfl, rfl, rfl, -⟩ := hd
      simp only [putAll, Act.put, List.setIfInBounds_toArray, List.set_cons_succ, List.set_cons_zero]
      go_wp2_with fail
      exact rely_done _ rfl rfl (Ext.refl _) hI
  · intro vs W' hl hI hd
    obtain ⟨x0, v0, rfl, l0⟩ := len_cons hl; obtain ⟨x1, v1, rfl, l1⟩ := len_cons l0; obtain ⟨x2, v2, rfl, l2⟩ := len_cons l1; obtain ⟨x3, v3, rfl, l3⟩ := len_cons l2; obtain ⟨x4, v4, rfl, l4⟩ := len_cons l3; obtain ⟨x5, v5, rfl, l5⟩ := len_cons l4; obtain ⟨x6, v6, rfl, l6⟩ := len_cons l5; obtain ⟨x7, v7, rfl, l7⟩ := len_cons l6; obtain ⟨x8, v8, rfl, l8⟩ := len_cons l7; obtain ⟨x9, v9, rfl, l9⟩ := len_cons l8; obtain rfl := len_nil l9; clear hl l0 l1 l2 l3 l4 l5 l6 l7 l8 l9
    simp only [List.length_cons, List.length_nil, List.range, List.range.loop, Nat.zero_add, Nat.reduceAdd, factsR, atR, List.getElem?_cons_succ, List.getElem?_cons_zero, Rel.one, Rel.blk] at hd
    obtain ⟨rfl, rfl, rfl, rfl, rfl, rfl, rfl, rfl, rfl, rfl, -⟩ := hd
    simp only [putAll, Act.put, List.setIfInBounds_toArray, List.set_cons_succ, List.set_cons_zero]
    have hE5 := hE3.trans hI
    clear hE3 hI d0 d1
    generalize W' = w5 at *
    go_wp2_with fail
    refine (F1.out w5 (h1.ext hE5)).mono ?_
    rintro e w' ⟨rfl, hw⟩
    rw [← hw]
    clear hw w'
    go_wp2_with fail
    refine (CH1.out w5 (t1.ext hE5)).mono ?_
    rintro e w6 ⟨rfl, hE6⟩
    replace hE6 := hE5.trans hE6; clear hE5
    go_wp2_with fail
    refine (F2.out w6 (h2.ext hE6)).mono ?_
    rintro e w' ⟨rfl, hw⟩
    rw [← hw]
    clear hw w'
    go_wp2_with fail
    refine (CH2.out w6 (t2.ext hE6)).mono ?_
    rintro e w7 ⟨rfl, hE7⟩
    replace hE7 := hE6.trans hE7; clear hE6
    go_wp2_with fail
    go_ret
    exact ⟨rfl, hE7⟩
end Go.Proofs.YtepjobjkcigbmaaDoor
