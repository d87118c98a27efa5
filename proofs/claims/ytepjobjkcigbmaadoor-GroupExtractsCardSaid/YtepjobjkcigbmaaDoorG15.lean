/-
  The law GroupExtracts, walked.
-/
import Derived.Test.YtepjobjkcigbmaaDoorG14
import Derived.Test.YtepjobjkcigbmaaDoorLib12
namespace Go.Proofs.YtepjobjkcigbmaaDoor
open Go.RowKit Go.Sort Go.Shelf
set_option linter.unusedSimpArgs false
set_option linter.unusedVariables false
set_option maxRecDepth 100000

theorem sign_nat {k o : Nat} (hk : Sec k) (ho : Sec o) (a1 : Option Addr) (n1 c1 : Nat) (ms : List Int) (hn : n1 ≤ 500) :
    ∃ c : Nat, c < 1073741789 ∧ ∀ w : World, Sl .i64 w a1 n1 c1 ms → TB w → Calls Tryd.prog 17 #[.int .i64 k, .int .i64 o, .slice a1 n1 c1] w fun e w' => e = .returned (.tuple #[.agg #[.int .i64 c, .int .i64 (((o + c * k) % 1073741789 : Nat) : Int)], .int .i64 0]) ∧ Ext w w' := by
  obtain ⟨c, h1, h2, h3⟩ := sgS_ok hk ho ms
  refine ⟨c, h2, fun w hs ht => ?_⟩
  have h := sign_sec hk ho a1 n1 c1 ms w hs hn ht
  rw [h3, sgC_ok hk ho, h1] at h
  exact h

/-- What the last part of the law reckons with. -/
structure ExtFacts (ki A SA B SB X Y : Int) : Prop where
  eA : ∀ w : World, Calls Tryd.prog 27 #[.int .i64 A] w fun e w' => e = .returned (.bool true) ∧ w' = w
  eSA : ∀ w : World, Calls Tryd.prog 27 #[.int .i64 SA] w fun e w' => e = .returned (.bool true) ∧ w' = w
  eB : ∀ w : World, Calls Tryd.prog 27 #[.int .i64 B] w fun e w' => e = .returned (.bool true) ∧ w' = w
  eSB : ∀ w : World, Calls Tryd.prog 27 #[.int .i64 SB] w fun e w' => e = .returned (.bool true) ∧ w' = w
  rX : ∀ w : World, Calls Tryd.prog 24 #[.int .i64 (SA - SB)] w fun e w' => e = .returned (.int .i64 X) ∧ w' = w
  rY : ∀ w : World, Calls Tryd.prog 24 #[.int .i64 (A - B)] w fun e w' => e = .returned (.int .i64 Y) ∧ w' = w
  ov : A ≠ B → ∀ w : World, Calls Tryd.prog 28 #[.int .i64 X, .int .i64 Y] w fun e w' => e = .returned (.int .i64 ki) ∧ w' = w
  bA : 0 ≤ A ∧ A < 1073741789
  bB : 0 ≤ B ∧ B < 1073741789
  bSA : 0 ≤ SA ∧ SA < 1073741789
  bSB : 0 ≤ SB ∧ SB < 1073741789

theorem exponent_nat {n : Nat} (h : n < 1073741789) (w : World) : Calls Tryd.prog 27 #[.int .i64 n] w fun e w' => e = .returned (.bool true) ∧ w' = w := by
  have := rexponent_any (n : Int) w
  rw [inQ_nat h] at this
  exact this

theorem extFacts {k o c1 c2 : Nat} (hk : k < 1073741789) (h1 : c1 < 1073741789) (h2 : c2 < 1073741789) : ∃ X Y : Int, ExtFacts k c1 (((o + c1 * k) % 1073741789 : Nat) : Int) c2 (((o + c2 * k) % 1073741789 : Nat) : Int) X Y := by
  have s1 : (o + c1 * k) % 1073741789 < 1073741789 := Nat.mod_lt _ (by omega)
  have s2 : (o + c2 * k) % 1073741789 < 1073741789 := Nat.mod_lt _ (by omega)
  refine ⟨_, _, fun w => exponent_nat h1 w, fun w => exponent_nat s1 w, fun w => exponent_nat h2 w, fun w => exponent_nat s2 w, fun w => rrest_any _ (by omega) w, fun w => rrest_any _ (by omega) w, fun hne w => ?_, by omega, by omega, by omega, by omega⟩
  have e := extract_eq (o := o) hk h1 h2 (by omega)
  have hx : ((((((o + c1 * k) % 1073741789 : Nat) : Int) - (((o + c2 * k) % 1073741789 : Nat) : Int)) % 1073741789).toNat : Int) = ((((o + c1 * k) % 1073741789 : Nat) : Int) - (((o + c2 * k) % 1073741789 : Nat) : Int)) % 1073741789 := by omega
  have hy : ((((c1 : Int) - c2) % 1073741789).toNat : Int) = ((c1 : Int) - c2) % 1073741789 := by omega
  have h := rover_any ((((((o + c1 * k) % 1073741789 : Nat) : Int) - (((o + c2 * k) % 1073741789 : Nat) : Int)) % 1073741789).toNat) ((((c1 : Int) - c2) % 1073741789).toNat) (by omega) (by omega) w
  rw [e, hx, hy] at h
  exact h

theorem lenlit26 {vs : List Value} (h : vs.length = 26) : ∃ x0 x1 x2 x3 x4 x5 x6 x7 x8 x9 x10 x11 x12 x13 x14 x15 x16 x17 x18 x19 x20 x21 x22 x23 x24 x25 : Value, vs = [x0, x1, x2, x3, x4, x5, x6, x7, x8, x9, x10, x11, x12, x13, x14, x15, x16, x17, x18, x19, x20, x21, x22, x23, x24, x25] := by
  obtain ⟨x0, v0, rfl, h0⟩ := len_cons h
  obtain ⟨x1, v1, rfl, h1⟩ := len_cons h0
  obtain ⟨x2, v2, rfl, h2⟩ := len_cons h1
  obtain ⟨x3, v3, rfl, h3⟩ := len_cons h2
  obtain ⟨x4, v4, rfl, h4⟩ := len_cons h3
  obtain ⟨x5, v5, rfl, h5⟩ := len_cons h4
  obtain ⟨x6, v6, rfl, h6⟩ := len_cons h5
  obtain ⟨x7, v7, rfl, h7⟩ := len_cons h6
  obtain ⟨x8, v8, rfl, h8⟩ := len_cons h7
  obtain ⟨x9, v9, rfl, h9⟩ := len_cons h8
  obtain ⟨x10, v10, rfl, h10⟩ := len_cons h9
  obtain ⟨x11, v11, rfl, h11⟩ := len_cons h10
  obtain ⟨x12, v12, rfl, h12⟩ := len_cons h11
  obtain ⟨x13, v13, rfl, h13⟩ := len_cons h12
  obtain ⟨x14, v14, rfl, h14⟩ := len_cons h13
  obtain ⟨x15, v15, rfl, h15⟩ := len_cons h14
  obtain ⟨x16, v16, rfl, h16⟩ := len_cons h15
  obtain ⟨x17, v17, rfl, h17⟩ := len_cons h16
  obtain ⟨x18, v18, rfl, h18⟩ := len_cons h17
  obtain ⟨x19, v19, rfl, h19⟩ := len_cons h18
  obtain ⟨x20, v20, rfl, h20⟩ := len_cons h19
  obtain ⟨x21, v21, rfl, h21⟩ := len_cons h20
  obtain ⟨x22, v22, rfl, h22⟩ := len_cons h21
  obtain ⟨x23, v23, rfl, h23⟩ := len_cons h22
  obtain ⟨x24, v24, rfl, h24⟩ := len_cons h23
  obtain ⟨x25, v25, rfl, h25⟩ := len_cons h24
  obtain rfl := len_nil h25
  exact ⟨x0, x1, x2, x3, x4, x5, x6, x7, x8, x9, x10, x11, x12, x13, x14, x15, x16, x17, x18, x19, x20, x21, x22, x23, x24, x25, rfl⟩

set_option maxHeartbeats 4000000 in
theorem gextracts_any (key once : Int) (hkey : 0 ≤ key ∧ key ≤ 18446744073709551615) (honce : 0 ≤ once ∧ once ≤ 18446744073709551615) (a1 : Option Addr) (n1 c1 : Nat) (xs : List Int) (a2 : Option Addr) (n2 c2 : Nat) (ys : List Int) (w : World) (h1 : Sl .i64 w a1 n1 c1 xs) (h2 : Sl .i64 w a2 n2 c2 ys) (ht : TB w) :
    Calls Tryd.prog 8 #[.int .u64 key, .int .u64 once, .slice a1 n1 c1, .slice a2 n2 c2] w (Yes w) := by
  have b1 := h1.bd
  have b2 := h2.bd
  have HT := Lib.hid ht
  clear ht
  have r1 := fun w => rsecret_any key hkey w
  have r2 := fun w => rsecret_any once honce w
  obtain ⟨k, ek, hk⟩ := sec_of key hkey
  obtain ⟨o, eo, ho⟩ := sec_of once honce
  rw [ek] at r1
  rw [eo] at r2
  clear ek eo
  have f1 := fun w h => gfew_any a1 n1 c1 xs w h
  have f2 := fun w h => gfew_any a2 n2 c2 ys w h
  have t1 := h1.take (m := min n1 20) (by omega)
  have t2 := h2.take (m := min n2 20) (by omega)
  have m1 : min n1 20 ≤ 500 := by omega
  have m2 : min n2 20 ≤ 500 := by omega
  generalize min n1 20 = l1 at *
  generalize min n2 20 = l2 at *
  generalize xs.take l1 = us at *
  generalize ys.take l2 = vs at *
  obtain ⟨ca, hca, sg1⟩ := sign_nat hk ho a1 l1 c1 us m1
  obtain ⟨cb, hcb, sg2⟩ := sign_nat hk ho a2 l2 c2 vs m2
  obtain ⟨X, Y, ef⟩ := extFacts (o := o) hk.lt hca hcb
  generalize (((o + ca * k) % 1073741789 : Nat) : Int) = SA at *
  generalize (((o + cb * k) % 1073741789 : Nat) : Int) = SB at *
  generalize (ca : Int) = A at *
  generalize (cb : Int) = B at *
  clear hk ho hca hcb
  generalize (k : Int) = ki at *
  generalize (o : Int) = oi at *
  obtain ⟨eA, eSA, eB, eSB, rX, rY, ov, bA, bB, bSA, bSB⟩ := ef
  have R1 := Lib.hid r1
  have R2 := Lib.hid r2
  have F1 := Lib.hid f1
  have F2 := Lib.hid f2
  have SG1 := Lib.hid sg1
  have SG2 := Lib.hid sg2
  have EA := Lib.hid eA
  have ESA := Lib.hid eSA
  have EB := Lib.hid eB
  have ESB := Lib.hid eSB
  have RX := Lib.hid rX
  have RY := Lib.hid rY
  have OV := Lib.hid ov
  clear r1 r2 f1 f2 sg1 sg2 eA eSA eB eSB rX rY ov
  have hcase : (A == B) = true ∨ ((A == B) = false ∧ A ≠ B) := by
    by_cases h : A = B
    · left; simpa using h
    · right; exact ⟨by simpa using h, h⟩
  have HCASE := Lib.hid hcase
  clear hcase
  go_enter Tryd.func8, Tryd.ntmps8
  go_wp2_with fail
  refine (ghead_any w HT.out).mono ?_
  rintro e w1 ⟨rfl, hE1⟩
  go_wp2_with fail
  refine (R1.out w1).mono ?_
  rintro e w' ⟨rfl, hw⟩
  rw [hw]
  clear hw w'
  go_wp2_with fail
  refine (R2.out w1).mono ?_
  rintro e w' ⟨rfl, hw⟩
  rw [hw]
  clear hw w'
  go_wp2_with fail
  refine (F1.out w1 (h1.ext hE1)).mono ?_
  rintro e w' ⟨rfl, hw⟩
  rw [← hw]
  clear hw w'
  go_wp2_with fail
  refine (SG1.out w1 (t1.ext hE1) (TB.ext HT.out hE1)).mono ?_
  rintro e w2 ⟨rfl, hE2⟩
  replace hE2 := hE1.trans hE2; clear hE1
  have g2 := World.alloc_heap_new w2 (.cells #[.int .i64 A, .int .i64 SA] 23)
  have hE3 := hE2.alloc (.cells #[.int .i64 A, .int .i64 SA] 23)
  clear hE2
  go_wp2_with fail
  generalize w2.alloc (.cells #[.int .i64 A, .int .i64 SA] 23) = w3 at *
  generalize w2.heap.size = ga at *
  refine (F2.out w3 (h2.ext hE3)).mono ?_
  rintro e w' ⟨rfl, hw⟩
  rw [← hw]
  clear hw w'
  go_wp2_with fail
  refine (SG2.out w3 (t2.ext hE3) (TB.ext HT.out hE3)).mono ?_
  rintro e w4 ⟨rfl, hE4⟩
  have g4 := (hE4.block _ (lt_of_block g2)).trans g2
  replace hE4 := hE3.trans hE4; clear hE3 g2
  have x5 := (Ext.refl w4).alloc (.cells #[.int .i64 B, .int .i64 SB] 23)
  have k5 := World.alloc_heap_new w4 (.cells #[.int .i64 B, .int .i64 SB] 23)
  have g5 := (x5.block _ (lt_of_block g4)).trans g4
  have hE5 := hE4.trans x5
  have d0 := cell_of_block g5 0 _ rfl
  have d1 := cell_of_block g5 1 _ rfl
  have d2 := cell_of_block k5 0 _ rfl
  have d3 := cell_of_block k5 1 _ rfl
  clear hE4 g4 x5
  go_wp2_with fail
  generalize w4.alloc (.cells #[.int .i64 B, .int .i64 SB] 23) = w5 at *
  generalize w4.heap.size = gb at *
  refine (EA.out w5).mono ?_
  rintro e w' ⟨rfl, hw⟩
  rw [hw]
  clear hw w'
  go_wp2_with fail
  refine (ESA.out w5).mono ?_
  rintro e w' ⟨rfl, hw⟩
  rw [hw]
  clear hw w'
  go_wp2_with fail
  refine (EB.out w5).mono ?_
  rintro e w' ⟨rfl, hw⟩
  rw [hw]
  clear hw w'
  go_wp2_with fail
  refine (ESB.out w5).mono ?_
  rintro e w' ⟨rfl, hw⟩
  rw [hw]
  clear hw w'
  go_wp2_with fail
  clear EA ESA EB ESB SG1 SG2 F1 F2 R1 R2 HT t1 t2 h1 h2 g5 k5
  refine HCASE.out.elim (fun hq => ?_) (fun hq2 => ?_)
  · clear HCASE
    refine region_rely (S := Ext) (fun W' => Ext w5 W') [some 67, some 68, some 69, some 70, some 71, some 72, some 73, some 74, some 75, some 76, some 77, some 78, some 79, some 80, some 81, some 82, some 83, some 84, some 85, some 86, some 87, some 88, some 89, some 90, some 91, some 8] [[], [0], [1], [1, 2], [1], [1, 4], [1, 3, 5], [1, 6], [7], [7, 8], [7], [7, 10], [7, 9, 11], [7, 12], [7], [7, 14], [7], [7, 16], [7, 15, 17], [7, 18], [7, 13, 19], [7], [7, 20, 21], [1, 7, 22], [1, 23], [24]] [[], [], [], [], [], [], [], [], [], [], [], [], [], [], [], [], [], [], [], [], [], [], [], [], [], []] [.one (.bool true), .one (.bool true), .one (.pointer (some ⟨ga, 0, none⟩)), .one (.int .i64 A), .one (.pointer (some ⟨gb, 0, none⟩)), .one (.int .i64 B), .one (.bool true), .one (.bool true), .one (undef), .one (undef), .one (undef), .one (undef), .one (undef), .one (undef), .one (undef), .one (undef), .one (undef), .one (undef), .one (undef), .one (undef), .one (undef), .one (undef), .one (undef), .one (.bool true), .one (.bool true), .one (.bool true)] (by kernel_rfl) (by kernel_rfl) (Ext.refl w5).drew ?_ ?_
    · refine stepsR_cons ?_ ?_
      · intro vs W' hl hI hd ho
        refine hold ?_
        obtain ⟨x0, x1, x2, x3, x4, x5, x6, x7, x8, x9, x10, x11, x12, x13, x14, x15, x16, x17, x18, x19, x20, x21, x22, x23, x24, x25, rfl⟩ := lenlit26 hl; clear hl
        refine held ?_
        simp only [putAll, Act.put, List.setIfInBounds_toArray, List.set_cons_succ, List.set_cons_zero]
        go_wp2_with fail
        exact rely_done _ rfl rfl (Ext.refl _) hI
      refine stepsR_cons ?_ ?_
      · intro vs W' hl hI hd ho
        refine hold ?_
        obtain ⟨x0, x1, x2, x3, x4, x5, x6, x7, x8, x9, x10, x11, x12, x13, x14, x15, x16, x17, x18, x19, x20, x21, x22, x23, x24, x25, rfl⟩ := lenlit26 hl; clear hl
        simp only [factsR, atR, List.getElem?_cons_succ, List.getElem?_cons_zero, Rel.one, Rel.blk] at hd
        obtain ⟨rfl, -⟩ := hd
        refine held ?_
        simp only [putAll, Act.put, List.setIfInBounds_toArray, List.set_cons_succ, List.set_cons_zero]
        go_wp2_with fail
        exact rely_done _ rfl rfl (Ext.refl _) hI
      refine stepsR_cons ?_ ?_
      · intro vs W' hl hI hd ho
        refine hold ?_
        obtain ⟨x0, x1, x2, x3, x4, x5, x6, x7, x8, x9, x10, x11, x12, x13, x14, x15, x16, x17, x18, x19, x20, x21, x22, x23, x24, x25, rfl⟩ := lenlit26 hl; clear hl
        simp only [factsR, atR, List.getElem?_cons_succ, List.getElem?_cons_zero, Rel.one, Rel.blk] at hd
        obtain ⟨rfl, -⟩ := hd
        refine held ?_
        simp only [putAll, Act.put, List.setIfInBounds_toArray, List.set_cons_succ, List.set_cons_zero]
        refine wantedOp (by rfl) ?_
        go_wp2_with fail
        exact rely_done _ rfl rfl (Ext.refl _) hI
      refine stepsR_cons ?_ ?_
      · intro vs W' hl hI hd ho
        refine hold ?_
        obtain ⟨x0, x1, x2, x3, x4, x5, x6, x7, x8, x9, x10, x11, x12, x13, x14, x15, x16, x17, x18, x19, x20, x21, x22, x23, x24, x25, rfl⟩ := lenlit26 hl; clear hl
        simp only [factsR, atR, List.getElem?_cons_succ, List.getElem?_cons_zero, Rel.one, Rel.blk] at hd
        obtain ⟨rfl, rfl, -⟩ := hd
        refine held ?_
        simp only [putAll, Act.put, List.setIfInBounds_toArray, List.set_cons_succ, List.set_cons_zero]
        refine wantedOp (by rfl) ?_
        have e0 := hI.cell d0
        go_wp2_with fail
        exact rely_done _ rfl rfl (Ext.refl _) hI
      refine stepsR_cons ?_ ?_
      · intro vs W' hl hI hd ho
        refine hold ?_
        obtain ⟨x0, x1, x2, x3, x4, x5, x6, x7, x8, x9, x10, x11, x12, x13, x14, x15, x16, x17, x18, x19, x20, x21, x22, x23, x24, x25, rfl⟩ := lenlit26 hl; clear hl
        simp only [factsR, atR, List.getElem?_cons_succ, List.getElem?_cons_zero, Rel.one, Rel.blk] at hd
        obtain ⟨rfl, -⟩ := hd
        refine held ?_
        simp only [putAll, Act.put, List.setIfInBounds_toArray, List.set_cons_succ, List.set_cons_zero]
        refine wantedOp (by rfl) ?_
        go_wp2_with fail
        exact rely_done _ rfl rfl (Ext.refl _) hI
      refine stepsR_cons ?_ ?_
      · intro vs W' hl hI hd ho
        refine hold ?_
        obtain ⟨x0, x1, x2, x3, x4, x5, x6, x7, x8, x9, x10, x11, x12, x13, x14, x15, x16, x17, x18, x19, x20, x21, x22, x23, x24, x25, rfl⟩ := lenlit26 hl; clear hl
        simp only [factsR, atR, List.getElem?_cons_succ, List.getElem?_cons_zero, Rel.one, Rel.blk] at hd
        obtain ⟨rfl, rfl, -⟩ := hd
        refine held ?_
        simp only [putAll, Act.put, List.setIfInBounds_toArray, List.set_cons_succ, List.set_cons_zero]
        refine wantedOp (by rfl) ?_
        have e0 := hI.cell d2
        go_wp2_with fail
        exact rely_done _ rfl rfl (Ext.refl _) hI
      refine stepsR_cons ?_ ?_
      · intro vs W' hl hI hd ho
        refine hold ?_
        obtain ⟨x0, x1, x2, x3, x4, x5, x6, x7, x8, x9, x10, x11, x12, x13, x14, x15, x16, x17, x18, x19, x20, x21, x22, x23, x24, x25, rfl⟩ := lenlit26 hl; clear hl
        simp only [factsR, atR, List.getElem?_cons_succ, List.getElem?_cons_zero, Rel.one, Rel.blk] at hd
        obtain ⟨rfl, rfl, rfl, -⟩ := hd
        refine held ?_
        simp only [putAll, Act.put, List.setIfInBounds_toArray, List.set_cons_succ, List.set_cons_zero]
        refine wantedOp (by rfl) ?_
        go_wp2_with fail
        exact rely_done _ rfl rfl (Ext.refl _) hI
      refine stepsR_cons ?_ ?_
      · intro vs W' hl hI hd ho
        refine hold ?_
        obtain ⟨x0, x1, x2, x3, x4, x5, x6, x7, x8, x9, x10, x11, x12, x13, x14, x15, x16, x17, x18, x19, x20, x21, x22, x23, x24, x25, rfl⟩ := lenlit26 hl; clear hl
        simp only [factsR, atR, List.getElem?_cons_succ, List.getElem?_cons_zero, Rel.one, Rel.blk] at hd
        obtain ⟨rfl, rfl, -⟩ := hd
        refine held ?_
        simp only [putAll, Act.put, List.setIfInBounds_toArray, List.set_cons_succ, List.set_cons_zero]
        refine wantedOp (by rfl) ?_
        go_wp2_with fail
        exact rely_done _ rfl rfl (Ext.refl _) hI
      refine stepsR_cons ?_ ?_
      · intro vs W' hl hI hd ho
        refine hold ?_
        obtain ⟨x0, x1, x2, x3, x4, x5, x6, x7, x8, x9, x10, x11, x12, x13, x14, x15, x16, x17, x18, x19, x20, x21, x22, x23, x24, x25, rfl⟩ := lenlit26 hl; clear hl
        simp only [factsR, atR, List.getElem?_cons_succ, List.getElem?_cons_zero, Rel.one, Rel.blk] at hd
        obtain ⟨rfl, -⟩ := hd
        refine held ?_
        simp only [putAll, Act.put, List.setIfInBounds_toArray, List.set_cons_succ, List.set_cons_zero]
        skip
        exact rely_undef (by rfl) rfl rfl (Ext.refl _) hI
      refine stepsR_cons ?_ ?_
      · intro vs W' hl hI hd ho
        refine hold ?_
        obtain ⟨x0, x1, x2, x3, x4, x5, x6, x7, x8, x9, x10, x11, x12, x13, x14, x15, x16, x17, x18, x19, x20, x21, x22, x23, x24, x25, rfl⟩ := lenlit26 hl; clear hl
        simp only [factsR, atR, List.getElem?_cons_succ, List.getElem?_cons_zero, Rel.one, Rel.blk] at hd
        obtain ⟨rfl, rfl, -⟩ := hd
        refine held ?_
        simp only [putAll, Act.put, List.setIfInBounds_toArray, List.set_cons_succ, List.set_cons_zero]
        skip
        exact rely_undef (by rfl) rfl rfl (Ext.refl _) hI
      refine stepsR_cons ?_ ?_
      · intro vs W' hl hI hd ho
        refine hold ?_
        obtain ⟨x0, x1, x2, x3, x4, x5, x6, x7, x8, x9, x10, x11, x12, x13, x14, x15, x16, x17, x18, x19, x20, x21, x22, x23, x24, x25, rfl⟩ := lenlit26 hl; clear hl
        simp only [factsR, atR, List.getElem?_cons_succ, List.getElem?_cons_zero, Rel.one, Rel.blk] at hd
        obtain ⟨rfl, -⟩ := hd
        refine held ?_
        simp only [putAll, Act.put, List.setIfInBounds_toArray, List.set_cons_succ, List.set_cons_zero]
        skip
        exact rely_undef (by rfl) rfl rfl (Ext.refl _) hI
      refine stepsR_cons ?_ ?_
      · intro vs W' hl hI hd ho
        refine hold ?_
        obtain ⟨x0, x1, x2, x3, x4, x5, x6, x7, x8, x9, x10, x11, x12, x13, x14, x15, x16, x17, x18, x19, x20, x21, x22, x23, x24, x25, rfl⟩ := lenlit26 hl; clear hl
        simp only [factsR, atR, List.getElem?_cons_succ, List.getElem?_cons_zero, Rel.one, Rel.blk] at hd
        obtain ⟨rfl, rfl, -⟩ := hd
        refine held ?_
        simp only [putAll, Act.put, List.setIfInBounds_toArray, List.set_cons_succ, List.set_cons_zero]
        skip
        exact rely_undef (by rfl) rfl rfl (Ext.refl _) hI
      refine stepsR_cons ?_ ?_
      · intro vs W' hl hI hd ho
        refine hold ?_
        obtain ⟨x0, x1, x2, x3, x4, x5, x6, x7, x8, x9, x10, x11, x12, x13, x14, x15, x16, x17, x18, x19, x20, x21, x22, x23, x24, x25, rfl⟩ := lenlit26 hl; clear hl
        simp only [factsR, atR, List.getElem?_cons_succ, List.getElem?_cons_zero, Rel.one, Rel.blk] at hd
        obtain ⟨rfl, rfl, rfl, -⟩ := hd
        refine held ?_
        simp only [putAll, Act.put, List.setIfInBounds_toArray, List.set_cons_succ, List.set_cons_zero]
        skip
        exact rely_undef (by rfl) rfl rfl (Ext.refl _) hI
      refine stepsR_cons ?_ ?_
      · intro vs W' hl hI hd ho
        refine hold ?_
        obtain ⟨x0, x1, x2, x3, x4, x5, x6, x7, x8, x9, x10, x11, x12, x13, x14, x15, x16, x17, x18, x19, x20, x21, x22, x23, x24, x25, rfl⟩ := lenlit26 hl; clear hl
        simp only [factsR, atR, List.getElem?_cons_succ, List.getElem?_cons_zero, Rel.one, Rel.blk] at hd
        obtain ⟨rfl, rfl, -⟩ := hd
        refine held ?_
        simp only [putAll, Act.put, List.setIfInBounds_toArray, List.set_cons_succ, List.set_cons_zero]
        skip
        exact rely_undef (by rfl) rfl rfl (Ext.refl _) hI
      refine stepsR_cons ?_ ?_
      · intro vs W' hl hI hd ho
        refine hold ?_
        obtain ⟨x0, x1, x2, x3, x4, x5, x6, x7, x8, x9, x10, x11, x12, x13, x14, x15, x16, x17, x18, x19, x20, x21, x22, x23, x24, x25, rfl⟩ := lenlit26 hl; clear hl
        simp only [factsR, atR, List.getElem?_cons_succ, List.getElem?_cons_zero, Rel.one, Rel.blk] at hd
        obtain ⟨rfl, -⟩ := hd
        refine held ?_
        simp only [putAll, Act.put, List.setIfInBounds_toArray, List.set_cons_succ, List.set_cons_zero]
        skip
        exact rely_undef (by rfl) rfl rfl (Ext.refl _) hI
      refine stepsR_cons ?_ ?_
      · intro vs W' hl hI hd ho
        refine hold ?_
        obtain ⟨x0, x1, x2, x3, x4, x5, x6, x7, x8, x9, x10, x11, x12, x13, x14, x15, x16, x17, x18, x19, x20, x21, x22, x23, x24, x25, rfl⟩ := lenlit26 hl; clear hl
        simp only [factsR, atR, List.getElem?_cons_succ, List.getElem?_cons_zero, Rel.one, Rel.blk] at hd
        obtain ⟨rfl, rfl, -⟩ := hd
        refine held ?_
        simp only [putAll, Act.put, List.setIfInBounds_toArray, List.set_cons_succ, List.set_cons_zero]
        skip
        exact rely_undef (by rfl) rfl rfl (Ext.refl _) hI
      refine stepsR_cons ?_ ?_
      · intro vs W' hl hI hd ho
        refine hold ?_
        obtain ⟨x0, x1, x2, x3, x4, x5, x6, x7, x8, x9, x10, x11, x12, x13, x14, x15, x16, x17, x18, x19, x20, x21, x22, x23, x24, x25, rfl⟩ := lenlit26 hl; clear hl
        simp only [factsR, atR, List.getElem?_cons_succ, List.getElem?_cons_zero, Rel.one, Rel.blk] at hd
        obtain ⟨rfl, -⟩ := hd
        refine held ?_
        simp only [putAll, Act.put, List.setIfInBounds_toArray, List.set_cons_succ, List.set_cons_zero]
        skip
        exact rely_undef (by rfl) rfl rfl (Ext.refl _) hI
      refine stepsR_cons ?_ ?_
      · intro vs W' hl hI hd ho
        refine hold ?_
        obtain ⟨x0, x1, x2, x3, x4, x5, x6, x7, x8, x9, x10, x11, x12, x13, x14, x15, x16, x17, x18, x19, x20, x21, x22, x23, x24, x25, rfl⟩ := lenlit26 hl; clear hl
        simp only [factsR, atR, List.getElem?_cons_succ, List.getElem?_cons_zero, Rel.one, Rel.blk] at hd
        obtain ⟨rfl, rfl, -⟩ := hd
        refine held ?_
        simp only [putAll, Act.put, List.setIfInBounds_toArray, List.set_cons_succ, List.set_cons_zero]
        skip
        exact rely_undef (by rfl) rfl rfl (Ext.refl _) hI
      refine stepsR_cons ?_ ?_
      · intro vs W' hl hI hd ho
        refine hold ?_
        obtain ⟨x0, x1, x2, x3, x4, x5, x6, x7, x8, x9, x10, x11, x12, x13, x14, x15, x16, x17, x18, x19, x20, x21, x22, x23, x24, x25, rfl⟩ := lenlit26 hl; clear hl
        simp only [factsR, atR, List.getElem?_cons_succ, List.getElem?_cons_zero, Rel.one, Rel.blk] at hd
        obtain ⟨rfl, rfl, rfl, -⟩ := hd
        refine held ?_
        simp only [putAll, Act.put, List.setIfInBounds_toArray, List.set_cons_succ, List.set_cons_zero]
        skip
        exact rely_undef (by rfl) rfl rfl (Ext.refl _) hI
      refine stepsR_cons ?_ ?_
      · intro vs W' hl hI hd ho
        refine hold ?_
        obtain ⟨x0, x1, x2, x3, x4, x5, x6, x7, x8, x9, x10, x11, x12, x13, x14, x15, x16, x17, x18, x19, x20, x21, x22, x23, x24, x25, rfl⟩ := lenlit26 hl; clear hl
        simp only [factsR, atR, List.getElem?_cons_succ, List.getElem?_cons_zero, Rel.one, Rel.blk] at hd
        obtain ⟨rfl, rfl, -⟩ := hd
        refine held ?_
        simp only [putAll, Act.put, List.setIfInBounds_toArray, List.set_cons_succ, List.set_cons_zero]
        skip
        exact rely_undef (by rfl) rfl rfl (Ext.refl _) hI
      refine stepsR_cons ?_ ?_
      · intro vs W' hl hI hd ho
        refine hold ?_
        obtain ⟨x0, x1, x2, x3, x4, x5, x6, x7, x8, x9, x10, x11, x12, x13, x14, x15, x16, x17, x18, x19, x20, x21, x22, x23, x24, x25, rfl⟩ := lenlit26 hl; clear hl
        simp only [factsR, atR, List.getElem?_cons_succ, List.getElem?_cons_zero, Rel.one, Rel.blk] at hd
        obtain ⟨rfl, rfl, rfl, -⟩ := hd
        refine held ?_
        simp only [putAll, Act.put, List.setIfInBounds_toArray, List.set_cons_succ, List.set_cons_zero]
        skip
        exact rely_undef (by rfl) rfl rfl (Ext.refl _) hI
      refine stepsR_cons ?_ ?_
      · intro vs W' hl hI hd ho
        refine hold ?_
        obtain ⟨x0, x1, x2, x3, x4, x5, x6, x7, x8, x9, x10, x11, x12, x13, x14, x15, x16, x17, x18, x19, x20, x21, x22, x23, x24, x25, rfl⟩ := lenlit26 hl; clear hl
        simp only [factsR, atR, List.getElem?_cons_succ, List.getElem?_cons_zero, Rel.one, Rel.blk] at hd
        obtain ⟨rfl, -⟩ := hd
        refine held ?_
        simp only [putAll, Act.put, List.setIfInBounds_toArray, List.set_cons_succ, List.set_cons_zero]
        skip
        exact rely_undef (by rfl) rfl rfl (Ext.refl _) hI
      refine stepsR_cons ?_ ?_
      · intro vs W' hl hI hd ho
        refine hold ?_
        obtain ⟨x0, x1, x2, x3, x4, x5, x6, x7, x8, x9, x10, x11, x12, x13, x14, x15, x16, x17, x18, x19, x20, x21, x22, x23, x24, x25, rfl⟩ := lenlit26 hl; clear hl
        simp only [factsR, atR, List.getElem?_cons_succ, List.getElem?_cons_zero, Rel.one, Rel.blk] at hd
        obtain ⟨rfl, rfl, rfl, -⟩ := hd
        refine held ?_
        simp only [putAll, Act.put, List.setIfInBounds_toArray, List.set_cons_succ, List.set_cons_zero]
        skip
        exact rely_undef (by rfl) rfl rfl (Ext.refl _) hI
      refine stepsR_cons ?_ ?_
      · intro vs W' hl hI hd ho
        refine hold ?_
        obtain ⟨x0, x1, x2, x3, x4, x5, x6, x7, x8, x9, x10, x11, x12, x13, x14, x15, x16, x17, x18, x19, x20, x21, x22, x23, x24, x25, rfl⟩ := lenlit26 hl; clear hl
        simp only [factsR, atR, List.getElem?_cons_succ, List.getElem?_cons_zero, Rel.one, Rel.blk] at hd
        obtain ⟨rfl, rfl, rfl, -⟩ := hd
        refine held ?_
        simp only [putAll, Act.put, List.setIfInBounds_toArray, List.set_cons_succ, List.set_cons_zero]
        refine wantedOp (by rfl) ?_
        go_wp2_with fail
        exact rely_done _ rfl rfl (Ext.refl _) hI
      refine stepsR_cons ?_ ?_
      · intro vs W' hl hI hd ho
        refine hold ?_
        obtain ⟨x0, x1, x2, x3, x4, x5, x6, x7, x8, x9, x10, x11, x12, x13, x14, x15, x16, x17, x18, x19, x20, x21, x22, x23, x24, x25, rfl⟩ := lenlit26 hl; clear hl
        simp only [factsR, atR, List.getElem?_cons_succ, List.getElem?_cons_zero, Rel.one, Rel.blk] at hd
        obtain ⟨rfl, rfl, -⟩ := hd
        refine held ?_
        simp only [putAll, Act.put, List.setIfInBounds_toArray, List.set_cons_succ, List.set_cons_zero]
        go_wp2_with fail
        exact rely_done _ rfl rfl (Ext.refl _) hI
      refine stepsR_cons ?_ ?_
      · intro vs W' hl hI hd ho
        refine hold ?_
        obtain ⟨x0, x1, x2, x3, x4, x5, x6, x7, x8, x9, x10, x11, x12, x13, x14, x15, x16, x17, x18, x19, x20, x21, x22, x23, x24, x25, rfl⟩ := lenlit26 hl; clear hl
        simp only [factsR, atR, List.getElem?_cons_succ, List.getElem?_cons_zero, Rel.one, Rel.blk] at hd
        obtain ⟨rfl, -⟩ := hd
        refine held ?_
        simp only [putAll, Act.put, List.setIfInBounds_toArray, List.set_cons_succ, List.set_cons_zero]
        go_wp2_with fail
        exact rely_done _ rfl rfl (Ext.refl _) hI
      exact trivial
    · intro vs W' hl hI hd
      obtain ⟨x0, x1, x2, x3, x4, x5, x6, x7, x8, x9, x10, x11, x12, x13, x14, x15, x16, x17, x18, x19, x20, x21, x22, x23, x24, x25, rfl⟩ := lenlit26 hl; clear hl
      simp only [List.length_cons, List.length_nil, List.range, List.range.loop, Nat.zero_add, Nat.reduceAdd, factsR, atR, List.getElem?_cons_succ, List.getElem?_cons_zero, Rel.one, Rel.blk] at hd
      obtain ⟨rfl, rfl, rfl, rfl, rfl, rfl, rfl, rfl, rfl, rfl, rfl, rfl, rfl, rfl, rfl, rfl, rfl, rfl, rfl, rfl, rfl, rfl, rfl, rfl, rfl, rfl, -⟩ := hd
      simp only [putAll, Act.put, List.setIfInBounds_toArray, List.set_cons_succ, List.set_cons_zero]
      go_wp2_with fail
      go_ret
      exact ⟨rfl, hE5.trans hI⟩
  · clear HCASE
    obtain ⟨hq, hab⟩ := hq2
    have ov := OV.out hab
    have OV2 := Lib.hid ov
    clear ov hab OV
    refine region_rely (S := Ext) (fun W' => Ext w5 W') [some 67, some 68, some 69, some 70, some 71, some 72, some 73, some 74, some 75, some 76, some 77, some 78, some 79, some 80, some 81, some 82, some 83, some 84, some 85, some 86, some 87, some 88, some 89, some 90, some 91, some 8] [[], [0], [1], [1, 2], [1], [1, 4], [1, 3, 5], [1, 6], [7], [7, 8], [7], [7, 10], [7, 9, 11], [7, 12], [7], [7, 14], [7], [7, 16], [7, 15, 17], [7, 18], [7, 13, 19], [7], [7, 20, 21], [1, 7, 22], [1, 23], [24]] [[], [], [], [], [], [], [], [], [], [], [], [], [], [], [], [], [], [], [], [], [], [], [], [], [], []] [.one (.bool true), .one (.bool true), .one (.pointer (some ⟨ga, 0, none⟩)), .one (.int .i64 A), .one (.pointer (some ⟨gb, 0, none⟩)), .one (.int .i64 B), .one (.bool false), .one (.bool false), .one (.pointer (some ⟨ga, 1, none⟩)), .one (.int .i64 SA), .one (.pointer (some ⟨gb, 1, none⟩)), .one (.int .i64 SB), .one (.int .i64 (SA - SB)), .one (.int .i64 X), .one (.pointer (some ⟨ga, 0, none⟩)), .one (.int .i64 A), .one (.pointer (some ⟨gb, 0, none⟩)), .one (.int .i64 B), .one (.int .i64 (A - B)), .one (.int .i64 Y), .one (.int .i64 ki), .one (.int .i64 ki), .one (.bool true), .one (.bool true), .one (.bool true), .one (.bool true)] (by kernel_rfl) (by kernel_rfl) (Ext.refl w5).drew ?_ ?_
    · refine stepsR_cons ?_ ?_
      · intro vs W' hl hI hd ho
        refine hold ?_
        obtain ⟨x0, x1, x2, x3, x4, x5, x6, x7, x8, x9, x10, x11, x12, x13, x14, x15, x16, x17, x18, x19, x20, x21, x22, x23, x24, x25, rfl⟩ := lenlit26 hl; clear hl
        refine held ?_
        simp only [putAll, Act.put, List.setIfInBounds_toArray, List.set_cons_succ, List.set_cons_zero]
        go_wp2_with fail
        exact rely_done _ rfl rfl (Ext.refl _) hI
      refine stepsR_cons ?_ ?_
      · intro vs W' hl hI hd ho
        refine hold ?_
        obtain ⟨x0, x1, x2, x3, x4, x5, x6, x7, x8, x9, x10, x11, x12, x13, x14, x15, x16, x17, x18, x19, x20, x21, x22, x23, x24, x25, rfl⟩ := lenlit26 hl; clear hl
        simp only [factsR, atR, List.getElem?_cons_succ, List.getElem?_cons_zero, Rel.one, Rel.blk] at hd
        obtain ⟨rfl, -⟩ := hd
        refine held ?_
        simp only [putAll, Act.put, List.setIfInBounds_toArray, List.set_cons_succ, List.set_cons_zero]
        go_wp2_with fail
        exact rely_done _ rfl rfl (Ext.refl _) hI
      refine stepsR_cons ?_ ?_
      · intro vs W' hl hI hd ho
        refine hold ?_
        obtain ⟨x0, x1, x2, x3, x4, x5, x6, x7, x8, x9, x10, x11, x12, x13, x14, x15, x16, x17, x18, x19, x20, x21, x22, x23, x24, x25, rfl⟩ := lenlit26 hl; clear hl
        simp only [factsR, atR, List.getElem?_cons_succ, List.getElem?_cons_zero, Rel.one, Rel.blk] at hd
        obtain ⟨rfl, -⟩ := hd
        refine held ?_
        simp only [putAll, Act.put, List.setIfInBounds_toArray, List.set_cons_succ, List.set_cons_zero]
        refine wantedOp (by rfl) ?_
        go_wp2_with fail
        exact rely_done _ rfl rfl (Ext.refl _) hI
      refine stepsR_cons ?_ ?_
      · intro vs W' hl hI hd ho
        refine hold ?_
        obtain ⟨x0, x1, x2, x3, x4, x5, x6, x7, x8, x9, x10, x11, x12, x13, x14, x15, x16, x17, x18, x19, x20, x21, x22, x23, x24, x25, rfl⟩ := lenlit26 hl; clear hl
        simp only [factsR, atR, List.getElem?_cons_succ, List.getElem?_cons_zero, Rel.one, Rel.blk] at hd
        obtain ⟨rfl, rfl, -⟩ := hd
        refine held ?_
        simp only [putAll, Act.put, List.setIfInBounds_toArray, List.set_cons_succ, List.set_cons_zero]
        refine wantedOp (by rfl) ?_
        have e0 := hI.cell d0
        go_wp2_with fail
        exact rely_done _ rfl rfl (Ext.refl _) hI
      refine stepsR_cons ?_ ?_
      · intro vs W' hl hI hd ho
        refine hold ?_
        obtain ⟨x0, x1, x2, x3, x4, x5, x6, x7, x8, x9, x10, x11, x12, x13, x14, x15, x16, x17, x18, x19, x20, x21, x22, x23, x24, x25, rfl⟩ := lenlit26 hl; clear hl
        simp only [factsR, atR, List.getElem?_cons_succ, List.getElem?_cons_zero, Rel.one, Rel.blk] at hd
        obtain ⟨rfl, -⟩ := hd
        refine held ?_
        simp only [putAll, Act.put, List.setIfInBounds_toArray, List.set_cons_succ, List.set_cons_zero]
        refine wantedOp (by rfl) ?_
        go_wp2_with fail
        exact rely_done _ rfl rfl (Ext.refl _) hI
      refine stepsR_cons ?_ ?_
      · intro vs W' hl hI hd ho
        refine hold ?_
        obtain ⟨x0, x1, x2, x3, x4, x5, x6, x7, x8, x9, x10, x11, x12, x13, x14, x15, x16, x17, x18, x19, x20, x21, x22, x23, x24, x25, rfl⟩ := lenlit26 hl; clear hl
        simp only [factsR, atR, List.getElem?_cons_succ, List.getElem?_cons_zero, Rel.one, Rel.blk] at hd
        obtain ⟨rfl, rfl, -⟩ := hd
        refine held ?_
        simp only [putAll, Act.put, List.setIfInBounds_toArray, List.set_cons_succ, List.set_cons_zero]
        refine wantedOp (by rfl) ?_
        have e0 := hI.cell d2
        go_wp2_with fail
        exact rely_done _ rfl rfl (Ext.refl _) hI
      refine stepsR_cons ?_ ?_
      · intro vs W' hl hI hd ho
        refine hold ?_
        obtain ⟨x0, x1, x2, x3, x4, x5, x6, x7, x8, x9, x10, x11, x12, x13, x14, x15, x16, x17, x18, x19, x20, x21, x22, x23, x24, x25, rfl⟩ := lenlit26 hl; clear hl
        simp only [factsR, atR, List.getElem?_cons_succ, List.getElem?_cons_zero, Rel.one, Rel.blk] at hd
        obtain ⟨rfl, rfl, rfl, -⟩ := hd
        refine held ?_
        simp only [putAll, Act.put, List.setIfInBounds_toArray, List.set_cons_succ, List.set_cons_zero]
        refine wantedOp (by rfl) ?_
        go_wp2_with fail
        exact rely_done _ rfl rfl (Ext.refl _) hI
      refine stepsR_cons ?_ ?_
      · intro vs W' hl hI hd ho
        refine hold ?_
        obtain ⟨x0, x1, x2, x3, x4, x5, x6, x7, x8, x9, x10, x11, x12, x13, x14, x15, x16, x17, x18, x19, x20, x21, x22, x23, x24, x25, rfl⟩ := lenlit26 hl; clear hl
        simp only [factsR, atR, List.getElem?_cons_succ, List.getElem?_cons_zero, Rel.one, Rel.blk] at hd
        obtain ⟨rfl, rfl, -⟩ := hd
        refine held ?_
        simp only [putAll, Act.put, List.setIfInBounds_toArray, List.set_cons_succ, List.set_cons_zero]
        refine wantedOp (by rfl) ?_
        go_wp2_with fail
        exact rely_done _ rfl rfl (Ext.refl _) hI
      refine stepsR_cons ?_ ?_
      · intro vs W' hl hI hd ho
        refine hold ?_
        obtain ⟨x0, x1, x2, x3, x4, x5, x6, x7, x8, x9, x10, x11, x12, x13, x14, x15, x16, x17, x18, x19, x20, x21, x22, x23, x24, x25, rfl⟩ := lenlit26 hl; clear hl
        simp only [factsR, atR, List.getElem?_cons_succ, List.getElem?_cons_zero, Rel.one, Rel.blk] at hd
        obtain ⟨rfl, -⟩ := hd
        refine held ?_
        simp only [putAll, Act.put, List.setIfInBounds_toArray, List.set_cons_succ, List.set_cons_zero]
        refine wantedOp (by rfl) ?_
        go_wp2_with fail
        exact rely_done _ rfl rfl (Ext.refl _) hI
      refine stepsR_cons ?_ ?_
      · intro vs W' hl hI hd ho
        refine hold ?_
        obtain ⟨x0, x1, x2, x3, x4, x5, x6, x7, x8, x9, x10, x11, x12, x13, x14, x15, x16, x17, x18, x19, x20, x21, x22, x23, x24, x25, rfl⟩ := lenlit26 hl; clear hl
        simp only [factsR, atR, List.getElem?_cons_succ, List.getElem?_cons_zero, Rel.one, Rel.blk] at hd
        obtain ⟨rfl, rfl, -⟩ := hd
        refine held ?_
        simp only [putAll, Act.put, List.setIfInBounds_toArray, List.set_cons_succ, List.set_cons_zero]
        refine wantedOp (by rfl) ?_
        have e0 := hI.cell d1
        go_wp2_with fail
        exact rely_done _ rfl rfl (Ext.refl _) hI
      refine stepsR_cons ?_ ?_
      · intro vs W' hl hI hd ho
        refine hold ?_
        obtain ⟨x0, x1, x2, x3, x4, x5, x6, x7, x8, x9, x10, x11, x12, x13, x14, x15, x16, x17, x18, x19, x20, x21, x22, x23, x24, x25, rfl⟩ := lenlit26 hl; clear hl
        simp only [factsR, atR, List.getElem?_cons_succ, List.getElem?_cons_zero, Rel.one, Rel.blk] at hd
        obtain ⟨rfl, -⟩ := hd
        refine held ?_
        simp only [putAll, Act.put, List.setIfInBounds_toArray, List.set_cons_succ, List.set_cons_zero]
        refine wantedOp (by rfl) ?_
        go_wp2_with fail
        exact rely_done _ rfl rfl (Ext.refl _) hI
      refine stepsR_cons ?_ ?_
      · intro vs W' hl hI hd ho
        refine hold ?_
        obtain ⟨x0, x1, x2, x3, x4, x5, x6, x7, x8, x9, x10, x11, x12, x13, x14, x15, x16, x17, x18, x19, x20, x21, x22, x23, x24, x25, rfl⟩ := lenlit26 hl; clear hl
        simp only [factsR, atR, List.getElem?_cons_succ, List.getElem?_cons_zero, Rel.one, Rel.blk] at hd
        obtain ⟨rfl, rfl, -⟩ := hd
        refine held ?_
        simp only [putAll, Act.put, List.setIfInBounds_toArray, List.set_cons_succ, List.set_cons_zero]
        refine wantedOp (by rfl) ?_
        have e0 := hI.cell d3
        go_wp2_with fail
        exact rely_done _ rfl rfl (Ext.refl _) hI
      refine stepsR_cons ?_ ?_
      · intro vs W' hl hI hd ho
        refine hold ?_
        obtain ⟨x0, x1, x2, x3, x4, x5, x6, x7, x8, x9, x10, x11, x12, x13, x14, x15, x16, x17, x18, x19, x20, x21, x22, x23, x24, x25, rfl⟩ := lenlit26 hl; clear hl
        simp only [factsR, atR, List.getElem?_cons_succ, List.getElem?_cons_zero, Rel.one, Rel.blk] at hd
        obtain ⟨rfl, rfl, rfl, -⟩ := hd
        refine held ?_
        simp only [putAll, Act.put, List.setIfInBounds_toArray, List.set_cons_succ, List.set_cons_zero]
        refine wantedOp (by rfl) ?_
        go_wp2_with fail
        exact rely_done _ rfl rfl (Ext.refl _) hI
      refine stepsR_cons ?_ ?_
      · intro vs W' hl hI hd ho
        refine hold ?_
        obtain ⟨x0, x1, x2, x3, x4, x5, x6, x7, x8, x9, x10, x11, x12, x13, x14, x15, x16, x17, x18, x19, x20, x21, x22, x23, x24, x25, rfl⟩ := lenlit26 hl; clear hl
        simp only [factsR, atR, List.getElem?_cons_succ, List.getElem?_cons_zero, Rel.one, Rel.blk] at hd
        obtain ⟨rfl, rfl, -⟩ := hd
        refine held ?_
        simp only [putAll, Act.put, List.setIfInBounds_toArray, List.set_cons_succ, List.set_cons_zero]
        refine wantedOp (by rfl) ?_
        go_wp2_with fail
        refine (RX.out W').mono ?_
        rintro e w' ⟨rfl, hw⟩
        rw [hw]
        clear hw w'
        go_wp2_with fail
        exact rely_done _ rfl rfl (Ext.refl _) hI
      refine stepsR_cons ?_ ?_
      · intro vs W' hl hI hd ho
        refine hold ?_
        obtain ⟨x0, x1, x2, x3, x4, x5, x6, x7, x8, x9, x10, x11, x12, x13, x14, x15, x16, x17, x18, x19, x20, x21, x22, x23, x24, x25, rfl⟩ := lenlit26 hl; clear hl
        simp only [factsR, atR, List.getElem?_cons_succ, List.getElem?_cons_zero, Rel.one, Rel.blk] at hd
        obtain ⟨rfl, -⟩ := hd
        refine held ?_
        simp only [putAll, Act.put, List.setIfInBounds_toArray, List.set_cons_succ, List.set_cons_zero]
        refine wantedOp (by rfl) ?_
        go_wp2_with fail
        exact rely_done _ rfl rfl (Ext.refl _) hI
      refine stepsR_cons ?_ ?_
      · intro vs W' hl hI hd ho
        refine hold ?_
        obtain ⟨x0, x1, x2, x3, x4, x5, x6, x7, x8, x9, x10, x11, x12, x13, x14, x15, x16, x17, x18, x19, x20, x21, x22, x23, x24, x25, rfl⟩ := lenlit26 hl; clear hl
        simp only [factsR, atR, List.getElem?_cons_succ, List.getElem?_cons_zero, Rel.one, Rel.blk] at hd
        obtain ⟨rfl, rfl, -⟩ := hd
        refine held ?_
        simp only [putAll, Act.put, List.setIfInBounds_toArray, List.set_cons_succ, List.set_cons_zero]
        refine wantedOp (by rfl) ?_
        have e0 := hI.cell d0
        go_wp2_with fail
        exact rely_done _ rfl rfl (Ext.refl _) hI
      refine stepsR_cons ?_ ?_
      · intro vs W' hl hI hd ho
        refine hold ?_
        obtain ⟨x0, x1, x2, x3, x4, x5, x6, x7, x8, x9, x10, x11, x12, x13, x14, x15, x16, x17, x18, x19, x20, x21, x22, x23, x24, x25, rfl⟩ := lenlit26 hl; clear hl
        simp only [factsR, atR, List.getElem?_cons_succ, List.getElem?_cons_zero, Rel.one, Rel.blk] at hd
        obtain ⟨rfl, -⟩ := hd
        refine held ?_
        simp only [putAll, Act.put, List.setIfInBounds_toArray, List.set_cons_succ, List.set_cons_zero]
        refine wantedOp (by rfl) ?_
        go_wp2_with fail
        exact rely_done _ rfl rfl (Ext.refl _) hI
      refine stepsR_cons ?_ ?_
      · intro vs W' hl hI hd ho
        refine hold ?_
        obtain ⟨x0, x1, x2, x3, x4, x5, x6, x7, x8, x9, x10, x11, x12, x13, x14, x15, x16, x17, x18, x19, x20, x21, x22, x23, x24, x25, rfl⟩ := lenlit26 hl; clear hl
        simp only [factsR, atR, List.getElem?_cons_succ, List.getElem?_cons_zero, Rel.one, Rel.blk] at hd
        obtain ⟨rfl, rfl, -⟩ := hd
        refine held ?_
        simp only [putAll, Act.put, List.setIfInBounds_toArray, List.set_cons_succ, List.set_cons_zero]
        refine wantedOp (by rfl) ?_
        have e0 := hI.cell d2
        go_wp2_with fail
        exact rely_done _ rfl rfl (Ext.refl _) hI
      refine stepsR_cons ?_ ?_
      · intro vs W' hl hI hd ho
        refine hold ?_
        obtain ⟨x0, x1, x2, x3, x4, x5, x6, x7, x8, x9, x10, x11, x12, x13, x14, x15, x16, x17, x18, x19, x20, x21, x22, x23, x24, x25, rfl⟩ := lenlit26 hl; clear hl
        simp only [factsR, atR, List.getElem?_cons_succ, List.getElem?_cons_zero, Rel.one, Rel.blk] at hd
        obtain ⟨rfl, rfl, rfl, -⟩ := hd
        refine held ?_
        simp only [putAll, Act.put, List.setIfInBounds_toArray, List.set_cons_succ, List.set_cons_zero]
        refine wantedOp (by rfl) ?_
        go_wp2_with fail
        exact rely_done _ rfl rfl (Ext.refl _) hI
      refine stepsR_cons ?_ ?_
      · intro vs W' hl hI hd ho
        refine hold ?_
        obtain ⟨x0, x1, x2, x3, x4, x5, x6, x7, x8, x9, x10, x11, x12, x13, x14, x15, x16, x17, x18, x19, x20, x21, x22, x23, x24, x25, rfl⟩ := lenlit26 hl; clear hl
        simp only [factsR, atR, List.getElem?_cons_succ, List.getElem?_cons_zero, Rel.one, Rel.blk] at hd
        obtain ⟨rfl, rfl, -⟩ := hd
        refine held ?_
        simp only [putAll, Act.put, List.setIfInBounds_toArray, List.set_cons_succ, List.set_cons_zero]
        refine wantedOp (by rfl) ?_
        go_wp2_with fail
        refine (RY.out W').mono ?_
        rintro e w' ⟨rfl, hw⟩
        rw [hw]
        clear hw w'
        go_wp2_with fail
        exact rely_done _ rfl rfl (Ext.refl _) hI
      refine stepsR_cons ?_ ?_
      · intro vs W' hl hI hd ho
        refine hold ?_
        obtain ⟨x0, x1, x2, x3, x4, x5, x6, x7, x8, x9, x10, x11, x12, x13, x14, x15, x16, x17, x18, x19, x20, x21, x22, x23, x24, x25, rfl⟩ := lenlit26 hl; clear hl
        simp only [factsR, atR, List.getElem?_cons_succ, List.getElem?_cons_zero, Rel.one, Rel.blk] at hd
        obtain ⟨rfl, rfl, rfl, -⟩ := hd
        refine held ?_
        simp only [putAll, Act.put, List.setIfInBounds_toArray, List.set_cons_succ, List.set_cons_zero]
        refine wantedOp (by rfl) ?_
        go_wp2_with fail
        refine (OV2.out W').mono ?_
        rintro e w' ⟨rfl, hw⟩
        rw [hw]
        clear hw w'
        go_wp2_with fail
        exact rely_done _ rfl rfl (Ext.refl _) hI
      refine stepsR_cons ?_ ?_
      · intro vs W' hl hI hd ho
        refine hold ?_
        obtain ⟨x0, x1, x2, x3, x4, x5, x6, x7, x8, x9, x10, x11, x12, x13, x14, x15, x16, x17, x18, x19, x20, x21, x22, x23, x24, x25, rfl⟩ := lenlit26 hl; clear hl
        simp only [factsR, atR, List.getElem?_cons_succ, List.getElem?_cons_zero, Rel.one, Rel.blk] at hd
        obtain ⟨rfl, -⟩ := hd
        refine held ?_
        simp only [putAll, Act.put, List.setIfInBounds_toArray, List.set_cons_succ, List.set_cons_zero]
        refine wantedOp (by rfl) ?_
        go_wp2_with fail
        exact rely_done _ rfl rfl (Ext.refl _) hI
      refine stepsR_cons ?_ ?_
      · intro vs W' hl hI hd ho
        refine hold ?_
        obtain ⟨x0, x1, x2, x3, x4, x5, x6, x7, x8, x9, x10, x11, x12, x13, x14, x15, x16, x17, x18, x19, x20, x21, x22, x23, x24, x25, rfl⟩ := lenlit26 hl; clear hl
        simp only [factsR, atR, List.getElem?_cons_succ, List.getElem?_cons_zero, Rel.one, Rel.blk] at hd
        obtain ⟨rfl, rfl, rfl, -⟩ := hd
        refine held ?_
        simp only [putAll, Act.put, List.setIfInBounds_toArray, List.set_cons_succ, List.set_cons_zero]
        refine wantedOp (by rfl) ?_
        go_wp2_with fail
        exact rely_done _ rfl rfl (Ext.refl _) hI
      refine stepsR_cons ?_ ?_
      · intro vs W' hl hI hd ho
        refine hold ?_
        obtain ⟨x0, x1, x2, x3, x4, x5, x6, x7, x8, x9, x10, x11, x12, x13, x14, x15, x16, x17, x18, x19, x20, x21, x22, x23, x24, x25, rfl⟩ := lenlit26 hl; clear hl
        simp only [factsR, atR, List.getElem?_cons_succ, List.getElem?_cons_zero, Rel.one, Rel.blk] at hd
        obtain ⟨rfl, rfl, rfl, -⟩ := hd
        refine held ?_
        simp only [putAll, Act.put, List.setIfInBounds_toArray, List.set_cons_succ, List.set_cons_zero]
        refine wantedOp (by rfl) ?_
        go_wp2_with fail
        exact rely_done _ rfl rfl (Ext.refl _) hI
      refine stepsR_cons ?_ ?_
      · intro vs W' hl hI hd ho
        refine hold ?_
        obtain ⟨x0, x1, x2, x3, x4, x5, x6, x7, x8, x9, x10, x11, x12, x13, x14, x15, x16, x17, x18, x19, x20, x21, x22, x23, x24, x25, rfl⟩ := lenlit26 hl; clear hl
        simp only [factsR, atR, List.getElem?_cons_succ, List.getElem?_cons_zero, Rel.one, Rel.blk] at hd
        obtain ⟨rfl, rfl, -⟩ := hd
        refine held ?_
        simp only [putAll, Act.put, List.setIfInBounds_toArray, List.set_cons_succ, List.set_cons_zero]
        go_wp2_with fail
        exact rely_done _ rfl rfl (Ext.refl _) hI
      refine stepsR_cons ?_ ?_
      · intro vs W' hl hI hd ho
        refine hold ?_
        obtain ⟨x0, x1, x2, x3, x4, x5, x6, x7, x8, x9, x10, x11, x12, x13, x14, x15, x16, x17, x18, x19, x20, x21, x22, x23, x24, x25, rfl⟩ := lenlit26 hl; clear hl
        simp only [factsR, atR, List.getElem?_cons_succ, List.getElem?_cons_zero, Rel.one, Rel.blk] at hd
        obtain ⟨rfl, -⟩ := hd
        refine held ?_
        simp only [putAll, Act.put, List.setIfInBounds_toArray, List.set_cons_succ, List.set_cons_zero]
        go_wp2_with fail
        exact rely_done _ rfl rfl (Ext.refl _) hI
      exact trivial
    · intro vs W' hl hI hd
      obtain ⟨x0, x1, x2, x3, x4, x5, x6, x7, x8, x9, x10, x11, x12, x13, x14, x15, x16, x17, x18, x19, x20, x21, x22, x23, x24, x25, rfl⟩ := lenlit26 hl; clear hl
      simp only [List.length_cons, List.length_nil, List.range, List.range.loop, Nat.zero_add, Nat.reduceAdd, factsR, atR, List.getElem?_cons_succ, List.getElem?_cons_zero, Rel.one, Rel.blk] at hd
      obtain ⟨rfl, rfl, rfl, rfl, rfl, rfl, rfl, rfl, rfl, rfl, rfl, rfl, rfl, rfl, rfl, rfl, rfl, rfl, rfl, rfl, rfl, rfl, rfl, rfl, rfl, rfl, -⟩ := hd
      simp only [putAll, Act.put, List.setIfInBounds_toArray, List.set_cons_succ, List.set_cons_zero]
      go_wp2_with fail
      go_ret
      exact ⟨rfl, hE5.trans hI⟩
end Go.Proofs.YtepjobjkcigbmaaDoor
