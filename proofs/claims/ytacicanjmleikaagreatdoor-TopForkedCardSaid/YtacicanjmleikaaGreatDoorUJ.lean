/-
  The law TopForked, walked. Written by wip/gen_uj.py.
-/
import Derived.Test.YtacicanjmleikaaGreatDoorUI
namespace Go.Proofs.YtacicanjmleikaaGreatDoor
open Go.RowKit Go.Sort Go.Shelf Go.Maps
set_option linter.unusedSimpArgs false
set_option linter.unusedVariables false
set_option maxRecDepth 100000

theorem lenlit8f {vs : List Value} (h : vs.length = 8) : ∃ x0 x1 x2 x3 x4 x5 x6 x7 : Value, vs = [x0, x1, x2, x3, x4, x5, x6, x7] := by
  obtain ⟨x0, v0, rfl, h0⟩ := len_cons h
  obtain ⟨x1, v1, rfl, h1⟩ := len_cons h0
  obtain ⟨x2, v2, rfl, h2⟩ := len_cons h1
  obtain ⟨x3, v3, rfl, h3⟩ := len_cons h2
  obtain ⟨x4, v4, rfl, h4⟩ := len_cons h3
  obtain ⟨x5, v5, rfl, h5⟩ := len_cons h4
  obtain ⟨x6, v6, rfl, h6⟩ := len_cons h5
  obtain ⟨x7, v7, rfl, h7⟩ := len_cons h6
  obtain rfl := len_nil h7
  exact ⟨x0, x1, x2, x3, x4, x5, x6, x7, rfl⟩

set_option maxHeartbeats 16000000 in
theorem topforked_from (HORD : ∀ W, TB W → Calls Tryz.prog 6 #[] W fun e w' => e = .returned (.bool true) ∧ Ext W w') {id1 id2 first second k0 k1 : Int} {a1 a2 : Option Addr} {n1 c1 n2 c2 : Nat} {es1 es2 : List En} {w : World}
    (h1 : Rw w a1 n1 c1 es1) (h2 : Rw w a2 n2 c2 es2) (hk0 : 0 ≤ k0 ∧ k0 ≤ 18446744073709551615) (hk1 : 0 ≤ k1 ∧ k1 ≤ 18446744073709551615) (ht : TB w) :
    Calls Tryz.prog 3 #[.agg #[.int .i64 id1, .slice a1 n1 c1], .agg #[.int .i64 id2, .slice a2 n2 c2], .int .u64 first, .int .u64 second, .agg #[.int .u64 k0, .int .u64 k1]] w fun e w' => e = .returned (.bool true) ∧ Ext w w' := by
  have bd1 := h1.bd
  have bd2 := h2.bd
  have HO := Lib.hid HORD
  have HTB := Lib.hid ht
  have HR1 := Lib.hid h1
  have HR2 := Lib.hid h2
  have HF1 := Lib.hid (fun W => r25few_any id1 a1 n1 c1 W (by omega))
  have HF2 := Lib.hid (fun W => r25few_any id1 a2 n2 c2 W (by omega))
  have HV1 := Lib.hid (fun (W : World) (hx : Ext w W) => rvalidO_any id1 a1 n1 c1 es1 W (h1.ext hx))
  have HV2 := Lib.hid (fun (W : World) (hx : Ext w W) => rvalidO_any id1 a2 n2 c2 es2 W (h2.ext hx))
  clear HORD ht h1 h2
  have O1 := Bk.new w 24 #[.int .i64 id1, .slice a1 n1 c1]
  have hx1 : Ext w (w.alloc (.cells #[.int .i64 id1, .slice a1 n1 c1] 24)) := (Ext.refl w).alloc _
  have O2 := Bk.new (w.alloc (.cells #[.int .i64 id1, .slice a1 n1 c1] 24)) 24 #[.int .i64 id2, .slice a2 n2 c2]
  have hx2 : Ext w ((w.alloc (.cells #[.int .i64 id1, .slice a1 n1 c1] 24)).alloc (.cells #[.int .i64 id2, .slice a2 n2 c2] 24)) := hx1.alloc _
  have K := Bk.new ((w.alloc (.cells #[.int .i64 id1, .slice a1 n1 c1] 24)).alloc (.cells #[.int .i64 id2, .slice a2 n2 c2] 24)) 26 #[.int .u64 k0, .int .u64 k1]
  have hx : Ext w (((w.alloc (.cells #[.int .i64 id1, .slice a1 n1 c1] 24)).alloc (.cells #[.int .i64 id2, .slice a2 n2 c2] 24)).alloc (.cells #[.int .u64 k0, .int .u64 k1] 26)) := hx2.alloc _
  replace O1 := O1.ext ((Ext.refl _).alloc (.cells #[.int .i64 id2, .slice a2 n2 c2] 24))
  replace O1 := O1.ext ((Ext.refl _).alloc (.cells #[.int .u64 k0, .int .u64 k1] 26))
  replace O2 := O2.ext ((Ext.refl _).alloc (.cells #[.int .u64 k0, .int .u64 k1] 26))
  rw [show (w.alloc (.cells #[.int .i64 id1, .slice a1 n1 c1] 24)).heap.size = w.heap.size + 1 from Array.size_push _] at O2
  rw [show ((w.alloc (.cells #[.int .i64 id1, .slice a1 n1 c1] 24)).alloc (.cells #[.int .i64 id2, .slice a2 n2 c2] 24)).heap.size = w.heap.size + 1 + 1 from (Array.size_push _).trans (congrArg (· + 1) (Array.size_push _))] at K
  clear hx1 hx2
  go_enter Tryz.func3, Tryz.ntmps3
  go_upto_region 1 with fail
  generalize (((w.alloc (.cells #[.int .i64 id1, .slice a1 n1 c1] 24)).alloc (.cells #[.int .i64 id2, .slice a2 n2 c2] 24)).alloc (.cells #[.int .u64 k0, .int .u64 k1] 26)) = V at *
  obtain ⟨b1, hb1⟩ : ∃ b, w.heap.size = b := ⟨_, rfl⟩
  have HB1 := Lib.hid hb1
  rw [hb1] at O1 O2 K ⊢
  obtain ⟨b2, hb2⟩ : ∃ b, b1 + 1 = b := ⟨_, rfl⟩
  have HB2 := Lib.hid hb2
  rw [hb2] at O2 K ⊢
  obtain ⟨b3, hb3⟩ : ∃ b, b2 + 1 = b := ⟨_, rfl⟩
  have HB3 := Lib.hid hb3
  rw [hb3] at K ⊢
  clear hb1 hb2 hb3
  go_wp2_with (go_at_call 6; refine (HO.out _ (HTB.out.ext hx)).mono ?_; rintro e9 w1 ⟨rfl, hx1⟩; refine hold ?_)
  refine held ?_
  replace hx := hx.trans hx1
  replace O1 := O1.ext hx1
  replace O2 := O2.ext hx1
  replace K := K.ext hx1
  clear hx1
  clear HO
  have p0 := O1.c 0 _ rfl
  have p1 := O1.c 1 _ rfl
  have q0 := O2.c 0 _ rfl
  have q1 := O2.c 1 _ rfl
  have fr := O2.free
  go_upto_region 3 with fail
  have hne : b2 ≠ b1 := by have := HB1.out; have := HB2.out; omega
  have hne3 : b2 ≠ b3 := by have := HB3.out; have := HB2.out; omega
  have hb2 : w.heap.size ≤ b2 := by have := HB1.out; have := HB2.out; omega
  clear fr
  clear p0 p1
  clear q0 q1
  replace O1 := O1.otherB hne 0 (.int .i64 id1)
  replace K := K.otherB hne3 0 (.int .i64 id1)
  replace O2 := O2.set 0 (.int .i64 id1)
  rw [show (#[.int .i64 id2, .slice a2 n2 c2] : Array Value).setIfInBounds 0 (.int .i64 id1) = #[.int .i64 id1, .slice a2 n2 c2] from rfl] at O2
  replace hx := hx.setCell (p := ⟨b2, 0, none⟩) hb2 (.int .i64 id1)
  clear hne hne3 hb2
  generalize w1.setCell ⟨b2, 0, none⟩ (.int .i64 id1) = V2 at *
  have p0 := O1.c 0 _ rfl
  have p1 := O1.c 1 _ rfl
  have q0 := O2.c 0 _ rfl
  have q1 := O2.c 1 _ rfl
  by_cases g1 : n1 ≤ 40
  case neg =>
    rw [decide_eq_false g1] at HF1
    go_wp2_with (go_at_call 7; refine (HF1.out _).mono ?_; rintro e9 w2 ⟨rfl, hx1⟩)
    go_ret
    exact ⟨rfl, hx.trans hx1⟩
  rw [decide_eq_true g1] at HF1
  go_wp2_with (go_at_call 7; refine (HF1.out _).mono ?_; rintro e9 w2 ⟨rfl, hx1⟩; refine hold ?_)
  refine held ?_
  clear p0 p1
  clear q0 q1
  replace hx := hx.trans hx1
  replace O1 := O1.ext hx1
  replace O2 := O2.ext hx1
  replace K := K.ext hx1
  clear hx1
  have p0 := O1.c 0 _ rfl
  have p1 := O1.c 1 _ rfl
  have q0 := O2.c 0 _ rfl
  have q1 := O2.c 1 _ rfl
  clear HF1
  by_cases g2 : n2 ≤ 40
  case neg =>
    rw [decide_eq_false g2] at HF2
    go_wp2_with (go_at_call 7; refine (HF2.out _).mono ?_; rintro e9 w2 ⟨rfl, hx1⟩)
    go_ret
    exact ⟨rfl, hx.trans hx1⟩
  rw [decide_eq_true g2] at HF2
  go_wp2_with (go_at_call 7; refine (HF2.out _).mono ?_; rintro e9 w3 ⟨rfl, hx1⟩; refine hold ?_)
  refine held ?_
  clear p0 p1
  clear q0 q1
  replace hx := hx.trans hx1
  replace O1 := O1.ext hx1
  replace O2 := O2.ext hx1
  replace K := K.ext hx1
  clear hx1
  have p0 := O1.c 0 _ rfl
  have p1 := O1.c 1 _ rfl
  have q0 := O2.c 0 _ rfl
  have q1 := O2.c 1 _ rfl
  clear HF2
  by_cases g3 : offB id1 es1 = true
  case neg =>
    rw [Bool.eq_false_iff.2 g3] at HV1
    go_wp2_with (go_at_call 8; refine (HV1.out _ hx).mono ?_; rintro e9 w2 ⟨rfl, hx1⟩)
    go_ret
    exact ⟨rfl, hx.trans hx1⟩
  rw [g3] at HV1
  go_wp2_with (go_at_call 8; refine (HV1.out _ hx).mono ?_; rintro e9 w4 ⟨rfl, hx1⟩; refine hold ?_)
  refine held ?_
  clear p0 p1
  clear q0 q1
  replace hx := hx.trans hx1
  replace O1 := O1.ext hx1
  replace O2 := O2.ext hx1
  replace K := K.ext hx1
  clear hx1
  have p0 := O1.c 0 _ rfl
  have p1 := O1.c 1 _ rfl
  have q0 := O2.c 0 _ rfl
  have q1 := O2.c 1 _ rfl
  clear HV1
  by_cases g4 : offB id1 es2 = true
  case neg =>
    rw [Bool.eq_false_iff.2 g4] at HV2
    go_wp2_with (go_at_call 8; refine (HV2.out _ hx).mono ?_; rintro e9 w2 ⟨rfl, hx1⟩)
    go_ret
    exact ⟨rfl, hx.trans hx1⟩
  rw [g4] at HV2
  go_wp2_with (go_at_call 8; refine (HV2.out _ hx).mono ?_; rintro e9 w5 ⟨rfl, hx1⟩; refine hold ?_)
  refine held ?_
  clear p0 p1
  clear q0 q1
  replace hx := hx.trans hx1
  replace O1 := O1.ext hx1
  replace O2 := O2.ext hx1
  replace K := K.ext hx1
  clear hx1
  have p0 := O1.c 0 _ rfl
  have p1 := O1.c 1 _ rfl
  have q0 := O2.c 0 _ rfl
  have q1 := O2.c 1 _ rfl
  clear HV2
  by_cases g5 : id1 = 1
  case neg =>
    have e5 : (id1 == 1) = false := by simp [g5]
    go_wp2_with fail
    go_ret
    exact ⟨rfl, hx⟩
  subst g5
  by_cases g6 : n1 ≤ n2
  case neg =>
    have e6 : (n2 : Int) < (n1 : Int) := by omega
    go_wp2_with fail
    go_ret
    exact ⟨rfl, hx⟩
  have e6 : ¬ ((n2 : Int) < (n1 : Int)) := by omega
  have H40 := Lib.hid (And.intro g1 (And.intro g2 g6))
  have HOF := Lib.hid (And.intro g3 g4)
  have HX1 := Lib.hid (fun (doc : Int) (W : World) (hx : Ext w W) => r7index_any 1 a1 n1 c1 es1 doc W (HR1.out.ext hx) H40.out.1)
  have HX2 := Lib.hid (fun (doc : Int) (W : World) (hx : Ext w W) => r7index_any 1 a2 n2 c2 es2 doc W (HR2.out.ext hx) H40.out.2.1)
  have HBD := Lib.hid (And.intro (idxV_bd HR1.out first) (And.intro (idxV_bd HR1.out second) (And.intro (idxV_bd HR2.out first) (idxV_bd HR2.out second))))
  clear g1 g2 g3 g4 g6
  go_upto_region 5 with fail
  clear e6
  clear p0 p1
  clear q0 q1
  generalize w5 = V3 at *
  refine region_rely (S := Ext) (fun W' => Ext V3 W') [some 78, some 79, some 80, some 81, some 82, some 83, some 12, some 13] [[], [], [0, 1], [], [], [3, 4], [2], [5]] [[], [], [], [], [], [], [], []] [.one ((.agg #[.int .i64 1, .slice a1 n1 c1])), .one ((.int .u64 first)), .one ((.int .i64 (idxV es1 first))), .one ((.agg #[.int .i64 1, .slice a1 n1 c1])), .one ((.int .u64 second)), .one ((.int .i64 (idxV es1 second))), .one ((.int .i64 (idxV es1 first))), .one ((.int .i64 (idxV es1 second)))] (by kernel_rfl) (by kernel_rfl) (Ext.refl V3).drew ?_ ?_
  · refine stepsR_cons ?_ ?_
    · intro vs W' hl hI hd ho
      refine hold ?_
      obtain ⟨x0, x1, x2, x3, x4, x5, x6, x7, rfl⟩ := lenlit8f hl; clear hl
      refine held ?_
      simp only [putAll, Act.put, List.setIfInBounds_toArray, List.set_cons_succ, List.set_cons_zero]
      have O9 := O1.ext hI
      have p0 := O9.c 0 _ rfl
      have p1 := O9.c 1 _ rfl
      go_wp2_with fail
      exact rely_done _ rfl rfl (Ext.refl _) hI
    refine stepsR_cons ?_ ?_
    · intro vs W' hl hI hd ho
      refine hold ?_
      obtain ⟨x0, x1, x2, x3, x4, x5, x6, x7, rfl⟩ := lenlit8f hl; clear hl
      refine held ?_
      simp only [putAll, Act.put, List.setIfInBounds_toArray, List.set_cons_succ, List.set_cons_zero]
      go_wp2_with fail
      exact rely_done _ rfl rfl (Ext.refl _) hI
    refine stepsR_cons ?_ ?_
    · intro vs W' hl hI hd ho
      refine hold ?_
      obtain ⟨x0, x1, x2, x3, x4, x5, x6, x7, rfl⟩ := lenlit8f hl; clear hl
      simp only [factsR, atR, List.getElem?_cons_succ, List.getElem?_cons_zero, Rel.one, Rel.blk] at hd
      obtain ⟨rfl, rfl, -⟩ := hd
      refine held ?_
      simp only [putAll, Act.put, List.setIfInBounds_toArray, List.set_cons_succ, List.set_cons_zero]
      go_wp2_with (go_at_call 9; refine (HX1.out first _ (hx.trans hI)).mono ?_; rintro e9 w9 ⟨rfl, hx9⟩)
      exact rely_done _ rfl rfl hx9 (hI.trans hx9)
    refine stepsR_cons ?_ ?_
    · intro vs W' hl hI hd ho
      refine hold ?_
      obtain ⟨x0, x1, x2, x3, x4, x5, x6, x7, rfl⟩ := lenlit8f hl; clear hl
      refine held ?_
      simp only [putAll, Act.put, List.setIfInBounds_toArray, List.set_cons_succ, List.set_cons_zero]
      have O9 := O1.ext hI
      have p0 := O9.c 0 _ rfl
      have p1 := O9.c 1 _ rfl
      go_wp2_with fail
      exact rely_done _ rfl rfl (Ext.refl _) hI
    refine stepsR_cons ?_ ?_
    · intro vs W' hl hI hd ho
      refine hold ?_
      obtain ⟨x0, x1, x2, x3, x4, x5, x6, x7, rfl⟩ := lenlit8f hl; clear hl
      refine held ?_
      simp only [putAll, Act.put, List.setIfInBounds_toArray, List.set_cons_succ, List.set_cons_zero]
      go_wp2_with fail
      exact rely_done _ rfl rfl (Ext.refl _) hI
    refine stepsR_cons ?_ ?_
    · intro vs W' hl hI hd ho
      refine hold ?_
      obtain ⟨x0, x1, x2, x3, x4, x5, x6, x7, rfl⟩ := lenlit8f hl; clear hl
      simp only [factsR, atR, List.getElem?_cons_succ, List.getElem?_cons_zero, Rel.one, Rel.blk] at hd
      obtain ⟨rfl, rfl, -⟩ := hd
      refine held ?_
      simp only [putAll, Act.put, List.setIfInBounds_toArray, List.set_cons_succ, List.set_cons_zero]
      go_wp2_with (go_at_call 9; refine (HX1.out second _ (hx.trans hI)).mono ?_; rintro e9 w9 ⟨rfl, hx9⟩)
      exact rely_done _ rfl rfl hx9 (hI.trans hx9)
    refine stepsR_cons ?_ ?_
    · intro vs W' hl hI hd ho
      refine hold ?_
      obtain ⟨x0, x1, x2, x3, x4, x5, x6, x7, rfl⟩ := lenlit8f hl; clear hl
      simp only [factsR, atR, List.getElem?_cons_succ, List.getElem?_cons_zero, Rel.one, Rel.blk] at hd
      obtain ⟨rfl, -⟩ := hd
      refine held ?_
      simp only [putAll, Act.put, List.setIfInBounds_toArray, List.set_cons_succ, List.set_cons_zero]
      go_wp2_with fail
      exact rely_done _ rfl rfl (Ext.refl _) hI
    refine stepsR_cons ?_ ?_
    · intro vs W' hl hI hd ho
      refine hold ?_
      obtain ⟨x0, x1, x2, x3, x4, x5, x6, x7, rfl⟩ := lenlit8f hl; clear hl
      simp only [factsR, atR, List.getElem?_cons_succ, List.getElem?_cons_zero, Rel.one, Rel.blk] at hd
      obtain ⟨rfl, -⟩ := hd
      refine held ?_
      simp only [putAll, Act.put, List.setIfInBounds_toArray, List.set_cons_succ, List.set_cons_zero]
      go_wp2_with fail
      exact rely_done _ rfl rfl (Ext.refl _) hI
    exact trivial
  intro vs W' hl hI hd
  obtain ⟨x0, x1, x2, x3, x4, x5, x6, x7, rfl⟩ := lenlit8f hl; clear hl
  simp only [List.length_cons, List.length_nil, List.range, List.range.loop, Nat.zero_add, Nat.reduceAdd, factsR, atR, List.getElem?_cons_succ, List.getElem?_cons_zero, Rel.one, Rel.blk] at hd
  obtain ⟨rfl, rfl, rfl, rfl, rfl, rfl, rfl, rfl, -⟩ := hd
  simp only [putAll, Act.put, List.setIfInBounds_toArray, List.set_cons_succ, List.set_cons_zero]
  replace hI : Ext V3 W' := hI
  replace hx := hx.trans hI
  replace O1 := O1.ext hI
  replace O2 := O2.ext hI
  replace K := K.ext hI
  clear hI
  go_upto_region 6 with fail
  generalize W' = V4 at *
  refine region_rely (S := Ext) (fun W' => Ext V4 W') [some 84, some 85, some 86, some 87, some 88, some 89, some 14, some 15] [[], [], [0, 1], [], [], [3, 4], [2], [5]] [[], [], [], [], [], [], [], []] [.one ((.agg #[.int .i64 1, .slice a2 n2 c2])), .one ((.int .u64 first)), .one ((.int .i64 (idxV es2 first))), .one ((.agg #[.int .i64 1, .slice a2 n2 c2])), .one ((.int .u64 second)), .one ((.int .i64 (idxV es2 second))), .one ((.int .i64 (idxV es2 first))), .one ((.int .i64 (idxV es2 second)))] (by kernel_rfl) (by kernel_rfl) (Ext.refl V4).drew ?_ ?_
  · refine stepsR_cons ?_ ?_
    · intro vs W' hl hI hd ho
      refine hold ?_
      obtain ⟨x0, x1, x2, x3, x4, x5, x6, x7, rfl⟩ := lenlit8f hl; clear hl
      refine held ?_
      simp only [putAll, Act.put, List.setIfInBounds_toArray, List.set_cons_succ, List.set_cons_zero]
      have O9 := O2.ext hI
      have p0 := O9.c 0 _ rfl
      have p1 := O9.c 1 _ rfl
      go_wp2_with fail
      exact rely_done _ rfl rfl (Ext.refl _) hI
    refine stepsR_cons ?_ ?_
    · intro vs W' hl hI hd ho
      refine hold ?_
      obtain ⟨x0, x1, x2, x3, x4, x5, x6, x7, rfl⟩ := lenlit8f hl; clear hl
      refine held ?_
      simp only [putAll, Act.put, List.setIfInBounds_toArray, List.set_cons_succ, List.set_cons_zero]
      go_wp2_with fail
      exact rely_done _ rfl rfl (Ext.refl _) hI
    refine stepsR_cons ?_ ?_
    · intro vs W' hl hI hd ho
      refine hold ?_
      obtain ⟨x0, x1, x2, x3, x4, x5, x6, x7, rfl⟩ := lenlit8f hl; clear hl
      simp only [factsR, atR, List.getElem?_cons_succ, List.getElem?_cons_zero, Rel.one, Rel.blk] at hd
      obtain ⟨rfl, rfl, -⟩ := hd
      refine held ?_
      simp only [putAll, Act.put, List.setIfInBounds_toArray, List.set_cons_succ, List.set_cons_zero]
      go_wp2_with (go_at_call 9; refine (HX2.out first _ (hx.trans hI)).mono ?_; rintro e9 w9 ⟨rfl, hx9⟩)
      exact rely_done _ rfl rfl hx9 (hI.trans hx9)
    refine stepsR_cons ?_ ?_
    · intro vs W' hl hI hd ho
      refine hold ?_
      obtain ⟨x0, x1, x2, x3, x4, x5, x6, x7, rfl⟩ := lenlit8f hl; clear hl
      refine held ?_
      simp only [putAll, Act.put, List.setIfInBounds_toArray, List.set_cons_succ, List.set_cons_zero]
      have O9 := O2.ext hI
      have p0 := O9.c 0 _ rfl
      have p1 := O9.c 1 _ rfl
      go_wp2_with fail
      exact rely_done _ rfl rfl (Ext.refl _) hI
    refine stepsR_cons ?_ ?_
    · intro vs W' hl hI hd ho
      refine hold ?_
      obtain ⟨x0, x1, x2, x3, x4, x5, x6, x7, rfl⟩ := lenlit8f hl; clear hl
      refine held ?_
      simp only [putAll, Act.put, List.setIfInBounds_toArray, List.set_cons_succ, List.set_cons_zero]
      go_wp2_with fail
      exact rely_done _ rfl rfl (Ext.refl _) hI
    refine stepsR_cons ?_ ?_
    · intro vs W' hl hI hd ho
      refine hold ?_
      obtain ⟨x0, x1, x2, x3, x4, x5, x6, x7, rfl⟩ := lenlit8f hl; clear hl
      simp only [factsR, atR, List.getElem?_cons_succ, List.getElem?_cons_zero, Rel.one, Rel.blk] at hd
      obtain ⟨rfl, rfl, -⟩ := hd
      refine held ?_
      simp only [putAll, Act.put, List.setIfInBounds_toArray, List.set_cons_succ, List.set_cons_zero]
      go_wp2_with (go_at_call 9; refine (HX2.out second _ (hx.trans hI)).mono ?_; rintro e9 w9 ⟨rfl, hx9⟩)
      exact rely_done _ rfl rfl hx9 (hI.trans hx9)
    refine stepsR_cons ?_ ?_
    · intro vs W' hl hI hd ho
      refine hold ?_
      obtain ⟨x0, x1, x2, x3, x4, x5, x6, x7, rfl⟩ := lenlit8f hl; clear hl
      simp only [factsR, atR, List.getElem?_cons_succ, List.getElem?_cons_zero, Rel.one, Rel.blk] at hd
      obtain ⟨rfl, -⟩ := hd
      refine held ?_
      simp only [putAll, Act.put, List.setIfInBounds_toArray, List.set_cons_succ, List.set_cons_zero]
      go_wp2_with fail
      exact rely_done _ rfl rfl (Ext.refl _) hI
    refine stepsR_cons ?_ ?_
    · intro vs W' hl hI hd ho
      refine hold ?_
      obtain ⟨x0, x1, x2, x3, x4, x5, x6, x7, rfl⟩ := lenlit8f hl; clear hl
      simp only [factsR, atR, List.getElem?_cons_succ, List.getElem?_cons_zero, Rel.one, Rel.blk] at hd
      obtain ⟨rfl, -⟩ := hd
      refine held ?_
      simp only [putAll, Act.put, List.setIfInBounds_toArray, List.set_cons_succ, List.set_cons_zero]
      go_wp2_with fail
      exact rely_done _ rfl rfl (Ext.refl _) hI
    exact trivial
  intro vs W' hl hI hd
  obtain ⟨x0, x1, x2, x3, x4, x5, x6, x7, rfl⟩ := lenlit8f hl; clear hl
  simp only [List.length_cons, List.length_nil, List.range, List.range.loop, Nat.zero_add, Nat.reduceAdd, factsR, atR, List.getElem?_cons_succ, List.getElem?_cons_zero, Rel.one, Rel.blk] at hd
  obtain ⟨rfl, rfl, rfl, rfl, rfl, rfl, rfl, rfl, -⟩ := hd
  simp only [putAll, Act.put, List.setIfInBounds_toArray, List.set_cons_succ, List.set_cons_zero]
  replace hI : Ext V4 W' := hI
  replace hx := hx.trans hI
  replace O1 := O1.ext hI
  replace O2 := O2.ext hI
  replace K := K.ext hI
  clear hI
  go_upto_region 7 with fail
  generalize W' = V5 at *
  clear HX1 HX2
  generalize idxV es1 first = A at *
  generalize idxV es1 second = B at *
  generalize idxV es2 first = C at *
  generalize idxV es2 second = D at *
  by_cases r0 : A < 0
  case pos =>
    go_wp2_with fail
    go_ret
    exact ⟨rfl, hx⟩
  by_cases r1 : B < 0
  case pos =>
    go_wp2_with fail
    go_ret
    exact ⟨rfl, hx⟩
  by_cases r2 : C < 0
  case pos =>
    go_wp2_with fail
    go_ret
    exact ⟨rfl, hx⟩
  by_cases r3 : D < 0
  case pos =>
    go_wp2_with fail
    go_ret
    exact ⟨rfl, hx⟩
  by_cases r4 : A = B
  case pos =>
    have e9 : (A == B) = true := by simp [r4]
    clear r4
    go_wp2_with fail
    go_ret
    exact ⟨rfl, hx⟩
  have e4 : (A == B) = false := by simp [r4]
  by_cases r5 : C = D
  case pos =>
    have e9 : (C == D) = true := by simp [r5]
    clear r5
    go_wp2_with fail
    go_ret
    exact ⟨rfl, hx⟩
  have e5 : (C == D) = false := by simp [r5]
  by_cases r6 : (A < B) = (C < D)
  case pos =>
    have e9 : (decide (A < B) == decide (C < D)) = true := by simp [r6]
    clear r6
    go_wp2_with fail
    go_ret
    exact ⟨rfl, hx⟩
  have e6 : (decide (A < B) == decide (C < D)) = false := by simp only [beq_eq_false_iff_ne, ne_eq, decide_eq_decide]; exact fun h => r6 (propext h)
  go_upto_region 9 with fail
  have hA := HBD.out
  have n1p : 1 ≤ n1 := by omega
  have n2p : 1 ≤ n2 := by omega
  have HN1 := Lib.hid n1p
  have HN2 := Lib.hid n2p
  have HAB : Hid ((0 ≤ A ∧ 0 ≤ B ∧ 0 ≤ C ∧ 0 ≤ D) ∧ (A < n1 ∧ B < n1 ∧ C < n2 ∧ D < n2) ∧ A ≠ B ∧ C ≠ D) := Lib.hid ⟨⟨by omega, by omega, by omega, by omega⟩, ⟨by omega, by omega, by omega, by omega⟩, r4, r5⟩
  clear hA n1p n2p r0 r1 r2 r3 r4 r5 r6 e4 e5 e6 HBD
  obtain ⟨key, hkey⟩ : ∃ key : Nat, 1 + k0 % 1073741788 = (key : Int) := ⟨(1 + k0 % 1073741788).toNat, by omega⟩
  have HKY : Hid (Sec key) := Lib.hid ⟨by omega, by omega⟩
  have HS0 := Lib.hid (fun W => rsecret_any k0 hk0 W)
  rw [hkey] at HS0
  obtain ⟨once, honce⟩ : ∃ once : Nat, 1 + k1 % 1073741788 = (once : Int) := ⟨(1 + k1 % 1073741788).toNat, by omega⟩
  have HKO : Hid (Sec once) := Lib.hid ⟨by omega, by omega⟩
  have HS1 := Lib.hid (fun W => rsecret_any k1 hk1 W)
  rw [honce] at HS1
  clear hkey honce hk0 hk1
  refine region_rely (S := Ext) (fun W' => Ext V5 W') [some 124, some 125, some 126, some 127, some 128, some 129, some 16, some 17] [[], [0], [1], [], [3], [4], [2], [5]] [[], [], [], [], [], [], [], []] [.one ((.pointer (some ⟨b3, 0, none⟩))), .one ((.int .u64 k0)), .one ((.int .i64 (key : Nat))), .one ((.pointer (some ⟨b3, 1, none⟩))), .one ((.int .u64 k1)), .one ((.int .i64 (once : Nat))), .one ((.int .i64 (key : Nat))), .one ((.int .i64 (once : Nat)))] (by kernel_rfl) (by kernel_rfl) (Ext.refl V5).drew ?_ ?_
  · refine stepsR_cons ?_ ?_
    · intro vs W' hl hI hd ho
      refine hold ?_
      obtain ⟨x0, x1, x2, x3, x4, x5, x6, x7, rfl⟩ := lenlit8f hl; clear hl
      refine held ?_
      simp only [putAll, Act.put, List.setIfInBounds_toArray, List.set_cons_succ, List.set_cons_zero]
      go_wp2_with fail
      exact rely_done _ rfl rfl (Ext.refl _) hI
    refine stepsR_cons ?_ ?_
    · intro vs W' hl hI hd ho
      refine hold ?_
      obtain ⟨x0, x1, x2, x3, x4, x5, x6, x7, rfl⟩ := lenlit8f hl; clear hl
      simp only [factsR, atR, List.getElem?_cons_succ, List.getElem?_cons_zero, Rel.one, Rel.blk] at hd
      obtain ⟨rfl, -⟩ := hd
      refine held ?_
      simp only [putAll, Act.put, List.setIfInBounds_toArray, List.set_cons_succ, List.set_cons_zero]
      have O9 := K.ext hI
      have p0 := O9.c 0 _ rfl
      have p1 := O9.c 1 _ rfl
      go_wp2_with fail
      exact rely_done _ rfl rfl (Ext.refl _) hI
    refine stepsR_cons ?_ ?_
    · intro vs W' hl hI hd ho
      refine hold ?_
      obtain ⟨x0, x1, x2, x3, x4, x5, x6, x7, rfl⟩ := lenlit8f hl; clear hl
      simp only [factsR, atR, List.getElem?_cons_succ, List.getElem?_cons_zero, Rel.one, Rel.blk] at hd
      obtain ⟨rfl, -⟩ := hd
      refine held ?_
      simp only [putAll, Act.put, List.setIfInBounds_toArray, List.set_cons_succ, List.set_cons_zero]
      go_wp2_with (go_at_call 10; refine (HS0.out _).mono ?_; rintro e9 w9 ⟨rfl, rfl⟩)
      exact rely_done _ rfl rfl (Ext.refl _) hI
    refine stepsR_cons ?_ ?_
    · intro vs W' hl hI hd ho
      refine hold ?_
      obtain ⟨x0, x1, x2, x3, x4, x5, x6, x7, rfl⟩ := lenlit8f hl; clear hl
      refine held ?_
      simp only [putAll, Act.put, List.setIfInBounds_toArray, List.set_cons_succ, List.set_cons_zero]
      go_wp2_with fail
      exact rely_done _ rfl rfl (Ext.refl _) hI
    refine stepsR_cons ?_ ?_
    · intro vs W' hl hI hd ho
      refine hold ?_
      obtain ⟨x0, x1, x2, x3, x4, x5, x6, x7, rfl⟩ := lenlit8f hl; clear hl
      simp only [factsR, atR, List.getElem?_cons_succ, List.getElem?_cons_zero, Rel.one, Rel.blk] at hd
      obtain ⟨rfl, -⟩ := hd
      refine held ?_
      simp only [putAll, Act.put, List.setIfInBounds_toArray, List.set_cons_succ, List.set_cons_zero]
      have O9 := K.ext hI
      have p0 := O9.c 0 _ rfl
      have p1 := O9.c 1 _ rfl
      go_wp2_with fail
      exact rely_done _ rfl rfl (Ext.refl _) hI
    refine stepsR_cons ?_ ?_
    · intro vs W' hl hI hd ho
      refine hold ?_
      obtain ⟨x0, x1, x2, x3, x4, x5, x6, x7, rfl⟩ := lenlit8f hl; clear hl
      simp only [factsR, atR, List.getElem?_cons_succ, List.getElem?_cons_zero, Rel.one, Rel.blk] at hd
      obtain ⟨rfl, -⟩ := hd
      refine held ?_
      simp only [putAll, Act.put, List.setIfInBounds_toArray, List.set_cons_succ, List.set_cons_zero]
      go_wp2_with (go_at_call 10; refine (HS1.out _).mono ?_; rintro e9 w9 ⟨rfl, rfl⟩)
      exact rely_done _ rfl rfl (Ext.refl _) hI
    refine stepsR_cons ?_ ?_
    · intro vs W' hl hI hd ho
      refine hold ?_
      obtain ⟨x0, x1, x2, x3, x4, x5, x6, x7, rfl⟩ := lenlit8f hl; clear hl
      simp only [factsR, atR, List.getElem?_cons_succ, List.getElem?_cons_zero, Rel.one, Rel.blk] at hd
      obtain ⟨rfl, -⟩ := hd
      refine held ?_
      simp only [putAll, Act.put, List.setIfInBounds_toArray, List.set_cons_succ, List.set_cons_zero]
      go_wp2_with fail
      exact rely_done _ rfl rfl (Ext.refl _) hI
    refine stepsR_cons ?_ ?_
    · intro vs W' hl hI hd ho
      refine hold ?_
      obtain ⟨x0, x1, x2, x3, x4, x5, x6, x7, rfl⟩ := lenlit8f hl; clear hl
      simp only [factsR, atR, List.getElem?_cons_succ, List.getElem?_cons_zero, Rel.one, Rel.blk] at hd
      obtain ⟨rfl, -⟩ := hd
      refine held ?_
      simp only [putAll, Act.put, List.setIfInBounds_toArray, List.set_cons_succ, List.set_cons_zero]
      go_wp2_with fail
      exact rely_done _ rfl rfl (Ext.refl _) hI
    exact trivial
  intro vs W' hl hI hd
  obtain ⟨x0, x1, x2, x3, x4, x5, x6, x7, rfl⟩ := lenlit8f hl; clear hl
  simp only [List.length_cons, List.length_nil, List.range, List.range.loop, Nat.zero_add, Nat.reduceAdd, factsR, atR, List.getElem?_cons_succ, List.getElem?_cons_zero, Rel.one, Rel.blk] at hd
  obtain ⟨rfl, rfl, rfl, rfl, rfl, rfl, rfl, rfl, -⟩ := hd
  simp only [putAll, Act.put, List.setIfInBounds_toArray, List.set_cons_succ, List.set_cons_zero]
  replace hI : Ext V5 W' := hI
  replace hx := hx.trans hI
  replace O1 := O1.ext hI
  replace O2 := O2.ext hI
  replace K := K.ext hI
  clear hI
  go_upto_region 10 with fail
  generalize W' = V6 at *
  clear HS0 HS1
  refine region_rely (S := Ext) (fun W' => Ext V6 W') [some 130, some 131, some 132, some 133, some 134, some 135, some 18, some 19] [[], [0], [1], [], [3], [4], [2], [5]] [[], [], [], [], [], [], [], []] [.one ((.pointer (some ⟨b1, 1, none⟩))), .one ((.slice a1 n1 c1)), .one ((.int .i64 (n1 : Nat))), .one ((.pointer (some ⟨b2, 1, none⟩))), .one ((.slice a2 n2 c2)), .one ((.int .i64 (n2 : Nat))), .one ((.int .i64 (n1 : Nat))), .one ((.int .i64 (n2 : Nat)))] (by kernel_rfl) (by kernel_rfl) (Ext.refl V6).drew ?_ ?_
  · refine stepsR_cons ?_ ?_
    · intro vs W' hl hI hd ho
      refine hold ?_
      obtain ⟨x0, x1, x2, x3, x4, x5, x6, x7, rfl⟩ := lenlit8f hl; clear hl
      refine held ?_
      simp only [putAll, Act.put, List.setIfInBounds_toArray, List.set_cons_succ, List.set_cons_zero]
      go_wp2_with fail
      exact rely_done _ rfl rfl (Ext.refl _) hI
    refine stepsR_cons ?_ ?_
    · intro vs W' hl hI hd ho
      refine hold ?_
      obtain ⟨x0, x1, x2, x3, x4, x5, x6, x7, rfl⟩ := lenlit8f hl; clear hl
      simp only [factsR, atR, List.getElem?_cons_succ, List.getElem?_cons_zero, Rel.one, Rel.blk] at hd
      obtain ⟨rfl, -⟩ := hd
      refine held ?_
      simp only [putAll, Act.put, List.setIfInBounds_toArray, List.set_cons_succ, List.set_cons_zero]
      have O9 := O1.ext hI
      have p0 := O9.c 0 _ rfl
      have p1 := O9.c 1 _ rfl
      go_wp2_with fail
      exact rely_done _ rfl rfl (Ext.refl _) hI
    refine stepsR_cons ?_ ?_
    · intro vs W' hl hI hd ho
      refine hold ?_
      obtain ⟨x0, x1, x2, x3, x4, x5, x6, x7, rfl⟩ := lenlit8f hl; clear hl
      simp only [factsR, atR, List.getElem?_cons_succ, List.getElem?_cons_zero, Rel.one, Rel.blk] at hd
      obtain ⟨rfl, -⟩ := hd
      refine held ?_
      simp only [putAll, Act.put, List.setIfInBounds_toArray, List.set_cons_succ, List.set_cons_zero]
      go_wp2_with fail
      exact rely_done _ rfl rfl (Ext.refl _) hI
    refine stepsR_cons ?_ ?_
    · intro vs W' hl hI hd ho
      refine hold ?_
      obtain ⟨x0, x1, x2, x3, x4, x5, x6, x7, rfl⟩ := lenlit8f hl; clear hl
      refine held ?_
      simp only [putAll, Act.put, List.setIfInBounds_toArray, List.set_cons_succ, List.set_cons_zero]
      go_wp2_with fail
      exact rely_done _ rfl rfl (Ext.refl _) hI
    refine stepsR_cons ?_ ?_
    · intro vs W' hl hI hd ho
      refine hold ?_
      obtain ⟨x0, x1, x2, x3, x4, x5, x6, x7, rfl⟩ := lenlit8f hl; clear hl
      simp only [factsR, atR, List.getElem?_cons_succ, List.getElem?_cons_zero, Rel.one, Rel.blk] at hd
      obtain ⟨rfl, -⟩ := hd
      refine held ?_
      simp only [putAll, Act.put, List.setIfInBounds_toArray, List.set_cons_succ, List.set_cons_zero]
      have O9 := O2.ext hI
      have p0 := O9.c 0 _ rfl
      have p1 := O9.c 1 _ rfl
      go_wp2_with fail
      exact rely_done _ rfl rfl (Ext.refl _) hI
    refine stepsR_cons ?_ ?_
    · intro vs W' hl hI hd ho
      refine hold ?_
      obtain ⟨x0, x1, x2, x3, x4, x5, x6, x7, rfl⟩ := lenlit8f hl; clear hl
      simp only [factsR, atR, List.getElem?_cons_succ, List.getElem?_cons_zero, Rel.one, Rel.blk] at hd
      obtain ⟨rfl, -⟩ := hd
      refine held ?_
      simp only [putAll, Act.put, List.setIfInBounds_toArray, List.set_cons_succ, List.set_cons_zero]
      go_wp2_with fail
      exact rely_done _ rfl rfl (Ext.refl _) hI
    refine stepsR_cons ?_ ?_
    · intro vs W' hl hI hd ho
      refine hold ?_
      obtain ⟨x0, x1, x2, x3, x4, x5, x6, x7, rfl⟩ := lenlit8f hl; clear hl
      simp only [factsR, atR, List.getElem?_cons_succ, List.getElem?_cons_zero, Rel.one, Rel.blk] at hd
      obtain ⟨rfl, -⟩ := hd
      refine held ?_
      simp only [putAll, Act.put, List.setIfInBounds_toArray, List.set_cons_succ, List.set_cons_zero]
      go_wp2_with fail
      exact rely_done _ rfl rfl (Ext.refl _) hI
    refine stepsR_cons ?_ ?_
    · intro vs W' hl hI hd ho
      refine hold ?_
      obtain ⟨x0, x1, x2, x3, x4, x5, x6, x7, rfl⟩ := lenlit8f hl; clear hl
      simp only [factsR, atR, List.getElem?_cons_succ, List.getElem?_cons_zero, Rel.one, Rel.blk] at hd
      obtain ⟨rfl, -⟩ := hd
      refine held ?_
      simp only [putAll, Act.put, List.setIfInBounds_toArray, List.set_cons_succ, List.set_cons_zero]
      go_wp2_with fail
      exact rely_done _ rfl rfl (Ext.refl _) hI
    exact trivial
  intro vs W' hl hI hd
  obtain ⟨x0, x1, x2, x3, x4, x5, x6, x7, rfl⟩ := lenlit8f hl; clear hl
  simp only [List.length_cons, List.length_nil, List.range, List.range.loop, Nat.zero_add, Nat.reduceAdd, factsR, atR, List.getElem?_cons_succ, List.getElem?_cons_zero, Rel.one, Rel.blk] at hd
  obtain ⟨rfl, rfl, rfl, rfl, rfl, rfl, rfl, rfl, -⟩ := hd
  simp only [putAll, Act.put, List.setIfInBounds_toArray, List.set_cons_succ, List.set_cons_zero]
  replace hI : Ext V6 W' := hI
  replace hx := hx.trans hI
  replace O1 := O1.ext hI
  replace O2 := O2.ext hI
  replace K := K.ext hI
  clear hI
  go_upto_region 11 with fail
  generalize W' = V7 at *
  have HSG1 := Lib.hid (fun (W : World) (hx : Ext w W) => osign_yes 1 a1 n1 c1 es1 n1 key once W (HR1.out.ext hx) HOF.out.1 HN1.out (Nat.le_refl n1) HKY.out HKO.out (HTB.out.ext hx))
  have HSG2 := Lib.hid (fun (W : World) (hx : Ext w W) => osign_yes 1 a2 n2 c2 es2 n2 key once W (HR2.out.ext hx) HOF.out.2 HN2.out (Nat.le_refl n2) HKY.out HKO.out (HTB.out.ext hx))
  obtain ⟨g1, hg1⟩ : ∃ h, sgHd 1 es1 n1 key once = h := ⟨_, rfl⟩
  obtain ⟨g2, hg2⟩ : ∃ h, sgHd 1 es2 n2 key once = h := ⟨_, rfl⟩
  rw [hg1] at HSG1
  rw [hg2] at HSG2
  have HG1 := Lib.hid hg1
  have HG2 := Lib.hid hg2
  clear hg1 hg2
  unfold hdV at HSG1 HSG2
  have p0 := O1.c 0 _ rfl
  have p1 := O1.c 1 _ rfl
  go_wp2_with (go_at_call 11; refine (HSG1.out _ hx).mono ?_; rintro e9 w6 ⟨rfl, hx1⟩; refine hold ?_)
  refine held ?_
  clear p0 p1
  replace hx := hx.trans hx1
  replace O1 := O1.ext hx1
  replace O2 := O2.ext hx1
  replace K := K.ext hx1
  clear hx1
  clear HSG1
  have H1 := Bk.new w6 34 #[.int .i64 g1.o, .int .i64 g1.s, .int .u64 g1.r, .int .i64 g1.C, .int .i64 g1.S]
  have hx1 : Ext w6 (w6.alloc (.cells #[.int .i64 g1.o, .int .i64 g1.s, .int .u64 g1.r, .int .i64 g1.C, .int .i64 g1.S] 34)) := (Ext.refl w6).alloc _
  go_upto_region 12 with fail
  replace hx := hx.trans hx1
  replace O1 := O1.ext hx1
  replace O2 := O2.ext hx1
  replace K := K.ext hx1
  clear hx1
  generalize (w6.alloc (.cells #[.int .i64 g1.o, .int .i64 g1.s, .int .u64 g1.r, .int .i64 g1.C, .int .i64 g1.S] 34)) = V8 at *
  obtain ⟨b20, hb20⟩ : ∃ b, w6.heap.size = b := ⟨_, rfl⟩
  rw [hb20] at H1 ⊢
  clear hb20
  have q0 := O2.c 0 _ rfl
  have q1 := O2.c 1 _ rfl
  go_wp2_with (go_at_call 11; refine (HSG2.out _ hx).mono ?_; rintro e9 w7 ⟨rfl, hx1⟩; refine hold ?_)
  refine held ?_
  clear q0 q1
  replace hx := hx.trans hx1
  replace O1 := O1.ext hx1
  replace O2 := O2.ext hx1
  replace K := K.ext hx1
  replace H1 := H1.ext hx1
  clear hx1
  clear HSG2
  have H2 := Bk.new w7 34 #[.int .i64 g2.o, .int .i64 g2.s, .int .u64 g2.r, .int .i64 g2.C, .int .i64 g2.S]
  have hx1 : Ext w7 (w7.alloc (.cells #[.int .i64 g2.o, .int .i64 g2.s, .int .u64 g2.r, .int .i64 g2.C, .int .i64 g2.S] 34)) := (Ext.refl w7).alloc _
  go_upto_region 13 with fail
  replace hx := hx.trans hx1
  replace O1 := O1.ext hx1
  replace O2 := O2.ext hx1
  replace K := K.ext hx1
  replace H1 := H1.ext hx1
  clear hx1
  generalize (w7.alloc (.cells #[.int .i64 g2.o, .int .i64 g2.s, .int .u64 g2.r, .int .i64 g2.C, .int .i64 g2.S] 34)) = V9 at *
  obtain ⟨b22, hb20⟩ : ∃ b, w7.heap.size = b := ⟨_, rfl⟩
  rw [hb20] at H2 ⊢
  clear hb20
  have hA := HAB.out
  obtain ⟨x1, hm1⟩ : ∃ x : Nat, min A B = (x : Int) := ⟨(min A B).toNat, by omega⟩
  obtain ⟨y1, hm2⟩ : ∃ x : Nat, max A B = (x : Int) := ⟨(max A B).toNat, by omega⟩
  obtain ⟨x2, hm3⟩ : ∃ x : Nat, min C D = (x : Int) := ⟨(min C D).toNat, by omega⟩
  obtain ⟨y2, hm4⟩ : ∃ x : Nat, max C D = (x : Int) := ⟨(max C D).toNat, by omega⟩
  have HXY : Hid (x1 < y1 ∧ y1 < n1 ∧ x2 < y2 ∧ y2 < n2) := Lib.hid ⟨by omega, by omega, by omega, by omega⟩
  clear hA
  have HSO1 := Lib.hid (fun (W : World) (hx : Ext w W) => (⟨HR1.out.ext hx, HOF.out.1, HN1.out, HKY.out, HKO.out⟩ : Solo W 1 a1 n1 c1 es1 key once))
  have HSO2 := Lib.hid (fun (W : World) (hx : Ext w W) => (⟨HR2.out.ext hx, HOF.out.2, HN2.out, HKY.out, HKO.out⟩ : Solo W 1 a2 n2 c2 es2 key once))
  have HFN1 := Lib.hid (fun (W : World) (hx : Ext w W) (ob hb : Nat) (q1 : Bk W ob 24 #[.int .i64 1, .slice a1 n1 c1]) q2 => find_soloQ (HSO1.out W hx) (hb := hb) q1 q2 HXY.out.1 HXY.out.2.1 (HTB.out.ext hx))
  have HFN2 := Lib.hid (fun (W : World) (hx : Ext w W) (ob hb : Nat) (q1 : Bk W ob 24 #[.int .i64 1, .slice a2 n2 c2]) q2 => find_soloQ (HSO2.out W hx) (hb := hb) q1 q2 HXY.out.2.2.1 HXY.out.2.2.2 (HTB.out.ext hx))
  rw [HG1.out, ← hm1, ← hm2] at HFN1
  rw [HG2.out, ← hm3, ← hm4] at HFN2
  unfold FndQ at HFN1 HFN2
  clear hm1 hm2 hm3 hm4
  have p0 := O1.c 0 _ rfl
  have p1 := O1.c 1 _ rfl
  have z0 := H1.c 0 _ rfl
  have z1 := H1.c 1 _ rfl
  have z2 := H1.c 2 _ rfl
  have z3 := H1.c 3 _ rfl
  have z4 := H1.c 4 _ rfl
  have zl := H1.lt
  have pl := O1.lt
  have N1 := (Bk.new V9 24 #[.int .i64 1, .slice a1 n1 c1]).ext ((Ext.refl _).alloc (.cells #[.int .i64 g1.o, .int .i64 g1.s, .int .u64 g1.r, .int .i64 g1.C, .int .i64 g1.S] 34))
  have N2 := Bk.new (V9.alloc (.cells #[.int .i64 1, .slice a1 n1 c1] 24)) 34 #[.int .i64 g1.o, .int .i64 g1.s, .int .u64 g1.r, .int .i64 g1.C, .int .i64 g1.S]
  rw [show (V9.alloc (.cells #[.int .i64 1, .slice a1 n1 c1] 24)).heap.size = V9.heap.size + 1 from Array.size_push _] at N2
  have hxv : Ext V9 ((V9.alloc (.cells #[.int .i64 1, .slice a1 n1 c1] 24)).alloc (.cells #[.int .i64 g1.o, .int .i64 g1.s, .int .u64 g1.r, .int .i64 g1.C, .int .i64 g1.S] 34)) := ((Ext.refl _).alloc _).alloc _
  go_wp2_with (go_at_call 12; refine (HFN1.out _ (hx.trans hxv) _ _ N1 N2).mono ?_; rintro e9 w8 ⟨CL1, pa1, pn1, pc1, qa1, qn1, qc1, rfl, hC1, hP1, hQ1, hx1⟩; refine hold ?_)
  refine held ?_
  replace hx1 := hxv.trans hx1
  clear hxv N1 N2 zl pl HFN1
  clear p0 p1
  clear z0 z1 z2 z3 z4
  replace hx := hx.trans hx1
  replace O1 := O1.ext hx1
  replace O2 := O2.ext hx1
  replace K := K.ext hx1
  replace H1 := H1.ext hx1
  replace H2 := H2.ext hx1
  clear hx1
  have HPC1 := Lib.hid hC1
  clear hC1
  have Gz := Bk.new w8 47 #[.int .i64 0, .int .i64 0, .int .u64 0, .int .i64 0, .int .i64 0, .int .i64 0, .int .u64 0, .int .i64 0, .int .i64 0, .slice none 0 0, .slice none 0 0, .slice none 0 0, .int .i64 0, .int .i64 0, .int .u64 0, .int .i64 0, .int .i64 0, .int .i64 0, .int .u64 0, .int .i64 0, .int .i64 0, .slice none 0 0]
  have hx1 : Ext w8 (w8.alloc (.cells #[.int .i64 0, .int .i64 0, .int .u64 0, .int .i64 0, .int .i64 0, .int .i64 0, .int .u64 0, .int .i64 0, .int .i64 0, .slice none 0 0, .slice none 0 0, .slice none 0 0, .int .i64 0, .int .i64 0, .int .u64 0, .int .i64 0, .int .i64 0, .int .i64 0, .int .u64 0, .int .i64 0, .int .i64 0, .slice none 0 0] 47)) := (Ext.refl _).alloc _
  go_wp2_with (refine storeBk rfl 47 _ _ rfl w8.heap.size CL1 Gz (by rw [HPC1.out.len]; rfl) rfl rfl (by rw [HPC1.out.len]; kernel_rfl) HPC1.out.one ?_; refine hold ?_)
  have G1 := Gz.allCells CL1 (by rw [HPC1.out.len]; rfl)
  replace hx1 := Ext.cells (b := w8.heap.size) (Nat.le_refl _) CL1 0 hx1
  clear Gz
  replace hx := hx.trans hx1
  replace O1 := O1.ext hx1
  replace O2 := O2.ext hx1
  replace K := K.ext hx1
  replace H1 := H1.ext hx1
  replace H2 := H2.ext hx1
  replace hP1 := hP1.ext hx1
  replace hQ1 := hQ1.ext hx1
  clear hx1
  generalize (w8.alloc (.cells #[.int .i64 0, .int .i64 0, .int .u64 0, .int .i64 0, .int .i64 0, .int .i64 0, .int .u64 0, .int .i64 0, .int .i64 0, .slice none 0 0, .slice none 0 0, .slice none 0 0, .int .i64 0, .int .i64 0, .int .u64 0, .int .i64 0, .int .i64 0, .int .i64 0, .int .u64 0, .int .i64 0, .int .i64 0, .slice none 0 0] 47)).setCells w8.heap.size 0 CL1 = V10 at *
  obtain ⟨b24, hb24⟩ : ∃ b, w8.heap.size = b := ⟨_, rfl⟩
  rw [hb24] at G1 ⊢
  clear hb24
  refine held ?_
  go_upto_region 14 with fail
  have q0 := O2.c 0 _ rfl
  have q1 := O2.c 1 _ rfl
  have z0 := H2.c 0 _ rfl
  have z1 := H2.c 1 _ rfl
  have z2 := H2.c 2 _ rfl
  have z3 := H2.c 3 _ rfl
  have z4 := H2.c 4 _ rfl
  have zl := H2.lt
  have pl := O2.lt
  have N1 := (Bk.new V10 24 #[.int .i64 1, .slice a2 n2 c2]).ext ((Ext.refl _).alloc (.cells #[.int .i64 g2.o, .int .i64 g2.s, .int .u64 g2.r, .int .i64 g2.C, .int .i64 g2.S] 34))
  have N2 := Bk.new (V10.alloc (.cells #[.int .i64 1, .slice a2 n2 c2] 24)) 34 #[.int .i64 g2.o, .int .i64 g2.s, .int .u64 g2.r, .int .i64 g2.C, .int .i64 g2.S]
  rw [show (V10.alloc (.cells #[.int .i64 1, .slice a2 n2 c2] 24)).heap.size = V10.heap.size + 1 from Array.size_push _] at N2
  have hxv : Ext V10 ((V10.alloc (.cells #[.int .i64 1, .slice a2 n2 c2] 24)).alloc (.cells #[.int .i64 g2.o, .int .i64 g2.s, .int .u64 g2.r, .int .i64 g2.C, .int .i64 g2.S] 34)) := ((Ext.refl _).alloc _).alloc _
  go_wp2_with (go_at_call 12; refine (HFN2.out _ (hx.trans hxv) _ _ N1 N2).mono ?_; rintro e9 w9 ⟨CL2, pa2, pn2, pc2, qa2, qn2, qc2, rfl, hC2, hP2, hQ2, hx1⟩; refine hold ?_)
  refine held ?_
  replace hx1 := hxv.trans hx1
  clear hxv N1 N2 zl pl HFN2
  clear q0 q1
  clear z0 z1 z2 z3 z4
  replace hx := hx.trans hx1
  replace O1 := O1.ext hx1
  replace O2 := O2.ext hx1
  replace K := K.ext hx1
  replace H1 := H1.ext hx1
  replace H2 := H2.ext hx1
  replace G1 := G1.ext hx1
  replace hP1 := hP1.ext hx1
  replace hQ1 := hQ1.ext hx1
  clear hx1
  have HPC2 := Lib.hid hC2
  clear hC2
  have Gz := Bk.new w9 47 #[.int .i64 0, .int .i64 0, .int .u64 0, .int .i64 0, .int .i64 0, .int .i64 0, .int .u64 0, .int .i64 0, .int .i64 0, .slice none 0 0, .slice none 0 0, .slice none 0 0, .int .i64 0, .int .i64 0, .int .u64 0, .int .i64 0, .int .i64 0, .int .i64 0, .int .u64 0, .int .i64 0, .int .i64 0, .slice none 0 0]
  have hx1 : Ext w9 (w9.alloc (.cells #[.int .i64 0, .int .i64 0, .int .u64 0, .int .i64 0, .int .i64 0, .int .i64 0, .int .u64 0, .int .i64 0, .int .i64 0, .slice none 0 0, .slice none 0 0, .slice none 0 0, .int .i64 0, .int .i64 0, .int .u64 0, .int .i64 0, .int .i64 0, .int .i64 0, .int .u64 0, .int .i64 0, .int .i64 0, .slice none 0 0] 47)) := (Ext.refl _).alloc _
  go_wp2_with (refine storeBk rfl 47 _ _ rfl w9.heap.size CL2 Gz (by rw [HPC2.out.len]; rfl) rfl rfl (by rw [HPC2.out.len]; kernel_rfl) HPC2.out.one ?_; refine hold ?_)
  have G2 := Gz.allCells CL2 (by rw [HPC2.out.len]; rfl)
  replace hx1 := Ext.cells (b := w9.heap.size) (Nat.le_refl _) CL2 0 hx1
  clear Gz
  replace hx := hx.trans hx1
  replace O1 := O1.ext hx1
  replace O2 := O2.ext hx1
  replace K := K.ext hx1
  replace H1 := H1.ext hx1
  replace H2 := H2.ext hx1
  replace G1 := G1.ext hx1
  replace hP1 := hP1.ext hx1
  replace hP2 := hP2.ext hx1
  replace hQ1 := hQ1.ext hx1
  replace hQ2 := hQ2.ext hx1
  clear hx1
  generalize (w9.alloc (.cells #[.int .i64 0, .int .i64 0, .int .u64 0, .int .i64 0, .int .i64 0, .int .i64 0, .int .u64 0, .int .i64 0, .int .i64 0, .slice none 0 0, .slice none 0 0, .slice none 0 0, .int .i64 0, .int .i64 0, .int .u64 0, .int .i64 0, .int .i64 0, .int .i64 0, .int .u64 0, .int .i64 0, .int .i64 0, .slice none 0 0] 47)).setCells w9.heap.size 0 CL2 = V11 at *
  obtain ⟨b27, hb24⟩ : ∃ b, w9.heap.size = b := ⟨_, rfl⟩
  rw [hb24] at G2 ⊢
  clear hb24
  refine held ?_
  go_upto_region 15 with fail
  have HPB : Hid (∀ W, Calls Tryz.prog 13 #[.int .i64 (key : Nat)] W fun e w' => e = .returned (.int .i64 (pubO key)) ∧ w' = W) := Lib.hid (fun W => rpublic_any key (by have := HKY.out.lt; omega) W)
  have HCK1 := Lib.hid (fun (W : World) (hx : Ext w W) (ka : Option Addr) (kc : Nat) (hp : Sl .i64 W ka 1 kc [pubO key]) s1 s2 => check_solo (HSO1.out W hx) rfl hp HXY.out.1 HXY.out.2.1 (pa := pa1) (pn := pn1) (pc := pc1) (qa := qa1) (qn := qn1) (qc := qc1) s1 s2 (HTB.out.ext hx))
  have HCK2 := Lib.hid (fun (W : World) (hx : Ext w W) (ka : Option Addr) (kc : Nat) (hp : Sl .i64 W ka 1 kc [pubO key]) s1 s2 => check_solo (HSO2.out W hx) rfl hp HXY.out.2.2.1 HXY.out.2.2.2 (pa := pa2) (pn := pn2) (pc := pc2) (qa := qa2) (qn := qn2) (qc := qc2) s1 s2 (HTB.out.ext hx))
  have HFK : Hid (∀ (W : World) (hx : Ext w W) pa pn pc ps, Sl .u64 W pa pn pc ps → pn ≤ 21 → Calls Tryz.prog 18 #[.int .i64 (pubO key), hdV g1, hdV g2, .slice pa pn pc] W fun e w' => e = .returned (.tuple #[.bool (fkV g1.r g2.r n1 n2 ps), .int .i64 0]) ∧ Ext W w') := Lib.hid (by
    intro W hx pa pn pc ps hs hl
    rw [← HG1.out, ← HG2.out]
    exact forks_yes (pubO key) (pubO_ok HKY.out).1 (pubO_ok HKY.out).2 _ _ (HSO1.out W hx).ok (HSO2.out W hx).ok (sg_right 1 es1 n1 HKY.out HKO.out) (sg_right 1 es2 n2 HKY.out HKO.out) rfl n1 n2 rfl rfl H40.out.2.2 pa pn pc ps W hs hl (HTB.out.ext hx))
  have HFV : Hid (fkV g1.r g2.r n1 n2 (fkP es2 n1) = decide (rootT (vals (es2.take n1)) ≠ g1.r)) := Lib.hid (by
    have h := fk_solo (a := g1.r) (es := es2) (m := n1) HN1.out (by rw [HR2.out.hlen]; exact H40.out.2.2) (by rw [HR2.out.hlen]; have := H40.out.2.1; omega)
    rw [HR2.out.hlen] at h
    rw [← HG2.out]
    show fkV g1.r (rootT (vals (es2.take n2))) n1 n2 (fkP es2 n1) = _
    rw [(HSO2.out w (Ext.refl w)).all]
    exact h)
  rw [HG1.out, HPC1.out.is_.symm] at HCK1
  rw [HG2.out, HPC2.out.is_.symm] at HCK2
  have HPW : Hid ((Lit.int .i64 (pubO key)).wf = true) := Lib.hid (by unfold pubO; have := (show pw 2147483579 4 key < 2147483579 by rw [pw_def]; exact Nat.mod_lt _ (by decide)); simp [Lit.wf, IntKind.min, IntKind.max, IntKind.bits, IntKind.signed]; omega)
  generalize pubO key = pb at *
  unfold hdV at HFK
  go_wp2_with (go_at_call 13; refine (HPB.out _).mono ?_; rintro e9 w10 ⟨rfl, rfl⟩; refine hold ?_)
  refine held ?_
  clear HPB
  go_upto_region 18 with fail
  have S1 := litSl .i64 3 w10 w10.heap.size 1 [pb] #[.int .i64 pb] rfl rfl rfl (by unfold maxLen; simp) (by intro x hx; rw [List.mem_singleton.1 hx]; exact HPW.out)
  have hxa : Ext w10 (w10.alloc (.cells #[.int .i64 pb] 3)) := (Ext.refl _).alloc _
  have Ga := G1.ext hxa
  go_wp2_with (refine loadBk rfl 47 _ rfl b24 rfl CL1 Ga _ Tryz.underlying47 rfl (by rw [HPC1.out.len]; kernel_rfl) ?_; refine hold ?_)
  refine held ?_
  go_wp2_with (go_at_call 14; refine (HCK1.out _ (hx.trans hxa) _ _ S1 (hP1.ext hxa) (hQ1.ext hxa)).mono ?_; rintro e9 w11 ⟨rfl, hx1⟩; refine hold ?_)
  refine held ?_
  replace hx1 := hxa.trans hx1
  clear S1 hxa Ga HCK1 G1 hP1 hQ1
  replace hx := hx.trans hx1
  replace O1 := O1.ext hx1
  replace O2 := O2.ext hx1
  replace K := K.ext hx1
  replace H1 := H1.ext hx1
  replace H2 := H2.ext hx1
  replace G2 := G2.ext hx1
  replace hP2 := hP2.ext hx1
  replace hQ2 := hQ2.ext hx1
  clear hx1
  go_upto_region 19 with fail
  have S1 := litSl .i64 3 w11 w11.heap.size 1 [pb] #[.int .i64 pb] rfl rfl rfl (by unfold maxLen; simp) (by intro x hx; rw [List.mem_singleton.1 hx]; exact HPW.out)
  have hxa : Ext w11 (w11.alloc (.cells #[.int .i64 pb] 3)) := (Ext.refl _).alloc _
  have Ga := G2.ext hxa
  go_wp2_with (refine loadBk rfl 47 _ rfl b27 rfl CL2 Ga _ Tryz.underlying47 rfl (by rw [HPC2.out.len]; kernel_rfl) ?_; refine hold ?_)
  refine held ?_
  go_wp2_with (go_at_call 14; refine (HCK2.out _ (hx.trans hxa) _ _ S1 (hP2.ext hxa) (hQ2.ext hxa)).mono ?_; rintro e9 w12 ⟨rfl, hx1⟩; refine hold ?_)
  refine held ?_
  replace hx1 := hxa.trans hx1
  clear S1 hxa Ga HCK2 G2 hP2 hQ2
  replace hx := hx.trans hx1
  replace O1 := O1.ext hx1
  replace O2 := O2.ext hx1
  replace K := K.ext hx1
  replace H1 := H1.ext hx1
  replace H2 := H2.ext hx1
  clear hx1
  go_upto_region 20 with fail
  have HVL := Lib.hid (fun (m : Nat) (hm : m ≤ n2) (W : World) (hx : Ext w W) => rvalues_any 1 a2 n2 c2 es2 m W (HR2.out.ext hx) hm (by have := H40.out; omega))
  have q0 := O2.c 0 _ rfl
  have q1 := O2.c 1 _ rfl
  go_wp2_with (go_at_call 16; refine (HVL.out n1 H40.out.2.2 _ hx).mono ?_; rintro e9 w13 ⟨va, vc, rfl, ho, hx1⟩; refine hold ?_)
  have hsv := ho.sl (vals_u _)
  obtain ⟨vb, vo, rfl⟩ := hsv.bd0 HN1.out
  clear ho
  refine held ?_
  clear q0 q1
  replace hx := hx.trans hx1
  replace O1 := O1.ext hx1
  replace O2 := O2.ext hx1
  replace K := K.ext hx1
  replace H1 := H1.ext hx1
  replace H2 := H2.ext hx1
  clear hx1
  go_wp2_with (go_at_call 15; refine (tRoot_any _ _ _ _ _ _ HN1.out (by have := H40.out; omega) hsv (HTB.out.ext hx)).mono ?_; rintro e9 w14 ⟨rfl, hx1⟩; refine hold ?_)
  refine held ?_
  clear hsv
  replace hx := hx.trans hx1
  replace O1 := O1.ext hx1
  replace O2 := O2.ext hx1
  replace K := K.ext hx1
  replace H1 := H1.ext hx1
  replace H2 := H2.ext hx1
  clear hx1
  go_upto_region 21 with fail
  have q0 := O2.c 0 _ rfl
  have q1 := O2.c 1 _ rfl
  go_wp2_with (go_at_call 16; refine (HVL.out n2 (Nat.le_refl _) _ hx).mono ?_; rintro e9 w15 ⟨va, vc, rfl, ho, hx1⟩; refine hold ?_)
  have hsv := ho.sl (vals_u _)
  obtain ⟨vb2, vo2, rfl⟩ := hsv.bd0 HN2.out
  clear ho
  refine held ?_
  clear q0 q1
  replace hx := hx.trans hx1
  replace O1 := O1.ext hx1
  replace O2 := O2.ext hx1
  replace K := K.ext hx1
  replace H1 := H1.ext hx1
  replace H2 := H2.ext hx1
  clear hx1
  go_wp2_with (go_at_call 17; refine (textend_any _ _ _ _ _ n1 _ HN2.out (by have := H40.out; omega) HN1.out H40.out.2.2 hsv (HTB.out.ext hx)).mono ?_; rintro e9 w16 ⟨xa, xc, rfl, ho, hu, hx1⟩; refine hold ?_)
  have hsx := ho.sl hu
  rw [(HSO2.out w (Ext.refl w)).all] at hsx ⊢
  clear ho hu hsv
  have HXL : Hid ((extT (vals es2) n1).length ≤ 13) := Lib.hid (extT_len (by rw [vals_len, HR2.out.hlen]; have := H40.out; omega))
  refine held ?_
  replace hx := hx.trans hx1
  replace O1 := O1.ext hx1
  replace O2 := O2.ext hx1
  replace K := K.ext hx1
  replace H1 := H1.ext hx1
  replace H2 := H2.ext hx1
  clear hx1
  go_upto_region 24 with fail
  have HRW : Hid ((Lit.int .u64 (rootT (vals (es2.take n1)))).wf = true) := Lib.hid (by have := root_rng (vals (es2.take n1)); simp [Lit.wf, IntKind.min, IntKind.max, IntKind.bits, IntKind.signed]; omega)
  have HXW : Hid (U64s (extT (vals es2) n1)) := Lib.hid hsx.wf
  have HFA : Hid (n1 < n2 → fkV g1.r g2.r n1 n2 ([rootT (vals (es2.take n1))] ++ extT (vals es2) n1) = decide (rootT (vals (es2.take n1)) ≠ g1.r)) := Lib.hid (fun hlt => by
    have h := HFV.out
    unfold fkP at h
    rw [if_pos (by rw [HR2.out.hlen]; exact hlt)] at h
    exact h)
  have HFB : Hid (¬ n1 < n2 → fkV g1.r g2.r n1 n2 (extT (vals es2) n1) = decide (rootT (vals (es2.take n1)) ≠ g1.r)) := Lib.hid (fun hlt => by
    have h := HFV.out
    unfold fkP at h
    rw [if_neg (by rw [HR2.out.hlen]; exact hlt)] at h
    exact h)
  clear HFV HSO1 HSO2 HG1 HG2 HR1 HR2 HVL HPC1 HPC2 HPW
  generalize rootT (vals (es2.take n1)) = R at *
  generalize extT (vals es2) n1 = XT at *
  obtain ⟨xl, hxl⟩ : ∃ n, XT.length = n := ⟨_, rfl⟩
  rw [hxl] at hsx HXL ⊢
  clear hxl
  by_cases hmn : n1 < n2
  case pos =>
    have e9 : (n1 : Int) < (n2 : Int) := by omega
    go_upto_region 25 with fail
    have HF := HFA.out hmn
    clear e9 hmn HFA HFB
    have ho0 := OwI.lit .u64 25 (base := w16.heap.size) w16 [R] (Nat.le_refl _) (by unfold maxLen; simp) #[.int .u64 R] rfl
    have hE0 : Ext w16 (w16.alloc (.cells #[.int .u64 R] 25)) := (Ext.refl w16).alloc _
    have k1 := hsx.ext hE0
    simp only [List.length_cons, List.length_nil, Nat.zero_add, Nat.reduceAdd] at ho0
    have hxl := HXL.out
    go_wp2_with (at_builtin; refine appA el_u64 rfl _ _ rfl _ w16.heap.size _ _ _ _ rfl ho0 _ _ _ _ rfl k1 (by simp) (by unfold maxLen; omega) (by omega) ?_; intro a9 c9 w17 ho2 hB2; refine hold ?_)
    have hs2 := ho2.sl (fun x hx => by
      rcases List.mem_append.1 hx with h | h
      · rw [List.mem_singleton.1 h]; exact HRW.out
      · exact HXW.out x h)
    have hx1 : Ext w16 w17 := Below.trans hE0 hB2
    clear ho0 hE0 k1 ho2 hB2 hsx
    have hl2 : 1 + xl ≤ 21 := by omega
    generalize [R] ++ XT = PP at *
    obtain ⟨pl, hpl⟩ : ∃ n, 1 + xl = n := ⟨_, rfl⟩
    rw [hpl] at hs2 hl2 ⊢
    clear hpl hxl
    refine held ?_
    replace hx := hx.trans hx1
    replace O1 := O1.ext hx1
    replace O2 := O2.ext hx1
    replace K := K.ext hx1
    replace H1 := H1.ext hx1
    replace H2 := H2.ext hx1
    clear hx1
    go_upto_region 26 with fail
    have y0 := H1.c 0 _ rfl
    have y1 := H1.c 1 _ rfl
    have y2 := H1.c 2 _ rfl
    have y3 := H1.c 3 _ rfl
    have y4 := H1.c 4 _ rfl
    have z0 := H2.c 0 _ rfl
    have z1 := H2.c 1 _ rfl
    have z2 := H2.c 2 _ rfl
    have z3 := H2.c 3 _ rfl
    have z4 := H2.c 4 _ rfl
    go_wp2_with (go_at_call 18; refine (HFK.out _ hx _ _ _ _ hs2 hl2).mono ?_; rintro e9 w18 ⟨rfl, hx1⟩; refine hold ?_)
    clear y0 y1 y2 y3 y4 z0 z1 z2 z3 z4
    generalize fkV g1.r g2.r n1 n2 PP = FV at *
    refine held ?_
    replace hx := hx.trans hx1
    replace O1 := O1.ext hx1
    replace O2 := O2.ext hx1
    replace K := K.ext hx1
    replace H1 := H1.ext hx1
    replace H2 := H2.ext hx1
    clear hx1
    have y0 := H1.c 0 _ rfl
    have y1 := H1.c 1 _ rfl
    have y2 := H1.c 2 _ rfl
    have y3 := H1.c 3 _ rfl
    have y4 := H1.c 4 _ rfl
    go_wp2_with fail
    go_ret
    refine ⟨ret_bool ?_, hx⟩
    by_cases e : R = g1.r <;> simp [e]
  case neg =>
    have e9 : ¬ ((n1 : Int) < (n2 : Int)) := by omega
    have HF := HFB.out hmn
    clear HFA HFB
    have hs2 := hsx
    have hl2 : xl ≤ 21 := by have := HXL.out; omega
    clear hsx hmn
    generalize XT = PP at *
    go_upto_region 26 with fail
    clear e9
    have y0 := H1.c 0 _ rfl
    have y1 := H1.c 1 _ rfl
    have y2 := H1.c 2 _ rfl
    have y3 := H1.c 3 _ rfl
    have y4 := H1.c 4 _ rfl
    have z0 := H2.c 0 _ rfl
    have z1 := H2.c 1 _ rfl
    have z2 := H2.c 2 _ rfl
    have z3 := H2.c 3 _ rfl
    have z4 := H2.c 4 _ rfl
    go_wp2_with (go_at_call 18; refine (HFK.out _ hx _ _ _ _ hs2 hl2).mono ?_; rintro e9 w18 ⟨rfl, hx1⟩; refine hold ?_)
    clear y0 y1 y2 y3 y4 z0 z1 z2 z3 z4
    generalize fkV g1.r g2.r n1 n2 PP = FV at *
    refine held ?_
    replace hx := hx.trans hx1
    replace O1 := O1.ext hx1
    replace O2 := O2.ext hx1
    replace K := K.ext hx1
    replace H1 := H1.ext hx1
    replace H2 := H2.ext hx1
    clear hx1
    have y0 := H1.c 0 _ rfl
    have y1 := H1.c 1 _ rfl
    have y2 := H1.c 2 _ rfl
    have y3 := H1.c 3 _ rfl
    have y4 := H1.c 4 _ rfl
    go_wp2_with fail
    go_ret
    refine ⟨ret_bool ?_, hx⟩
    by_cases e : R = g1.r <;> simp [e]
end Go.Proofs.YtacicanjmleikaaGreatDoor
