/-
  Package versions, walked: order, the closure of upTo. Written by wip/gen_qd.py.
-/
import Derived.Test.YtacicanjmleikaaQC
namespace Go.Proofs.Ytacicanjmleikaa
open Go.RowKit Go.Sort Go.Shelf
set_option linter.unusedSimpArgs false
set_option linter.unusedVariables false
set_option maxRecDepth 100000

theorem lenlit13 {vs : List Value} (h : vs.length = 13) : ∃ x0 x1 x2 x3 x4 x5 x6 x7 x8 x9 x10 x11 x12 : Value, vs = [x0, x1, x2, x3, x4, x5, x6, x7, x8, x9, x10, x11, x12] := by
  obtain ⟨x0, v0, rfl, h0⟩ := len_cons h
  obtain ⟨x1, v1, rfl, h1⟩ := len_cons h0
  obtain ⟨x2, v2, rfl, h2⟩ := len_cons h1
  obtain ⟨x3, v3, rfl, h3⟩ := len_cons h2
  obtain ⟨x4, v4, rfl, h4⟩ := len_cons h3
  obtain ⟨x5, v5, rfl, h5⟩ := len_cons h4
  obtain ⟨x6, v6, rfl, h6⟩ := len_cons h5
  obtain ⟨x7, v7, rfl, h7⟩ := len_cons h6
  obtain ⟨x8, v8, rfl, h8⟩ := len_cons h7
  obtain ⟨x9, v9, rfl, h9⟩ := len_cons h8
  obtain ⟨x10, v10, rfl, h10⟩ := len_cons h9
  obtain ⟨x11, v11, rfl, h11⟩ := len_cons h10
  obtain ⟨x12, v12, rfl, h12⟩ := len_cons h11
  obtain rfl := len_nil h12
  exact ⟨x0, x1, x2, x3, x4, x5, x6, x7, x8, x9, x10, x11, x12, rfl⟩

set_option maxHeartbeats 1000000 in
theorem vorder_any (a b : Vn) (w : World) : Calls Try.prog 49 #[valV a, valV b] w fun e w' => e = .returned (.int .i64 (ordF a b)) ∧ Ext w w' := by
  obtain ⟨k, t, v, g⟩ := a
  obtain ⟨k', t', v', g'⟩ := b
  unfold valV
  have hE : Ext w ((w.alloc (.cells #[.int .i64 k, .int .i64 t, .int .i64 v, .bool g] 47)).alloc (.cells #[.int .i64 k', .int .i64 t', .int .i64 v', .bool g'] 47)) := ((Ext.refl w).alloc _).alloc _
  have hA := World.alloc_heap_new w (.cells #[.int .i64 k, .int .i64 t, .int .i64 v, .bool g] 47)
  have hB := World.alloc_heap_new (w.alloc (.cells #[.int .i64 k, .int .i64 t, .int .i64 v, .bool g] 47)) (.cells #[.int .i64 k', .int .i64 t', .int .i64 v', .bool g'] 47)
  replace hA := (((Ext.refl _).alloc (.cells #[.int .i64 k', .int .i64 t', .int .i64 v', .bool g'] 47)).block _ (lt_of_block hA)).trans hA
  have HO : Hid (ordF ⟨k, t, v, g⟩ ⟨k', t', v', g'⟩ = if cmpF k k' = 0 then cmpF t t' else cmpF k k') := Lib.hid rfl
  have HX := Lib.hid (fun w => compare_any k k' w)
  have HY := Lib.hid (fun w => compare_any t t' w)
  go_enter Try.func49, Try.ntmps49
  go_upto_region 1 with fail
  simp only [World.size_alloc] at hB
  generalize (w.alloc (.cells #[.int .i64 k, .int .i64 t, .int .i64 v, .bool g] 47)).alloc (.cells #[.int .i64 k', .int .i64 t', .int .i64 v', .bool g'] 47) = V at *
  have C0 := Lib.hid (cell_of_block hA 0 _ rfl)
  have C1 := Lib.hid (cell_of_block hA 1 _ rfl)
  have C2 := Lib.hid (cell_of_block hB 0 _ rfl)
  have C3 := Lib.hid (cell_of_block hB 1 _ rfl)
  have l1 := lt_of_block hA
  have l2 := lt_of_block hB
  clear hA hB
  generalize cmpF k k' = X at *
  generalize cmpF t t' = Y at *
  have hor := fun b w h0 h1 => or_any X Y b w h0 h1
  generalize (if X = 0 then Y else X) = Z at *
  have HOR := Lib.hid hor
  clear hor
  refine region_rely (S := Ext) (fun W' => Ext V W') [some 5, some 6, some 7, some 8, some 9, some 10, some 11, some 12, some 13, some 14, some 15, some 16, some 4] [[], [0], [], [2], [1, 3], [], [5], [], [7], [6, 8], [4, 9], [10], [11]] [[], [], [], [], [], [], [], [], [], [], [], [], []] [.one ((.pointer (some ⟨w.heap.size, 0, none⟩))), .one ((.int .i64 k)), .one ((.pointer (some ⟨(w.heap.size + 1), 0, none⟩))), .one ((.int .i64 k')), .one ((.int .i64 X)), .one ((.pointer (some ⟨w.heap.size, 1, none⟩))), .one ((.int .i64 t)), .one ((.pointer (some ⟨(w.heap.size + 1), 1, none⟩))), .one ((.int .i64 t')), .one ((.int .i64 Y)), .blk #[.int .i64 X, .int .i64 Y] 3 (fun b => .slice (some ⟨b, 0, none⟩) 2 2), .one ((.int .i64 Z)), .one ((.int .i64 Z))] (by kernel_rfl) (by kernel_rfl) (Ext.refl V).drew ?_ ?_
  · refine stepsR_cons ?_ ?_
    · intro vs W' hl hI hd ho
      refine hold ?_
      obtain ⟨x0, x1, x2, x3, x4, x5, x6, x7, x8, x9, x10, x11, x12, rfl⟩ := lenlit13 hl; clear hl
      refine held ?_
      simp only [putAll, Act.put, List.setIfInBounds_toArray, List.set_cons_succ, List.set_cons_zero]
      go_wp2_with fail
      exact rely_done _ rfl rfl (Ext.refl _) hI
    refine stepsR_cons ?_ ?_
    · intro vs W' hl hI hd ho
      refine hold ?_
      obtain ⟨x0, x1, x2, x3, x4, x5, x6, x7, x8, x9, x10, x11, x12, rfl⟩ := lenlit13 hl; clear hl
      simp only [factsR, atR, List.getElem?_cons_succ, List.getElem?_cons_zero, Rel.one, Rel.blk] at hd
      obtain ⟨rfl, -⟩ := hd
      refine held ?_
      simp only [putAll, Act.put, List.setIfInBounds_toArray, List.set_cons_succ, List.set_cons_zero]
      have c := hI.cell C0.out
      go_wp2_with fail
      exact rely_done _ rfl rfl (Ext.refl _) hI
    refine stepsR_cons ?_ ?_
    · intro vs W' hl hI hd ho
      refine hold ?_
      obtain ⟨x0, x1, x2, x3, x4, x5, x6, x7, x8, x9, x10, x11, x12, rfl⟩ := lenlit13 hl; clear hl
      refine held ?_
      simp only [putAll, Act.put, List.setIfInBounds_toArray, List.set_cons_succ, List.set_cons_zero]
      go_wp2_with fail
      exact rely_done _ rfl rfl (Ext.refl _) hI
    refine stepsR_cons ?_ ?_
    · intro vs W' hl hI hd ho
      refine hold ?_
      obtain ⟨x0, x1, x2, x3, x4, x5, x6, x7, x8, x9, x10, x11, x12, rfl⟩ := lenlit13 hl; clear hl
      simp only [factsR, atR, List.getElem?_cons_succ, List.getElem?_cons_zero, Rel.one, Rel.blk] at hd
      obtain ⟨rfl, -⟩ := hd
      refine held ?_
      simp only [putAll, Act.put, List.setIfInBounds_toArray, List.set_cons_succ, List.set_cons_zero]
      have c := hI.cell C2.out
      go_wp2_with fail
      exact rely_done _ rfl rfl (Ext.refl _) hI
    refine stepsR_cons ?_ ?_
    · intro vs W' hl hI hd ho
      refine hold ?_
      obtain ⟨x0, x1, x2, x3, x4, x5, x6, x7, x8, x9, x10, x11, x12, rfl⟩ := lenlit13 hl; clear hl
      simp only [factsR, atR, List.getElem?_cons_succ, List.getElem?_cons_zero, Rel.one, Rel.blk] at hd
      obtain ⟨rfl, rfl, -⟩ := hd
      refine held ?_
      simp only [putAll, Act.put, List.setIfInBounds_toArray, List.set_cons_succ, List.set_cons_zero]
      go_wp2_with fail
      refine (HX.out _).mono ?_
      rintro e w' ⟨rfl, hw⟩
      rw [← hw]
      clear hw w'
      go_wp2_with fail
      exact rely_done _ rfl rfl (Ext.refl _) hI
    refine stepsR_cons ?_ ?_
    · intro vs W' hl hI hd ho
      refine hold ?_
      obtain ⟨x0, x1, x2, x3, x4, x5, x6, x7, x8, x9, x10, x11, x12, rfl⟩ := lenlit13 hl; clear hl
      refine held ?_
      simp only [putAll, Act.put, List.setIfInBounds_toArray, List.set_cons_succ, List.set_cons_zero]
      go_wp2_with fail
      exact rely_done _ rfl rfl (Ext.refl _) hI
    refine stepsR_cons ?_ ?_
    · intro vs W' hl hI hd ho
      refine hold ?_
      obtain ⟨x0, x1, x2, x3, x4, x5, x6, x7, x8, x9, x10, x11, x12, rfl⟩ := lenlit13 hl; clear hl
      simp only [factsR, atR, List.getElem?_cons_succ, List.getElem?_cons_zero, Rel.one, Rel.blk] at hd
      obtain ⟨rfl, -⟩ := hd
      refine held ?_
      simp only [putAll, Act.put, List.setIfInBounds_toArray, List.set_cons_succ, List.set_cons_zero]
      have c := hI.cell C1.out
      go_wp2_with fail
      exact rely_done _ rfl rfl (Ext.refl _) hI
    refine stepsR_cons ?_ ?_
    · intro vs W' hl hI hd ho
      refine hold ?_
      obtain ⟨x0, x1, x2, x3, x4, x5, x6, x7, x8, x9, x10, x11, x12, rfl⟩ := lenlit13 hl; clear hl
      refine held ?_
      simp only [putAll, Act.put, List.setIfInBounds_toArray, List.set_cons_succ, List.set_cons_zero]
      go_wp2_with fail
      exact rely_done _ rfl rfl (Ext.refl _) hI
    refine stepsR_cons ?_ ?_
    · intro vs W' hl hI hd ho
      refine hold ?_
      obtain ⟨x0, x1, x2, x3, x4, x5, x6, x7, x8, x9, x10, x11, x12, rfl⟩ := lenlit13 hl; clear hl
      simp only [factsR, atR, List.getElem?_cons_succ, List.getElem?_cons_zero, Rel.one, Rel.blk] at hd
      obtain ⟨rfl, -⟩ := hd
      refine held ?_
      simp only [putAll, Act.put, List.setIfInBounds_toArray, List.set_cons_succ, List.set_cons_zero]
      have c := hI.cell C3.out
      go_wp2_with fail
      exact rely_done _ rfl rfl (Ext.refl _) hI
    refine stepsR_cons ?_ ?_
    · intro vs W' hl hI hd ho
      refine hold ?_
      obtain ⟨x0, x1, x2, x3, x4, x5, x6, x7, x8, x9, x10, x11, x12, rfl⟩ := lenlit13 hl; clear hl
      simp only [factsR, atR, List.getElem?_cons_succ, List.getElem?_cons_zero, Rel.one, Rel.blk] at hd
      obtain ⟨rfl, rfl, -⟩ := hd
      refine held ?_
      simp only [putAll, Act.put, List.setIfInBounds_toArray, List.set_cons_succ, List.set_cons_zero]
      go_wp2_with fail
      refine (HY.out _).mono ?_
      rintro e w' ⟨rfl, hw⟩
      rw [← hw]
      clear hw w'
      go_wp2_with fail
      exact rely_done _ rfl rfl (Ext.refl _) hI
    refine stepsR_cons ?_ ?_
    · intro vs W' hl hI hd ho
      refine hold ?_
      obtain ⟨x0, x1, x2, x3, x4, x5, x6, x7, x8, x9, x10, x11, x12, rfl⟩ := lenlit13 hl; clear hl
      simp only [factsR, atR, List.getElem?_cons_succ, List.getElem?_cons_zero, Rel.one, Rel.blk] at hd
      obtain ⟨rfl, rfl, -⟩ := hd
      refine held ?_
      simp only [putAll, Act.put, List.setIfInBounds_toArray, List.set_cons_succ, List.set_cons_zero]
      go_wp2_with fail
      exact rely_done _ rfl ⟨_, rfl, World.alloc_heap_new _ _⟩ ((Ext.refl _).alloc _) (hI.alloc _)
    refine stepsR_cons ?_ ?_
    · intro vs W' hl hI hd ho
      refine hold ?_
      obtain ⟨x0, x1, x2, x3, x4, x5, x6, x7, x8, x9, x10, x11, x12, rfl⟩ := lenlit13 hl; clear hl
      simp only [factsR, atR, List.getElem?_cons_succ, List.getElem?_cons_zero, Rel.one, Rel.blk] at hd
      obtain ⟨⟨b9, rfl, hb9⟩, -⟩ := hd
      refine held ?_
      simp only [putAll, Act.put, List.setIfInBounds_toArray, List.set_cons_succ, List.set_cons_zero]
      have h0 := cell_of_block hb9 0 _ rfl
      have h1 := cell_of_block hb9 1 _ rfl
      go_wp2_with fail
      refine (HOR.out b9 _ h0 h1).mono ?_
      rintro e w' ⟨rfl, hw⟩
      rw [← hw]
      clear hw w'
      go_wp2_with fail
      exact rely_done _ rfl rfl (Ext.refl _) hI
    refine stepsR_cons ?_ ?_
    · intro vs W' hl hI hd ho
      refine hold ?_
      obtain ⟨x0, x1, x2, x3, x4, x5, x6, x7, x8, x9, x10, x11, x12, rfl⟩ := lenlit13 hl; clear hl
      simp only [factsR, atR, List.getElem?_cons_succ, List.getElem?_cons_zero, Rel.one, Rel.blk] at hd
      obtain ⟨rfl, -⟩ := hd
      refine held ?_
      simp only [putAll, Act.put, List.setIfInBounds_toArray, List.set_cons_succ, List.set_cons_zero]
      go_wp2_with fail
      exact rely_done _ rfl rfl (Ext.refl _) hI
    exact trivial
  · intro vs W' hl hI hd
    obtain ⟨x0, x1, x2, x3, x4, x5, x6, x7, x8, x9, x10, x11, x12, rfl⟩ := lenlit13 hl; clear hl
    simp only [List.length_cons, List.length_nil, List.range, List.range.loop, Nat.zero_add, Nat.reduceAdd, factsR, atR, List.getElem?_cons_succ, List.getElem?_cons_zero, Rel.one, Rel.blk] at hd
    obtain ⟨rfl, rfl, rfl, rfl, rfl, rfl, rfl, rfl, rfl, rfl, ⟨b9, rfl, hb9⟩, rfl, rfl, -⟩ := hd
    simp only [putAll, Act.put, List.setIfInBounds_toArray, List.set_cons_succ, List.set_cons_zero]
    go_wp2_with fail
    go_ret
    exact ⟨by rw [HO.out]; rfl, hE.trans hI⟩

theorem vup1_any (a b : Vn) (w : World) : Calls Try.prog 54 #[valV a, valV b] w fun e w' => e = .returned (.int .i64 (ordF a b)) ∧ Ext w w' := by
  have HV := Lib.hid (fun W => vorder_any a b W)
  obtain ⟨k, t, v, g⟩ := a
  obtain ⟨k', t', v', g'⟩ := b
  unfold valV at *
  have hE : Ext w ((w.alloc (.cells #[.int .i64 k, .int .i64 t, .int .i64 v, .bool g] 47)).alloc (.cells #[.int .i64 k', .int .i64 t', .int .i64 v', .bool g'] 47)) := ((Ext.refl w).alloc _).alloc _
  generalize ordF ⟨k, t, v, g⟩ ⟨k', t', v', g'⟩ = O at *
  go_enter Try.func54, Try.ntmps54
  go_wp2_with fail
  refine (HV.out _).mono ?_
  rintro e w1 ⟨rfl, hx⟩
  go_wp2_with fail
  go_ret
  exact ⟨rfl, hE.trans hx⟩
end Go.Proofs.Ytacicanjmleikaa
