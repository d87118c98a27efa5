/-
  The head of the laws of chains, walked. Written by wip/gen_c22.py.
-/
import Derived.Test.YtfohekfhcolnfaaDoorCE
namespace Go.Proofs.YtfohekfhcolnfaaDoor
open Go.RowKit Go.Sort Go.Shelf
set_option linter.unusedSimpArgs false
set_option linter.unusedVariables false
set_option maxRecDepth 100000

theorem lenlit15 {vs : List Value} (h : vs.length = 15) : ∃ x0 x1 x2 x3 x4 x5 x6 x7 x8 x9 x10 x11 x12 x13 x14 : Value, vs = [x0, x1, x2, x3, x4, x5, x6, x7, x8, x9, x10, x11, x12, x13, x14] := by
  obtain ⟨x0, v0, rfl, h0⟩ := len_cons h
  obtain ⟨x1, v1, rfl, h1⟩ := len_cons h0
  obtain ⟨x2, v2, rfl, h2⟩ := len_cons h1
  obtain ⟨x3, v3, rfl, h3⟩ := len_cons h2
  obtain ⟨x4, v4, rfl, h4⟩ := len_cons h3
  obtain ⟨x5, v5, rfl, h5⟩ := len_cons h4
  obtain ⟨x6, v6, rfl, h6⟩ := len_cons h5
  obtain ⟨x7, v7, rfl, h7⟩ := len_cons h6
  obtain ⟨x8, v8, rfl, h8⟩ := len_cons h7
  obtain ⟨x9, v9, rfl, h9⟩ := len_cons h8
  obtain ⟨x10, v10, rfl, h10⟩ := len_cons h9
  obtain ⟨x11, v11, rfl, h11⟩ := len_cons h10
  obtain ⟨x12, v12, rfl, h12⟩ := len_cons h11
  obtain ⟨x13, v13, rfl, h13⟩ := len_cons h12
  obtain ⟨x14, v14, rfl, h14⟩ := len_cons h13
  obtain rfl := len_nil h14
  exact ⟨x0, x1, x2, x3, x4, x5, x6, x7, x8, x9, x10, x11, x12, x13, x14, rfl⟩


theorem headF_one : headF [[]] = exH := by unfold exH; simp only [headF, List.foldl_cons, List.foldl_nil]
theorem nex_eq (a b c d : Int) : fnv (be8 a.toNat ++ txt [b, c, d]) = nonF a b c d := rfl

set_option maxHeartbeats 4000000 in
theorem chead_any (w : World) (ht : TB w) : Calls Tryd.prog 9 #[] w fun e w' => e = .returned (.bool true) ∧ Ext w w' := by
  have HT := Lib.hid ht
  clear ht
  have l1 := litSl .i64 3 w w.heap.size 1 [0] #[.int .i64 0] rfl rfl rfl (by simp [maxLen]) (by decide)
  have hE1 : Ext w (w.alloc (.cells #[.int .i64 0] 3)) := (Ext.refl w).alloc _
  go_enter Tryd.func9, Tryd.ntmps9
  go_wp2_with fail
  refine (dnext_any 0 (by omega) _ 1 1 [0] _ l1 (by omega) (TB.ext HT.out hE1)).mono ?_
  rintro e w1 ⟨rfl, hE2⟩
  rw [exH_eq]
  replace hE2 := hE1.trans hE2
  clear hE1 l1
  have hHr := beh_rng 0 []
  rw [show beh 0 [] = exH from rfl] at hHr
  have l2 := litSl .i64 3 w1 w1.heap.size 3 [3, 2, 2] #[.int .i64 3, .int .i64 2, .int .i64 2] rfl rfl rfl (by simp [maxLen]) (by decide)
  have hE3 := hE2.alloc (.cells #[.int .i64 3, .int .i64 2, .int .i64 2] 3)
  go_wp2_with fail
  refine (dnext_any exH hHr _ 3 3 [3, 2, 2] _ l2 (by omega) (TB.ext HT.out hE3)).mono ?_
  rintro e w2 ⟨rfl, hE4⟩
  rw [nex_eq]
  replace hE4 := hE3.trans hE4
  clear hE2 hE3 l2
  have hXn := nonF_rng exH 3 2 2
  generalize hN : nonF exH 3 2 2 = N at hXn ⊢
  have HN := Lib.hid hN
  clear hN
  have hX0 : RpB (w2.alloc (.cells #[.int .i64 2, .int .i64 3, .int .i64 2, .int .u64 N, .int .i64 5, .int .i64 9, .int .i64 0, .int .i64 0, .int .i64 0, .int .i64 0] 39)) w2.heap.size (exXn N) := RpB.new w2 (exXn N)
  have hbx : w.heap.size ≤ w2.heap.size := hE4.sz
  have hE5 := hE4.alloc (.cells #[.int .i64 2, .int .i64 3, .int .i64 2, .int .u64 N, .int .i64 5, .int .i64 9, .int .i64 0, .int .i64 0, .int .i64 0, .int .i64 0] 39)
  go_upto_region 2 with fail
  generalize w2.alloc (.cells #[.int .i64 2, .int .i64 3, .int .i64 2, .int .u64 N, .int .i64 5, .int .i64 9, .int .i64 0, .int .i64 0, .int .i64 0, .int .i64 0] 39) = V at *
  generalize w2.heap.size = bx at *
  obtain ⟨d0, d1, d2, d3, d4, d5, d6, d7, d8, d9⟩ := hX0.cells
  simp only [exXn] at d0 d1 d2 d3 d4 d5 d6 d7 d8 d9
  have hlx := lt_of_block hX0
  have s1 : (V.alloc (.cells #[.int .i64 2, .int .i64 3, .int .i64 2, .int .u64 N, .int .i64 5, .int .i64 9, .int .i64 0, .int .i64 0, .int .i64 0, .int .i64 0] 39)).heap.size = V.heap.size + 1 := by simp
  have s2 : ((V.alloc (.cells #[.int .i64 2, .int .i64 3, .int .i64 2, .int .u64 N, .int .i64 5, .int .i64 9, .int .i64 0, .int .i64 0, .int .i64 0, .int .i64 0] 39)).alloc (.cells #[.slice none 0 0, .slice (some ⟨V.heap.size, 0, none⟩) 1 1] 27)).heap.size = V.heap.size + 2 := by simp
  have x1 : Ext V (V.alloc (.cells #[.int .i64 2, .int .i64 3, .int .i64 2, .int .u64 N, .int .i64 5, .int .i64 9, .int .i64 0, .int .i64 0, .int .i64 0, .int .i64 0] 39)) := (Ext.refl V).alloc _
  have x2 : Ext (V.alloc (.cells #[.int .i64 2, .int .i64 3, .int .i64 2, .int .u64 N, .int .i64 5, .int .i64 9, .int .i64 0, .int .i64 0, .int .i64 0, .int .i64 0] 39)) ((V.alloc (.cells #[.int .i64 2, .int .i64 3, .int .i64 2, .int .u64 N, .int .i64 5, .int .i64 9, .int .i64 0, .int .i64 0, .int .i64 0, .int .i64 0] 39)).alloc (.cells #[.slice none 0 0, .slice (some ⟨V.heap.size, 0, none⟩) 1 1] 27)) := (Ext.refl _).alloc _
  have x3 : Ext ((V.alloc (.cells #[.int .i64 2, .int .i64 3, .int .i64 2, .int .u64 N, .int .i64 5, .int .i64 9, .int .i64 0, .int .i64 0, .int .i64 0, .int .i64 0] 39)).alloc (.cells #[.slice none 0 0, .slice (some ⟨V.heap.size, 0, none⟩) 1 1] 27)) (((V.alloc (.cells #[.int .i64 2, .int .i64 3, .int .i64 2, .int .u64 N, .int .i64 5, .int .i64 9, .int .i64 0, .int .i64 0, .int .i64 0, .int .i64 0] 39)).alloc (.cells #[.slice none 0 0, .slice (some ⟨V.heap.size, 0, none⟩) 1 1] 27)).alloc (.cells #[.int .i64 3, .slice (some ⟨V.heap.size + 1, 0, none⟩) 2 2] 24)) := (Ext.refl _).alloc _
  have hS := ((RpB.new V (exXn N)).ext x2).ext x3
  have hRd0 : ((V.alloc (.cells #[.int .i64 2, .int .i64 3, .int .i64 2, .int .u64 N, .int .i64 5, .int .i64 9, .int .i64 0, .int .i64 0, .int .i64 0, .int .i64 0] 39)).alloc (.cells #[.slice none 0 0, .slice (some ⟨V.heap.size, 0, none⟩) 1 1] 27)).heap[V.heap.size + 1]? = some (.cells #[.slice none 0 0, .slice (some ⟨V.heap.size, 0, none⟩) 1 1] 27 (0, 0)) := by
    have := World.alloc_heap_new (V.alloc (.cells #[.int .i64 2, .int .i64 3, .int .i64 2, .int .u64 N, .int .i64 5, .int .i64 9, .int .i64 0, .int .i64 0, .int .i64 0, .int .i64 0] 39)) (.cells #[.slice none 0 0, .slice (some ⟨V.heap.size, 0, none⟩) 1 1] 27)
    rwa [s1] at this
  have hRd := (x3.block (V.heap.size + 1) (Nat.lt_of_lt_of_eq (Nat.lt_succ_self _) s2.symm)).trans hRd0
  have hC := ChB.new ((V.alloc (.cells #[.int .i64 2, .int .i64 3, .int .i64 2, .int .u64 N, .int .i64 5, .int .i64 9, .int .i64 0, .int .i64 0, .int .i64 0, .int .i64 0] 39)).alloc (.cells #[.slice none 0 0, .slice (some ⟨V.heap.size, 0, none⟩) 1 1] 27)) 3 (some ⟨V.heap.size + 1, 0, none⟩) 2 2
  rw [s2] at hC
  have hX3 := ((hX0.ext x1).ext x2).ext x3
  have hE6 := ((hE5.trans x1).trans x2).trans x3
  have hz3 : V.heap.size + 2 < (((V.alloc (.cells #[.int .i64 2, .int .i64 3, .int .i64 2, .int .u64 N, .int .i64 5, .int .i64 9, .int .i64 0, .int .i64 0, .int .i64 0, .int .i64 0] 39)).alloc (.cells #[.slice none 0 0, .slice (some ⟨V.heap.size, 0, none⟩) 1 1] 27)).alloc (.cells #[.int .i64 3, .slice (some ⟨V.heap.size + 1, 0, none⟩) 2 2] 24)).heap.size := by simp
  clear s1 s2 x1 x2 x3 hRd0
  go_upto_region 3 with fail
  generalize ((V.alloc (.cells #[.int .i64 2, .int .i64 3, .int .i64 2, .int .u64 N, .int .i64 5, .int .i64 9, .int .i64 0, .int .i64 0, .int .i64 0, .int .i64 0] 39)).alloc (.cells #[.slice none 0 0, .slice (some ⟨V.heap.size, 0, none⟩) 1 1] 27)).alloc (.cells #[.int .i64 3, .slice (some ⟨V.heap.size + 1, 0, none⟩) 2 2] 24) = V3 at *
  have hok := exX_okn N hXn
  have hRS : Rws V3 (some ⟨V.heap.size + 1, 0, none⟩) 2 2 [[], [exXn N]] := Rws.lit2 hRd (Rw.nil V3) (Rw.lit1 hS hok)
  have hSh : Short [[], [exXn N]] := ex_short (by simp)
  have hMr := nonF_rng (headF [[], [exXn N]]) 3 3 1
  have hHd := headF_rng [[], [exXn N]]
  generalize hM : nonF (headF [[], [exXn N]]) 3 3 1 = M at hMr
  have hXX : exX = exXn N := by unfold exX; rw [HN.out]
  have hYY : exY = exYn M := by unfold exY; rw [hXX, hM]
  have q1 := ex_appH
  have q2 := ex_appL
  have q3 := ex_app
  have q4 := ex_bef
  have q5 := ex_befN
  have q6 := ex_appX
  have q7 := ex_valid
  have q8 := ex_valid'
  have hXX' : exX' = exXn' N := by unfold exX'; rw [HN.out]
  rw [hXX, hYY] at q1 q2 q3 q4 q5
  rw [hXX] at q6 q7
  rw [hXX'] at q8
  have HM := Lib.hid hM
  have Q1 := Lib.hid q1
  have Q2 := Lib.hid q2
  have Q3 := Lib.hid q3
  have Q4 := Lib.hid q4
  have Q5 := Lib.hid q5
  have Q6 := Lib.hid q6
  have Q7 := Lib.hid q7
  have Q8 := Lib.hid q8
  clear hM hXX hYY hXX' q1 q2 q3 q4 q5 q6 q7 q8 d0 d1 d2 d3 d4 d5 d6 d7 d8 d9 hRd hS hX0 hE4 hE5
  have c0 := hC.c0
  have c1 := hC.c1
  refine region_relyL (S := Ext) (fun W' => Ext V3 W') [some 25, some 26, some 27, some 28, some 29, some 30, some 31, some 32, some 33, some 24, some 34, some 35, some 3, none, some 4] [[], [], [1], [1, 2], [1, 2, 3], [1, 2, 3, 4], [1, 2, 3, 4, 5], [1, 2, 3, 4, 5, 6], [0, 1, 2, 3, 4, 5, 6, 7], [0, 1, 2, 3, 4, 5, 6, 7, 8], [0, 1, 2, 3, 4, 5, 6, 7, 8, 9], [0, 1, 2, 3, 4, 5, 6, 7, 8, 9], [], [0, 1, 2, 3, 4, 5, 6, 7, 8, 9, 10, 12], [0, 1, 2, 3, 4, 5, 6, 7, 8, 9, 10, 11, 12, 13]] [[], [], [1], [2], [3], [4], [5], [6], [0, 7], [8], [8, 9], [9], [], [10, 12], [11]] [none, none, none, none, none, none, none, none, none, some 8, none, none, none, some 12, none] [[], [], [], [], [], [], [], [], [], [], [], [], [], [6, 7, 8, 10, 12, 13], []] [13, 14] [.one (.agg #[.int .i64 3, .slice (some ⟨V.heap.size + 1, 0, none⟩) 2 2]), .one (.pointer (some ⟨V.heap.size + 2, 1, none⟩)), .one (.slice (some ⟨V.heap.size + 1, 0, none⟩) 2 2), .one (.int .u64 (headF [[], [exXn N]])), .one (.int .u64 M), .one (.agg #[.int .i64 1, .int .i64 3, .int .i64 3, .int .u64 M, .int .i64 0, .int .i64 0, .int .i64 0, .int .i64 0, .int .i64 0, .int .i64 0]), .blk #[.int .i64 1, .int .i64 3, .int .i64 3, .int .u64 M, .int .i64 0, .int .i64 0, .int .i64 0, .int .i64 0, .int .i64 0, .int .i64 0] 39 (fun b => .slice (some ⟨b, 0, none⟩) 1 1), .blk #[.int .i64 1, .int .i64 3, .int .i64 3, .int .u64 M, .int .i64 0, .int .i64 0, .int .i64 0, .int .i64 0, .int .i64 0, .int .i64 0] 39 (fun b => .agg #[.slice (some ⟨b, 0, none⟩) 1 1]), RApp 3 [[], [exXn N], [exYn M]] 0, RSame 8 0, RChn 3 [[], [exXn N], [exYn M]], .one (.int .i64 0), RVar V3.heap.size, RSto 12 V3.heap.size 3 [[], [exXn N], [exYn M]], .one (.int .i64 0)] (by kernel_rfl) (by kernel_rfl) rfl (by kernel_rfl) (Ext.refl V3).drew ?_ ?_
  · refine stepsL_cons ?_ ?_
    · intro vs W' hl hI hd
      refine hold ?_
      obtain ⟨x0, x1, x2, x3, x4, x5, x6, x7, x8, x9, x10, x11, x12, x13, x14, rfl⟩ := lenlit15 hl; clear hl
      refine held ?_
      simp only [putAll, Act.put, List.setIfInBounds_toArray, List.set_cons_succ, List.set_cons_zero]
      have q0 := hI.cell c0
      have q1 := hI.cell c1
      go_wp2_with fail
      exact relyL_done _ rfl rfl (Ext.refl _) hI
    refine stepsL_cons ?_ ?_
    · intro vs W' hl hI hd
      refine hold ?_
      obtain ⟨x0, x1, x2, x3, x4, x5, x6, x7, x8, x9, x10, x11, x12, x13, x14, rfl⟩ := lenlit15 hl; clear hl
      refine held ?_
      simp only [putAll, Act.put, List.setIfInBounds_toArray, List.set_cons_succ, List.set_cons_zero]
      go_wp2_with fail
      exact relyL_done _ rfl rfl (Ext.refl _) hI
    refine stepsL_cons ?_ ?_
    · intro vs W' hl hI hd
      refine hold ?_
      obtain ⟨x0, x1, x2, x3, x4, x5, x6, x7, x8, x9, x10, x11, x12, x13, x14, rfl⟩ := lenlit15 hl; clear hl
      simp only [factsL, atL, refV, List.getElem?_cons_succ, List.getElem?_cons_zero, List.getD_cons_succ, List.getD_cons_zero, RelL.one, RelL.any, RelL.blk, RelL.law, RApp, RSame, RChn, RVar, RSto] at hd
      obtain ⟨rfl, -⟩ := hd
      refine held ?_
      simp only [putAll, Act.put, List.setIfInBounds_toArray, List.set_cons_succ, List.set_cons_zero]
      have q0 := hI.cell c0
      have q1 := hI.cell c1
      go_wp2_with fail
      exact relyL_done _ rfl rfl (Ext.refl _) hI
    refine stepsL_cons ?_ ?_
    · intro vs W' hl hI hd
      refine hold ?_
      obtain ⟨x0, x1, x2, x3, x4, x5, x6, x7, x8, x9, x10, x11, x12, x13, x14, rfl⟩ := lenlit15 hl; clear hl
      simp only [factsL, atL, refV, List.getElem?_cons_succ, List.getElem?_cons_zero, List.getD_cons_succ, List.getD_cons_zero, RelL.one, RelL.any, RelL.blk, RelL.law, RApp, RSame, RChn, RVar, RSto] at hd
      obtain ⟨rfl, -⟩ := hd
      refine held ?_
      simp only [putAll, Act.put, List.setIfInBounds_toArray, List.set_cons_succ, List.set_cons_zero]
      go_wp2_with fail
      refine (headf_any _ 2 2 _ W' (hRS.ext hI) hSh (TB.ext HT.out (hE6.trans hI))).mono ?_
      rintro e w1 ⟨rfl, hx⟩
      go_wp2_with fail
      exact relyL_done _ rfl rfl hx (hI.trans hx)
    refine stepsL_cons ?_ ?_
    · intro vs W' hl hI hd
      refine hold ?_
      obtain ⟨x0, x1, x2, x3, x4, x5, x6, x7, x8, x9, x10, x11, x12, x13, x14, rfl⟩ := lenlit15 hl; clear hl
      simp only [factsL, atL, refV, List.getElem?_cons_succ, List.getElem?_cons_zero, List.getD_cons_succ, List.getD_cons_zero, RelL.one, RelL.any, RelL.blk, RelL.law, RApp, RSame, RChn, RVar, RSto] at hd
      obtain ⟨rfl, -⟩ := hd
      refine held ?_
      simp only [putAll, Act.put, List.setIfInBounds_toArray, List.set_cons_succ, List.set_cons_zero]
      go_wp2_with fail
      refine (nonce_any _ 3 3 1 hHd rfl rfl rfl W' (TB.ext HT.out (hE6.trans hI))).mono ?_
      rintro e w1 ⟨rfl, hx⟩
      rw [HM.out]
      go_wp2_with fail
      exact relyL_done _ rfl rfl hx (hI.trans hx)
    refine stepsL_cons ?_ ?_
    · intro vs W' hl hI hd
      refine hold ?_
      obtain ⟨x0, x1, x2, x3, x4, x5, x6, x7, x8, x9, x10, x11, x12, x13, x14, rfl⟩ := lenlit15 hl; clear hl
      simp only [factsL, atL, refV, List.getElem?_cons_succ, List.getElem?_cons_zero, List.getD_cons_succ, List.getD_cons_zero, RelL.one, RelL.any, RelL.blk, RelL.law, RApp, RSame, RChn, RVar, RSto] at hd
      obtain ⟨rfl, -⟩ := hd
      refine held ?_
      simp only [putAll, Act.put, List.setIfInBounds_toArray, List.set_cons_succ, List.set_cons_zero]
      go_wp2_with fail
      exact relyL_done _ rfl rfl (Ext.refl _) hI
    refine stepsL_cons ?_ ?_
    · intro vs W' hl hI hd
      refine hold ?_
      obtain ⟨x0, x1, x2, x3, x4, x5, x6, x7, x8, x9, x10, x11, x12, x13, x14, rfl⟩ := lenlit15 hl; clear hl
      simp only [factsL, atL, refV, List.getElem?_cons_succ, List.getElem?_cons_zero, List.getD_cons_succ, List.getD_cons_zero, RelL.one, RelL.any, RelL.blk, RelL.law, RApp, RSame, RChn, RVar, RSto] at hd
      obtain ⟨rfl, -⟩ := hd
      refine held ?_
      simp only [putAll, Act.put, List.setIfInBounds_toArray, List.set_cons_succ, List.set_cons_zero]
      go_wp2_with fail
      exact relyL_done _ rfl ⟨_, rfl, World.alloc_heap_new _ _⟩ ((Ext.refl _).alloc _) (hI.alloc _)
    refine stepsL_cons ?_ ?_
    · intro vs W' hl hI hd
      refine hold ?_
      obtain ⟨x0, x1, x2, x3, x4, x5, x6, x7, x8, x9, x10, x11, x12, x13, x14, rfl⟩ := lenlit15 hl; clear hl
      simp only [factsL, atL, refV, List.getElem?_cons_succ, List.getElem?_cons_zero, List.getD_cons_succ, List.getD_cons_zero, RelL.one, RelL.any, RelL.blk, RelL.law, RApp, RSame, RChn, RVar, RSto] at hd
      obtain ⟨⟨b6, rfl, hb6⟩, -⟩ := hd
      refine held ?_
      simp only [putAll, Act.put, List.setIfInBounds_toArray, List.set_cons_succ, List.set_cons_zero]
      go_wp2_with fail
      exact relyL_done _ rfl ⟨b6, rfl, hb6⟩ (Ext.refl _) hI
    refine stepsL_cons ?_ ?_
    · intro vs W' hl hI hd
      refine hold ?_
      obtain ⟨x0, x1, x2, x3, x4, x5, x6, x7, x8, x9, x10, x11, x12, x13, x14, rfl⟩ := lenlit15 hl; clear hl
      simp only [factsL, atL, refV, List.getElem?_cons_succ, List.getElem?_cons_zero, List.getD_cons_succ, List.getD_cons_zero, RelL.one, RelL.any, RelL.blk, RelL.law, RApp, RSame, RChn, RVar, RSto] at hd
      obtain ⟨rfl, ⟨b7, rfl, hb7⟩, -⟩ := hd
      refine held ?_
      simp only [putAll, Act.put, List.setIfInBounds_toArray, List.set_cons_succ, List.set_cons_zero]
      go_wp2_with fail
      refine (append_any 3 rfl _ 2 2 _ _ 1 1 [exYn M] W' (hRS.ext hI) (Rw.lit1 hb7 (exY_okn M hMr)) (fun _ => hSh) (by omega) (TB.ext HT.out (hE6.trans hI))).mono ?_
      rintro e w1 ⟨a', n', c', rfl, ho, hn', hx⟩
      rw [Q1.out, Q3.out]
      rw [Q2.out] at ho
      go_wp2_with fail
      exact relyL_done _ rfl (AppV.of ho hn') hx (hI.trans hx)
    refine stepsL_cons ?_ ?_
    · intro vs W' hl hI hd
      refine hold ?_
      obtain ⟨x0, x1, x2, x3, x4, x5, x6, x7, x8, x9, x10, x11, x12, x13, x14, rfl⟩ := lenlit15 hl; clear hl
      simp only [factsL, atL, refV, List.getElem?_cons_succ, List.getElem?_cons_zero, List.getD_cons_succ, List.getD_cons_zero, RelL.one, RelL.any, RelL.blk, RelL.law, RApp, RSame, RChn, RVar, RSto] at hd
      obtain ⟨⟨a8, n8, c8, rfl, h8⟩, -⟩ := hd
      refine held ?_
      simp only [putAll, Act.put, List.setIfInBounds_toArray, List.set_cons_succ, List.set_cons_zero]
      go_wp2_with fail
      exact relyL_done _ rfl ⟨rfl, _, rfl⟩ (Ext.refl _) hI
    refine stepsL_cons ?_ ?_
    · intro vs W' hl hI hd
      refine hold ?_
      obtain ⟨x0, x1, x2, x3, x4, x5, x6, x7, x8, x9, x10, x11, x12, x13, x14, rfl⟩ := lenlit15 hl; clear hl
      simp only [factsL, atL, refV, List.getElem?_cons_succ, List.getElem?_cons_zero, List.getD_cons_succ, List.getD_cons_zero, RelL.one, RelL.any, RelL.blk, RelL.law, RApp, RSame, RChn, RVar, RSto] at hd
      obtain ⟨⟨a8, n8, c8, rfl, h8⟩, ⟨rfl, h9⟩, -⟩ := hd
      refine held ?_
      simp only [putAll, Act.put, List.setIfInBounds_toArray, List.set_cons_succ, List.set_cons_zero]
      go_wp2_with fail
      exact relyL_done _ rfl ⟨a8, n8, c8, rfl, h8⟩ (Ext.refl _) hI
    refine stepsL_cons ?_ ?_
    · intro vs W' hl hI hd
      refine hold ?_
      obtain ⟨x0, x1, x2, x3, x4, x5, x6, x7, x8, x9, x10, x11, x12, x13, x14, rfl⟩ := lenlit15 hl; clear hl
      simp only [factsL, atL, refV, List.getElem?_cons_succ, List.getElem?_cons_zero, List.getD_cons_succ, List.getD_cons_zero, RelL.one, RelL.any, RelL.blk, RelL.law, RApp, RSame, RChn, RVar, RSto] at hd
      obtain ⟨⟨-, A9, rfl⟩, -⟩ := hd
      refine held ?_
      simp only [putAll, Act.put, List.setIfInBounds_toArray, List.set_cons_succ, List.set_cons_zero]
      go_wp2_with fail
      exact relyL_done _ rfl rfl (Ext.refl _) hI
    refine stepsL_cons ?_ ?_
    · intro vs W' hl hI hd
      refine hold ?_
      obtain ⟨x0, x1, x2, x3, x4, x5, x6, x7, x8, x9, x10, x11, x12, x13, x14, rfl⟩ := lenlit15 hl; clear hl
      refine held ?_
      simp only [putAll, Act.put, List.setIfInBounds_toArray, List.set_cons_succ, List.set_cons_zero]
      go_wp2_with fail
      exact relyL_done _ rfl ⟨_, 0, none, 0, 0, rfl, hI.sz, ChB.new _ 0 none 0 0⟩ ((Ext.refl _).alloc _) (hI.alloc _)
    refine stepsL_cons ?_ ?_
    · intro vs W' hl hI hd
      refine hold ?_
      obtain ⟨x0, x1, x2, x3, x4, x5, x6, x7, x8, x9, x10, x11, x12, x13, x14, rfl⟩ := lenlit15 hl; clear hl
      simp only [factsL, atL, refV, List.getElem?_cons_succ, List.getElem?_cons_zero, List.getD_cons_succ, List.getD_cons_zero, RelL.one, RelL.any, RelL.blk, RelL.law, RApp, RSame, RChn, RVar, RSto] at hd
      obtain ⟨⟨a10, n10, c10, rfl, h10⟩, ⟨b12, x12, a12, n12, c12, rfl, hb12, hc12⟩, -⟩ := hd
      refine held ?_
      simp only [putAll, Act.put, List.setIfInBounds_toArray, List.set_cons_succ, List.set_cons_zero]
      have c0 := hc12.c0
      have c1 := hc12.c1
      have f0 := free_of_block hc12 0
      have f1 := free_of_block hc12 1
      have hs := hc12.stored 3 a10 n10 c10
      have hk := h10.set hc12 3 a10 n10 c10
      have hI2 := (hI.setCell (p := ⟨b12, 0, none⟩) hb12 (.int .i64 3)).setCell (p := ⟨b12, 1, none⟩) hb12 (.slice a10 n10 c10)
      go_wp2_with fail
      exact relyL_lose undef rfl ⟨b12, a10, n10, c10, rfl, hb12, hs, hk⟩ (keepsL_of ⟨.inr (fun _ _ h => h), .inr (fun _ _ h => h), .inr (fun _ _ h => h), .inr (fun _ _ h => h), .inr (fun _ _ h => h), .inr (fun _ _ h => h), .inl (by decide), .inl (by decide), .inl (by decide), .inr (fun _ _ h => h), .inl (by decide), .inr (fun _ _ h => h), .inl (by decide), .inl (by decide), .inr (fun _ _ h => h), trivial⟩) hI2
    refine stepsL_cons ?_ ?_
    · intro vs W' hl hI hd
      refine hold ?_
      obtain ⟨x0, x1, x2, x3, x4, x5, x6, x7, x8, x9, x10, x11, x12, x13, x14, rfl⟩ := lenlit15 hl; clear hl
      simp only [factsL, atL, refV, List.getElem?_cons_succ, List.getElem?_cons_zero, List.getD_cons_succ, List.getD_cons_zero, RelL.one, RelL.any, RelL.blk, RelL.law, RApp, RSame, RChn, RVar, RSto] at hd
      obtain ⟨rfl, -⟩ := hd
      refine held ?_
      simp only [putAll, Act.put, List.setIfInBounds_toArray, List.set_cons_succ, List.set_cons_zero]
      go_wp2_with fail
      exact relyL_done _ rfl rfl (Ext.refl _) hI
    exact trivial
  · intro vs W' hl hI hd
    obtain ⟨x0, x1, x2, x3, x4, x5, x6, x7, x8, x9, x10, x11, x12, x13, x14, rfl⟩ := lenlit15 hl; clear hl
    simp only [factsL, atL, refV, List.getElem?_cons_succ, List.getElem?_cons_zero, List.getD_cons_succ, List.getD_cons_zero, RelL.one, RelL.any, RelL.blk, RelL.law, RApp, RSame, RChn, RVar, RSto] at hd
    obtain ⟨h13, rfl, -⟩ := hd
    simp only [putAll, Act.put, List.setIfInBounds_toArray, List.set_cons_succ, List.set_cons_zero]
    obtain ⟨b3, a3, n3, c3, rfl, hB3, hC3, hL3⟩ := h13
    obtain rfl : n3 = 3 := by have := hL3.rws.hlen; simp at this; omega
    have R3 := hL3.rws
    have hSh3 : Short [[], [exXn N], [exYn M]] := ex_short (by simp)
    clear c0 c1 hz3 hL3 hB3
    have HO := Lib.hid hok
    have e0 := hC3.c0
    have e1 := hC3.c1
    have hE7 := hE6.trans hI
    go_wp2_with fail
    refine (before_any 3 rfl a3 3 c3 _ 2 2 3 1 (by omega) (by omega) W' R3 (fun _ => hSh3) (TB.ext HT.out hE7)).mono ?_
    rintro e wA ⟨rfl, hA⟩
    rw [Q4.out.1, Q4.out.2]
    go_upto_region 5 with fail
    clear e0 e1
    replace hC3 := hC3.ext hA
    replace R3 := R3.ext hA
    have hIA := hI.trans hA
    have hE8 := hE6.trans hIA
    clear hA hI hE7
    have e0 := hC3.c0
    have e1 := hC3.c1
    go_wp2_with fail
    refine (before_any 3 rfl a3 3 c3 _ 1 2 3 1 (by omega) (by omega) wA R3 (fun _ => hSh3) (TB.ext HT.out hE8)).mono ?_
    rintro e wB ⟨rfl, hB⟩
    rw [Q5.out]
    generalize befB 3 [[], [exXn N], [exYn M]] 1 2 3 1 = Bo
    go_upto_region 6 with fail
    clear e0 e1
    replace hC3 := hC3.ext hB
    have hIB := hIA.trans hB
    have hE9 := hE6.trans hIB
    clear hB hIA hE8 R3
    replace hC := hC.ext hIB
    replace hRS := hRS.ext hIB
    replace hX3 := hX3.ext hIB
    clear hIB hE6
    have e0 := hC.c0
    have e1 := hC.c1
    obtain ⟨d0, d1, d2, d3, d4, d5, d6, d7, d8, d9⟩ := hX3.cells
    simp only [exXn] at d0 d1 d2 d3 d4 d5 d6 d7 d8 d9
    have hN1 : RpB (wB.alloc (.cells #[.int .i64 2, .int .i64 3, .int .i64 2, .int .u64 N, .int .i64 5, .int .i64 9, .int .i64 0, .int .i64 0, .int .i64 0, .int .i64 0] 39)) wB.heap.size (exXn N) := RpB.new wB (exXn N)
    have hEn := hE9.alloc (.cells #[.int .i64 2, .int .i64 3, .int .i64 2, .int .u64 N, .int .i64 5, .int .i64 9, .int .i64 0, .int .i64 0, .int .i64 0, .int .i64 0] 39)
    go_wp2_with fail
    refine (append_any 3 rfl _ 2 2 _ _ 1 1 [exXn N] _ (hRS.ext ((Ext.refl _).alloc _)) (Rw.lit1 hN1 HO.out) (fun _ => hSh) (by omega) (TB.ext HT.out hEn)).mono ?_
    rintro e wC ⟨a', n', c', rfl, -, -, hx⟩
    rw [Q6.out]
    generalize apdH 3 [[], [exXn N]] [exXn N] = H6
    go_upto_region 7 with fail
    have hy : Ext wB (wC.alloc (.cells #[.int .i64 H6, .slice a' n' c'] 24)) := (((Ext.refl wB).alloc _).trans hx).alloc _
    generalize wC.alloc (.cells #[.int .i64 H6, .slice a' n' c'] 24) = V6 at *
    generalize wC.heap.size = b9 at *
    clear hx hN1 hEn e0 e1 d0 d1 d2 d3 d4 d5 d6 d7 d8 d9
    replace hC := hC.ext hy
    replace hC3 := hC3.ext hy
    replace hRS := hRS.ext hy
    replace hX3 := hX3.ext hy
    have hEa := hE9.trans hy
    clear hy hE9
    have HX := Lib.hid hX3
    clear hX3
    go_wp2_with fail
    refine (headf_any none 0 0 [] V6 (Rws.nil V6) (ex_short (by simp)) (TB.ext HT.out hEa)).mono ?_
    rintro e wD ⟨rfl, hD⟩
    rw [show headF [] = 0 from rfl]
    have hEb := hEa.trans hD
    have e0 := (hC.ext hD).c0
    have e1 := (hC.ext hD).c1
    go_wp2_with fail
    refine (headf_any _ 1 2 [[]] wD ((hRS.ext hD).take (m := 1) (by omega)) (ex_short (by simp)) (TB.ext HT.out hEb)).mono ?_
    rintro e wE ⟨rfl, hE⟩
    rw [headF_one]
    have l3 := litSl .i64 3 wE wE.heap.size 1 [0] #[.int .i64 0] rfl rfl rfl (by simp [maxLen]) (by decide)
    have hEc := (hEb.trans hE).alloc (.cells #[.int .i64 0] 3)
    clear e0 e1
    go_wp2_with fail
    refine (dnext_any 0 (by omega) _ 1 1 [0] _ l3 (by omega) (TB.ext HT.out hEc)).mono ?_
    rintro e wF ⟨rfl, hF⟩
    rw [exH_eq]
    have hy := (hD.trans hE).trans (((Ext.refl _).alloc _).trans hF)
    have hEd := hEa.trans hy
    have e0 := (hC.ext hy).c0
    have e1 := (hC.ext hy).c1
    clear l3 hEc hF hE hD hEb
    go_wp2_with fail
    refine (valid_any 3 rfl _ 2 2 _ wF (hRS.ext hy) (fun _ => hSh) (TB.ext HT.out hEd)).mono ?_
    rintro e wG ⟨rfl, hG⟩
    rw [Q7.out]
    replace hy := hy.trans hG
    clear e0 e1 hEd hG
    replace hC3 := hC3.ext hy
    have e0 := hC3.c0
    have e1 := hC3.c1
    go_upto_region 8 with fail
    have hX4 := HX.out.ext hy
    have hEe := hEa.trans hy
    clear HX e0 e1 hC hRS hC3 hy hEa
    obtain ⟨d0, d1, d2, d3, d4, d5, d6, d7, d8, d9⟩ := hX4.cells
    simp only [exXn] at d0 d1 d2 d3 d4 d5 d6 d7 d8 d9
    have f4 := free_of_block hX4 4
    go_upto_region 9 with fail
    have hX5 : RpB (wG.setCell ⟨bx, 4, none⟩ (.int .i64 10)) bx (exXn' N) := heap_setCell_same wG bx 4 _ _ _ hX4
    have hEf := hEe.setCell (p := ⟨bx, 4, none⟩) hbx (.int .i64 10)
    clear f4 d0 d1 d2 d3 d4 d5 d6 d7 d8 d9 hX4 hEe
    generalize wG.setCell ⟨bx, 4, none⟩ (.int .i64 10) = wH at *
    obtain ⟨d0, d1, d2, d3, d4, d5, d6, d7, d8, d9⟩ := hX5.cells
    simp only [exXn'] at d0 d1 d2 d3 d4 d5 d6 d7 d8 d9
    have s1 : (wH.alloc (.cells #[.int .i64 2, .int .i64 3, .int .i64 2, .int .u64 N, .int .i64 10, .int .i64 9, .int .i64 0, .int .i64 0, .int .i64 0, .int .i64 0] 39)).heap.size = wH.heap.size + 1 := by simp
    have hS : RpB (wH.alloc (.cells #[.int .i64 2, .int .i64 3, .int .i64 2, .int .u64 N, .int .i64 10, .int .i64 9, .int .i64 0, .int .i64 0, .int .i64 0, .int .i64 0] 39)) wH.heap.size (exXn' N) := RpB.new wH (exXn' N)
    have x2 : Ext (wH.alloc (.cells #[.int .i64 2, .int .i64 3, .int .i64 2, .int .u64 N, .int .i64 10, .int .i64 9, .int .i64 0, .int .i64 0, .int .i64 0, .int .i64 0] 39)) ((wH.alloc (.cells #[.int .i64 2, .int .i64 3, .int .i64 2, .int .u64 N, .int .i64 10, .int .i64 9, .int .i64 0, .int .i64 0, .int .i64 0, .int .i64 0] 39)).alloc (.cells #[.slice none 0 0, .slice (some ⟨wH.heap.size, 0, none⟩) 1 1] 27)) := (Ext.refl _).alloc _
    have hRd : ((wH.alloc (.cells #[.int .i64 2, .int .i64 3, .int .i64 2, .int .u64 N, .int .i64 10, .int .i64 9, .int .i64 0, .int .i64 0, .int .i64 0, .int .i64 0] 39)).alloc (.cells #[.slice none 0 0, .slice (some ⟨wH.heap.size, 0, none⟩) 1 1] 27)).heap[wH.heap.size + 1]? = some (.cells #[.slice none 0 0, .slice (some ⟨wH.heap.size, 0, none⟩) 1 1] 27 (0, 0)) := by
      have := World.alloc_heap_new (wH.alloc (.cells #[.int .i64 2, .int .i64 3, .int .i64 2, .int .u64 N, .int .i64 10, .int .i64 9, .int .i64 0, .int .i64 0, .int .i64 0, .int .i64 0] 39)) (.cells #[.slice none 0 0, .slice (some ⟨wH.heap.size, 0, none⟩) 1 1] 27)
      rwa [s1] at this
    have hEg := (hEf.alloc (.cells #[.int .i64 2, .int .i64 3, .int .i64 2, .int .u64 N, .int .i64 10, .int .i64 9, .int .i64 0, .int .i64 0, .int .i64 0, .int .i64 0] 39)).trans x2
    have hRS : Rws ((wH.alloc (.cells #[.int .i64 2, .int .i64 3, .int .i64 2, .int .u64 N, .int .i64 10, .int .i64 9, .int .i64 0, .int .i64 0, .int .i64 0, .int .i64 0] 39)).alloc (.cells #[.slice none 0 0, .slice (some ⟨wH.heap.size, 0, none⟩) 1 1] 27)) (some ⟨wH.heap.size + 1, 0, none⟩) 2 2 [[], [exXn' N]] := Rws.lit2 hRd (Rw.nil _) (Rw.lit1 (hS.ext x2) (exX'_okn N hXn))
    clear hS x2 hRd s1 hX5
    go_wp2_with fail
    refine (valid_any 3 rfl _ 2 2 _ _ hRS (fun _ => ex_short (by simp)) (TB.ext HT.out hEg)).mono ?_
    rintro e wI ⟨rfl, hI⟩
    rw [Q8.out]
    have hEh := hEg.trans hI
    clear hRS hEg hI d0 d1 d2 d3 d4 d5 d6 d7 d8 d9 hEf
    go_wp2_with fail
    refine (valid_any 0 rfl none 0 0 [] _ (Rws.nil _) (fun _ => ex_short (by simp)) (TB.ext HT.out hEh)).mono ?_
    rintro e wJ ⟨rfl, hJ⟩
    rw [ex_valid0]
    go_wp2_with fail
    go_ret
    exact ⟨rfl, hEh.trans hJ⟩
end Go.Proofs.YtfohekfhcolnfaaDoor
