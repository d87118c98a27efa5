/-
  The head of the laws of chapter 20, walked. Written by wip/gen_ej.py.
-/
import Derived.Test.YtcohdojfbnijpaaDoorEI
namespace Go.Proofs.YtcohdojfbnijpaaDoor
open Go.RowKit Go.Sort Go.Shelf
set_option linter.unusedSimpArgs false
set_option linter.unusedVariables false
set_option maxRecDepth 100000

theorem eqCv (d m d' m' : Int) (w : World) : (Op.equalIn 10000 29 (.agg #[.int .i64 d, .int .i64 m]) (.agg #[.int .i64 d', .int .i64 m'])).run Tryd.prog w = .ok (decide (d = d' ∧ m = m')) w := by
  have u3 := Tryd.underlying3
  have a3 := Tryd.isAgg3
  have z3 := Tryd.sizeOf3
  have hS : Tryd.prog.underlying 29 = some (.struct (Tryd.prog.fieldsOf 29)) := by kernel_rfl
  have hp : Tryd.prog.stoodInHeld 29 = false := by kernel_rfl
  rw [show (10000 : Nat) = 9999 + 1 from rfl, run_equalIn_agg w 9999 29 _ _ hS hp]
  simp only [Program.fieldsOf, Tryd.underlying29]
  go_simp
  by_cases h1 : d = d' <;> by_cases h2 : m = m' <;> simp [h1, h2]
theorem edr3 (w : World) {a1 a2 a3 : Option Addr} {c1 c2 c3 : Nat} (h1 : Rw w a1 1 c1 xA) (h3 : Rw w a3 2 c3 xB) (h2 : Rw w a2 2 c2 xB) :
    EdR (w.alloc (.cells #[.int .i64 1, .int .i64 0, .int .i64 3000000000000000, .slice a1 1 c1, .int .i64 0, .int .i64 0, .int .i64 2, .int .i64 1728000500000, .int .i64 3000000000000000, .slice a3 2 c3, .int .i64 0, .int .i64 0, .int .i64 2, .int .i64 1000000000000, .int .i64 3000000000000000, .slice a2 2 c2, .int .i64 0, .int .i64 0] 27)) (some ⟨w.heap.size, 0, none⟩) 3 3 xEs := by
  have hb := Bk.new w 27 #[.int .i64 1, .int .i64 0, .int .i64 3000000000000000, .slice a1 1 c1, .int .i64 0, .int .i64 0, .int .i64 2, .int .i64 1728000500000, .int .i64 3000000000000000, .slice a3 2 c3, .int .i64 0, .int .i64 0, .int .i64 2, .int .i64 1000000000000, .int .i64 3000000000000000, .slice a2 2 c2, .int .i64 0, .int .i64 0]
  have hx := (Ext.refl w).alloc (.cells #[.int .i64 1, .int .i64 0, .int .i64 3000000000000000, .slice a1 1 c1, .int .i64 0, .int .i64 0, .int .i64 2, .int .i64 1728000500000, .int .i64 3000000000000000, .slice a3 2 c3, .int .i64 0, .int .i64 0, .int .i64 2, .int .i64 1000000000000, .int .i64 3000000000000000, .slice a2 2 c2, .int .i64 0, .int .i64 0] 27)
  refine ⟨rfl, Nat.le_refl _, by unfold maxLen; omega, by omega, fun i hi => ?_⟩
  have hi3 : i = 0 ∨ i = 1 ∨ i = 2 := by omega
  rcases hi3 with rfl | rfl | rfl
  · exact ⟨_, 0, a1, 1, c1, rfl, ⟨hb.c 0 _ rfl, hb.c 1 _ rfl, hb.c 2 _ rfl, hb.c 3 _ rfl, hb.c 4 _ rfl, hb.c 5 _ rfl⟩, h1.ext hx⟩
  · exact ⟨_, 0, a3, 2, c3, rfl, ⟨hb.c 6 _ rfl, hb.c 7 _ rfl, hb.c 8 _ rfl, hb.c 9 _ rfl, hb.c 10 _ rfl, hb.c 11 _ rfl⟩, h3.ext hx⟩
  · exact ⟨_, 0, a2, 2, c2, rfl, ⟨hb.c 12 _ rfl, hb.c 13 _ rfl, hb.c 14 _ rfl, hb.c 15 _ rfl, hb.c 16 _ rfl, hb.c 17 _ rfl⟩, h2.ext hx⟩
theorem wf9 : ∀ x ∈ [(9 : Int)], (Lit.int .i64 x).wf = true := by intro x hx; simp at hx; subst hx; rfl
theorem wf919 : ∀ x ∈ [(9 : Int), 19], (Lit.int .i64 x).wf = true := by intro x hx; simp at hx; rcases hx with rfl | rfl <;> rfl
set_option maxHeartbeats 8000000 in
theorem ehead_any (w : World) (ht : TB w) : Calls Tryd.prog 10 #[] w fun e w' => e = .returned (.bool true) ∧ Ext w w' := by
  have HT := Lib.hid ht
  clear ht
  go_enter Tryd.func10, Tryd.ntmps10
  go_wp2_with fail
  refine (exm_any 1 0 _ 1 1 [9] _ (litE .i64 3 w _ 1 [9] #[.int .i64 9] rfl rfl rfl (by simp [maxLen]) wf9) (by omega)).mono ?_
  rintro e w1 ⟨a1, c1, rfl, h1, hx1⟩
  rw [xA_is] at h1
  have hE := ((Ext.refl w).alloc _).trans hx1
  clear hx1
  go_wp2_with fail
  refine (exm_any 2 1000000000000 _ 2 2 [9, 19] _ (litE .i64 3 w1 _ 2 [9, 19] #[.int .i64 9, .int .i64 19] rfl rfl rfl (by simp [maxLen]) wf919) (by omega)).mono ?_
  rintro e w2 ⟨a2, c2, rfl, h2, hx2⟩
  rw [xB_is] at h2
  have hx2' := ((Ext.refl w1).alloc (.cells #[.int .i64 9, .int .i64 19] 3)).trans hx2
  replace h1 := h1.ext hx2'
  replace hE := hE.trans hx2'
  clear hx2 hx2'
  go_wp2_with fail
  refine (exm_any 2 1728000500000 _ 2 2 [9, 19] _ (litE .i64 3 w2 _ 2 [9, 19] #[.int .i64 9, .int .i64 19] rfl rfl rfl (by simp [maxLen]) wf919) (by omega)).mono ?_
  rintro e w3 ⟨a3, c3, rfl, h3, hx3⟩
  rw [xB_is] at h3
  have hx3' := ((Ext.refl w2).alloc (.cells #[.int .i64 9, .int .i64 19] 3)).trans hx3
  replace h1 := h1.ext hx3'
  replace h2 := h2.ext hx3'
  replace hE := hE.trans hx3'
  clear hx3 hx3'
  go_upto_region 2 with fail
  obtain ⟨W, hW⟩ : ∃ W, W = (((w3.alloc (.cells #[.int .i64 1, .int .i64 0, .int .i64 3000000000000000, .slice a1 1 c1, .int .i64 0, .int .i64 0] 27)).alloc (.cells #[.int .i64 2, .int .i64 1000000000000, .int .i64 3000000000000000, .slice a2 2 c2, .int .i64 0, .int .i64 0] 27)).alloc (.cells #[.int .i64 2, .int .i64 1728000500000, .int .i64 3000000000000000, .slice a3 2 c3, .int .i64 0, .int .i64 0] 27)) := ⟨_, rfl⟩
  have hA : Bk W w3.heap.size 27 #[.int .i64 1, .int .i64 0, .int .i64 3000000000000000, .slice a1 1 c1, .int .i64 0, .int .i64 0] := by rw [hW]; exact ((Bk.new w3 _ _).ext ((Ext.refl _).alloc _)).ext ((Ext.refl _).alloc _)
  have hB : Bk W (w3.heap.size + 1) 27 #[.int .i64 2, .int .i64 1000000000000, .int .i64 3000000000000000, .slice a2 2 c2, .int .i64 0, .int .i64 0] := by
    have := Bk.new (w3.alloc (.cells #[.int .i64 1, .int .i64 0, .int .i64 3000000000000000, .slice a1 1 c1, .int .i64 0, .int .i64 0] 27)) 27 #[.int .i64 2, .int .i64 1000000000000, .int .i64 3000000000000000, .slice a2 2 c2, .int .i64 0, .int .i64 0]
    rw [World.size_alloc] at this
    rw [hW]; exact this.ext ((Ext.refl _).alloc _)
  have hC : Bk W (w3.heap.size + 2) 27 #[.int .i64 2, .int .i64 1728000500000, .int .i64 3000000000000000, .slice a3 2 c3, .int .i64 0, .int .i64 0] := by
    have := Bk.new ((w3.alloc (.cells #[.int .i64 1, .int .i64 0, .int .i64 3000000000000000, .slice a1 1 c1, .int .i64 0, .int .i64 0] 27)).alloc (.cells #[.int .i64 2, .int .i64 1000000000000, .int .i64 3000000000000000, .slice a2 2 c2, .int .i64 0, .int .i64 0] 27)) 27 #[.int .i64 2, .int .i64 1728000500000, .int .i64 3000000000000000, .slice a3 2 c3, .int .i64 0, .int .i64 0]
    rw [World.size_alloc, World.size_alloc] at this
    rw [hW]; exact this
  have hx : Ext w3 W := by rw [hW]; exact (((Ext.refl _).alloc _).alloc _).alloc _
  rw [← hW]
  clear hW
  replace h1 := h1.ext hx
  replace h2 := h2.ext hx
  replace h3 := h3.ext hx
  replace hE := hE.trans hx
  clear hx
  generalize w3.heap.size = ba at *
  have p0 := hA.c 0 _ rfl
  have p1 := hA.c 1 _ rfl
  have p2 := hA.c 2 _ rfl
  have p3 := hA.c 3 _ rfl
  have p4 := hA.c 4 _ rfl
  have p5 := hA.c 5 _ rfl
  have q0 := hB.c 0 _ rfl
  have q1 := hB.c 1 _ rfl
  have q2 := hB.c 2 _ rfl
  have q3 := hB.c 3 _ rfl
  have q4 := hB.c 4 _ rfl
  have q5 := hB.c 5 _ rfl
  go_wp2_with fail
  refine (efol_any 1 0 3000000000000000 a1 1 c1 xA 0 0 2 1000000000000 3000000000000000 a2 2 c2 xB 0 0 W h1 h2).mono ?_
  rintro e w4 ⟨rfl, hx⟩
  rw [x_fol1]
  replace hA := hA.ext hx
  replace hB := hB.ext hx
  replace hC := hC.ext hx
  replace h1 := h1.ext hx
  replace h2 := h2.ext hx
  replace h3 := h3.ext hx
  replace hE := hE.trans hx
  clear hx
  clear p0 p1 p2 p3 p4 p5
  clear q0 q1 q2 q3 q4 q5
  have p0 := hA.c 0 _ rfl
  have p1 := hA.c 1 _ rfl
  have p2 := hA.c 2 _ rfl
  have p3 := hA.c 3 _ rfl
  have p4 := hA.c 4 _ rfl
  have p5 := hA.c 5 _ rfl
  have q0 := hC.c 0 _ rfl
  have q1 := hC.c 1 _ rfl
  have q2 := hC.c 2 _ rfl
  have q3 := hC.c 3 _ rfl
  have q4 := hC.c 4 _ rfl
  have q5 := hC.c 5 _ rfl
  go_wp2_with fail
  refine (efol_any 1 0 3000000000000000 a1 1 c1 xA 0 0 2 1728000500000 3000000000000000 a3 2 c3 xB 0 0 w4 h1 h3).mono ?_
  rintro e w5 ⟨rfl, hx⟩
  rw [x_fol2]
  replace hA := hA.ext hx
  replace hB := hB.ext hx
  replace hC := hC.ext hx
  replace h1 := h1.ext hx
  replace h2 := h2.ext hx
  replace h3 := h3.ext hx
  replace hE := hE.trans hx
  clear hx
  clear p0 p1 p2 p3 p4 p5
  clear q0 q1 q2 q3 q4 q5
  have p3 := hA.c 3 _ rfl
  have q3 := hB.c 3 _ rfl
  go_wp2_with fail
  refine (edif_any a1 1 c1 xA a2 2 c2 xB w5 h1 h2).mono ?_
  rintro e w6 ⟨rfl, hx⟩
  rw [x_dfr]
  replace hA := hA.ext hx
  replace hB := hB.ext hx
  replace hC := hC.ext hx
  replace h1 := h1.ext hx
  replace h2 := h2.ext hx
  replace h3 := h3.ext hx
  replace hE := hE.trans hx
  clear hx
  clear p3 q3
  have p3 := hA.c 3 _ rfl
  have q3 := hB.c 3 _ rfl
  go_wp2_with fail
  refine (emov_any a1 1 c1 xA a2 2 c2 xB 19 86399500000 w6 h1 h2).mono ?_
  rintro e w7 ⟨rfl, hx⟩
  rw [x_mov]
  replace hA := hA.ext hx
  replace hB := hB.ext hx
  replace hC := hC.ext hx
  replace h1 := h1.ext hx
  replace h2 := h2.ext hx
  replace h3 := h3.ext hx
  replace hE := hE.trans hx
  clear hx
  clear p3 q3
  have hM := Bk.new w7 29 #[.int .i64 20, .int .i64 500000]
  have hx := (Ext.refl w7).alloc (.cells #[.int .i64 20, .int .i64 500000] 29)
  go_upto_region 6 with fail
  generalize w7.alloc (.cells #[.int .i64 20, .int .i64 500000] 29) = V7 at *
  generalize w7.heap.size = mb at *
  replace hA := hA.ext hx
  replace hB := hB.ext hx
  replace hC := hC.ext hx
  replace h1 := h1.ext hx
  replace h2 := h2.ext hx
  replace h3 := h3.ext hx
  replace hE := hE.trans hx
  clear hx
  have p0 := hA.c 0 _ rfl
  have p1 := hA.c 1 _ rfl
  have p2 := hA.c 2 _ rfl
  have p3 := hA.c 3 _ rfl
  have p4 := hA.c 4 _ rfl
  have p5 := hA.c 5 _ rfl
  go_wp2_with fail
  refine (esgn_any 5 7 1 0 3000000000000000 a1 1 c1 xA 0 0 V7 h1 (TB.ext HT.out hE)).mono ?_
  rintro e w8 ⟨hx, hor⟩
  rcases hor with ⟨-, -, a4, n4, c4, rfl, h4⟩ | ⟨hno, -⟩
  rotate_left
  · rw [x_frm, x_sg] at hno
    rcases hno with h | h <;> cases h
  obtain ⟨SC, hSC⟩ : ∃ z, sgC 5 7 (msgE 1 0 3000000000000000 xA) = z := ⟨_, rfl⟩
  obtain ⟨SS, hSS⟩ : ∃ z, sgS 5 7 (msgE 1 0 3000000000000000 xA) = z := ⟨_, rfl⟩
  have HV : Hid (rgtF 1024 1 0 3000000000000000 xA SC SS = (true, 0)) := Lib.hid (by rw [← hSC, ← hSS]; exact x_ver)
  rw [hSC, hSS]
  clear hSC hSS
  replace hM := hM.ext hx
  replace hA := hA.ext hx
  replace hB := hB.ext hx
  replace hC := hC.ext hx
  replace h1 := h1.ext hx
  replace h2 := h2.ext hx
  replace h3 := h3.ext hx
  replace hE := hE.trans hx
  clear hx
  clear p0 p1 p2 p3 p4 p5
  have hS := Bk.new w8 27 #[.int .i64 1, .int .i64 0, .int .i64 3000000000000000, .slice a4 n4 c4, .int .i64 SC, .int .i64 SS]
  have hx := (Ext.refl w8).alloc (.cells #[.int .i64 1, .int .i64 0, .int .i64 3000000000000000, .slice a4 n4 c4, .int .i64 SC, .int .i64 SS] 27)
  go_upto_region 7 with fail
  generalize w8.alloc (.cells #[.int .i64 1, .int .i64 0, .int .i64 3000000000000000, .slice a4 n4 c4, .int .i64 SC, .int .i64 SS] 27) = V8 at *
  generalize w8.heap.size = sb at *
  replace hA := hA.ext hx
  replace hB := hB.ext hx
  replace hC := hC.ext hx
  replace h1 := h1.ext hx
  replace h2 := h2.ext hx
  replace h3 := h3.ext hx
  replace hM := hM.ext hx
  replace h4 := h4.ext hx
  replace hE := hE.trans hx
  clear hx
  have s0 := hS.c 0 _ rfl
  have s1 := hS.c 1 _ rfl
  have s2 := hS.c 2 _ rfl
  have s3 := hS.c 3 _ rfl
  have s4 := hS.c 4 _ rfl
  have s5 := hS.c 5 _ rfl
  go_wp2_with fail
  refine (ergt_any 1024 1 0 3000000000000000 a4 n4 c4 xA SC SS V8 h4 (TB.ext HT.out hE)).mono ?_
  rintro e w9 ⟨rfl, hx⟩
  rw [HV.out]
  replace hS := hS.ext hx
  replace hA := hA.ext hx
  replace hB := hB.ext hx
  replace hC := hC.ext hx
  replace h1 := h1.ext hx
  replace h2 := h2.ext hx
  replace h3 := h3.ext hx
  replace hM := hM.ext hx
  replace h4 := h4.ext hx
  replace hE := hE.trans hx
  clear hx
  clear s0 s1 s2 s3 s4 s5
  have p0 := hA.c 0 _ rfl
  have p1 := hA.c 1 _ rfl
  have p2 := hA.c 2 _ rfl
  have p3 := hA.c 3 _ rfl
  have p4 := hA.c 4 _ rfl
  have p5 := hA.c 5 _ rfl
  have q0 := hB.c 0 _ rfl
  have q1 := hB.c 1 _ rfl
  have q2 := hB.c 2 _ rfl
  have q3 := hB.c 3 _ rfl
  have q4 := hB.c 4 _ rfl
  have q5 := hB.c 5 _ rfl
  have r0 := hC.c 0 _ rfl
  have r1 := hC.c 1 _ rfl
  have r2 := hC.c 2 _ rfl
  have r3 := hC.c 3 _ rfl
  have r4 := hC.c 4 _ rfl
  have r5 := hC.c 5 _ rfl
  have hL := edr3 w9 h1 h3 h2
  have hx := (Ext.refl w9).alloc (.cells #[.int .i64 1, .int .i64 0, .int .i64 3000000000000000, .slice a1 1 c1, .int .i64 0, .int .i64 0, .int .i64 2, .int .i64 1728000500000, .int .i64 3000000000000000, .slice a3 2 c3, .int .i64 0, .int .i64 0, .int .i64 2, .int .i64 1000000000000, .int .i64 3000000000000000, .slice a2 2 c2, .int .i64 0, .int .i64 0] 27)
  go_wp2_with fail
  refine (enew_any _ 3 3 xEs 1500000000000 _ hL).mono ?_
  rintro e w10 ⟨rfl, hx2⟩
  rw [x_new]
  replace hx := hx.trans hx2
  clear hx2 hL
  replace hA := hA.ext hx
  replace hB := hB.ext hx
  replace hC := hC.ext hx
  replace h1 := h1.ext hx
  replace h2 := h2.ext hx
  replace h3 := h3.ext hx
  replace hM := hM.ext hx
  replace h4 := h4.ext hx
  replace hS := hS.ext hx
  replace hE := hE.trans hx
  clear hx
  clear p0 p1 p2 p3 p4 p5
  clear q0 q1 q2 q3 q4 q5
  clear r0 r1 r2 r3 r4 r5
  have m0 := hM.c 0 _ rfl
  have m1 := hM.c 1 _ rfl
  have s0 := hS.c 0 _ rfl
  have s3 := hS.c 3 _ rfl
  have p3 := hA.c 3 _ rfl
  have q1 := fun W => eqCv 20 500000 20 500000 W
  go_wp2_with fail
  refine (r17same_any a4 n4 c4 xA a1 1 c1 xA w10 h4 h1).mono ?_
  rintro e w11 ⟨rfl, hx⟩
  rw [decide_eq_true rfl]
  replace hE := hE.trans hx
  go_wp2_with fail
  go_ret
  exact ⟨rfl, hE⟩
end Go.Proofs.YtcohdojfbnijpaaDoor
