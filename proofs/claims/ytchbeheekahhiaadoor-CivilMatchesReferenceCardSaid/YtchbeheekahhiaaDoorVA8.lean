/-
  The law CivilMatchesReference, walked. Written by wip/gen_va8.py.
-/
import Derived.Test.YtchbeheekahhiaaDoorVA7
import Derived.Test.YtchbeheekahhiaaDoorVY
namespace Go.Proofs.YtchbeheekahhiaaDoor
open Go.RowKit Go.Sort Go.Shelf
set_option linter.unusedSimpArgs false
set_option linter.unusedVariables false
set_option maxRecDepth 100000

theorem Bk.other {W : World} {b : Nat} {T : TypeId} {cs : Array Value} (h : Bk W b T cs) {p : Nat} (hne : p ≠ b) (i : Nat) (v : Value) : Bk (W.setCell ⟨p, i, none⟩ v) b T cs :=
  (heap_setCell_other W ⟨p, i, none⟩ b v (fun e => hne e.symm)).trans h
theorem fdF_wf (l : List Lp) (d s m : Int) : ∀ x ∈ (fdF l d s m).1, (Lit.int .i64 x).wf = true := by
  intro x hx
  unfold fdF at hx
  by_cases h : rightL l d = true ∧ inW s 0 86399 = true ∧ inW m 0 999999 = true
  · rw [if_pos h] at hx
    obtain ⟨hr, h2, h3⟩ := h
    obtain ⟨hv, d0, d9⟩ := rightL_iff.1 hr
    have hsb := startL_bd hv d0 (show d ≤ 34001 by omega)
    obtain ⟨M, rfl, q0, q1, -, -⟩ := (fnd_mem (S := startL l d) (inW_iff.1 h2) (inW_iff.1 h3) (lenL_bd hv d)).1 hx
    have hl := lenL_bd hv d
    have : 0 ≤ startL l d + M ∧ startL l d + M ≤ 3000000000000000 := by omega
    generalize startL l d + M = z at *
    simp [Lit.wf, IntKind.min, IntKind.max, IntKind.bits, IntKind.signed]; omega
  · rw [if_neg h] at hx
    cases hx

set_option maxHeartbeats 8000000 in
theorem cmatches_law (a : Option Addr) (n c : Nat) (l : List Lp) (t cd cm wd ws wm : Int) (S : List UInt8) (hS9 : S.length ≤ maxLen) (w : World) (h1 : Rw w a n c l) (ht : TB w) (hl : TL w) :
    Calls Tryd.prog 3 #[.slice a n c, .int .i64 t, .agg #[.int .i64 cd, .int .i64 cm], .agg #[.int .i64 wd, .int .i64 ws, .int .i64 wm], .string (mkS S)] w (Yes w) := by
  have HT := Lib.hid ht
  have HTL := Lib.hid hl
  clear ht hl
  have hC := Bk.new w 24 #[.int .i64 cd, .int .i64 cm]
  have hW := Bk.new (w.alloc (.cells #[.int .i64 cd, .int .i64 cm] 24)) 26 #[.int .i64 wd, .int .i64 ws, .int .i64 wm]
  rw [World.size_alloc] at hW
  replace hC := hC.ext ((Ext.refl _).alloc (.cells #[.int .i64 wd, .int .i64 ws, .int .i64 wm] 26))
  have hE : Ext w ((w.alloc (.cells #[.int .i64 cd, .int .i64 cm] 24)).alloc (.cells #[.int .i64 wd, .int .i64 ws, .int .i64 wm] 26)) := ((Ext.refl w).alloc _).alloc _
  have hLz := mkS_size S
  unfold maxLen at hS9
  go_enter Tryd.func3, Tryd.ntmps3
  go_upto_region 1 with fail
  generalize (w.alloc (.cells #[.int .i64 cd, .int .i64 cm] 24)).alloc (.cells #[.int .i64 wd, .int .i64 ws, .int .i64 wm] 26) = w1 at *
  generalize hpC : w.heap.size = pC at hC hW ⊢
  clear hpC
  go_wp2_with fail
  refine (vhead_any w1 (TB.ext HT.out hE) (TL.ext HTL.out hE)).mono ?_
  rintro e w2 ⟨rfl, hx⟩
  replace hC := hC.ext hx
  replace hW := hW.ext hx
  replace hE := hE.trans hx
  clear hx
  go_wp2_with fail
  refine (rfew_any a n c l w2 (h1.ext hE)).mono ?_
  rintro e w3 ⟨rfl, rfl⟩
  rcases hf : decide (l.length ≤ 110) with _ | _
  · clear hf
    go_wp2_with fail
    go_ret
    exact ⟨rfl, hE⟩
  clear hf
  by_cases hS : S.length ≤ 100
  case neg =>
    have q : ¬ (S.length : Int) ≤ 100 := by omega
    go_wp2_with fail
    go_ret
    exact ⟨rfl, hE⟩
  generalize hTo : toF l t = TO at *
  have HTo := Lib.hid hTo
  clear hTo
  obtain ⟨⟨dT, mT⟩, eT⟩ := TO
  go_wp2_with fail
  refine (cto_any a n c l t w3 (h1.ext hE)).mono ?_
  rintro e w4 ⟨rfl, hx⟩
  replace hC := hC.ext hx
  replace hW := hW.ext hx
  replace hE := hE.trans hx
  clear hx
  rw [HTo.out]
  have hA := Bk.new w4 24 #[.int .i64 dT, .int .i64 mT]
  have hx := (Ext.refl w4).alloc (.cells #[.int .i64 dT, .int .i64 mT] 24)
  have hAb : w.heap.size ≤ w4.heap.size := hE.sz
  go_upto_region 5 with fail
  generalize w4.alloc (.cells #[.int .i64 dT, .int .i64 mT] 24) = w5 at *
  generalize w4.heap.size = hAp at *
  replace hC := hC.ext hx
  replace hW := hW.ext hx
  replace hE := hE.trans hx
  clear hx
  go_wp2_with fail
  refine (r18to_any a n c l t w5 (h1.ext hE)).mono ?_
  rintro e w6 ⟨rfl, hx⟩
  replace hC := hC.ext hx
  replace hW := hW.ext hx
  replace hA := hA.ext hx
  replace hE := hE.trans hx
  clear hx
  rw [HTo.out]
  have HNE0 := Lib.hid hA.lt
  have hA2 := Bk.new w6 24 #[.int .i64 dT, .int .i64 mT]
  have hx := (Ext.refl w6).alloc (.cells #[.int .i64 dT, .int .i64 mT] 24)
  have hA2b : w.heap.size ≤ w6.heap.size := hE.sz
  go_upto_region 6 with fail
  generalize w6.alloc (.cells #[.int .i64 dT, .int .i64 mT] 24) = w7 at *
  generalize w6.heap.size = hA2p at *
  replace hC := hC.ext hx
  replace hW := hW.ext hx
  replace hA := hA.ext hx
  replace hE := hE.trans hx
  clear hx
  have hAc0 := hA.c 0 _ rfl
  have hAc1 := hA.c 1 _ rfl
  have hA2c0 := hA2.c 0 _ rfl
  have hA2c1 := hA2.c 1 _ rfl
  have hCc0 := hC.c 0 _ rfl
  have hCc1 := hC.c 1 _ rfl
  have q1 := fun W => eqCiv dT mT dT mT W
  have hneq : hAp ≠ hA2p := by have := HNE0.out; omega
  clear HTo
  generalize hFr : froF l cd cm = FR at *
  have HFr := Lib.hid hFr
  clear hFr
  obtain ⟨nF, eF⟩ := FR
  go_wp2_with fail
  refine (cfrom_any a n c l cd cm w7 (h1.ext hE)).mono ?_
  rintro e w8 ⟨rfl, hx⟩
  replace hC := hC.ext hx
  replace hW := hW.ext hx
  replace hA := hA.ext hx
  replace hA2 := hA2.ext hx
  replace hE := hE.trans hx
  clear hx
  rw [HFr.out]
  clear hAc0 hAc1 hA2c0 hA2c1 hCc0 hCc1
  clear q1
  have hCc0 := hC.c 0 _ rfl
  have hCc1 := hC.c 1 _ rfl
  go_wp2_with fail
  refine (r18from_any a n c l cd cm w8 (h1.ext hE)).mono ?_
  rintro e w9 ⟨rfl, hx⟩
  replace hC := hC.ext hx
  replace hW := hW.ext hx
  replace hA := hA.ext hx
  replace hA2 := hA2.ext hx
  replace hE := hE.trans hx
  clear hx
  rw [HFr.out]
  clear HFr
  clear hCc0 hCc1
  generalize hSh : shoF l t = SH at *
  have HSh := Lib.hid hSh
  clear hSh
  obtain ⟨⟨dS, sS, mS⟩, eS⟩ := SH
  go_wp2_with fail
  refine (cshow_any a n c l t w9 (h1.ext hE)).mono ?_
  rintro e w10 ⟨rfl, hx⟩
  replace hC := hC.ext hx
  replace hW := hW.ext hx
  replace hA := hA.ext hx
  replace hA2 := hA2.ext hx
  replace hE := hE.trans hx
  clear hx
  rw [HSh.out]
  have hS := Bk.new w10 26 #[.int .i64 dS, .int .i64 sS, .int .i64 mS]
  have hx := (Ext.refl w10).alloc (.cells #[.int .i64 dS, .int .i64 sS, .int .i64 mS] 26)
  have hSb : w.heap.size ≤ w10.heap.size := hE.sz
  go_upto_region 11 with fail
  generalize w10.alloc (.cells #[.int .i64 dS, .int .i64 sS, .int .i64 mS] 26) = w11 at *
  generalize w10.heap.size = hSp at *
  replace hC := hC.ext hx
  replace hW := hW.ext hx
  replace hA := hA.ext hx
  replace hA2 := hA2.ext hx
  replace hE := hE.trans hx
  clear hx
  go_wp2_with fail
  refine (r18show_any a n c l t w11 (h1.ext hE)).mono ?_
  rintro e w12 ⟨rfl, hx⟩
  replace hC := hC.ext hx
  replace hW := hW.ext hx
  replace hA := hA.ext hx
  replace hA2 := hA2.ext hx
  replace hS := hS.ext hx
  replace hE := hE.trans hx
  clear hx
  rw [HSh.out]
  have hS2 := Bk.new w12 26 #[.int .i64 dS, .int .i64 sS, .int .i64 mS]
  have hx := (Ext.refl w12).alloc (.cells #[.int .i64 dS, .int .i64 sS, .int .i64 mS] 26)
  have hS2b : w.heap.size ≤ w12.heap.size := hE.sz
  go_upto_region 12 with fail
  generalize w12.alloc (.cells #[.int .i64 dS, .int .i64 sS, .int .i64 mS] 26) = w13 at *
  generalize w12.heap.size = hS2p at *
  replace hC := hC.ext hx
  replace hW := hW.ext hx
  replace hA := hA.ext hx
  replace hA2 := hA2.ext hx
  replace hS := hS.ext hx
  replace hE := hE.trans hx
  clear hx
  have hSc0 := hS.c 0 _ rfl
  have hSc1 := hS.c 1 _ rfl
  have hSc2 := hS.c 2 _ rfl
  have hS2c0 := hS2.c 0 _ rfl
  have hS2c1 := hS2.c 1 _ rfl
  have hS2c2 := hS2.c 2 _ rfl
  have hWc0 := hW.c 0 _ rfl
  have hWc1 := hW.c 1 _ rfl
  have hWc2 := hW.c 2 _ rfl
  have q2 := fun W => eqWal dS sS mS dS sS mS W
  clear HSh
  have HWF : Hid (∀ x ∈ (fdF l wd ws wm).1, (Lit.int .i64 x).wf = true) := Lib.hid (fdF_wf l wd ws wm)
  generalize hFi : fdF l wd ws wm = FI at *
  have HFi := Lib.hid hFi
  clear hFi
  obtain ⟨LF, eL⟩ := FI
  go_wp2_with fail
  refine (cfnd_any a n c l wd ws wm w13 (h1.ext hE)).mono ?_
  rintro e w14 ⟨a1, n1, c1, rfl, ho1, hx⟩
  rw [HFi.out] at ho1 ⊢
  have hs1 := ho1.sl HWF.out
  clear ho1
  replace hC := hC.ext hx
  replace hW := hW.ext hx
  replace hA := hA.ext hx
  replace hA2 := hA2.ext hx
  replace hS := hS.ext hx
  replace hS2 := hS2.ext hx
  replace hE := hE.trans hx
  clear hx
  clear hSc0 hSc1 hSc2 hS2c0 hS2c1 hS2c2 hWc0 hWc1 hWc2
  clear q2
  have hWc0 := hW.c 0 _ rfl
  have hWc1 := hW.c 1 _ rfl
  have hWc2 := hW.c 2 _ rfl
  go_wp2_with fail
  refine (r18find_any a n c l wd ws wm w14 (h1.ext hE)).mono ?_
  rintro e w15 ⟨a2, n2, c2, rfl, ho2, hx⟩
  rw [HFi.out] at ho2 ⊢
  have hs2 := ho2.sl HWF.out
  replace hs1 := hs1.ext hx
  clear ho2
  replace hC := hC.ext hx
  replace hW := hW.ext hx
  replace hA := hA.ext hx
  replace hA2 := hA2.ext hx
  replace hS := hS.ext hx
  replace hS2 := hS2.ext hx
  replace hE := hE.trans hx
  clear hx
  clear hWc0 hWc1 hWc2
  clear HFi HWF
  go_wp2_with fail
  refine (rsame_any a1 n1 c1 LF a2 n2 c2 LF w15 hs1 hs2).mono ?_
  rintro e w16 ⟨rfl, hx⟩
  replace hC := hC.ext hx
  replace hW := hW.ext hx
  replace hA := hA.ext hx
  replace hA2 := hA2.ext hx
  replace hS := hS.ext hx
  replace hS2 := hS2.ext hx
  replace hE := hE.trans hx
  clear hx
  clear hs1 hs2
  rw [decide_eq_true rfl]
  have hCc0 := hC.c 0 _ rfl
  have hCc1 := hC.c 1 _ rfl
  generalize hTx : txtF cd cm = TX at *
  have HTx := Lib.hid hTx
  clear hTx
  obtain ⟨sX, eX⟩ := TX
  go_wp2_with fail
  refine (ctext_any cd cm w16 (TB.ext HT.out hE) (TL.ext HTL.out hE)).mono ?_
  rintro e w17 ⟨rfl, hx⟩
  replace hC := hC.ext hx
  replace hW := hW.ext hx
  replace hA := hA.ext hx
  replace hA2 := hA2.ext hx
  replace hS := hS.ext hx
  replace hS2 := hS2.ext hx
  replace hE := hE.trans hx
  clear hx
  rw [HTx.out]
  clear hCc0 hCc1
  have hCc0 := hC.c 0 _ rfl
  have hCc1 := hC.c 1 _ rfl
  go_wp2_with fail
  refine (r18text_any cd cm w17).mono ?_
  rintro e w18 ⟨rfl, hx⟩
  replace hC := hC.ext hx
  replace hW := hW.ext hx
  replace hA := hA.ext hx
  replace hA2 := hA2.ext hx
  replace hS := hS.ext hx
  replace hS2 := hS2.ext hx
  replace hE := hE.trans hx
  clear hx
  rw [HTx.out]
  clear HTx
  clear hCc0 hCc1
  generalize hPr : prsF S = PR at *
  have HPr := Lib.hid hPr
  clear hPr
  obtain ⟨⟨dP, mP⟩, eP⟩ := PR
  have hAc0 := hA.c 0 _ rfl
  have hAc1 := hA.c 1 _ rfl
  go_wp2_with fail
  refine (cparse_any S (by omega) w18 (TL.ext HTL.out hE)).mono ?_
  rintro e w19 ⟨rfl, hx⟩
  replace hC := hC.ext hx
  replace hW := hW.ext hx
  replace hA := hA.ext hx
  replace hA2 := hA2.ext hx
  replace hS := hS.ext hx
  replace hS2 := hS2.ext hx
  replace hE := hE.trans hx
  clear hx
  rw [HPr.out]
  clear hAc0 hAc1
  have hAc0 := hA.c 0 _ rfl
  have hAc1 := hA.c 1 _ rfl
  have fA0 := hA.free 0
  have fA1 := hA.free 1
  go_upto_region 20 with fail
  have hne : hAp ≠ hA2p := hneq
  have hAn := hA.set2 (.int .i64 dP) (.int .i64 mP)
  have hA2n := (hA2.other hne 0 (.int .i64 dP)).other hne 1 (.int .i64 mP)
  replace hE := (hE.setCell (p := ⟨hAp, 0, none⟩) hAb (.int .i64 dP)).setCell (p := ⟨hAp, 1, none⟩) hAb (.int .i64 mP)
  generalize (w19.setCell ⟨hAp, 0, none⟩ (.int .i64 dP)).setCell ⟨hAp, 1, none⟩ (.int .i64 mP) = w20 at *
  clear hAc0 hAc1
  clear fA0 fA1 hC hW hS hS2 hA hA2
  go_wp2_with fail
  refine (r18parse_any S (by omega) w20).mono ?_
  rintro e w21 ⟨rfl, hx⟩
  replace hAn := hAn.ext hx
  replace hA2n := hA2n.ext hx
  replace hE := hE.trans hx
  clear hx
  rw [HPr.out]
  have hA2nc0 := hA2n.c 0 _ rfl
  have hA2nc1 := hA2n.c 1 _ rfl
  have fA0 := hA2n.free 0
  have fA1 := hA2n.free 1
  go_upto_region 21 with fail
  have hA2m := hA2n.set2 (.int .i64 dP) (.int .i64 mP)
  have hAm := (hAn.other (fun h => hneq h.symm) 0 (.int .i64 dP)).other (fun h => hneq h.symm) 1 (.int .i64 mP)
  replace hE := (hE.setCell (p := ⟨hA2p, 0, none⟩) hA2b (.int .i64 dP)).setCell (p := ⟨hA2p, 1, none⟩) hA2b (.int .i64 mP)
  generalize (w21.setCell ⟨hA2p, 0, none⟩ (.int .i64 dP)).setCell ⟨hA2p, 1, none⟩ (.int .i64 mP) = w22 at *
  clear fA0 fA1
  clear hA2nc0 hA2nc1
  clear hAn hA2n
  have hAmc0 := hAm.c 0 _ rfl
  have hAmc1 := hAm.c 1 _ rfl
  have hA2mc0 := hA2m.c 0 _ rfl
  have hA2mc1 := hA2m.c 1 _ rfl
  have q3 := fun W => eqCiv dP mP dP mP W
  go_wp2_with fail
  go_ret
  exact ⟨rfl, hE⟩
end Go.Proofs.YtchbeheekahhiaaDoor
