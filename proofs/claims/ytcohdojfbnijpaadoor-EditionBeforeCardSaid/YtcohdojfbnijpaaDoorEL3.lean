/-
  The law EditionBefore, walked. Written by wip/gen_el.py.
-/
import Derived.Test.YtcohdojfbnijpaaDoorEL2
namespace Go.Proofs.YtcohdojfbnijpaaDoor
open Go.RowKit Go.Sort Go.Shelf
set_option linter.unusedSimpArgs false
set_option linter.unusedVariables false
set_option maxRecDepth 100000

theorem before_no {av af : Int} {al : List Lp} {bv bf : Int} {bl : List Lp} {d : Int} (h1 : bv = av + 1) (h2 : af ≤ bf) (hd : difL al bl = some d) (h : folB av af al bv bf bl = false) : startL al d + min (lenL al d) (lenL bl d) < bf := by
  rcases Int.lt_or_le (startL al d + min (lenL al d) (lenL bl d)) bf with hx | hx
  · exact hx
  · rw [folB_iff.2 ⟨h1, h2, fun d2 h3 => by rw [hd] at h3; cases h3; omega⟩] at h; cases h
theorem before_yes {av af : Int} {al : List Lp} {bv bf : Int} {bl : List Lp} (h1 : bv = av + 1) (h2 : af ≤ bf) (hd : difL al bl = none) : folB av af al bv bf bl = true := folB_iff.2 ⟨h1, h2, fun d h => by rw [hd] at h; cases h⟩
set_option maxHeartbeats 8000000 in
theorem ebefore_law (pv pf pu : Int) (pa : Option Addr) (pn pc : Nat) (pl : List Lp) (pC pS : Int) (qv qf qu : Int) (qa : Option Addr) (qn qc : Nat) (ql : List Lp) (qC qS : Int) (w : World) (hp : Rw w pa pn pc pl) (hq : Rw w qa qn qc ql) (ht : TB w) :
    Calls Tryd.prog 5 #[.agg #[.int .i64 pv, .int .i64 pf, .int .i64 pu, .slice pa pn pc, .int .i64 pC, .int .i64 pS], .agg #[.int .i64 qv, .int .i64 qf, .int .i64 qu, .slice qa qn qc, .int .i64 qC, .int .i64 qS]] w (Yes w) := by
  have HT := Lib.hid ht
  have b1 := Lib.hid hp.bd
  have b2 := Lib.hid hq.bd
  clear ht
  have hP := Bk.new w 27 #[.int .i64 pv, .int .i64 pf, .int .i64 pu, .slice pa pn pc, .int .i64 pC, .int .i64 pS]
  have hQ := Bk.new (w.alloc (.cells #[.int .i64 pv, .int .i64 pf, .int .i64 pu, .slice pa pn pc, .int .i64 pC, .int .i64 pS] 27)) 27 #[.int .i64 qv, .int .i64 qf, .int .i64 qu, .slice qa qn qc, .int .i64 qC, .int .i64 qS]
  rw [World.size_alloc] at hQ
  replace hP := hP.ext ((Ext.refl _).alloc (.cells #[.int .i64 qv, .int .i64 qf, .int .i64 qu, .slice qa qn qc, .int .i64 qC, .int .i64 qS] 27))
  have hE : Ext w ((w.alloc (.cells #[.int .i64 pv, .int .i64 pf, .int .i64 pu, .slice pa pn pc, .int .i64 pC, .int .i64 pS] 27)).alloc (.cells #[.int .i64 qv, .int .i64 qf, .int .i64 qu, .slice qa qn qc, .int .i64 qC, .int .i64 qS] 27)) := ((Ext.refl w).alloc _).alloc _
  go_enter Tryd.func5, Tryd.ntmps5
  go_upto_region 1 with fail
  generalize (w.alloc (.cells #[.int .i64 pv, .int .i64 pf, .int .i64 pu, .slice pa pn pc, .int .i64 pC, .int .i64 pS] 27)).alloc (.cells #[.int .i64 qv, .int .i64 qf, .int .i64 qu, .slice qa qn qc, .int .i64 qC, .int .i64 qS] 27) = W at *
  generalize w.heap.size + 1 = qb at hQ ⊢
  generalize w.heap.size = pb at hP ⊢
  have p0 := hP.c 0 _ rfl
  have p1 := hP.c 1 _ rfl
  have p2 := hP.c 2 _ rfl
  have p3 := hP.c 3 _ rfl
  have p4 := hP.c 4 _ rfl
  have p5 := hP.c 5 _ rfl
  have q0 := hQ.c 0 _ rfl
  have q1 := hQ.c 1 _ rfl
  have q2 := hQ.c 2 _ rfl
  have q3 := hQ.c 3 _ rfl
  have q4 := hQ.c 4 _ rfl
  have q5 := hQ.c 5 _ rfl
  go_wp2_with fail
  refine (ehead_any W (TB.ext HT.out hE)).mono ?_
  rintro e w1 ⟨rfl, hx⟩
  replace hP := hP.ext hx
  replace hQ := hQ.ext hx
  replace hE := hE.trans hx
  clear hx p0 p1 p2 p3 p4 p5 q0 q1 q2 q3 q4 q5
  have p0 := hP.c 0 _ rfl
  have p1 := hP.c 1 _ rfl
  have p2 := hP.c 2 _ rfl
  have p3 := hP.c 3 _ rfl
  have p4 := hP.c 4 _ rfl
  have p5 := hP.c 5 _ rfl
  have q0 := hQ.c 0 _ rfl
  have q1 := hQ.c 1 _ rfl
  have q2 := hQ.c 2 _ rfl
  have q3 := hQ.c 3 _ rfl
  have q4 := hQ.c 4 _ rfl
  have q5 := hQ.c 5 _ rfl
  go_wp2_with fail
  refine (l20few_any none 0 0 [] pa pn pc qa qn qc w1 (edr0 w1) b1.out.2.2 b2.out.2.2).mono ?_
  rintro e w2 ⟨rfl, hx⟩
  replace hP := hP.ext hx
  replace hQ := hQ.ext hx
  replace hE := hE.trans hx
  clear hx p0 p1 p2 p3 p4 p5 q0 q1 q2 q3 q4 q5
  have p0 := hP.c 0 _ rfl
  have p1 := hP.c 1 _ rfl
  have p2 := hP.c 2 _ rfl
  have p3 := hP.c 3 _ rfl
  have p4 := hP.c 4 _ rfl
  have p5 := hP.c 5 _ rfl
  have q0 := hQ.c 0 _ rfl
  have q1 := hQ.c 1 _ rfl
  have q2 := hQ.c 2 _ rfl
  have q3 := hQ.c 3 _ rfl
  have q4 := hQ.c 4 _ rfl
  have q5 := hQ.c 5 _ rfl
  rcases hv : few3 [] pn qn with _ | _
  · clear hv
    go_wp2_with fail
    go_ret
    exact ⟨rfl, hE⟩
  have HF := Lib.hid hv
  clear hv
  go_wp2_with fail
  refine (rformed_any pv pf pu pa pn pc pl pC pS w2 (hp.ext hE)).mono ?_
  rintro e w3 ⟨rfl, hx⟩
  replace hP := hP.ext hx
  replace hQ := hQ.ext hx
  replace hE := hE.trans hx
  clear hx p0 p1 p2 p3 p4 p5 q0 q1 q2 q3 q4 q5
  have p0 := hP.c 0 _ rfl
  have p1 := hP.c 1 _ rfl
  have p2 := hP.c 2 _ rfl
  have p3 := hP.c 3 _ rfl
  have p4 := hP.c 4 _ rfl
  have p5 := hP.c 5 _ rfl
  have q0 := hQ.c 0 _ rfl
  have q1 := hQ.c 1 _ rfl
  have q2 := hQ.c 2 _ rfl
  have q3 := hQ.c 3 _ rfl
  have q4 := hQ.c 4 _ rfl
  have q5 := hQ.c 5 _ rfl
  rcases hv : frmB pv pf pu pl with _ | _
  · clear hv
    go_wp2_with fail
    go_ret
    exact ⟨rfl, hE⟩
  have HP := Lib.hid hv
  clear hv
  go_wp2_with fail
  refine (rformed_any qv qf qu qa qn qc ql qC qS w3 (hq.ext hE)).mono ?_
  rintro e w4 ⟨rfl, hx⟩
  replace hP := hP.ext hx
  replace hQ := hQ.ext hx
  replace hE := hE.trans hx
  clear hx p0 p1 p2 p3 p4 p5 q0 q1 q2 q3 q4 q5
  have p0 := hP.c 0 _ rfl
  have p1 := hP.c 1 _ rfl
  have p2 := hP.c 2 _ rfl
  have p3 := hP.c 3 _ rfl
  have p4 := hP.c 4 _ rfl
  have p5 := hP.c 5 _ rfl
  have q0 := hQ.c 0 _ rfl
  have q1 := hQ.c 1 _ rfl
  have q2 := hQ.c 2 _ rfl
  have q3 := hQ.c 3 _ rfl
  have q4 := hQ.c 4 _ rfl
  have q5 := hQ.c 5 _ rfl
  rcases hv : frmB qv qf qu ql with _ | _
  · clear hv
    go_wp2_with fail
    go_ret
    exact ⟨rfl, hE⟩
  have HQ := Lib.hid hv
  clear hv
  have k0 : wrap64 (pv + 1) = pv + 1 := by have := frmB_iff.1 HP.out; unfold wrap64; omega
  by_cases k1 : qv = pv + 1
  rotate_left
  · have k2 := decide_eq_false k1
    have k3 := beq_eq_false_iff_ne.2 k1
    go_wp2_with fail
    go_ret
    exact ⟨rfl, hE⟩
  have K1 := Lib.hid k1
  subst k1
  by_cases k2 : pf ≤ qf
  rotate_left
  · have k3 := decide_eq_true (show qf < pf by omega)
    have k4 : qf < pf := by omega
    clear k2
    go_wp2_with fail
    go_ret
    exact ⟨rfl, hE⟩
  have k3 : decide (qf < pf) = false := decide_eq_false (by omega)
  have k4 : ¬ qf < pf := by omega
  have K2 := Lib.hid k2
  clear k2
  go_wp2_with fail
  refine (efol_any pv pf pu pa pn pc pl pC pS (pv + 1) qf qu qa qn qc ql qC qS w4 (hp.ext hE) (hq.ext hE)).mono ?_
  rintro e w5 ⟨rfl, hx⟩
  replace hP := hP.ext hx
  replace hQ := hQ.ext hx
  replace hE := hE.trans hx
  clear hx p0 p1 p2 p3 p4 p5 q0 q1 q2 q3 q4 q5
  have p0 := hP.c 0 _ rfl
  have p1 := hP.c 1 _ rfl
  have p2 := hP.c 2 _ rfl
  have p3 := hP.c 3 _ rfl
  have p4 := hP.c 4 _ rfl
  have p5 := hP.c 5 _ rfl
  have q0 := hQ.c 0 _ rfl
  have q1 := hQ.c 1 _ rfl
  have q2 := hQ.c 2 _ rfl
  have q3 := hQ.c 3 _ rfl
  have q4 := hQ.c 4 _ rfl
  have q5 := hQ.c 5 _ rfl
  rw [folF_yes HP.out HQ.out]
  have HV1 := Lib.hid (frmB_iff.1 HP.out).2.2.2.2.2
  have HV2 := Lib.hid (frmB_iff.1 HQ.out).2.2.2.2.2
  go_wp2_with fail
  refine (edif_any pa pn pc pl qa qn qc ql w5 (hp.ext hE) (hq.ext hE)).mono ?_
  rintro e w6 ⟨rfl, hx⟩
  replace hP := hP.ext hx
  replace hQ := hQ.ext hx
  replace hE := hE.trans hx
  clear hx p0 p1 p2 p3 p4 p5 q0 q1 q2 q3 q4 q5
  have p0 := hP.c 0 _ rfl
  have p1 := hP.c 1 _ rfl
  have p2 := hP.c 2 _ rfl
  have p3 := hP.c 3 _ rfl
  have p4 := hP.c 4 _ rfl
  have p5 := hP.c 5 _ rfl
  have q0 := hQ.c 0 _ rfl
  have q1 := hQ.c 1 _ rfl
  have q2 := hQ.c 2 _ rfl
  have q3 := hQ.c 3 _ rfl
  have q4 := hQ.c 4 _ rfl
  have q5 := hQ.c 5 _ rfl
  rcases hd : difL pl ql with _ | d
  · rw [dfrF_none HV1.out HV2.out hd, before_yes rfl K2.out hd]
    clear hd
    go_wp2_with fail
    go_ret
    exact ⟨rfl, hE⟩
  rw [dfrF_some HV1.out HV2.out hd]
  rcases hy : folB pv pf pl (pv + 1) qf ql with _ | _
  rotate_left
  · clear hy hd
    go_wp2_with fail
    go_ret
    exact ⟨rfl, hE⟩
  have B1 := Lib.hid (before_no rfl K2.out hd hy)
  have DB := Lib.hid (difL_bd HV1.out HV2.out hd)
  have B2 := Lib.hid (before_plain HV1.out HV2.out hd (by have := frmB_iff.1 HQ.out; omega) B1.out)
  have b3 := Lib.hid (lenL_bd HV1.out d)
  have b4 := Lib.hid (lenL_bd HV2.out d)
  have b5 := Lib.hid (startL_bd HV1.out DB.out.1 (by have := DB.out.2; omega))
  clear hy hd
  go_wp2_with fail
  refine (lStart_any pa pn pc pl d w6 (hp.ext hE)).mono ?_
  rintro e w7 ⟨rfl, hx⟩
  replace hP := hP.ext hx
  replace hQ := hQ.ext hx
  replace hE := hE.trans hx
  clear hx p0 p1 p2 p3 p4 p5 q0 q1 q2 q3 q4 q5
  have p0 := hP.c 0 _ rfl
  have p1 := hP.c 1 _ rfl
  have p2 := hP.c 2 _ rfl
  have p3 := hP.c 3 _ rfl
  have p4 := hP.c 4 _ rfl
  have p5 := hP.c 5 _ rfl
  have q0 := hQ.c 0 _ rfl
  have q1 := hQ.c 1 _ rfl
  have q2 := hQ.c 2 _ rfl
  have q3 := hQ.c 3 _ rfl
  have q4 := hQ.c 4 _ rfl
  have q5 := hQ.c 5 _ rfl
  rw [startF_ok HV1.out DB.out.1 (by have := DB.out.2; omega)]
  go_wp2_with fail
  refine (lLength_any pa pn pc pl d w7 (hp.ext hE)).mono ?_
  rintro e w8 ⟨rfl, hx⟩
  replace hP := hP.ext hx
  replace hQ := hQ.ext hx
  replace hE := hE.trans hx
  clear hx p0 p1 p2 p3 p4 p5 q0 q1 q2 q3 q4 q5
  have p0 := hP.c 0 _ rfl
  have p1 := hP.c 1 _ rfl
  have p2 := hP.c 2 _ rfl
  have p3 := hP.c 3 _ rfl
  have p4 := hP.c 4 _ rfl
  have p5 := hP.c 5 _ rfl
  have q0 := hQ.c 0 _ rfl
  have q1 := hQ.c 1 _ rfl
  have q2 := hQ.c 2 _ rfl
  have q3 := hQ.c 3 _ rfl
  have q4 := hQ.c 4 _ rfl
  have q5 := hQ.c 5 _ rfl
  rw [lengthF_ok HV1.out DB.out.1 (by have := DB.out.2; omega)]
  go_wp2_with fail
  have k5 : wrap64 (startL pl d + min (lenL pl d) (lenL ql d)) = startL pl d + min (lenL pl d) (lenL ql d) := by
    have := b3.out; have := b4.out; have := b5.out
    unfold wrap64; omega
  have k6 : decide (qf ≤ startL pl d + min (lenL pl d) (lenL ql d)) = false := decide_eq_false (by have := B1.out; omega)
  have k7 : ¬ (qf ≤ startL pl d + min (lenL pl d) (lenL ql d)) := by have := B1.out; omega
  refine (lLength_any qa qn qc ql d w8 (hq.ext hE)).mono ?_
  rintro e w9 ⟨rfl, hx⟩
  replace hP := hP.ext hx
  replace hQ := hQ.ext hx
  replace hE := hE.trans hx
  clear hx p0 p1 p2 p3 p4 p5 q0 q1 q2 q3 q4 q5
  have p0 := hP.c 0 _ rfl
  have p1 := hP.c 1 _ rfl
  have p2 := hP.c 2 _ rfl
  have p3 := hP.c 3 _ rfl
  have p4 := hP.c 4 _ rfl
  have p5 := hP.c 5 _ rfl
  have q0 := hQ.c 0 _ rfl
  have q1 := hQ.c 1 _ rfl
  have q2 := hQ.c 2 _ rfl
  have q3 := hQ.c 3 _ rfl
  have q4 := hQ.c 4 _ rfl
  have q5 := hQ.c 5 _ rfl
  rw [lengthF_ok HV2.out DB.out.1 (by have := DB.out.2; omega)]
  go_wp2_with fail
  obtain ⟨x, y, hx1, hy1, hxy⟩ := B2.out
  generalize startL pl d + min (lenL pl d) (lenL ql d) = E at *
  clear k6 k7
  refine (lDay_any pa pn pc pl E w9 (hp.ext hE)).mono ?_
  rintro e w10 ⟨rfl, hx⟩
  replace hP := hP.ext hx
  replace hQ := hQ.ext hx
  replace hE := hE.trans hx
  clear hx p0 p1 p2 p3 p4 p5 q0 q1 q2 q3 q4 q5
  have p0 := hP.c 0 _ rfl
  have p1 := hP.c 1 _ rfl
  have p2 := hP.c 2 _ rfl
  have p3 := hP.c 3 _ rfl
  have p4 := hP.c 4 _ rfl
  have p5 := hP.c 5 _ rfl
  have q0 := hQ.c 0 _ rfl
  have q1 := hQ.c 1 _ rfl
  have q2 := hQ.c 2 _ rfl
  have q3 := hQ.c 3 _ rfl
  have q4 := hQ.c 4 _ rfl
  have q5 := hQ.c 5 _ rfl
  rw [hx1]
  go_wp2_with fail
  have k8 : decide (x = y) = false := decide_eq_false hxy
  have k9 : (x != y) = true := bne_iff_ne.2 hxy
  refine (lDay_any qa qn qc ql E w10 (hq.ext hE)).mono ?_
  rintro e w11 ⟨rfl, hx⟩
  replace hP := hP.ext hx
  replace hQ := hQ.ext hx
  replace hE := hE.trans hx
  clear hx p0 p1 p2 p3 p4 p5 q0 q1 q2 q3 q4 q5
  have p0 := hP.c 0 _ rfl
  have p1 := hP.c 1 _ rfl
  have p2 := hP.c 2 _ rfl
  have p3 := hP.c 3 _ rfl
  have p4 := hP.c 4 _ rfl
  have p5 := hP.c 5 _ rfl
  have q0 := hQ.c 0 _ rfl
  have q1 := hQ.c 1 _ rfl
  have q2 := hQ.c 2 _ rfl
  have q3 := hQ.c 3 _ rfl
  have q4 := hQ.c 4 _ rfl
  have q5 := hQ.c 5 _ rfl
  rw [hy1]
  go_wp2_with fail
  go_ret
  first | exact ⟨rfl, hE⟩ | exact ⟨by rw [k9]; rfl, hE⟩
end Go.Proofs.YtcohdojfbnijpaaDoor
