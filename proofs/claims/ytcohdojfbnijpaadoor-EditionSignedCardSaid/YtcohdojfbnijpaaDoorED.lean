/-
  Follows, by both, walked. Written by wip/gen_ed.py.
-/
import Derived.Test.YtcohdojfbnijpaaDoorEC
namespace Go.Proofs.YtcohdojfbnijpaaDoor
open Go.RowKit Go.Sort Go.Shelf
set_option linter.unusedSimpArgs false
set_option linter.unusedVariables false
set_option maxRecDepth 100000

theorem ret_bool2 {a b : Bool} (h : a = b) : Ending.returned (.tuple #[.bool a, .int .i64 0]) = .returned (.tuple #[.bool b, .int .i64 0]) := by rw [h]
/-- The closure of Follows: when the day ends. -/
theorem eends_any (a : Option Addr) (n c : Nat) (l : List Lp) (D S0 LA : Int) (db sb : Nat) (w : World) (h1 : Rw w a n c l) (hl : lengthF l D = (LA, 0)) (lb : 86399000000 ≤ LA ∧ LA ≤ 86401000000) (sbd : 0 ≤ S0 ∧ S0 ≤ 2937700000000000)
    (hD : Bk w db 3 #[.int .i64 D]) (hS : Bk w sb 3 #[.int .i64 S0]) :
    Calls Tryd.prog 48 #[.slice a n c, .pointer (some ⟨db, 0, none⟩), .pointer (some ⟨sb, 0, none⟩)] w fun e w' => e = .returned (.int .i64 (S0 + LA)) ∧ Ext w w' := by
  have HL := Lib.hid hl
  have d0 := hD.c 0 _ rfl
  clear hl
  go_enter Tryd.func48, Tryd.ntmps48
  go_wp2_with fail
  refine (lLength_any a n c l D w h1).mono ?_
  rintro e w1 ⟨rfl, hx⟩
  rw [HL.out]
  have s0 := (hS.ext hx).c 0 _ rfl
  go_wp2_with fail
  go_ret
  exact ⟨rfl, hx⟩

set_option maxHeartbeats 8000000 in
theorem rfol_any (pv pf pu : Int) (pa : Option Addr) (pn pc : Nat) (pl : List Lp) (pC pS : Int) (qv qf qu : Int) (qa : Option Addr) (qn qc : Nat) (ql : List Lp) (qC qS : Int) (w : World) (hp : Rw w pa pn pc pl) (hq : Rw w qa qn qc ql) :
    Calls Tryd.prog 18 #[.agg #[.int .i64 pv, .int .i64 pf, .int .i64 pu, .slice pa pn pc, .int .i64 pC, .int .i64 pS], .agg #[.int .i64 qv, .int .i64 qf, .int .i64 qu, .slice qa qn qc, .int .i64 qC, .int .i64 qS]] w fun e w' => e = .returned (.tuple #[.bool (folF pv pf pu pl qv qf qu ql).1, .int .i64 (folF pv pf pu pl qv qf qu ql).2]) ∧ Ext w w' := by
  have hP := Bk.new w 27 #[.int .i64 pv, .int .i64 pf, .int .i64 pu, .slice pa pn pc, .int .i64 pC, .int .i64 pS]
  have hQ := Bk.new (w.alloc (.cells #[.int .i64 pv, .int .i64 pf, .int .i64 pu, .slice pa pn pc, .int .i64 pC, .int .i64 pS] 27)) 27 #[.int .i64 qv, .int .i64 qf, .int .i64 qu, .slice qa qn qc, .int .i64 qC, .int .i64 qS]
  rw [World.size_alloc] at hQ
  replace hP := hP.ext ((Ext.refl _).alloc (.cells #[.int .i64 qv, .int .i64 qf, .int .i64 qu, .slice qa qn qc, .int .i64 qC, .int .i64 qS] 27))
  have hE : Ext w ((w.alloc (.cells #[.int .i64 pv, .int .i64 pf, .int .i64 pu, .slice pa pn pc, .int .i64 pC, .int .i64 pS] 27)).alloc (.cells #[.int .i64 qv, .int .i64 qf, .int .i64 qu, .slice qa qn qc, .int .i64 qC, .int .i64 qS] 27)) := ((Ext.refl w).alloc _).alloc _
  go_enter Tryd.func18, Tryd.ntmps18
  go_upto_region 1 with fail
  generalize (w.alloc (.cells #[.int .i64 pv, .int .i64 pf, .int .i64 pu, .slice pa pn pc, .int .i64 pC, .int .i64 pS] 27)).alloc (.cells #[.int .i64 qv, .int .i64 qf, .int .i64 qu, .slice qa qn qc, .int .i64 qC, .int .i64 qS] 27) = W at *
  generalize w.heap.size + 1 = qb at hQ ⊢
  generalize w.heap.size = pb at hP ⊢
  have p0 := hP.c 0 _ rfl
  have p1 := hP.c 1 _ rfl
  have p2 := hP.c 2 _ rfl
  have p3 := hP.c 3 _ rfl
  have p4 := hP.c 4 _ rfl
  have p5 := hP.c 5 _ rfl
  have q0 := hQ.c 0 _ rfl
  have q1 := hQ.c 1 _ rfl
  have q2 := hQ.c 2 _ rfl
  have q3 := hQ.c 3 _ rfl
  have q4 := hQ.c 4 _ rfl
  have q5 := hQ.c 5 _ rfl
  go_wp2_with fail
  refine (rformed_any pv pf pu pa pn pc pl pC pS W (hp.ext hE)).mono ?_
  rintro e w1 ⟨rfl, hx⟩
  replace hP := hP.ext hx
  replace hQ := hQ.ext hx
  replace hE := hE.trans hx
  clear hx
  clear p0 p1 p2 p3 p4 p5
  clear q0 q1 q2 q3 q4 q5
  have q0 := hQ.c 0 _ rfl
  have q1 := hQ.c 1 _ rfl
  have q2 := hQ.c 2 _ rfl
  have q3 := hQ.c 3 _ rfl
  have q4 := hQ.c 4 _ rfl
  have q5 := hQ.c 5 _ rfl
  go_wp2_with fail
  refine (rformed_any qv qf qu qa qn qc ql qC qS w1 (hq.ext hE)).mono ?_
  rintro e w2 ⟨rfl, hx⟩
  replace hP := hP.ext hx
  replace hQ := hQ.ext hx
  replace hE := hE.trans hx
  clear hx
  clear q0 q1 q2 q3 q4 q5
  rcases hv : frmB pv pf pu pl with _ | _
  · have HR : Hid (folF pv pf pu pl qv qf qu ql = (false, 1)) := Lib.hid (by unfold folF; rw [if_neg (fun h => by rw [hv] at h; cases h.1)])
    clear hv
    go_wp2_with fail
    go_ret2
    exact ⟨by rw [HR.out]; rfl, hE⟩
  have HPF := Lib.hid hv
  clear hv
  rcases hv : frmB qv qf qu ql with _ | _
  · have HR : Hid (folF pv pf pu pl qv qf qu ql = (false, 1)) := Lib.hid (by unfold folF; rw [if_neg (fun h => by rw [hv] at h; cases h.2)])
    clear hv
    go_wp2_with fail
    go_ret2
    exact ⟨by rw [HR.out]; rfl, hE⟩
  have HQF := Lib.hid hv
  clear hv
  obtain ⟨pv1, pv2, pf1, pf2, pf3, pvl⟩ := frmB_iff.1 HPF.out
  obtain ⟨qv1, qv2, qf1, qf2, qf3, qvl⟩ := frmB_iff.1 HQF.out
  have HPV := Lib.hid pvl
  have HQV := Lib.hid qvl
  have HFO : Hid (folF pv pf pu pl qv qf qu ql = (folB pv pf pl qv qf ql, 0)) := Lib.hid (by unfold folF; rw [if_pos ⟨HPF.out, HQF.out⟩])
  clear pvl qvl HPF HQF
  have p0 := hP.c 0 _ rfl
  have p1 := hP.c 1 _ rfl
  have p2 := hP.c 2 _ rfl
  have p3 := hP.c 3 _ rfl
  have p4 := hP.c 4 _ rfl
  have p5 := hP.c 5 _ rfl
  have q0 := hQ.c 0 _ rfl
  have q1 := hQ.c 1 _ rfl
  have q2 := hQ.c 2 _ rfl
  have q3 := hQ.c 3 _ rfl
  have q4 := hQ.c 4 _ rfl
  have q5 := hQ.c 5 _ rfl
  by_cases k1 : qv = pv + 1
  case neg =>
    have HR : Hid (folF pv pf pu pl qv qf qu ql = (false, 0)) := Lib.hid (by rw [HFO.out]; unfold folB; rw [decide_eq_false k1]; rfl)
    have dk := bne_iff_ne.2 k1
    go_wp2_with fail
    all_goals first | (go_ret2; exact ⟨by rw [HR.out]; rfl, hE⟩) | (exfalso; omega)
  case pos =>
    by_cases k2 : pf ≤ qf
    case neg =>
      have HR : Hid (folF pv pf pu pl qv qf qu ql = (false, 0)) := Lib.hid (by rw [HFO.out]; unfold folB; rw [decide_eq_true k1, decide_eq_false k2]; rfl)
      have k2' : qf < pf := by omega
      have dk := decide_eq_true k2'
      have HK := Lib.hid k1
      subst k1
      go_wp2_with fail
      all_goals first | (go_ret2; exact ⟨by rw [HR.out]; rfl, hE⟩) | (exfalso; omega)
    case pos =>
      have HFB : Hid (folF pv pf pu pl qv qf qu ql = ((match difL pl ql with | none => true | some d => decide (qf ≤ startL pl d + lenL pl d) && decide (qf ≤ startL pl d + lenL ql d)), 0)) := Lib.hid (by rw [HFO.out]; unfold folB; rw [decide_eq_true k1, decide_eq_true k2]; rfl)
      have k2' : ¬ qf < pf := by omega
      have dk := decide_eq_false k2'
      clear HFO
      subst k1
      rcases hd : difL pl ql with _ | D
      case none =>
        have HR : Hid (folF pv pf pu pl (pv + 1) qf qu ql = (true, 0)) := Lib.hid (by rw [HFB.out, hd])
        have HDS : Hid (difS pl ql = false) := Lib.hid (by unfold difS; rw [hd]; rfl)
        have HDF : Hid (dfrF pl ql = (difD pl ql, false, 0)) := Lib.hid (by unfold dfrF; rw [if_pos ⟨HPV.out, HQV.out⟩, HDS.out])
        clear hd HFB
        generalize difD pl ql = DD at *
        go_wp2_with fail
        refine (rdif_any pa pn pc pl qa qn qc ql w2 (hp.ext hE) (hq.ext hE)).mono ?_
        rintro e w3 ⟨rfl, hx⟩
        rw [HDF.out]
        go_wp2_with fail
        go_ret2
        exact ⟨by rw [HR.out]; rfl, hE.trans hx⟩
      case some =>
        have hdb := difL_bd HPV.out HQV.out hd
        have hr1 : rightL pl D = true := rightL_iff.2 ⟨HPV.out, hdb.1, by omega⟩
        have hr2 : rightL ql D = true := rightL_iff.2 ⟨HQV.out, hdb.1, by omega⟩
        have sb := startL_bd HPV.out hdb.1 (show D ≤ 34001 by omega)
        have l1 := lenL_bd HPV.out D
        have l2 := lenL_bd HQV.out D
        have HS : Hid (startF pl D = (startL pl D, 0)) := Lib.hid (by unfold startF; rw [if_pos hr1])
        have HL1 : Hid (lengthF pl D = (lenL pl D, 0)) := Lib.hid (by unfold lengthF; rw [if_pos hr1])
        have HL2 : Hid (lengthF ql D = (lenL ql D, 0)) := Lib.hid (by unfold lengthF; rw [if_pos hr2])
        have HFD : Hid (folF pv pf pu pl (pv + 1) qf qu ql = (decide (qf ≤ startL pl D + lenL pl D) && decide (qf ≤ startL pl D + lenL ql D), 0)) := Lib.hid (by rw [HFB.out, hd])
        have HDD : Hid (difD pl ql = D) := Lib.hid (by unfold difD; rw [hd]; rfl)
        have HDS : Hid (difS pl ql = true) := Lib.hid (by unfold difS; rw [hd]; rfl)
        clear HFB hd hr1 hr2
        generalize startL pl D = S0 at *
        generalize lenL pl D = LA at *
        generalize lenL ql D = LB at *
        have lb1 : 86399000000 ≤ LA ∧ LA ≤ 86401000000 := by omega
        have lb2 : 86399000000 ≤ LB ∧ LB ≤ 86401000000 := by omega
        clear l1 l2
        have HDF : Hid (dfrF pl ql = (D, true, 0)) := Lib.hid (by unfold dfrF; rw [if_pos ⟨HPV.out, HQV.out⟩, HDD.out, HDS.out])
        go_wp2_with fail
        refine (rdif_any pa pn pc pl qa qn qc ql w2 (hp.ext hE) (hq.ext hE)).mono ?_
        rintro e w3 ⟨rfl, hx⟩
        rw [HDF.out]
        replace hP := hP.ext hx
        replace hQ := hQ.ext hx
        replace hE := hE.trans hx
        clear hx
        clear p0 p1 p2 p3 p4 p5
        clear q0 q1 q2 q3 q4 q5
        have p3 := hP.c 3 _ rfl
        go_wp2_with fail
        refine (r17Start_any pa pn pc pl D w3 (hp.ext hE)).mono ?_
        rintro e w4 ⟨rfl, hx⟩
        rw [HS.out]
        replace hP := hP.ext hx
        replace hQ := hQ.ext hx
        replace hE := hE.trans hx
        clear hx
        clear p3
        have p3 := hP.c 3 _ rfl
        go_wp2_with fail
        refine (r17Length_any pa pn pc pl D w4 (hp.ext hE)).mono ?_
        rintro e w5 ⟨rfl, hx⟩
        rw [HL1.out]
        replace hP := hP.ext hx
        replace hQ := hQ.ext hx
        replace hE := hE.trans hx
        clear hx
        clear p3
        have q3 := hQ.c 3 _ rfl
        go_wp2_with fail
        refine (r17Length_any qa qn qc ql D w5 (hq.ext hE)).mono ?_
        rintro e w6 ⟨rfl, hx⟩
        rw [HL2.out]
        replace hP := hP.ext hx
        replace hQ := hQ.ext hx
        replace hE := hE.trans hx
        clear hx
        clear q3
        have q1 := hQ.c 1 _ rfl
        have HB : Hid ((decide (qf ≤ S0 + LA) && decide (qf ≤ S0 + LB)) = decide (qf ≤ S0 + min LA LB)) := Lib.hid (by rw [Bool.eq_iff_iff]; simp only [Bool.and_eq_true, decide_eq_true_eq]; omega)
        go_wp2_with fail
        all_goals (go_ret2; exact ⟨by rw [HFD.out, HB.out] <;> (first | rfl | (refine ret_bool2 ?_; omega)), hE⟩)

set_option maxHeartbeats 8000000 in
theorem efol_any (pv pf pu : Int) (pa : Option Addr) (pn pc : Nat) (pl : List Lp) (pC pS : Int) (qv qf qu : Int) (qa : Option Addr) (qn qc : Nat) (ql : List Lp) (qC qS : Int) (w : World) (hp : Rw w pa pn pc pl) (hq : Rw w qa qn qc ql) :
    Calls Tryd.prog 17 #[.agg #[.int .i64 pv, .int .i64 pf, .int .i64 pu, .slice pa pn pc, .int .i64 pC, .int .i64 pS], .agg #[.int .i64 qv, .int .i64 qf, .int .i64 qu, .slice qa qn qc, .int .i64 qC, .int .i64 qS]] w fun e w' => e = .returned (.tuple #[.bool (folF pv pf pu pl qv qf qu ql).1, .int .i64 (folF pv pf pu pl qv qf qu ql).2]) ∧ Ext w w' := by
  have hP := Bk.new w 27 #[.int .i64 pv, .int .i64 pf, .int .i64 pu, .slice pa pn pc, .int .i64 pC, .int .i64 pS]
  have hQ := Bk.new (w.alloc (.cells #[.int .i64 pv, .int .i64 pf, .int .i64 pu, .slice pa pn pc, .int .i64 pC, .int .i64 pS] 27)) 27 #[.int .i64 qv, .int .i64 qf, .int .i64 qu, .slice qa qn qc, .int .i64 qC, .int .i64 qS]
  rw [World.size_alloc] at hQ
  replace hP := hP.ext ((Ext.refl _).alloc (.cells #[.int .i64 qv, .int .i64 qf, .int .i64 qu, .slice qa qn qc, .int .i64 qC, .int .i64 qS] 27))
  have hE : Ext w ((w.alloc (.cells #[.int .i64 pv, .int .i64 pf, .int .i64 pu, .slice pa pn pc, .int .i64 pC, .int .i64 pS] 27)).alloc (.cells #[.int .i64 qv, .int .i64 qf, .int .i64 qu, .slice qa qn qc, .int .i64 qC, .int .i64 qS] 27)) := ((Ext.refl w).alloc _).alloc _
  go_enter Tryd.func17, Tryd.ntmps17
  go_upto_region 1 with fail
  generalize (w.alloc (.cells #[.int .i64 pv, .int .i64 pf, .int .i64 pu, .slice pa pn pc, .int .i64 pC, .int .i64 pS] 27)).alloc (.cells #[.int .i64 qv, .int .i64 qf, .int .i64 qu, .slice qa qn qc, .int .i64 qC, .int .i64 qS] 27) = W at *
  generalize w.heap.size + 1 = qb at hQ ⊢
  generalize w.heap.size = pb at hP ⊢
  have p0 := hP.c 0 _ rfl
  have p1 := hP.c 1 _ rfl
  have p2 := hP.c 2 _ rfl
  have p3 := hP.c 3 _ rfl
  have p4 := hP.c 4 _ rfl
  have p5 := hP.c 5 _ rfl
  have q0 := hQ.c 0 _ rfl
  have q1 := hQ.c 1 _ rfl
  have q2 := hQ.c 2 _ rfl
  have q3 := hQ.c 3 _ rfl
  have q4 := hQ.c 4 _ rfl
  have q5 := hQ.c 5 _ rfl
  go_wp2_with fail
  refine (eformed_any pv pf pu pa pn pc pl pC pS W (hp.ext hE)).mono ?_
  rintro e w1 ⟨rfl, hx⟩
  replace hP := hP.ext hx
  replace hQ := hQ.ext hx
  replace hE := hE.trans hx
  clear hx
  clear p0 p1 p2 p3 p4 p5
  clear q0 q1 q2 q3 q4 q5
  rcases hv : frmB pv pf pu pl with _ | _
  · have HR : Hid (folF pv pf pu pl qv qf qu ql = (false, 1)) := Lib.hid (by unfold folF; rw [if_neg (fun h => by rw [hv] at h; cases h.1)])
    clear hv
    go_wp2_with fail
    go_ret2
    exact ⟨by rw [HR.out]; rfl, hE⟩
  have HPF := Lib.hid hv
  clear hv
  have q0 := hQ.c 0 _ rfl
  have q1 := hQ.c 1 _ rfl
  have q2 := hQ.c 2 _ rfl
  have q3 := hQ.c 3 _ rfl
  have q4 := hQ.c 4 _ rfl
  have q5 := hQ.c 5 _ rfl
  go_wp2_with fail
  refine (eformed_any qv qf qu qa qn qc ql qC qS w1 (hq.ext hE)).mono ?_
  rintro e w2 ⟨rfl, hx⟩
  replace hP := hP.ext hx
  replace hQ := hQ.ext hx
  replace hE := hE.trans hx
  clear hx
  clear q0 q1 q2 q3 q4 q5
  rcases hv : frmB qv qf qu ql with _ | _
  · have HR : Hid (folF pv pf pu pl qv qf qu ql = (false, 1)) := Lib.hid (by unfold folF; rw [if_neg (fun h => by rw [hv] at h; cases h.2)])
    clear hv
    go_wp2_with fail
    go_ret2
    exact ⟨by rw [HR.out]; rfl, hE⟩
  have HQF := Lib.hid hv
  clear hv
  obtain ⟨pv1, pv2, pf1, pf2, pf3, pvl⟩ := frmB_iff.1 HPF.out
  obtain ⟨qv1, qv2, qf1, qf2, qf3, qvl⟩ := frmB_iff.1 HQF.out
  have HPV := Lib.hid pvl
  have HQV := Lib.hid qvl
  have HFO : Hid (folF pv pf pu pl qv qf qu ql = (folB pv pf pl qv qf ql, 0)) := Lib.hid (by unfold folF; rw [if_pos ⟨HPF.out, HQF.out⟩])
  clear pvl qvl HPF HQF
  have p0 := hP.c 0 _ rfl
  have p1 := hP.c 1 _ rfl
  have p2 := hP.c 2 _ rfl
  have p3 := hP.c 3 _ rfl
  have p4 := hP.c 4 _ rfl
  have p5 := hP.c 5 _ rfl
  have q0 := hQ.c 0 _ rfl
  have q1 := hQ.c 1 _ rfl
  have q2 := hQ.c 2 _ rfl
  have q3 := hQ.c 3 _ rfl
  have q4 := hQ.c 4 _ rfl
  have q5 := hQ.c 5 _ rfl
  by_cases k1 : qv = pv + 1
  case neg =>
    have HR : Hid (folF pv pf pu pl qv qf qu ql = (false, 0)) := Lib.hid (by rw [HFO.out]; unfold folB; rw [decide_eq_false k1]; rfl)
    have dk := bne_iff_ne.2 k1
    go_wp2_with fail
    all_goals first | (go_ret2; exact ⟨by rw [HR.out]; rfl, hE⟩) | (exfalso; omega)
  case pos =>
    by_cases k2 : pf ≤ qf
    case neg =>
      have HR : Hid (folF pv pf pu pl qv qf qu ql = (false, 0)) := Lib.hid (by rw [HFO.out]; unfold folB; rw [decide_eq_true k1, decide_eq_false k2]; rfl)
      have k2' : qf < pf := by omega
      have dk := decide_eq_true k2'
      have HK := Lib.hid k1
      subst k1
      go_wp2_with fail
      all_goals first | (go_ret2; exact ⟨by rw [HR.out]; rfl, hE⟩) | (exfalso; omega)
    case pos =>
      have HFB : Hid (folF pv pf pu pl qv qf qu ql = ((match difL pl ql with | none => true | some d => decide (qf ≤ startL pl d + lenL pl d) && decide (qf ≤ startL pl d + lenL ql d)), 0)) := Lib.hid (by rw [HFO.out]; unfold folB; rw [decide_eq_true k1, decide_eq_true k2]; rfl)
      have k2' : ¬ qf < pf := by omega
      have dk := decide_eq_false k2'
      clear HFO
      subst k1
      rcases hd : difL pl ql with _ | D
      case none =>
        have HR : Hid (folF pv pf pu pl (pv + 1) qf qu ql = (true, 0)) := Lib.hid (by rw [HFB.out, hd])
        have HDS : Hid (difS pl ql = false) := Lib.hid (by unfold difS; rw [hd]; rfl)
        clear hd HFB
        generalize difD pl ql = DD at *
        go_wp2_with fail
        refine (difference_any pa pn pc pl qa qn qc ql w2 (hp.ext hE) (hq.ext hE)).mono ?_
        rintro e w3 ⟨rfl, hx⟩
        rw [HDS.out]
        go_wp2_with fail
        go_ret2
        exact ⟨by rw [HR.out]; rfl, (hE.trans hx).alloc _⟩
      case some =>
        have hdb := difL_bd HPV.out HQV.out hd
        have hr1 : rightL pl D = true := rightL_iff.2 ⟨HPV.out, hdb.1, by omega⟩
        have hr2 : rightL ql D = true := rightL_iff.2 ⟨HQV.out, hdb.1, by omega⟩
        have sb := startL_bd HPV.out hdb.1 (show D ≤ 34001 by omega)
        have l1 := lenL_bd HPV.out D
        have l2 := lenL_bd HQV.out D
        have HS : Hid (startF pl D = (startL pl D, 0)) := Lib.hid (by unfold startF; rw [if_pos hr1])
        have HL1 : Hid (lengthF pl D = (lenL pl D, 0)) := Lib.hid (by unfold lengthF; rw [if_pos hr1])
        have HL2 : Hid (lengthF ql D = (lenL ql D, 0)) := Lib.hid (by unfold lengthF; rw [if_pos hr2])
        have HFD : Hid (folF pv pf pu pl (pv + 1) qf qu ql = (decide (qf ≤ startL pl D + lenL pl D) && decide (qf ≤ startL pl D + lenL ql D), 0)) := Lib.hid (by rw [HFB.out, hd])
        have HDD : Hid (difD pl ql = D) := Lib.hid (by unfold difD; rw [hd]; rfl)
        have HDS : Hid (difS pl ql = true) := Lib.hid (by unfold difS; rw [hd]; rfl)
        clear HFB hd hr1 hr2
        generalize startL pl D = S0 at *
        generalize lenL pl D = LA at *
        generalize lenL ql D = LB at *
        have lb1 : 86399000000 ≤ LA ∧ LA ≤ 86401000000 := by omega
        have lb2 : 86399000000 ≤ LB ∧ LB ≤ 86401000000 := by omega
        clear l1 l2
        go_wp2_with fail
        refine (difference_any pa pn pc pl qa qn qc ql w2 (hp.ext hE) (hq.ext hE)).mono ?_
        rintro e w3 ⟨rfl, hx⟩
        rw [HDD.out, HDS.out]
        replace hP := hP.ext hx
        replace hQ := hQ.ext hx
        replace hE := hE.trans hx
        clear hx
        clear p0 p1 p2 p3 p4 p5
        clear q0 q1 q2 q3 q4 q5
        go_upto_region 6 with fail
        have hD := Bk.new w3 3 #[.int .i64 D]
        have hx := (Ext.refl w3).alloc (.cells #[.int .i64 D] 3)
        generalize w3.alloc (.cells #[.int .i64 D] 3) = V3 at *
        generalize w3.heap.size = db at *
        replace hP := hP.ext hx
        replace hQ := hQ.ext hx
        replace hE := hE.trans hx
        clear hx
        have p3 := hP.c 3 _ rfl
        have d0 := hD.c 0 _ rfl
        go_wp2_with fail
        refine (lStart_any pa pn pc pl D V3 (hp.ext hE)).mono ?_
        rintro e w4 ⟨rfl, hx⟩
        rw [HS.out]
        replace hD := hD.ext hx
        replace hP := hP.ext hx
        replace hQ := hQ.ext hx
        replace hE := hE.trans hx
        clear hx
        clear p3 d0
        go_upto_region 9 with fail
        have hS := Bk.new w4 3 #[.int .i64 S0]
        have hx := (Ext.refl w4).alloc (.cells #[.int .i64 S0] 3)
        generalize w4.alloc (.cells #[.int .i64 S0] 3) = V4 at *
        generalize w4.heap.size = sb' at *
        replace hD := hD.ext hx
        replace hP := hP.ext hx
        replace hQ := hQ.ext hx
        replace hE := hE.trans hx
        clear hx
        have HE1 : Hid (∀ W, Ext V4 W → Calls Tryd.prog 48 #[.slice pa pn pc, .pointer (some ⟨db, 0, none⟩), .pointer (some ⟨sb', 0, none⟩)] W fun e w' => e = .returned (.int .i64 (S0 + LA)) ∧ Ext W w') := Lib.hid (fun W h => eends_any pa pn pc pl D S0 LA db sb' W (hp.ext (hE.trans h)) HL1.out lb1 sb (hD.ext h) (hS.ext h))
        have HE2 : Hid (∀ W, Ext V4 W → Calls Tryd.prog 48 #[.slice qa qn qc, .pointer (some ⟨db, 0, none⟩), .pointer (some ⟨sb', 0, none⟩)] W fun e w' => e = .returned (.int .i64 (S0 + LB)) ∧ Ext W w') := Lib.hid (fun W h => eends_any qa qn qc ql D S0 LB db sb' W (hq.ext (hE.trans h)) HL2.out lb2 sb (hD.ext h) (hS.ext h))
        have p3 := hP.c 3 _ rfl
        have q3 := hQ.c 3 _ rfl
        have q1 := hQ.c 1 _ rfl
        have plt := hP.lt
        have qlt := hQ.lt
        have hg := @grow_cell
        by_cases g1 : qf ≤ S0 + LA
        · have dg1 := decide_eq_true g1
          by_cases g2 : qf ≤ S0 + LB
          · have dg2 := decide_eq_true g2
            have HR : Hid (folF pv pf pu pl (pv + 1) qf qu ql = (true, 0)) := Lib.hid (by rw [HFD.out, dg1, dg2]; rfl)
            go_upto_region 10 with fail
            refine region_ext (by kernel_rfl) (by kernel_rfl) ?_
            repeat (go_big_quiet_step ((go_at_call 48; first | with_reducible exact Calls.regrown_of (HE1.out _ (ext_grow _ _ _)) | with_reducible exact Calls.regrown_of (HE2.out _ (ext_grow _ _ _)))))
            refine wpQuiet_nil ?_
            intro w9 hx
            go_wp2_with fail
            go_ret2
            exact ⟨by rw [HR.out]; rfl, hE.trans hx⟩
          · have dg2 := decide_eq_false g2
            have HR : Hid (folF pv pf pu pl (pv + 1) qf qu ql = (false, 0)) := Lib.hid (by rw [HFD.out, dg1, dg2]; rfl)
            go_upto_region 10 with fail
            refine region_ext (by kernel_rfl) (by kernel_rfl) ?_
            repeat (go_big_quiet_step ((go_at_call 48; first | with_reducible exact Calls.regrown_of (HE1.out _ (ext_grow _ _ _)) | with_reducible exact Calls.regrown_of (HE2.out _ (ext_grow _ _ _)))))
            refine wpQuiet_nil ?_
            intro w9 hx
            go_wp2_with fail
            go_ret2
            exact ⟨by rw [HR.out]; rfl, hE.trans hx⟩
        · have dg1 := decide_eq_false g1
          have HR : Hid (folF pv pf pu pl (pv + 1) qf qu ql = (false, 0)) := Lib.hid (by rw [HFD.out, dg1]; rfl)
          go_upto_region 10 with fail
          refine region_ext (by kernel_rfl) (by kernel_rfl) ?_
          repeat (go_big_quiet_step ((go_at_call 48; first | with_reducible exact Calls.regrown_of (HE1.out _ (ext_grow _ _ _)) | with_reducible exact Calls.regrown_of (HE2.out _ (ext_grow _ _ _)))))
          refine wpQuiet_nil ?_
          intro w9 hx
          go_wp2_with fail
          go_ret2
          exact ⟨by rw [HR.out]; rfl, hE.trans hx⟩
end Go.Proofs.YtcohdojfbnijpaaDoor
