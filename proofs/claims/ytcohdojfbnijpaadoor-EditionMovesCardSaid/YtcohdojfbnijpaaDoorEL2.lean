/-
  The laws EditionFollows and EditionBefore: their plain part; EditionFollows walked. Written by wip/gen_el.py.
-/
import Derived.Test.YtcohdojfbnijpaaDoorEL1
namespace Go.Proofs.YtcohdojfbnijpaaDoor
open Go.RowKit Go.Sort Go.Shelf
set_option linter.unusedSimpArgs false
set_option linter.unusedVariables false
set_option maxRecDepth 100000

theorem folF_yes {av af au : Int} {al : List Lp} {bv bf bu : Int} {bl : List Lp} (h1 : frmB av af au al = true) (h2 : frmB bv bf bu bl = true) : folF av af au al bv bf bu bl = (folB av af al bv bf bl, 0) := by
  unfold folF; rw [if_pos ⟨h1, h2⟩]
theorem folB_iff {av af : Int} {al : List Lp} {bv bf : Int} {bl : List Lp} : folB av af al bv bf bl = true ↔ bv = av + 1 ∧ af ≤ bf ∧ ∀ d, difL al bl = some d → bf ≤ startL al d + lenL al d ∧ bf ≤ startL al d + lenL bl d := by
  unfold folB
  rw [Bool.and_eq_true, Bool.and_eq_true, decide_eq_true_iff, decide_eq_true_iff]
  cases difL al bl <;> simp
theorem dayF_ok {l : List Lp} {t : Int} (hv : validL l = true) (h0 : 0 ≤ t) (h9 : t ≤ 3000000000000000) (h : t < startL l 34001) : ∃ d, dayF l t = (d, 0) ∧ IsDay l t d ∧ 0 ≤ d ∧ d ≤ 34000 := by
  obtain ⟨h3, h4, h5⟩ := dayL_spec hv h0 h
  exact ⟨_, dayF_in hv h3 h4 h5 h9, h3, h4, h5⟩
theorem offF_ok {l : List Lp} {t d : Int} (h : dayF l t = (d, 0)) : offF l t = (offL l d, 0) := by unfold offF; rw [h]; rfl
theorem dsucc {d e : Int} (h : d ≤ e) : d = e ∨ d + 1 ≤ e := by omega
/-- Before the end of the first different day all times are the same. -/
theorem follow_plain {al bl : List Lp} {t d : Int} (ha : validL al = true) (hb : validL bl = true) (hd : difL al bl = some d) (h0 : 0 ≤ t) (h9 : t ≤ 3000000000000000)
    (h1 : t < startL al d + lenL al d) (h2 : t < startL al d + lenL bl d) : dayF al t = dayF bl t ∧ offF al t = offF bl t := by
  obtain ⟨q1, -, -, -⟩ := difL_step (validL_from ha) (validL_from hb) hd
  have hdb := difL_bd ha hb hd
  rw [← startL_succ] at h1
  have e2 := startL_same ha hb q1 hdb.1 (Int.le_refl d)
  rw [e2, ← startL_succ] at h2
  obtain ⟨e, he, hi, i0, i9⟩ := dayF_ok ha h0 h9 (Int.lt_of_lt_of_le h1 (startL_mono ha (by omega)))
  have hed : e ≤ d := by
    rcases Int.lt_or_le d e with h | h
    · have := startL_mono ha (show d + 1 ≤ e by omega)
      have := hi.1
      omega
    · exact h
  have s1 := startL_same ha hb q1 i0 hed
  have hj : IsDay bl t e := by
    refine ⟨by have := hi.1; omega, ?_⟩
    rcases dsucc hed with h | h
    · rw [h]; exact h2
    · rw [← startL_same ha hb q1 (by omega) h]; exact hi.2
  have hf := dayF_in hb hj i0 i9 h9
  refine ⟨he.trans hf.symm, ?_⟩
  rw [offF_ok he, offF_ok hf]
  have : offL al e = offL bl e := by unfold startL at s1; omega
  rw [this]
theorem follows_plain {av af au : Int} {al : List Lp} {bv bf bu : Int} {bl : List Lp} {t : Int} (h1 : frmB av af au al = true) (h2 : frmB bv bf bu bl = true) (h : folB av af al bv bf bl = true) (h0 : 0 ≤ t) (h9 : t < bf) :
    dayF al t = dayF bl t ∧ offF al t = offF bl t := by
  have f1 := frmB_iff.1 h1
  have f2 := frmB_iff.1 h2
  obtain ⟨-, -, h3⟩ := folB_iff.1 h
  cases hd : difL al bl with
  | none => rw [difL_none.1 hd]; exact ⟨rfl, rfl⟩
  | some d =>
    have := h3 d hd
    exact follow_plain f1.2.2.2.2.2 f2.2.2.2.2.2 hd h0 (by omega) (by omega) (by omega)
/-- The end of the first different day by the shorter table: two days. -/
theorem before_plain {al bl : List Lp} {d bf : Int} (ha : validL al = true) (hb : validL bl = true) (hd : difL al bl = some d) (hbf : bf ≤ 3000000000000000) (h : startL al d + min (lenL al d) (lenL bl d) < bf) :
    ∃ x y, dayF al (startL al d + min (lenL al d) (lenL bl d)) = (x, 0) ∧ dayF bl (startL al d + min (lenL al d) (lenL bl d)) = (y, 0) ∧ x ≠ y := by
  obtain ⟨q1, q2, -, -⟩ := difL_step (validL_from ha) (validL_from hb) hd
  have hdb := difL_bd ha hb hd
  have e2 := startL_same ha hb q1 hdb.1 (Int.le_refl d)
  have l1 := lenL_step ha d
  have l2 := lenL_step hb d
  have b1 := lenL_bd ha d
  have b2 := lenL_bd hb d
  have b3 := lenL_bd ha (d + 1)
  have b4 := lenL_bd hb (d + 1)
  have hne : lenL al d ≠ lenL bl d := by omega
  have s1 := startL_succ al d
  have s2 := startL_succ bl d
  have s3 := startL_succ al (d + 1)
  have s4 := startL_succ bl (d + 1)
  generalize hE : startL al d + min (lenL al d) (lenL bl d) = E at *
  by_cases hlt : lenL al d < lenL bl d
  · have hE1 : E = startL al (d + 1) := by omega
    exact ⟨d + 1, d, dayF_in ha ⟨by omega, by omega⟩ (by omega) (by omega) (by omega), dayF_in hb ⟨by omega, by omega⟩ (by omega) (by omega) (by omega), by omega⟩
  · have hE1 : E = startL bl (d + 1) := by omega
    exact ⟨d, d + 1, dayF_in ha ⟨by omega, by omega⟩ (by omega) (by omega) (by omega), dayF_in hb ⟨by omega, by omega⟩ (by omega) (by omega) (by omega), by omega⟩

set_option maxHeartbeats 8000000 in
theorem efollows_law (pv pf pu : Int) (pa : Option Addr) (pn pc : Nat) (pl : List Lp) (pC pS : Int) (qv qf qu : Int) (qa : Option Addr) (qn qc : Nat) (ql : List Lp) (qC qS : Int) (x : Int) (hx0 : 0 ≤ x ∧ x ≤ 18446744073709551615) (w : World) (hp : Rw w pa pn pc pl) (hq : Rw w qa qn qc ql) (ht : TB w) :
    Calls Tryd.prog 9 #[.agg #[.int .i64 pv, .int .i64 pf, .int .i64 pu, .slice pa pn pc, .int .i64 pC, .int .i64 pS], .agg #[.int .i64 qv, .int .i64 qf, .int .i64 qu, .slice qa qn qc, .int .i64 qC, .int .i64 qS], .int .u64 x] w (Yes w) := by
  have HX := Lib.hid hx0
  clear hx0
  have HT := Lib.hid ht
  have b1 := Lib.hid hp.bd
  have b2 := Lib.hid hq.bd
  clear ht
  have hP := Bk.new w 27 #[.int .i64 pv, .int .i64 pf, .int .i64 pu, .slice pa pn pc, .int .i64 pC, .int .i64 pS]
  have hQ := Bk.new (w.alloc (.cells #[.int .i64 pv, .int .i64 pf, .int .i64 pu, .slice pa pn pc, .int .i64 pC, .int .i64 pS] 27)) 27 #[.int .i64 qv, .int .i64 qf, .int .i64 qu, .slice qa qn qc, .int .i64 qC, .int .i64 qS]
  rw [World.size_alloc] at hQ
  replace hP := hP.ext ((Ext.refl _).alloc (.cells #[.int .i64 qv, .int .i64 qf, .int .i64 qu, .slice qa qn qc, .int .i64 qC, .int .i64 qS] 27))
  have hE : Ext w ((w.alloc (.cells #[.int .i64 pv, .int .i64 pf, .int .i64 pu, .slice pa pn pc, .int .i64 pC, .int .i64 pS] 27)).alloc (.cells #[.int .i64 qv, .int .i64 qf, .int .i64 qu, .slice qa qn qc, .int .i64 qC, .int .i64 qS] 27)) := ((Ext.refl w).alloc _).alloc _
  go_enter Tryd.func9, Tryd.ntmps9
  go_upto_region 1 with fail
  generalize (w.alloc (.cells #[.int .i64 pv, .int .i64 pf, .int .i64 pu, .slice pa pn pc, .int .i64 pC, .int .i64 pS] 27)).alloc (.cells #[.int .i64 qv, .int .i64 qf, .int .i64 qu, .slice qa qn qc, .int .i64 qC, .int .i64 qS] 27) = W at *
  generalize w.heap.size + 1 = qb at hQ ⊢
  generalize w.heap.size = pb at hP ⊢
  have p0 := hP.c 0 _ rfl
  have p1 := hP.c 1 _ rfl
  have p2 := hP.c 2 _ rfl
  have p3 := hP.c 3 _ rfl
  have p4 := hP.c 4 _ rfl
  have p5 := hP.c 5 _ rfl
  have q0 := hQ.c 0 _ rfl
  have q1 := hQ.c 1 _ rfl
  have q2 := hQ.c 2 _ rfl
  have q3 := hQ.c 3 _ rfl
  have q4 := hQ.c 4 _ rfl
  have q5 := hQ.c 5 _ rfl
  go_wp2_with fail
  refine (ehead_any W (TB.ext HT.out hE)).mono ?_
  rintro e w1 ⟨rfl, hx⟩
  replace hP := hP.ext hx
  replace hQ := hQ.ext hx
  replace hE := hE.trans hx
  clear hx p0 p1 p2 p3 p4 p5 q0 q1 q2 q3 q4 q5
  have p0 := hP.c 0 _ rfl
  have p1 := hP.c 1 _ rfl
  have p2 := hP.c 2 _ rfl
  have p3 := hP.c 3 _ rfl
  have p4 := hP.c 4 _ rfl
  have p5 := hP.c 5 _ rfl
  have q0 := hQ.c 0 _ rfl
  have q1 := hQ.c 1 _ rfl
  have q2 := hQ.c 2 _ rfl
  have q3 := hQ.c 3 _ rfl
  have q4 := hQ.c 4 _ rfl
  have q5 := hQ.c 5 _ rfl
  go_wp2_with fail
  refine (l20few_any none 0 0 [] pa pn pc qa qn qc w1 (edr0 w1) b1.out.2.2 b2.out.2.2).mono ?_
  rintro e w2 ⟨rfl, hx⟩
  replace hP := hP.ext hx
  replace hQ := hQ.ext hx
  replace hE := hE.trans hx
  clear hx p0 p1 p2 p3 p4 p5 q0 q1 q2 q3 q4 q5
  have p0 := hP.c 0 _ rfl
  have p1 := hP.c 1 _ rfl
  have p2 := hP.c 2 _ rfl
  have p3 := hP.c 3 _ rfl
  have p4 := hP.c 4 _ rfl
  have p5 := hP.c 5 _ rfl
  have q0 := hQ.c 0 _ rfl
  have q1 := hQ.c 1 _ rfl
  have q2 := hQ.c 2 _ rfl
  have q3 := hQ.c 3 _ rfl
  have q4 := hQ.c 4 _ rfl
  have q5 := hQ.c 5 _ rfl
  rcases hv : few3 [] pn qn with _ | _
  · clear hv
    go_wp2_with fail
    go_ret
    exact ⟨rfl, hE⟩
  have HF := Lib.hid hv
  clear hv
  go_wp2_with fail
  refine (rformed_any pv pf pu pa pn pc pl pC pS w2 (hp.ext hE)).mono ?_
  rintro e w3 ⟨rfl, hx⟩
  replace hP := hP.ext hx
  replace hQ := hQ.ext hx
  replace hE := hE.trans hx
  clear hx p0 p1 p2 p3 p4 p5 q0 q1 q2 q3 q4 q5
  have p0 := hP.c 0 _ rfl
  have p1 := hP.c 1 _ rfl
  have p2 := hP.c 2 _ rfl
  have p3 := hP.c 3 _ rfl
  have p4 := hP.c 4 _ rfl
  have p5 := hP.c 5 _ rfl
  have q0 := hQ.c 0 _ rfl
  have q1 := hQ.c 1 _ rfl
  have q2 := hQ.c 2 _ rfl
  have q3 := hQ.c 3 _ rfl
  have q4 := hQ.c 4 _ rfl
  have q5 := hQ.c 5 _ rfl
  rcases hv : frmB pv pf pu pl with _ | _
  · clear hv
    go_wp2_with fail
    go_ret
    exact ⟨rfl, hE⟩
  have HP := Lib.hid hv
  clear hv
  go_wp2_with fail
  refine (rformed_any qv qf qu qa qn qc ql qC qS w3 (hq.ext hE)).mono ?_
  rintro e w4 ⟨rfl, hx⟩
  replace hP := hP.ext hx
  replace hQ := hQ.ext hx
  replace hE := hE.trans hx
  clear hx p0 p1 p2 p3 p4 p5 q0 q1 q2 q3 q4 q5
  have p0 := hP.c 0 _ rfl
  have p1 := hP.c 1 _ rfl
  have p2 := hP.c 2 _ rfl
  have p3 := hP.c 3 _ rfl
  have p4 := hP.c 4 _ rfl
  have p5 := hP.c 5 _ rfl
  have q0 := hQ.c 0 _ rfl
  have q1 := hQ.c 1 _ rfl
  have q2 := hQ.c 2 _ rfl
  have q3 := hQ.c 3 _ rfl
  have q4 := hQ.c 4 _ rfl
  have q5 := hQ.c 5 _ rfl
  rcases hv : frmB qv qf qu ql with _ | _
  · clear hv
    go_wp2_with fail
    go_ret
    exact ⟨rfl, hE⟩
  have HQ := Lib.hid hv
  clear hv
  go_wp2_with fail
  refine (efol_any pv pf pu pa pn pc pl pC pS qv qf qu qa qn qc ql qC qS w4 (hp.ext hE) (hq.ext hE)).mono ?_
  rintro e w5 ⟨rfl, hx⟩
  replace hP := hP.ext hx
  replace hQ := hQ.ext hx
  replace hE := hE.trans hx
  clear hx p0 p1 p2 p3 p4 p5 q0 q1 q2 q3 q4 q5
  have p0 := hP.c 0 _ rfl
  have p1 := hP.c 1 _ rfl
  have p2 := hP.c 2 _ rfl
  have p3 := hP.c 3 _ rfl
  have p4 := hP.c 4 _ rfl
  have p5 := hP.c 5 _ rfl
  have q0 := hQ.c 0 _ rfl
  have q1 := hQ.c 1 _ rfl
  have q2 := hQ.c 2 _ rfl
  have q3 := hQ.c 3 _ rfl
  have q4 := hQ.c 4 _ rfl
  have q5 := hQ.c 5 _ rfl
  rw [folF_yes HP.out HQ.out]
  rcases hv : folB pv pf pl qv qf ql with _ | _
  · clear hv
    go_wp2_with fail
    go_ret
    exact ⟨rfl, hE⟩
  have HY := Lib.hid hv
  clear hv
  rcases Int.lt_or_le 0 qf with hz | hz
  rotate_left
  · have p9 : qf = 0 := by have := (frmB_iff.1 HQ.out).2.2.1; omega
    have p8 := beq_iff_eq.2 p9
    have p7 := decide_eq_true p9
    clear hz p9
    go_wp2_with fail
    go_ret
    exact ⟨rfl, hE⟩
  have p7 : (qf == 0) = false := beq_eq_false_iff_ne.2 (by omega)
  have p8 : decide (qf = 0) = false := decide_eq_false (by omega)
  have p9 : (qf = 0) = False := eq_false (by omega)
  have HZ := Lib.hid hz
  clear hz
  have hwr : IntKind.u64.wrap qf = qf := by have := (frmB_iff.1 HQ.out).2.2; have := HZ.out; simp [IntKind.wrap, IntKind.bits, IntKind.signed]; omega
  have hw0 : ¬ IntKind.u64.wrap qf = 0 := by rw [hwr]; have := HZ.out; omega
  have HB : Hid (0 ≤ wrap64 (x.tmod (IntKind.u64.wrap qf)) ∧ wrap64 (x.tmod (IntKind.u64.wrap qf)) < qf) := Lib.hid (by
    have f1 := frmB_iff.1 HQ.out
    have f2 := HZ.out
    have f3 := HX.out
    have e1 := Int.emod_nonneg x (show qf ≠ 0 by omega)
    have e2 := Int.emod_lt_of_pos x (show 0 < qf by omega)
    rw [hwr, Int.tmod_eq_emod_of_nonneg f3.1]
    generalize x % qf = y at e1 e2
    have : wrap64 y = y := by unfold wrap64; omega
    rw [this]; exact ⟨e1, e2⟩)
  clear hwr
  go_wp2_with fail
  generalize wrap64 (x.tmod (IntKind.u64.wrap qf)) = t at HB ⊢
  have HR := Lib.hid (follows_plain HP.out HQ.out HY.out HB.out.1 HB.out.2)
  have HV := Lib.hid (folB_iff.1 HY.out)
  refine (lDay_any pa pn pc pl t w5 (hp.ext hE)).mono ?_
  rintro e w6 ⟨rfl, hx⟩
  replace hP := hP.ext hx
  replace hQ := hQ.ext hx
  replace hE := hE.trans hx
  clear hx p0 p1 p2 p3 p4 p5 q0 q1 q2 q3 q4 q5
  have p0 := hP.c 0 _ rfl
  have p1 := hP.c 1 _ rfl
  have p2 := hP.c 2 _ rfl
  have p3 := hP.c 3 _ rfl
  have p4 := hP.c 4 _ rfl
  have p5 := hP.c 5 _ rfl
  have q0 := hQ.c 0 _ rfl
  have q1 := hQ.c 1 _ rfl
  have q2 := hQ.c 2 _ rfl
  have q3 := hQ.c 3 _ rfl
  have q4 := hQ.c 4 _ rfl
  have q5 := hQ.c 5 _ rfl
  rw [HR.out.1]
  go_wp2_with fail
  refine (lDay_any qa qn qc ql t w6 (hq.ext hE)).mono ?_
  rintro e w7 ⟨rfl, hx⟩
  replace hP := hP.ext hx
  replace hQ := hQ.ext hx
  replace hE := hE.trans hx
  clear hx p0 p1 p2 p3 p4 p5 q0 q1 q2 q3 q4 q5
  have p0 := hP.c 0 _ rfl
  have p1 := hP.c 1 _ rfl
  have p2 := hP.c 2 _ rfl
  have p3 := hP.c 3 _ rfl
  have p4 := hP.c 4 _ rfl
  have p5 := hP.c 5 _ rfl
  have q0 := hQ.c 0 _ rfl
  have q1 := hQ.c 1 _ rfl
  have q2 := hQ.c 2 _ rfl
  have q3 := hQ.c 3 _ rfl
  have q4 := hQ.c 4 _ rfl
  have q5 := hQ.c 5 _ rfl
  go_wp2_with fail
  refine (lOffset_any pa pn pc pl t w7 (hp.ext hE)).mono ?_
  rintro e w8 ⟨rfl, hx⟩
  replace hP := hP.ext hx
  replace hQ := hQ.ext hx
  replace hE := hE.trans hx
  clear hx p0 p1 p2 p3 p4 p5 q0 q1 q2 q3 q4 q5
  have p0 := hP.c 0 _ rfl
  have p1 := hP.c 1 _ rfl
  have p2 := hP.c 2 _ rfl
  have p3 := hP.c 3 _ rfl
  have p4 := hP.c 4 _ rfl
  have p5 := hP.c 5 _ rfl
  have q0 := hQ.c 0 _ rfl
  have q1 := hQ.c 1 _ rfl
  have q2 := hQ.c 2 _ rfl
  have q3 := hQ.c 3 _ rfl
  have q4 := hQ.c 4 _ rfl
  have q5 := hQ.c 5 _ rfl
  rw [HR.out.2]
  go_wp2_with fail
  have g1 := HV.out.1
  subst g1
  have g2 := decide_eq_true HV.out.2.1
  have g3 : wrap64 (pv + 1) = pv + 1 := by have := frmB_iff.1 HP.out; unfold wrap64; omega
  refine (lOffset_any qa qn qc ql t w8 (hq.ext hE)).mono ?_
  rintro e w9 ⟨rfl, hx⟩
  replace hP := hP.ext hx
  replace hQ := hQ.ext hx
  replace hE := hE.trans hx
  clear hx p0 p1 p2 p3 p4 p5 q0 q1 q2 q3 q4 q5
  have p0 := hP.c 0 _ rfl
  have p1 := hP.c 1 _ rfl
  have p2 := hP.c 2 _ rfl
  have p3 := hP.c 3 _ rfl
  have p4 := hP.c 4 _ rfl
  have p5 := hP.c 5 _ rfl
  have q0 := hQ.c 0 _ rfl
  have q1 := hQ.c 1 _ rfl
  have q2 := hQ.c 2 _ rfl
  have q3 := hQ.c 3 _ rfl
  have q4 := hQ.c 4 _ rfl
  have q5 := hQ.c 5 _ rfl
  go_wp2_with fail
  go_ret
  exact ⟨rfl, hE⟩
end Go.Proofs.YtcohdojfbnijpaaDoor
