/-
  The law EditionMatchesReference. Written by wip/gen_el6.py.
-/
import Derived.Test.YtcohdojfbnijpaaDoorEL1
namespace Go.Proofs.YtcohdojfbnijpaaDoor
open Go.RowKit Go.Sort Go.Shelf
set_option linter.unusedSimpArgs false
set_option linter.unusedVariables false
set_option maxRecDepth 100000

theorem eqSg (d m d' m' : Int) (w : World) : (Op.equalIn 10000 25 (.agg #[.int .i64 d, .int .i64 m]) (.agg #[.int .i64 d', .int .i64 m'])).run Tryd.prog w = .ok (decide (d = d' ∧ m = m')) w := by
  have u3 := Tryd.underlying3
  have a3 := Tryd.isAgg3
  have z3 := Tryd.sizeOf3
  have hS : Tryd.prog.underlying 25 = some (.struct (Tryd.prog.fieldsOf 25)) := by kernel_rfl
  have hp : Tryd.prog.stoodInHeld 25 = false := by kernel_rfl
  rw [show (10000 : Nat) = 9999 + 1 from rfl, run_equalIn_agg w 9999 25 _ _ hS hp]
  simp only [Program.fieldsOf, Tryd.underlying25]
  go_simp
  by_cases h1 : d = d' <;> by_cases h2 : m = m' <;> simp [h1, h2]
set_option maxHeartbeats 4000000 in
/-- Two editions that read alike are the same. -/
theorem rsame20_any (v f u : Int) (a : Option Addr) (n c : Nat) (a2 : Option Addr) (n2 c2 : Nat) (l : List Lp) (C S : Int) (w : World) (h1 : Rw w a n c l) (h2 : Rw w a2 n2 c2 l) :
    Calls Tryd.prog 14 #[.agg #[.int .i64 v, .int .i64 f, .int .i64 u, .slice a n c, .int .i64 C, .int .i64 S], .agg #[.int .i64 v, .int .i64 f, .int .i64 u, .slice a2 n2 c2, .int .i64 C, .int .i64 S]] w fun e w' => e = .returned (.bool true) ∧ Ext w w' := by
  have hP := Bk.new w 27 #[.int .i64 v, .int .i64 f, .int .i64 u, .slice a n c, .int .i64 C, .int .i64 S]
  have hQ := Bk.new (w.alloc (.cells #[.int .i64 v, .int .i64 f, .int .i64 u, .slice a n c, .int .i64 C, .int .i64 S] 27)) 27 #[.int .i64 v, .int .i64 f, .int .i64 u, .slice a2 n2 c2, .int .i64 C, .int .i64 S]
  rw [World.size_alloc] at hQ
  replace hP := hP.ext ((Ext.refl _).alloc (.cells #[.int .i64 v, .int .i64 f, .int .i64 u, .slice a2 n2 c2, .int .i64 C, .int .i64 S] 27))
  have hE : Ext w ((w.alloc (.cells #[.int .i64 v, .int .i64 f, .int .i64 u, .slice a n c, .int .i64 C, .int .i64 S] 27)).alloc (.cells #[.int .i64 v, .int .i64 f, .int .i64 u, .slice a2 n2 c2, .int .i64 C, .int .i64 S] 27)) := ((Ext.refl w).alloc _).alloc _
  go_enter Tryd.func14, Tryd.ntmps14
  go_upto_region 1 with fail
  generalize (w.alloc (.cells #[.int .i64 v, .int .i64 f, .int .i64 u, .slice a n c, .int .i64 C, .int .i64 S] 27)).alloc (.cells #[.int .i64 v, .int .i64 f, .int .i64 u, .slice a2 n2 c2, .int .i64 C, .int .i64 S] 27) = W at *
  generalize w.heap.size + 1 = qb at hQ ⊢
  generalize w.heap.size = pb at hP ⊢
  have p0 := hP.c 0 _ rfl
  have p1 := hP.c 1 _ rfl
  have p2 := hP.c 2 _ rfl
  have p3 := hP.c 3 _ rfl
  have p4 := hP.c 4 _ rfl
  have p5 := hP.c 5 _ rfl
  have q0 := hQ.c 0 _ rfl
  have q1 := hQ.c 1 _ rfl
  have q2 := hQ.c 2 _ rfl
  have q3 := hQ.c 3 _ rfl
  have q4 := hQ.c 4 _ rfl
  have q5 := hQ.c 5 _ rfl
  go_wp2_with fail
  refine (r17same_any a n c l a2 n2 c2 l W (h1.ext hE) (h2.ext hE)).mono ?_
  rintro _ w1 ⟨rfl, hx⟩
  rw [decide_eq_true rfl]
  replace hP := hP.ext hx
  replace hQ := hQ.ext hx
  replace hE := hE.trans hx
  clear hx p0 p1 p2 p3 p4 p5 q0 q1 q2 q3 q4 q5
  have p0 := hP.c 0 _ rfl
  have p1 := hP.c 1 _ rfl
  have p2 := hP.c 2 _ rfl
  have p3 := hP.c 3 _ rfl
  have p4 := hP.c 4 _ rfl
  have p5 := hP.c 5 _ rfl
  have q0 := hQ.c 0 _ rfl
  have q1 := hQ.c 1 _ rfl
  have q2 := hQ.c 2 _ rfl
  have q3 := hQ.c 3 _ rfl
  have q4 := hQ.c 4 _ rfl
  have q5 := hQ.c 5 _ rfl
  have qs := fun W => eqSg C S C S W
  go_wp2_with fail
  go_ret
  exact ⟨rfl, hE⟩
theorem SgP.yes {key once v f u : Int} {l : List Lp} {w w' : World} {e : Ending} (h : SgP key once v f u l w e w') (h1 : frmB v f u l = true) (h2 : sgOk key once = true) :
    Ext w w' ∧ ∃ a' n' c', e = .returned (.tuple #[.agg #[.int .i64 v, .int .i64 f, .int .i64 u, .slice a' n' c', .int .i64 (sgC key once (msgE v f u l)), .int .i64 (sgS key once (msgE v f u l))], .int .i64 0]) ∧ Rw w' a' n' c' l := by
  obtain ⟨hE, h | h⟩ := h
  · exact ⟨hE, h.2.2⟩
  · rcases h.1 with h | h
    · rw [h1] at h; cases h
    · rw [h2] at h; cases h
theorem SgP.no {key once v f u : Int} {l : List Lp} {w w' : World} {e : Ending} (h : SgP key once v f u l w e w') (h1 : ¬ (frmB v f u l = true ∧ sgOk key once = true)) :
    Ext w w' ∧ e = .returned (.tuple #[.agg #[.int .i64 0, .int .i64 0, .int .i64 0, .slice none 0 0, .int .i64 0, .int .i64 0], .int .i64 1]) := by
  obtain ⟨hE, h | h⟩ := h
  · exact absurd ⟨h.1, h.2.1⟩ h1
  · exact ⟨hE, h.2⟩

set_option maxHeartbeats 16000000 in
theorem ematch_law (a : Option Addr) (n c : Nat) (es : List Ed) (pv pf pu : Int) (pa : Option Addr) (pn pc : Nat) (pl : List Lp) (pC pS : Int) (qv qf qu : Int) (qa : Option Addr) (qn qc : Nat) (ql : List Lp) (qC qS : Int) (d m key once pub t : Int) (w : World) (he : EdR w a n c es) (hp : Rw w pa pn pc pl) (hq : Rw w qa qn qc ql) (ht : TB w) :
    Calls Tryd.prog 3 #[.slice a n c, .agg #[.int .i64 pv, .int .i64 pf, .int .i64 pu, .slice pa pn pc, .int .i64 pC, .int .i64 pS], .agg #[.int .i64 qv, .int .i64 qf, .int .i64 qu, .slice qa qn qc, .int .i64 qC, .int .i64 qS], .agg #[.int .i64 d, .int .i64 m], .int .i64 key, .int .i64 once, .int .i64 pub, .int .i64 t] w (Yes w) := by
  have HT := Lib.hid ht
  have c1 := Lib.hid hp.bd
  have c2 := Lib.hid hq.bd
  clear ht
  have hP := Bk.new w 27 #[.int .i64 pv, .int .i64 pf, .int .i64 pu, .slice pa pn pc, .int .i64 pC, .int .i64 pS]
  have hQ := Bk.new (w.alloc (.cells #[.int .i64 pv, .int .i64 pf, .int .i64 pu, .slice pa pn pc, .int .i64 pC, .int .i64 pS] 27)) 27 #[.int .i64 qv, .int .i64 qf, .int .i64 qu, .slice qa qn qc, .int .i64 qC, .int .i64 qS]
  have hK := Bk.new ((w.alloc (.cells #[.int .i64 pv, .int .i64 pf, .int .i64 pu, .slice pa pn pc, .int .i64 pC, .int .i64 pS] 27)).alloc (.cells #[.int .i64 qv, .int .i64 qf, .int .i64 qu, .slice qa qn qc, .int .i64 qC, .int .i64 qS] 27)) 29 #[.int .i64 d, .int .i64 m]
  rw [World.size_alloc] at hQ
  rw [World.size_alloc, World.size_alloc] at hK
  replace hQ := hQ.ext ((Ext.refl _).alloc (.cells #[.int .i64 d, .int .i64 m] 29))
  replace hP := hP.ext (((Ext.refl _).alloc (.cells #[.int .i64 qv, .int .i64 qf, .int .i64 qu, .slice qa qn qc, .int .i64 qC, .int .i64 qS] 27)).alloc (.cells #[.int .i64 d, .int .i64 m] 29))
  have hE : Ext w (((w.alloc (.cells #[.int .i64 pv, .int .i64 pf, .int .i64 pu, .slice pa pn pc, .int .i64 pC, .int .i64 pS] 27)).alloc (.cells #[.int .i64 qv, .int .i64 qf, .int .i64 qu, .slice qa qn qc, .int .i64 qC, .int .i64 qS] 27)).alloc (.cells #[.int .i64 d, .int .i64 m] 29)) := (((Ext.refl w).alloc _).alloc _).alloc _
  go_enter Tryd.func3, Tryd.ntmps3
  go_upto_region 1 with fail
  generalize ((w.alloc (.cells #[.int .i64 pv, .int .i64 pf, .int .i64 pu, .slice pa pn pc, .int .i64 pC, .int .i64 pS] 27)).alloc (.cells #[.int .i64 qv, .int .i64 qf, .int .i64 qu, .slice qa qn qc, .int .i64 qC, .int .i64 qS] 27)).alloc (.cells #[.int .i64 d, .int .i64 m] 29) = W at *
  generalize w.heap.size + 1 + 1 = kb at hK ⊢
  generalize w.heap.size + 1 = qb at hQ ⊢
  generalize w.heap.size = pb at hP ⊢
  have p0 := hP.c 0 _ rfl
  have p1 := hP.c 1 _ rfl
  have p2 := hP.c 2 _ rfl
  have p3 := hP.c 3 _ rfl
  have p4 := hP.c 4 _ rfl
  have p5 := hP.c 5 _ rfl
  have q0 := hQ.c 0 _ rfl
  have q1 := hQ.c 1 _ rfl
  have q2 := hQ.c 2 _ rfl
  have q3 := hQ.c 3 _ rfl
  have q4 := hQ.c 4 _ rfl
  have q5 := hQ.c 5 _ rfl
  have k0 := hK.c 0 _ rfl
  have k1 := hK.c 1 _ rfl
  go_wp2_with fail
  refine (ehead_any W (TB.ext HT.out hE)).mono ?_
  rintro _ w1 ⟨rfl, hx⟩
  replace hP := hP.ext hx
  replace hQ := hQ.ext hx
  replace hK := hK.ext hx
  replace hE := hE.trans hx
  clear hx p0 p1 p2 p3 p4 p5 q0 q1 q2 q3 q4 q5 k0 k1
  have p0 := hP.c 0 _ rfl
  have p1 := hP.c 1 _ rfl
  have p2 := hP.c 2 _ rfl
  have p3 := hP.c 3 _ rfl
  have p4 := hP.c 4 _ rfl
  have p5 := hP.c 5 _ rfl
  have q0 := hQ.c 0 _ rfl
  have q1 := hQ.c 1 _ rfl
  have q2 := hQ.c 2 _ rfl
  have q3 := hQ.c 3 _ rfl
  have q4 := hQ.c 4 _ rfl
  have q5 := hQ.c 5 _ rfl
  have k0 := hK.c 0 _ rfl
  have k1 := hK.c 1 _ rfl
  go_wp2_with fail
  refine (l20few_any a n c es pa pn pc qa qn qc w1 (he.ext hE) c1.out.2.2 c2.out.2.2).mono ?_
  rintro _ w2 ⟨rfl, hx⟩
  replace hP := hP.ext hx
  replace hQ := hQ.ext hx
  replace hK := hK.ext hx
  replace hE := hE.trans hx
  clear hx p0 p1 p2 p3 p4 p5 q0 q1 q2 q3 q4 q5 k0 k1
  have p0 := hP.c 0 _ rfl
  have p1 := hP.c 1 _ rfl
  have p2 := hP.c 2 _ rfl
  have p3 := hP.c 3 _ rfl
  have p4 := hP.c 4 _ rfl
  have p5 := hP.c 5 _ rfl
  have q0 := hQ.c 0 _ rfl
  have q1 := hQ.c 1 _ rfl
  have q2 := hQ.c 2 _ rfl
  have q3 := hQ.c 3 _ rfl
  have q4 := hQ.c 4 _ rfl
  have q5 := hQ.c 5 _ rfl
  have k0 := hK.c 0 _ rfl
  have k1 := hK.c 1 _ rfl
  rcases hv : few3 es pn qn with _ | _
  · clear hv
    go_wp2_with fail
    go_ret
    exact ⟨rfl, hE⟩
  have HF := Lib.hid hv
  clear hv
  by_cases hok : frmB pv pf pu pl = true ∧ sgOk key once = true
  · have HK := Lib.hid hok
    clear hok
    go_wp2_with fail
    refine (esgn_any key once pv pf pu pa pn pc pl pC pS w2 (hp.ext hE) (TB.ext HT.out hE)).mono ?_
    rintro _ w3 hsg
    obtain ⟨hx, x1, y1, z1, rfl, hs1⟩ := hsg.yes HK.out.1 HK.out.2
    clear hsg
    replace hs1 := hs1.ext ((Ext.refl w3).alloc (.cells #[.int .i64 pv, .int .i64 pf, .int .i64 pu, .slice x1 y1 z1, .int .i64 (sgC key once (msgE pv pf pu pl)), .int .i64 (sgS key once (msgE pv pf pu pl))] 27))
    go_upto_region 5 with fail
    have hS := Bk.new w3 27 #[.int .i64 pv, .int .i64 pf, .int .i64 pu, .slice x1 y1 z1, .int .i64 (sgC key once (msgE pv pf pu pl)), .int .i64 (sgS key once (msgE pv pf pu pl))]
    replace hx := hx.alloc (.cells #[.int .i64 pv, .int .i64 pf, .int .i64 pu, .slice x1 y1 z1, .int .i64 (sgC key once (msgE pv pf pu pl)), .int .i64 (sgS key once (msgE pv pf pu pl))] 27)
    generalize w3.alloc (.cells #[.int .i64 pv, .int .i64 pf, .int .i64 pu, .slice x1 y1 z1, .int .i64 (sgC key once (msgE pv pf pu pl)), .int .i64 (sgS key once (msgE pv pf pu pl))] 27) = V3 at *
    generalize w3.heap.size = bhS at *
    replace hP := hP.ext hx
    replace hQ := hQ.ext hx
    replace hK := hK.ext hx
    replace hE := hE.trans hx
    clear hx p0 p1 p2 p3 p4 p5 q0 q1 q2 q3 q4 q5 k0 k1
    have p0 := hP.c 0 _ rfl
    have p1 := hP.c 1 _ rfl
    have p2 := hP.c 2 _ rfl
    have p3 := hP.c 3 _ rfl
    have p4 := hP.c 4 _ rfl
    have p5 := hP.c 5 _ rfl
    have q0 := hQ.c 0 _ rfl
    have q1 := hQ.c 1 _ rfl
    have q2 := hQ.c 2 _ rfl
    have q3 := hQ.c 3 _ rfl
    have q4 := hQ.c 4 _ rfl
    have q5 := hQ.c 5 _ rfl
    have k0 := hK.c 0 _ rfl
    have k1 := hK.c 1 _ rfl
    have s0 := hS.c 0 _ rfl
    have s1 := hS.c 1 _ rfl
    have s2 := hS.c 2 _ rfl
    have s3 := hS.c 3 _ rfl
    have s4 := hS.c 4 _ rfl
    have s5 := hS.c 5 _ rfl
    go_wp2_with fail
    refine (rsgn_any key once pv pf pu pa pn pc pl pC pS V3 (hp.ext hE)).mono ?_
    rintro _ w4 hsg
    obtain ⟨hx, x2, y2, z2, rfl, hs2⟩ := hsg.yes HK.out.1 HK.out.2
    clear hsg
    replace hs2 := hs2.ext ((Ext.refl w4).alloc (.cells #[.int .i64 pv, .int .i64 pf, .int .i64 pu, .slice x2 y2 z2, .int .i64 (sgC key once (msgE pv pf pu pl)), .int .i64 (sgS key once (msgE pv pf pu pl))] 27))
    replace hs1 := hs1.ext (hx.alloc (.cells #[.int .i64 pv, .int .i64 pf, .int .i64 pu, .slice x2 y2 z2, .int .i64 (sgC key once (msgE pv pf pu pl)), .int .i64 (sgS key once (msgE pv pf pu pl))] 27))
    go_upto_region 6 with fail
    have hR := Bk.new w4 27 #[.int .i64 pv, .int .i64 pf, .int .i64 pu, .slice x2 y2 z2, .int .i64 (sgC key once (msgE pv pf pu pl)), .int .i64 (sgS key once (msgE pv pf pu pl))]
    replace hx := hx.alloc (.cells #[.int .i64 pv, .int .i64 pf, .int .i64 pu, .slice x2 y2 z2, .int .i64 (sgC key once (msgE pv pf pu pl)), .int .i64 (sgS key once (msgE pv pf pu pl))] 27)
    generalize w4.alloc (.cells #[.int .i64 pv, .int .i64 pf, .int .i64 pu, .slice x2 y2 z2, .int .i64 (sgC key once (msgE pv pf pu pl)), .int .i64 (sgS key once (msgE pv pf pu pl))] 27) = V4 at *
    generalize w4.heap.size = bhR at *
    replace hP := hP.ext hx
    replace hQ := hQ.ext hx
    replace hK := hK.ext hx
    replace hS := hS.ext hx
    replace hE := hE.trans hx
    clear hx p0 p1 p2 p3 p4 p5 q0 q1 q2 q3 q4 q5 k0 k1 s0 s1 s2 s3 s4 s5
    have p0 := hP.c 0 _ rfl
    have p1 := hP.c 1 _ rfl
    have p2 := hP.c 2 _ rfl
    have p3 := hP.c 3 _ rfl
    have p4 := hP.c 4 _ rfl
    have p5 := hP.c 5 _ rfl
    have q0 := hQ.c 0 _ rfl
    have q1 := hQ.c 1 _ rfl
    have q2 := hQ.c 2 _ rfl
    have q3 := hQ.c 3 _ rfl
    have q4 := hQ.c 4 _ rfl
    have q5 := hQ.c 5 _ rfl
    have k0 := hK.c 0 _ rfl
    have k1 := hK.c 1 _ rfl
    have s0 := hS.c 0 _ rfl
    have s1 := hS.c 1 _ rfl
    have s2 := hS.c 2 _ rfl
    have s3 := hS.c 3 _ rfl
    have s4 := hS.c 4 _ rfl
    have s5 := hS.c 5 _ rfl
    have r0 := hR.c 0 _ rfl
    have r1 := hR.c 1 _ rfl
    have r2 := hR.c 2 _ rfl
    have r3 := hR.c 3 _ rfl
    have r4 := hR.c 4 _ rfl
    have r5 := hR.c 5 _ rfl
    go_wp2_with fail
    refine (rsame20_any pv pf pu x1 y1 z1 x2 y2 z2 pl (sgC key once (msgE pv pf pu pl)) (sgS key once (msgE pv pf pu pl)) V4 hs1 hs2).mono ?_
    rintro _ w5 ⟨rfl, hx⟩
    replace hP := hP.ext hx
    replace hQ := hQ.ext hx
    replace hK := hK.ext hx
    replace hS := hS.ext hx
    replace hR := hR.ext hx
    replace hE := hE.trans hx
    clear hx p0 p1 p2 p3 p4 p5 q0 q1 q2 q3 q4 q5 k0 k1 s0 s1 s2 s3 s4 s5 r0 r1 r2 r3 r4 r5
    have p0 := hP.c 0 _ rfl
    have p1 := hP.c 1 _ rfl
    have p2 := hP.c 2 _ rfl
    have p3 := hP.c 3 _ rfl
    have p4 := hP.c 4 _ rfl
    have p5 := hP.c 5 _ rfl
    have q0 := hQ.c 0 _ rfl
    have q1 := hQ.c 1 _ rfl
    have q2 := hQ.c 2 _ rfl
    have q3 := hQ.c 3 _ rfl
    have q4 := hQ.c 4 _ rfl
    have q5 := hQ.c 5 _ rfl
    have k0 := hK.c 0 _ rfl
    have k1 := hK.c 1 _ rfl
    have s0 := hS.c 0 _ rfl
    have s1 := hS.c 1 _ rfl
    have s2 := hS.c 2 _ rfl
    have s3 := hS.c 3 _ rfl
    have s4 := hS.c 4 _ rfl
    have s5 := hS.c 5 _ rfl
    have r0 := hR.c 0 _ rfl
    have r1 := hR.c 1 _ rfl
    have r2 := hR.c 2 _ rfl
    have r3 := hR.c 3 _ rfl
    have r4 := hR.c 4 _ rfl
    have r5 := hR.c 5 _ rfl
    clear hS hR s0 r0 s1 r1 s2 r2 s3 r3 s4 r4 s5 r5
    go_wp2_with fail
    refine (ergt_any pub pv pf pu pa pn pc pl pC pS w5 (hp.ext hE) (TB.ext HT.out hE)).mono ?_
    rintro _ v1 ⟨rfl, hx⟩
    generalize hG1 : rgtF pub pv pf pu pl pC pS = G1 at *
    obtain ⟨ra1, rb1⟩ := G1
    have hH1 := Lib.hid hG1
    clear hG1
    replace hP := hP.ext hx
    replace hQ := hQ.ext hx
    replace hK := hK.ext hx
    replace hE := hE.trans hx
    clear hx p0 p1 p2 p3 p4 p5 q0 q1 q2 q3 q4 q5 k0 k1
    have p0 := hP.c 0 _ rfl
    have p1 := hP.c 1 _ rfl
    have p2 := hP.c 2 _ rfl
    have p3 := hP.c 3 _ rfl
    have p4 := hP.c 4 _ rfl
    have p5 := hP.c 5 _ rfl
    have q0 := hQ.c 0 _ rfl
    have q1 := hQ.c 1 _ rfl
    have q2 := hQ.c 2 _ rfl
    have q3 := hQ.c 3 _ rfl
    have q4 := hQ.c 4 _ rfl
    have q5 := hQ.c 5 _ rfl
    have k0 := hK.c 0 _ rfl
    have k1 := hK.c 1 _ rfl
    go_wp2_with fail
    refine (rrgt_any pub pv pf pu pa pn pc pl pC pS v1 (hp.ext hE)).mono ?_
    rintro _ v2 ⟨rfl, hx⟩
    rw [hH1.out]
    replace hP := hP.ext hx
    replace hQ := hQ.ext hx
    replace hK := hK.ext hx
    replace hE := hE.trans hx
    clear hx p0 p1 p2 p3 p4 p5 q0 q1 q2 q3 q4 q5 k0 k1
    have p0 := hP.c 0 _ rfl
    have p1 := hP.c 1 _ rfl
    have p2 := hP.c 2 _ rfl
    have p3 := hP.c 3 _ rfl
    have p4 := hP.c 4 _ rfl
    have p5 := hP.c 5 _ rfl
    have q0 := hQ.c 0 _ rfl
    have q1 := hQ.c 1 _ rfl
    have q2 := hQ.c 2 _ rfl
    have q3 := hQ.c 3 _ rfl
    have q4 := hQ.c 4 _ rfl
    have q5 := hQ.c 5 _ rfl
    have k0 := hK.c 0 _ rfl
    have k1 := hK.c 1 _ rfl
    go_wp2_with fail
    refine (efol_any pv pf pu pa pn pc pl pC pS qv qf qu qa qn qc ql qC qS v2 (hp.ext hE) (hq.ext hE)).mono ?_
    rintro _ v3 ⟨rfl, hx⟩
    generalize hG3 : folF pv pf pu pl qv qf qu ql = G3 at *
    obtain ⟨ra3, rb3⟩ := G3
    have hH3 := Lib.hid hG3
    clear hG3
    replace hP := hP.ext hx
    replace hQ := hQ.ext hx
    replace hK := hK.ext hx
    replace hE := hE.trans hx
    clear hx p0 p1 p2 p3 p4 p5 q0 q1 q2 q3 q4 q5 k0 k1
    have p0 := hP.c 0 _ rfl
    have p1 := hP.c 1 _ rfl
    have p2 := hP.c 2 _ rfl
    have p3 := hP.c 3 _ rfl
    have p4 := hP.c 4 _ rfl
    have p5 := hP.c 5 _ rfl
    have q0 := hQ.c 0 _ rfl
    have q1 := hQ.c 1 _ rfl
    have q2 := hQ.c 2 _ rfl
    have q3 := hQ.c 3 _ rfl
    have q4 := hQ.c 4 _ rfl
    have q5 := hQ.c 5 _ rfl
    have k0 := hK.c 0 _ rfl
    have k1 := hK.c 1 _ rfl
    go_wp2_with fail
    refine (rfol_any pv pf pu pa pn pc pl pC pS qv qf qu qa qn qc ql qC qS v3 (hp.ext hE) (hq.ext hE)).mono ?_
    rintro _ v4 ⟨rfl, hx⟩
    rw [hH3.out]
    replace hP := hP.ext hx
    replace hQ := hQ.ext hx
    replace hK := hK.ext hx
    replace hE := hE.trans hx
    clear hx p0 p1 p2 p3 p4 p5 q0 q1 q2 q3 q4 q5 k0 k1
    have p0 := hP.c 0 _ rfl
    have p1 := hP.c 1 _ rfl
    have p2 := hP.c 2 _ rfl
    have p3 := hP.c 3 _ rfl
    have p4 := hP.c 4 _ rfl
    have p5 := hP.c 5 _ rfl
    have q0 := hQ.c 0 _ rfl
    have q1 := hQ.c 1 _ rfl
    have q2 := hQ.c 2 _ rfl
    have q3 := hQ.c 3 _ rfl
    have q4 := hQ.c 4 _ rfl
    have q5 := hQ.c 5 _ rfl
    have k0 := hK.c 0 _ rfl
    have k1 := hK.c 1 _ rfl
    go_wp2_with fail
    refine (enew_any a n c es t v4 (he.ext hE)).mono ?_
    rintro _ v5 ⟨rfl, hx⟩
    generalize hG5 : nwF es t = G5 at *
    obtain ⟨ra5, rb5, rc5⟩ := G5
    have hH5 := Lib.hid hG5
    clear hG5
    replace hP := hP.ext hx
    replace hQ := hQ.ext hx
    replace hK := hK.ext hx
    replace hE := hE.trans hx
    clear hx p0 p1 p2 p3 p4 p5 q0 q1 q2 q3 q4 q5 k0 k1
    have p0 := hP.c 0 _ rfl
    have p1 := hP.c 1 _ rfl
    have p2 := hP.c 2 _ rfl
    have p3 := hP.c 3 _ rfl
    have p4 := hP.c 4 _ rfl
    have p5 := hP.c 5 _ rfl
    have q0 := hQ.c 0 _ rfl
    have q1 := hQ.c 1 _ rfl
    have q2 := hQ.c 2 _ rfl
    have q3 := hQ.c 3 _ rfl
    have q4 := hQ.c 4 _ rfl
    have q5 := hQ.c 5 _ rfl
    have k0 := hK.c 0 _ rfl
    have k1 := hK.c 1 _ rfl
    go_wp2_with fail
    refine (rnew_any a n c es t v5 (he.ext hE)).mono ?_
    rintro _ v6 ⟨rfl, hx⟩
    rw [hH5.out]
    replace hP := hP.ext hx
    replace hQ := hQ.ext hx
    replace hK := hK.ext hx
    replace hE := hE.trans hx
    clear hx p0 p1 p2 p3 p4 p5 q0 q1 q2 q3 q4 q5 k0 k1
    have p0 := hP.c 0 _ rfl
    have p1 := hP.c 1 _ rfl
    have p2 := hP.c 2 _ rfl
    have p3 := hP.c 3 _ rfl
    have p4 := hP.c 4 _ rfl
    have p5 := hP.c 5 _ rfl
    have q0 := hQ.c 0 _ rfl
    have q1 := hQ.c 1 _ rfl
    have q2 := hQ.c 2 _ rfl
    have q3 := hQ.c 3 _ rfl
    have q4 := hQ.c 4 _ rfl
    have q5 := hQ.c 5 _ rfl
    have k0 := hK.c 0 _ rfl
    have k1 := hK.c 1 _ rfl
    go_wp2_with fail
    refine (edif_any pa pn pc pl qa qn qc ql v6 (hp.ext hE) (hq.ext hE)).mono ?_
    rintro _ v7 ⟨rfl, hx⟩
    generalize hG7 : dfrF pl ql = G7 at *
    obtain ⟨ra7, rb7, rc7⟩ := G7
    have hH7 := Lib.hid hG7
    clear hG7
    replace hP := hP.ext hx
    replace hQ := hQ.ext hx
    replace hK := hK.ext hx
    replace hE := hE.trans hx
    clear hx p0 p1 p2 p3 p4 p5 q0 q1 q2 q3 q4 q5 k0 k1
    have p0 := hP.c 0 _ rfl
    have p1 := hP.c 1 _ rfl
    have p2 := hP.c 2 _ rfl
    have p3 := hP.c 3 _ rfl
    have p4 := hP.c 4 _ rfl
    have p5 := hP.c 5 _ rfl
    have q0 := hQ.c 0 _ rfl
    have q1 := hQ.c 1 _ rfl
    have q2 := hQ.c 2 _ rfl
    have q3 := hQ.c 3 _ rfl
    have q4 := hQ.c 4 _ rfl
    have q5 := hQ.c 5 _ rfl
    have k0 := hK.c 0 _ rfl
    have k1 := hK.c 1 _ rfl
    go_wp2_with fail
    refine (rdif_any pa pn pc pl qa qn qc ql v7 (hp.ext hE) (hq.ext hE)).mono ?_
    rintro _ v8 ⟨rfl, hx⟩
    rw [hH7.out]
    replace hP := hP.ext hx
    replace hQ := hQ.ext hx
    replace hK := hK.ext hx
    replace hE := hE.trans hx
    clear hx p0 p1 p2 p3 p4 p5 q0 q1 q2 q3 q4 q5 k0 k1
    have p0 := hP.c 0 _ rfl
    have p1 := hP.c 1 _ rfl
    have p2 := hP.c 2 _ rfl
    have p3 := hP.c 3 _ rfl
    have p4 := hP.c 4 _ rfl
    have p5 := hP.c 5 _ rfl
    have q0 := hQ.c 0 _ rfl
    have q1 := hQ.c 1 _ rfl
    have q2 := hQ.c 2 _ rfl
    have q3 := hQ.c 3 _ rfl
    have q4 := hQ.c 4 _ rfl
    have q5 := hQ.c 5 _ rfl
    have k0 := hK.c 0 _ rfl
    have k1 := hK.c 1 _ rfl
    go_wp2_with fail
    refine (emov_any pa pn pc pl qa qn qc ql d m v8 (hp.ext hE) (hq.ext hE)).mono ?_
    rintro _ u1 ⟨rfl, hx⟩
    generalize hG : movF pl ql d m = G at *
    obtain ⟨⟨mx, my⟩, mz⟩ := G
    have hHm := Lib.hid hG
    clear hG
    go_upto_region 20 with fail
    have hM := Bk.new u1 29 #[.int .i64 mx, .int .i64 my]
    replace hx := hx.alloc (.cells #[.int .i64 mx, .int .i64 my] 29)
    generalize u1.alloc (.cells #[.int .i64 mx, .int .i64 my] 29) = U1 at *
    generalize u1.heap.size = bhM at *
    replace hP := hP.ext hx
    replace hQ := hQ.ext hx
    replace hK := hK.ext hx
    replace hE := hE.trans hx
    clear hx p0 p1 p2 p3 p4 p5 q0 q1 q2 q3 q4 q5 k0 k1
    have p0 := hP.c 0 _ rfl
    have p1 := hP.c 1 _ rfl
    have p2 := hP.c 2 _ rfl
    have p3 := hP.c 3 _ rfl
    have p4 := hP.c 4 _ rfl
    have p5 := hP.c 5 _ rfl
    have q0 := hQ.c 0 _ rfl
    have q1 := hQ.c 1 _ rfl
    have q2 := hQ.c 2 _ rfl
    have q3 := hQ.c 3 _ rfl
    have q4 := hQ.c 4 _ rfl
    have q5 := hQ.c 5 _ rfl
    have k0 := hK.c 0 _ rfl
    have k1 := hK.c 1 _ rfl
    have mm0 := hM.c 0 _ rfl
    have mm1 := hM.c 1 _ rfl
    go_wp2_with fail
    refine (rmov_any pa pn pc pl qa qn qc ql d m U1 (hp.ext hE) (hq.ext hE)).mono ?_
    rintro _ u2 ⟨rfl, hx⟩
    rw [hHm.out]
    go_upto_region 21 with fail
    have hN := Bk.new u2 29 #[.int .i64 mx, .int .i64 my]
    replace hx := hx.alloc (.cells #[.int .i64 mx, .int .i64 my] 29)
    generalize u2.alloc (.cells #[.int .i64 mx, .int .i64 my] 29) = U2 at *
    generalize u2.heap.size = bhN at *
    replace hP := hP.ext hx
    replace hQ := hQ.ext hx
    replace hK := hK.ext hx
    replace hM := hM.ext hx
    replace hE := hE.trans hx
    clear hx p0 p1 p2 p3 p4 p5 q0 q1 q2 q3 q4 q5 k0 k1 mm0 mm1
    have p0 := hP.c 0 _ rfl
    have p1 := hP.c 1 _ rfl
    have p2 := hP.c 2 _ rfl
    have p3 := hP.c 3 _ rfl
    have p4 := hP.c 4 _ rfl
    have p5 := hP.c 5 _ rfl
    have q0 := hQ.c 0 _ rfl
    have q1 := hQ.c 1 _ rfl
    have q2 := hQ.c 2 _ rfl
    have q3 := hQ.c 3 _ rfl
    have q4 := hQ.c 4 _ rfl
    have q5 := hQ.c 5 _ rfl
    have k0 := hK.c 0 _ rfl
    have k1 := hK.c 1 _ rfl
    have mm0 := hM.c 0 _ rfl
    have mm1 := hM.c 1 _ rfl
    have nn0 := hN.c 0 _ rfl
    have nn1 := hN.c 1 _ rfl
    have qq := fun W => eqCv mx my mx my W
    go_wp2_with fail
    go_ret
    exact ⟨rfl, hE⟩
  · have HK := Lib.hid hok
    clear hok
    go_wp2_with fail
    refine (esgn_any key once pv pf pu pa pn pc pl pC pS w2 (hp.ext hE) (TB.ext HT.out hE)).mono ?_
    rintro _ w3 hsg
    obtain ⟨hx, rfl⟩ := hsg.no HK.out
    clear hsg
    go_upto_region 5 with fail
    have hS := Bk.new w3 27 #[.int .i64 0, .int .i64 0, .int .i64 0, .slice none 0 0, .int .i64 0, .int .i64 0]
    replace hx := hx.alloc (.cells #[.int .i64 0, .int .i64 0, .int .i64 0, .slice none 0 0, .int .i64 0, .int .i64 0] 27)
    generalize w3.alloc (.cells #[.int .i64 0, .int .i64 0, .int .i64 0, .slice none 0 0, .int .i64 0, .int .i64 0] 27) = V3 at *
    generalize w3.heap.size = bhS at *
    replace hP := hP.ext hx
    replace hQ := hQ.ext hx
    replace hK := hK.ext hx
    replace hE := hE.trans hx
    clear hx p0 p1 p2 p3 p4 p5 q0 q1 q2 q3 q4 q5 k0 k1
    have p0 := hP.c 0 _ rfl
    have p1 := hP.c 1 _ rfl
    have p2 := hP.c 2 _ rfl
    have p3 := hP.c 3 _ rfl
    have p4 := hP.c 4 _ rfl
    have p5 := hP.c 5 _ rfl
    have q0 := hQ.c 0 _ rfl
    have q1 := hQ.c 1 _ rfl
    have q2 := hQ.c 2 _ rfl
    have q3 := hQ.c 3 _ rfl
    have q4 := hQ.c 4 _ rfl
    have q5 := hQ.c 5 _ rfl
    have k0 := hK.c 0 _ rfl
    have k1 := hK.c 1 _ rfl
    have s0 := hS.c 0 _ rfl
    have s1 := hS.c 1 _ rfl
    have s2 := hS.c 2 _ rfl
    have s3 := hS.c 3 _ rfl
    have s4 := hS.c 4 _ rfl
    have s5 := hS.c 5 _ rfl
    go_wp2_with fail
    refine (rsgn_any key once pv pf pu pa pn pc pl pC pS V3 (hp.ext hE)).mono ?_
    rintro _ w4 hsg
    obtain ⟨hx, rfl⟩ := hsg.no HK.out
    clear hsg
    go_upto_region 6 with fail
    have hR := Bk.new w4 27 #[.int .i64 0, .int .i64 0, .int .i64 0, .slice none 0 0, .int .i64 0, .int .i64 0]
    replace hx := hx.alloc (.cells #[.int .i64 0, .int .i64 0, .int .i64 0, .slice none 0 0, .int .i64 0, .int .i64 0] 27)
    generalize w4.alloc (.cells #[.int .i64 0, .int .i64 0, .int .i64 0, .slice none 0 0, .int .i64 0, .int .i64 0] 27) = V4 at *
    generalize w4.heap.size = bhR at *
    replace hP := hP.ext hx
    replace hQ := hQ.ext hx
    replace hK := hK.ext hx
    replace hS := hS.ext hx
    replace hE := hE.trans hx
    clear hx p0 p1 p2 p3 p4 p5 q0 q1 q2 q3 q4 q5 k0 k1 s0 s1 s2 s3 s4 s5
    have p0 := hP.c 0 _ rfl
    have p1 := hP.c 1 _ rfl
    have p2 := hP.c 2 _ rfl
    have p3 := hP.c 3 _ rfl
    have p4 := hP.c 4 _ rfl
    have p5 := hP.c 5 _ rfl
    have q0 := hQ.c 0 _ rfl
    have q1 := hQ.c 1 _ rfl
    have q2 := hQ.c 2 _ rfl
    have q3 := hQ.c 3 _ rfl
    have q4 := hQ.c 4 _ rfl
    have q5 := hQ.c 5 _ rfl
    have k0 := hK.c 0 _ rfl
    have k1 := hK.c 1 _ rfl
    have s0 := hS.c 0 _ rfl
    have s1 := hS.c 1 _ rfl
    have s2 := hS.c 2 _ rfl
    have s3 := hS.c 3 _ rfl
    have s4 := hS.c 4 _ rfl
    have s5 := hS.c 5 _ rfl
    have r0 := hR.c 0 _ rfl
    have r1 := hR.c 1 _ rfl
    have r2 := hR.c 2 _ rfl
    have r3 := hR.c 3 _ rfl
    have r4 := hR.c 4 _ rfl
    have r5 := hR.c 5 _ rfl
    go_wp2_with fail
    refine (rsame20_any 0 0 0 none 0 0 none 0 0 [] 0 0 V4 (Rw.nil V4) (Rw.nil V4)).mono ?_
    rintro _ w5 ⟨rfl, hx⟩
    replace hP := hP.ext hx
    replace hQ := hQ.ext hx
    replace hK := hK.ext hx
    replace hS := hS.ext hx
    replace hR := hR.ext hx
    replace hE := hE.trans hx
    clear hx p0 p1 p2 p3 p4 p5 q0 q1 q2 q3 q4 q5 k0 k1 s0 s1 s2 s3 s4 s5 r0 r1 r2 r3 r4 r5
    have p0 := hP.c 0 _ rfl
    have p1 := hP.c 1 _ rfl
    have p2 := hP.c 2 _ rfl
    have p3 := hP.c 3 _ rfl
    have p4 := hP.c 4 _ rfl
    have p5 := hP.c 5 _ rfl
    have q0 := hQ.c 0 _ rfl
    have q1 := hQ.c 1 _ rfl
    have q2 := hQ.c 2 _ rfl
    have q3 := hQ.c 3 _ rfl
    have q4 := hQ.c 4 _ rfl
    have q5 := hQ.c 5 _ rfl
    have k0 := hK.c 0 _ rfl
    have k1 := hK.c 1 _ rfl
    have s0 := hS.c 0 _ rfl
    have s1 := hS.c 1 _ rfl
    have s2 := hS.c 2 _ rfl
    have s3 := hS.c 3 _ rfl
    have s4 := hS.c 4 _ rfl
    have s5 := hS.c 5 _ rfl
    have r0 := hR.c 0 _ rfl
    have r1 := hR.c 1 _ rfl
    have r2 := hR.c 2 _ rfl
    have r3 := hR.c 3 _ rfl
    have r4 := hR.c 4 _ rfl
    have r5 := hR.c 5 _ rfl
    clear hS hR s0 r0 s1 r1 s2 r2 s3 r3 s4 r4 s5 r5
    go_wp2_with fail
    refine (ergt_any pub pv pf pu pa pn pc pl pC pS w5 (hp.ext hE) (TB.ext HT.out hE)).mono ?_
    rintro _ v1 ⟨rfl, hx⟩
    generalize hG1 : rgtF pub pv pf pu pl pC pS = G1 at *
    obtain ⟨ra1, rb1⟩ := G1
    have hH1 := Lib.hid hG1
    clear hG1
    replace hP := hP.ext hx
    replace hQ := hQ.ext hx
    replace hK := hK.ext hx
    replace hE := hE.trans hx
    clear hx p0 p1 p2 p3 p4 p5 q0 q1 q2 q3 q4 q5 k0 k1
    have p0 := hP.c 0 _ rfl
    have p1 := hP.c 1 _ rfl
    have p2 := hP.c 2 _ rfl
    have p3 := hP.c 3 _ rfl
    have p4 := hP.c 4 _ rfl
    have p5 := hP.c 5 _ rfl
    have q0 := hQ.c 0 _ rfl
    have q1 := hQ.c 1 _ rfl
    have q2 := hQ.c 2 _ rfl
    have q3 := hQ.c 3 _ rfl
    have q4 := hQ.c 4 _ rfl
    have q5 := hQ.c 5 _ rfl
    have k0 := hK.c 0 _ rfl
    have k1 := hK.c 1 _ rfl
    go_wp2_with fail
    refine (rrgt_any pub pv pf pu pa pn pc pl pC pS v1 (hp.ext hE)).mono ?_
    rintro _ v2 ⟨rfl, hx⟩
    rw [hH1.out]
    replace hP := hP.ext hx
    replace hQ := hQ.ext hx
    replace hK := hK.ext hx
    replace hE := hE.trans hx
    clear hx p0 p1 p2 p3 p4 p5 q0 q1 q2 q3 q4 q5 k0 k1
    have p0 := hP.c 0 _ rfl
    have p1 := hP.c 1 _ rfl
    have p2 := hP.c 2 _ rfl
    have p3 := hP.c 3 _ rfl
    have p4 := hP.c 4 _ rfl
    have p5 := hP.c 5 _ rfl
    have q0 := hQ.c 0 _ rfl
    have q1 := hQ.c 1 _ rfl
    have q2 := hQ.c 2 _ rfl
    have q3 := hQ.c 3 _ rfl
    have q4 := hQ.c 4 _ rfl
    have q5 := hQ.c 5 _ rfl
    have k0 := hK.c 0 _ rfl
    have k1 := hK.c 1 _ rfl
    go_wp2_with fail
    refine (efol_any pv pf pu pa pn pc pl pC pS qv qf qu qa qn qc ql qC qS v2 (hp.ext hE) (hq.ext hE)).mono ?_
    rintro _ v3 ⟨rfl, hx⟩
    generalize hG3 : folF pv pf pu pl qv qf qu ql = G3 at *
    obtain ⟨ra3, rb3⟩ := G3
    have hH3 := Lib.hid hG3
    clear hG3
    replace hP := hP.ext hx
    replace hQ := hQ.ext hx
    replace hK := hK.ext hx
    replace hE := hE.trans hx
    clear hx p0 p1 p2 p3 p4 p5 q0 q1 q2 q3 q4 q5 k0 k1
    have p0 := hP.c 0 _ rfl
    have p1 := hP.c 1 _ rfl
    have p2 := hP.c 2 _ rfl
    have p3 := hP.c 3 _ rfl
    have p4 := hP.c 4 _ rfl
    have p5 := hP.c 5 _ rfl
    have q0 := hQ.c 0 _ rfl
    have q1 := hQ.c 1 _ rfl
    have q2 := hQ.c 2 _ rfl
    have q3 := hQ.c 3 _ rfl
    have q4 := hQ.c 4 _ rfl
    have q5 := hQ.c 5 _ rfl
    have k0 := hK.c 0 _ rfl
    have k1 := hK.c 1 _ rfl
    go_wp2_with fail
    refine (rfol_any pv pf pu pa pn pc pl pC pS qv qf qu qa qn qc ql qC qS v3 (hp.ext hE) (hq.ext hE)).mono ?_
    rintro _ v4 ⟨rfl, hx⟩
    rw [hH3.out]
    replace hP := hP.ext hx
    replace hQ := hQ.ext hx
    replace hK := hK.ext hx
    replace hE := hE.trans hx
    clear hx p0 p1 p2 p3 p4 p5 q0 q1 q2 q3 q4 q5 k0 k1
    have p0 := hP.c 0 _ rfl
    have p1 := hP.c 1 _ rfl
    have p2 := hP.c 2 _ rfl
    have p3 := hP.c 3 _ rfl
    have p4 := hP.c 4 _ rfl
    have p5 := hP.c 5 _ rfl
    have q0 := hQ.c 0 _ rfl
    have q1 := hQ.c 1 _ rfl
    have q2 := hQ.c 2 _ rfl
    have q3 := hQ.c 3 _ rfl
    have q4 := hQ.c 4 _ rfl
    have q5 := hQ.c 5 _ rfl
    have k0 := hK.c 0 _ rfl
    have k1 := hK.c 1 _ rfl
    go_wp2_with fail
    refine (enew_any a n c es t v4 (he.ext hE)).mono ?_
    rintro _ v5 ⟨rfl, hx⟩
    generalize hG5 : nwF es t = G5 at *
    obtain ⟨ra5, rb5, rc5⟩ := G5
    have hH5 := Lib.hid hG5
    clear hG5
    replace hP := hP.ext hx
    replace hQ := hQ.ext hx
    replace hK := hK.ext hx
    replace hE := hE.trans hx
    clear hx p0 p1 p2 p3 p4 p5 q0 q1 q2 q3 q4 q5 k0 k1
    have p0 := hP.c 0 _ rfl
    have p1 := hP.c 1 _ rfl
    have p2 := hP.c 2 _ rfl
    have p3 := hP.c 3 _ rfl
    have p4 := hP.c 4 _ rfl
    have p5 := hP.c 5 _ rfl
    have q0 := hQ.c 0 _ rfl
    have q1 := hQ.c 1 _ rfl
    have q2 := hQ.c 2 _ rfl
    have q3 := hQ.c 3 _ rfl
    have q4 := hQ.c 4 _ rfl
    have q5 := hQ.c 5 _ rfl
    have k0 := hK.c 0 _ rfl
    have k1 := hK.c 1 _ rfl
    go_wp2_with fail
    refine (rnew_any a n c es t v5 (he.ext hE)).mono ?_
    rintro _ v6 ⟨rfl, hx⟩
    rw [hH5.out]
    replace hP := hP.ext hx
    replace hQ := hQ.ext hx
    replace hK := hK.ext hx
    replace hE := hE.trans hx
    clear hx p0 p1 p2 p3 p4 p5 q0 q1 q2 q3 q4 q5 k0 k1
    have p0 := hP.c 0 _ rfl
    have p1 := hP.c 1 _ rfl
    have p2 := hP.c 2 _ rfl
    have p3 := hP.c 3 _ rfl
    have p4 := hP.c 4 _ rfl
    have p5 := hP.c 5 _ rfl
    have q0 := hQ.c 0 _ rfl
    have q1 := hQ.c 1 _ rfl
    have q2 := hQ.c 2 _ rfl
    have q3 := hQ.c 3 _ rfl
    have q4 := hQ.c 4 _ rfl
    have q5 := hQ.c 5 _ rfl
    have k0 := hK.c 0 _ rfl
    have k1 := hK.c 1 _ rfl
    go_wp2_with fail
    refine (edif_any pa pn pc pl qa qn qc ql v6 (hp.ext hE) (hq.ext hE)).mono ?_
    rintro _ v7 ⟨rfl, hx⟩
    generalize hG7 : dfrF pl ql = G7 at *
    obtain ⟨ra7, rb7, rc7⟩ := G7
    have hH7 := Lib.hid hG7
    clear hG7
    replace hP := hP.ext hx
    replace hQ := hQ.ext hx
    replace hK := hK.ext hx
    replace hE := hE.trans hx
    clear hx p0 p1 p2 p3 p4 p5 q0 q1 q2 q3 q4 q5 k0 k1
    have p0 := hP.c 0 _ rfl
    have p1 := hP.c 1 _ rfl
    have p2 := hP.c 2 _ rfl
    have p3 := hP.c 3 _ rfl
    have p4 := hP.c 4 _ rfl
    have p5 := hP.c 5 _ rfl
    have q0 := hQ.c 0 _ rfl
    have q1 := hQ.c 1 _ rfl
    have q2 := hQ.c 2 _ rfl
    have q3 := hQ.c 3 _ rfl
    have q4 := hQ.c 4 _ rfl
    have q5 := hQ.c 5 _ rfl
    have k0 := hK.c 0 _ rfl
    have k1 := hK.c 1 _ rfl
    go_wp2_with fail
    refine (rdif_any pa pn pc pl qa qn qc ql v7 (hp.ext hE) (hq.ext hE)).mono ?_
    rintro _ v8 ⟨rfl, hx⟩
    rw [hH7.out]
    replace hP := hP.ext hx
    replace hQ := hQ.ext hx
    replace hK := hK.ext hx
    replace hE := hE.trans hx
    clear hx p0 p1 p2 p3 p4 p5 q0 q1 q2 q3 q4 q5 k0 k1
    have p0 := hP.c 0 _ rfl
    have p1 := hP.c 1 _ rfl
    have p2 := hP.c 2 _ rfl
    have p3 := hP.c 3 _ rfl
    have p4 := hP.c 4 _ rfl
    have p5 := hP.c 5 _ rfl
    have q0 := hQ.c 0 _ rfl
    have q1 := hQ.c 1 _ rfl
    have q2 := hQ.c 2 _ rfl
    have q3 := hQ.c 3 _ rfl
    have q4 := hQ.c 4 _ rfl
    have q5 := hQ.c 5 _ rfl
    have k0 := hK.c 0 _ rfl
    have k1 := hK.c 1 _ rfl
    go_wp2_with fail
    refine (emov_any pa pn pc pl qa qn qc ql d m v8 (hp.ext hE) (hq.ext hE)).mono ?_
    rintro _ u1 ⟨rfl, hx⟩
    generalize hG : movF pl ql d m = G at *
    obtain ⟨⟨mx, my⟩, mz⟩ := G
    have hHm := Lib.hid hG
    clear hG
    go_upto_region 20 with fail
    have hM := Bk.new u1 29 #[.int .i64 mx, .int .i64 my]
    replace hx := hx.alloc (.cells #[.int .i64 mx, .int .i64 my] 29)
    generalize u1.alloc (.cells #[.int .i64 mx, .int .i64 my] 29) = U1 at *
    generalize u1.heap.size = bhM at *
    replace hP := hP.ext hx
    replace hQ := hQ.ext hx
    replace hK := hK.ext hx
    replace hE := hE.trans hx
    clear hx p0 p1 p2 p3 p4 p5 q0 q1 q2 q3 q4 q5 k0 k1
    have p0 := hP.c 0 _ rfl
    have p1 := hP.c 1 _ rfl
    have p2 := hP.c 2 _ rfl
    have p3 := hP.c 3 _ rfl
    have p4 := hP.c 4 _ rfl
    have p5 := hP.c 5 _ rfl
    have q0 := hQ.c 0 _ rfl
    have q1 := hQ.c 1 _ rfl
    have q2 := hQ.c 2 _ rfl
    have q3 := hQ.c 3 _ rfl
    have q4 := hQ.c 4 _ rfl
    have q5 := hQ.c 5 _ rfl
    have k0 := hK.c 0 _ rfl
    have k1 := hK.c 1 _ rfl
    have mm0 := hM.c 0 _ rfl
    have mm1 := hM.c 1 _ rfl
    go_wp2_with fail
    refine (rmov_any pa pn pc pl qa qn qc ql d m U1 (hp.ext hE) (hq.ext hE)).mono ?_
    rintro _ u2 ⟨rfl, hx⟩
    rw [hHm.out]
    go_upto_region 21 with fail
    have hN := Bk.new u2 29 #[.int .i64 mx, .int .i64 my]
    replace hx := hx.alloc (.cells #[.int .i64 mx, .int .i64 my] 29)
    generalize u2.alloc (.cells #[.int .i64 mx, .int .i64 my] 29) = U2 at *
    generalize u2.heap.size = bhN at *
    replace hP := hP.ext hx
    replace hQ := hQ.ext hx
    replace hK := hK.ext hx
    replace hM := hM.ext hx
    replace hE := hE.trans hx
    clear hx p0 p1 p2 p3 p4 p5 q0 q1 q2 q3 q4 q5 k0 k1 mm0 mm1
    have p0 := hP.c 0 _ rfl
    have p1 := hP.c 1 _ rfl
    have p2 := hP.c 2 _ rfl
    have p3 := hP.c 3 _ rfl
    have p4 := hP.c 4 _ rfl
    have p5 := hP.c 5 _ rfl
    have q0 := hQ.c 0 _ rfl
    have q1 := hQ.c 1 _ rfl
    have q2 := hQ.c 2 _ rfl
    have q3 := hQ.c 3 _ rfl
    have q4 := hQ.c 4 _ rfl
    have q5 := hQ.c 5 _ rfl
    have k0 := hK.c 0 _ rfl
    have k1 := hK.c 1 _ rfl
    have mm0 := hM.c 0 _ rfl
    have mm1 := hM.c 1 _ rfl
    have nn0 := hN.c 0 _ rfl
    have nn1 := hN.c 1 _ rfl
    have qq := fun W => eqCv mx my mx my W
    go_wp2_with fail
    go_ret
    exact ⟨rfl, hE⟩
end Go.Proofs.YtcohdojfbnijpaaDoor
