/-
  The law InboxAnswers. Written by wip/gen_iu.py.
-/
import Derived.Test.YtdmfdimhjemngaaDoorIT
namespace Go.Proofs.YtdmfdimhjemngaaDoor
open Go.RowKit Go.Sort Go.Shelf
set_option linter.unusedSimpArgs false
set_option linter.unusedVariables false
set_option maxRecDepth 100000

theorem lenlit15 {vs : List Value} (h : vs.length = 15) : ∃ x0 x1 x2 x3 x4 x5 x6 x7 x8 x9 x10 x11 x12 x13 x14 : Value, vs = [x0, x1, x2, x3, x4, x5, x6, x7, x8, x9, x10, x11, x12, x13, x14] := by
  obtain ⟨x0, v0, rfl, h0⟩ := len_cons h
  obtain ⟨x1, v1, rfl, h1⟩ := len_cons h0
  obtain ⟨x2, v2, rfl, h2⟩ := len_cons h1
  obtain ⟨x3, v3, rfl, h3⟩ := len_cons h2
  obtain ⟨x4, v4, rfl, h4⟩ := len_cons h3
  obtain ⟨x5, v5, rfl, h5⟩ := len_cons h4
  obtain ⟨x6, v6, rfl, h6⟩ := len_cons h5
  obtain ⟨x7, v7, rfl, h7⟩ := len_cons h6
  obtain ⟨x8, v8, rfl, h8⟩ := len_cons h7
  obtain ⟨x9, v9, rfl, h9⟩ := len_cons h8
  obtain ⟨x10, v10, rfl, h10⟩ := len_cons h9
  obtain ⟨x11, v11, rfl, h11⟩ := len_cons h10
  obtain ⟨x12, v12, rfl, h12⟩ := len_cons h11
  obtain ⟨x13, v13, rfl, h13⟩ := len_cons h12
  obtain ⟨x14, v14, rfl, h14⟩ := len_cons h13
  obtain rfl := len_nil h14
  exact ⟨x0, x1, x2, x3, x4, x5, x6, x7, x8, x9, x10, x11, x12, x13, x14, rfl⟩

theorem idx_bdI {x : Int} {n : Nat} (h : 0 ≤ x ∧ x ≤ 255) (h0 : 0 < n) : ∃ J : Nat, (wrap64 x).tmod (n : Int) = (J : Int) ∧ J < n := by
  have e : wrap64 x = x := by unfold wrap64; omega
  rw [e, Int.tmod_eq_emod_of_nonneg h.1]
  have e1 := Int.emod_nonneg x (show (n : Int) ≠ 0 by omega)
  have e2 := Int.emod_lt_of_pos x (show 0 < (n : Int) by omega)
  exact ⟨(x % n).toNat, by omega, by omega⟩
theorem nthR_rqs (B : Bx) {l : List Int} {i : Nat} (h : i < l.length) : nthR (l.map (rq1 B)) i = rq1 B (nth l i) := by
  rw [nthR_get (by rw [List.length_map]; exact h), List.getElem_map]
  rw [show nth l i = l[i] by simp [nth, List.getD_eq_getElem?_getD, h]]
/-- The answer to a request of a box is one of its own. -/
theorem own_ans {B : Bx} {x : Int} (h : x ∈ B.asked) (lo hi : Int) : ownB B (ansR (rq1 B x) lo hi) = true := by
  unfold ownB ansR rq1
  simp [h]
theorem okU_num {host : Int} {rs : List (List Rp)} {sent wait : Int} (h : okU host rs sent wait = true) : (0 ≤ sent ∧ sent ≤ 1000000000000) ∧ (0 ≤ wait ∧ wait ≤ 1000000000) ∧ rs.length < 200 ∧ fewB rs = true ∧ validF host rs = true := by
  unfold okU at h
  simp only [Bool.and_eq_true, decide_eq_true_eq] at h
  exact ⟨h.1, h.2.1, h.2.2.2.1, h.2.2.1, h.2.2.2.2⟩
def RAn (WF : Bool) (BS : List Int) : Rel Ext := ⟨fun v W => ∃ a m c, v = .tuple #[.slice a m c, .bool WF] ∧ Sl .u8 W a m c BS, fun v W W' ⟨a, m, c, h1, h2⟩ hE => ⟨a, m, c, h1, h2.ext hE⟩⟩
def RSl (BS : List Int) : Rel Ext := ⟨fun v W => ∃ a m c, v = .slice a m c ∧ Sl .u8 W a m c BS, fun v W W' ⟨a, m, c, h1, h2⟩ hE => ⟨a, m, c, h1, h2.ext hE⟩⟩
def bxG (B : Bx) (r : Rp) : Bx := { B with got := [r] }
theorem ans_late {host : Int} {rs : List (List Rp)} {sent wait au delay : Int} {r : Rp} (ho : okU host rs sent wait = true) (hown : ownB (bxU host rs sent wait au) r = true) (hd : 0 ≤ delay) (hd2 : delay ≤ wait + 1000) :
    tkE (bxU host rs sent wait au) (sent + delay) = 0 ∧
    (wait < delay → tkB (bxU host rs sent wait au) (some r) (sent + delay) = (bxU host rs sent wait au) ∧ tkK (bxU host rs sent wait au) (some r) (sent + delay) = 4) ∧
    (¬ wait < delay → tkB (bxU host rs sent wait au) (some r) (sent + delay) = bxG (bxU host rs sent wait au) r ∧ tkK (bxU host rs sent wait au) (some r) (sent + delay) = 1 ∧ (wfR r = true →
      tkE (bxG (bxU host rs sent wait au) r) (sent + delay + 2000000000) = 0 ∧ tkB (bxG (bxU host rs sent wait au) r) (some r) (sent + delay + 2000000000) = bxG (bxU host rs sent wait au) r ∧ tkK (bxG (bxU host rs sent wait au) r) (some r) (sent + delay + 2000000000) = 2)) := by
  obtain ⟨h1, h2, _⟩ := okU_num ho
  have hf := (okU_open au ho).2.2.1
  have e : tkE (bxU host rs sent wait au) (sent + delay) = 0 := tkE_zero hf (by omega) (by omega) (show sent ≤ sent + delay by omega)
  refine ⟨e, fun hl => ?_, fun hl => ?_⟩
  · have hk : kdX (bxU host rs sent wait au) (some r) (sent + delay) = 4 := by
      unfold kdX kindX
      simp only
      rw [hown, if_neg (by decide), if_neg (by simp [bxU]), if_pos (show (bxU host rs sent wait au).sent + (bxU host rs sent wait au).wait < sent + delay from (show sent + wait < sent + delay by omega))]
    exact tkB_same e hk (by decide)
  · have hk : kdX (bxU host rs sent wait au) (some r) (sent + delay) = 1 := kd_fresh.2 ⟨hown, rfl, show ¬ sent + wait < sent + delay by omega⟩
    have t := tkB_fresh e hk
    refine ⟨t.1, t.2, fun hw => ?_⟩
    have hf2 : frmX (bxG (bxU host rs sent wait au) r) = true := by
      have := tk_frm (t := sent + delay) hf (fun y hy => by rw [← Option.some.inj hy]; exact hw)
      rw [got_some, hk, if_pos rfl] at this
      exact this
    have e2 : tkE (bxG (bxU host rs sent wait au) r) (sent + delay + 2000000000) = 0 := tkE_zero hf2 (by omega) (by omega) (show sent ≤ sent + delay + 2000000000 by omega)
    have hk2 : kdX (bxG (bxU host rs sent wait au) r) (some r) (sent + delay + 2000000000) = 2 := by
      unfold kdX kindX
      simp only
      rw [show ownB (bxG (bxU host rs sent wait au) r) r = true from hown, if_neg (by decide), if_pos (by simp [bxG])]
    have t2 := tkB_same e2 hk2 (by decide)
    exact ⟨e2, t2.1, t2.2⟩
theorem eqIv (d m : Int) (w : World) : (Op.equalIn 10000 27 (.agg #[.int .i64 d, .int .i64 m]) (.agg #[.int .i64 d, .int .i64 m])).run Tryd.prog w = .ok true w := by
  have u3 := Tryd.underlying3
  have a3 := Tryd.isAgg3
  have z3 := Tryd.sizeOf3
  have hS : Tryd.prog.underlying 27 = some (.struct (Tryd.prog.fieldsOf 27)) := by kernel_rfl
  have hp : Tryd.prog.stoodInHeld 27 = false := by kernel_rfl
  rw [show (10000 : Nat) = 9999 + 1 from rfl, run_equalIn_agg w 9999 27 _ _ hS hp]
  simp only [Program.fieldsOf, Tryd.underlying27]
  go_simp

set_option maxHeartbeats 8000000 in
theorem ianswers_law (host : Int) (hho : (Lit.int .i64 host).wf = true) (ca : Option Addr) (cn cc : Nat) (rs : List (List Rp)) (sent wait : Int) (hse : (Lit.int .i64 sent).wf = true) (hwa : (Lit.int .i64 wait).wf = true) (au : Int) (hau : 0 ≤ au ∧ au ≤ 65535) (wh : Int) (hwh : 0 ≤ wh ∧ wh ≤ 255) (lo hi : Int) (wlo : (Lit.int .i64 lo).wf = true) (whi : (Lit.int .i64 hi).wf = true) (delay : Int) (w : World)
    (h1 : Rws w ca cn cc rs) (ht : TB w) :
    Calls Tryd.prog 3 #[.agg #[.int .i64 host, .slice ca cn cc], .int .i64 sent, .int .i64 wait, .int .u16 au, .int .u8 wh, .agg #[.int .i64 lo, .int .i64 hi], .int .i64 delay] w fun e w' => e = .returned (.bool true) ∧ Ext w w' := by
  have bd := h1.bd
  have HT := Lib.hid ht
  have HL := Lib.hid h1.hlen
  have hC := (Bk.new w 24 #[.int .i64 host, .slice ca cn cc]).ext ((Ext.refl _).alloc (.cells #[.int .i64 lo, .int .i64 hi] 27))
  have hV := Bk.new (w.alloc (.cells #[.int .i64 host, .slice ca cn cc] 24)) 27 #[.int .i64 lo, .int .i64 hi]
  rw [World.size_alloc] at hV
  have hE : Ext w ((w.alloc (.cells #[.int .i64 host, .slice ca cn cc] 24)).alloc (.cells #[.int .i64 lo, .int .i64 hi] 27)) := ((Ext.refl w).alloc _).alloc _
  clear ht
  go_enter Tryd.func3, Tryd.ntmps3
  go_upto_region 1 with fail
  generalize (w.alloc (.cells #[.int .i64 host, .slice ca cn cc] 24)).alloc (.cells #[.int .i64 lo, .int .i64 hi] 27) = V at *
  generalize w.heap.size + 1 = vb at hV ⊢
  generalize w.heap.size = cb at hC ⊢
  have c0 := hC.c 0 _ rfl
  have c1 := hC.c 1 _ rfl
  have v0 := hV.c 0 _ rfl
  have v1 := hV.c 1 _ rfl
  go_wp2_with fail
  refine (ihead_any V (TB.ext HT.out hE)).mono ?_
  rintro _ w1 ⟨rfl, hx⟩
  clear c0 c1 v0 v1
  replace hC := hC.ext hx
  replace hV := hV.ext hx
  replace hE := hE.trans hx
  clear hx
  have c0 := hC.c 0 _ rfl
  have c1 := hC.c 1 _ rfl
  have v0 := hV.c 0 _ rfl
  have v1 := hV.c 1 _ rfl
  go_wp2_with fail
  refine (opened_any host hho ca cn cc rs sent wait hse hwa au hau w1 (h1.ext hE) (TB.ext HT.out hE)).mono ?_
  rintro _ w2 (⟨ho, rfl, hx⟩ | ⟨ho, sa, sn, sc, ga, gn, gc, la, ln, lc, rfl, hF, hL, hx⟩)
  · go_upto_region 3 with fail
    replace hx := hx.alloc (.cells #[.int .i64 0, .int .i64 0, .int .u64 0, .int .i64 0, .int .i64 0, .slice none 0 0, .slice none 0 0] 33)
    generalize w2.alloc (.cells #[.int .i64 0, .int .i64 0, .int .u64 0, .int .i64 0, .int .i64 0, .slice none 0 0, .slice none 0 0] 33) = V2 at *
    clear c0 c1 v0 v1
    replace hC := hC.ext hx
    replace hV := hV.ext hx
    replace hE := hE.trans hx
    clear hx
    have c0 := hC.c 0 _ rfl
    have c1 := hC.c 1 _ rfl
    have v0 := hV.c 0 _ rfl
    have v1 := hV.c 1 _ rfl
    by_cases l1 : sent < 0
    · have q1 : decide (sent < 0) = true := decide_eq_true l1
      clear l1
      go_wp2_with fail
      go_ret
      exact ⟨rfl, hE⟩
    by_cases u1 : 1000000000000 < sent
    · have q1 : decide (sent < 0) = false := decide_eq_false l1
      have q2 : decide (1000000000000 < sent) = true := decide_eq_true u1
      clear l1 u1
      go_wp2_with fail
      go_ret
      exact ⟨rfl, hE⟩
    have q11 : decide (sent < 0) = false := decide_eq_false l1
    have q12 : decide (1000000000000 < sent) = false := decide_eq_false u1
    have C1 : Hid (decide (0 ≤ sent ∧ sent ≤ 1000000000000) = true) := Lib.hid (decide_eq_true ⟨by omega, by omega⟩)
    clear l1 u1
    by_cases l2 : wait < 0
    · have q1 : decide (wait < 0) = true := decide_eq_true l2
      clear l2
      go_wp2_with fail
      go_ret
      exact ⟨rfl, hE⟩
    by_cases u2 : 1000000000 < wait
    · have q1 : decide (wait < 0) = false := decide_eq_false l2
      have q2 : decide (1000000000 < wait) = true := decide_eq_true u2
      clear l2 u2
      go_wp2_with fail
      go_ret
      exact ⟨rfl, hE⟩
    have q21 : decide (wait < 0) = false := decide_eq_false l2
    have q22 : decide (1000000000 < wait) = false := decide_eq_false u2
    have C2 : Hid (decide (0 ≤ wait ∧ wait ≤ 1000000000) = true) := Lib.hid (decide_eq_true ⟨by omega, by omega⟩)
    clear l2 u2
    have HO := Lib.hid ho
    clear ho
    go_wp2_with fail
    refine (few12_any ca cn cc rs V2 (h1.ext hE)).mono ?_
    rintro _ w3 ⟨rfl, rfl⟩
    rcases hf : fewB rs with _ | _
    · clear hf
      go_wp2_with fail
      go_ret
      exact ⟨rfl, hE⟩
    have HF := Lib.hid hf
    have HSH := Lib.hid (fewB_short hf).1
    have hn60 := (fewB_short hf).2.1
    rw [HL.out] at hn60
    clear hf
    have hq200 : decide ((200 : Int) ≤ (cn : Int)) = false := by simp; omega
    have hv : validF host rs = false := by
      have h := HO.out
      unfold okU at h
      rw [C1.out, C2.out, HF.out, decide_eq_true (show rs.length < 200 by rw [HL.out]; omega)] at h
      simpa using h
    have HVF := Lib.hid hv
    clear hv
    go_wp2_with fail
    refine (rvalid_any host hho ca cn cc rs V2 (h1.ext hE) (fun _ => HSH.out)).mono ?_
    rintro _ w4 ⟨rfl, hx⟩
    rw [HVF.out]
    clear c0 c1 v0 v1
    replace hE := hE.trans hx
    go_wp2_with fail
    go_ret
    exact ⟨rfl, hE⟩
  · have HO := Lib.hid ho
    obtain ⟨hn1, hn2, -⟩ := okU_num ho
    clear ho
    have hlm : ln = (askU au 16).length := by rw [← hL.hlen, List.length_map]
    have hsn : sn ≤ 16 := by rw [← hF.sl.hlen]; exact askU_len au 16
    obtain rfl : gn = 0 := hF.rw.hlen.symm
    have hl16 : ln ≤ 16 := by rw [hlm]; exact askU_len au 16
    have HLM := Lib.hid hlm
    clear hlm
    go_upto_region 3 with fail
    have hB := Bk.new w2 33 #[.int .i64 (bxU host rs sent wait au).host, .int .i64 (bxU host rs sent wait au).round, .int .u64 (bxU host rs sent wait au).head, .int .i64 (bxU host rs sent wait au).sent, .int .i64 (bxU host rs sent wait au).wait, .slice sa sn sc, .slice ga 0 gc]
    replace hx := hx.alloc (.cells #[.int .i64 (bxU host rs sent wait au).host, .int .i64 (bxU host rs sent wait au).round, .int .u64 (bxU host rs sent wait au).head, .int .i64 (bxU host rs sent wait au).sent, .int .i64 (bxU host rs sent wait au).wait, .slice sa sn sc, .slice ga 0 gc] 33)
    have hx2 : Ext w2 (w2.alloc (.cells #[.int .i64 (bxU host rs sent wait au).host, .int .i64 (bxU host rs sent wait au).round, .int .u64 (bxU host rs sent wait au).head, .int .i64 (bxU host rs sent wait au).sent, .int .i64 (bxU host rs sent wait au).wait, .slice sa sn sc, .slice ga 0 gc] 33)) := (Ext.refl w2).alloc _
    generalize w2.alloc (.cells #[.int .i64 (bxU host rs sent wait au).host, .int .i64 (bxU host rs sent wait au).round, .int .u64 (bxU host rs sent wait au).head, .int .i64 (bxU host rs sent wait au).sent, .int .i64 (bxU host rs sent wait au).wait, .slice sa sn sc, .slice ga 0 gc] 33) = V2 at *
    generalize w2.heap.size = b0 at hB ⊢
    replace hF := hF.ext hx2
    replace hL := hL.ext hx2
    clear hx2
    clear c0 c1 v0 v1
    replace hC := hC.ext hx
    replace hV := hV.ext hx
    replace hE := hE.trans hx
    clear hx
    have c0 := hC.c 0 _ rfl
    have c1 := hC.c 1 _ rfl
    have v0 := hV.c 0 _ rfl
    have v1 := hV.c 1 _ rfl
    have x0 := hB.c 0 _ rfl
    have x1 := hB.c 1 _ rfl
    have x2 := hB.c 2 _ rfl
    have x3 := hB.c 3 _ rfl
    have x4 := hB.c 4 _ rfl
    have x5 := hB.c 5 _ rfl
    have x6 := hB.c 6 _ rfl
    by_cases z0 : ln = 0
    · subst z0
      go_wp2_with fail
      refine (bits_any au hau V2).mono ?_
      rintro _ w3 ⟨rfl, hx⟩
      clear c0 c1 v0 v1 x0 x1 x2 x3 x4 x5 x6
      replace hE := hE.trans hx
      obtain ⟨m, hm⟩ : ∃ m, (askU au 16).length = m := ⟨_, rfl⟩
      rw [hm]
      have hqe : ((0 : Int) == (m : Int)) = true := by rw [beq_iff_eq, ← hm, ← HLM.out]; rfl
      clear hm
      go_wp2_with fail
      go_ret
      exact ⟨rfl, hE⟩
    have hq : ((ln : Int) == 0) = false := by simp; omega
    have hqz : ((0 : Int) == (ln : Int)) = false := by simp; omega
    have hqn : (ln == 0) = false := by simp; omega
    have hqd : decide (ln = 0) = false := decide_eq_false z0
    by_cases z1 : delay < 0
    · have hq1 : decide (delay < 0) = true := decide_eq_true z1
      clear z1
      go_wp2_with fail
      refine (bits_any au hau V2).mono ?_
      rintro _ w3 ⟨rfl, hx⟩
      clear c0 c1 v0 v1 x0 x1 x2 x3 x4 x5 x6
      replace hE := hE.trans hx
      obtain ⟨m, hm⟩ : ∃ m, (askU au 16).length = m := ⟨_, rfl⟩
      rw [hm]
      have hqe : ((ln : Int) == (m : Int)) = true := by rw [beq_iff_eq, ← hm, ← HLM.out]
      clear hm
      go_wp2_with fail
      go_ret
      exact ⟨rfl, hE⟩
    have hq1 : decide (delay < 0) = false := decide_eq_false z1
    have hwr : IntKind.i64.wrap (wait + 1000) = wait + 1000 := IntWalk.i64_in _ (by omega)
    by_cases z2 : wait + 1000 < delay
    · have hq2 : decide (wait + 1000 < delay) = true := decide_eq_true z2
      clear z2
      go_wp2_with fail
      refine (bits_any au hau V2).mono ?_
      rintro _ w3 ⟨rfl, hx⟩
      clear c0 c1 v0 v1 x0 x1 x2 x3 x4 x5 x6
      replace hE := hE.trans hx
      obtain ⟨m, hm⟩ : ∃ m, (askU au 16).length = m := ⟨_, rfl⟩
      rw [hm]
      have hqe : ((ln : Int) == (m : Int)) = true := by rw [beq_iff_eq, ← hm, ← HLM.out]
      clear hm
      go_wp2_with fail
      go_ret
      exact ⟨rfl, hE⟩
    have hq2 : decide (wait + 1000 < delay) = false := decide_eq_false z2
    go_upto_region 7 with fail
    have hln0 : 0 < ln := by omega
    clear hq hqz hqn hqd z0 hq1 hq2 hwr
    obtain ⟨J, hJ, hJn⟩ := idx_bdI hwh hln0
    have hwq : wrap64 wh = wh := by unfold wrap64; omega
    have hJ2 : wh.tmod (ln : Int) = (J : Int) := by rw [hwq] at hJ; exact hJ
    clear hJ
    have hxm : nth (askU au 16) J ∈ (bxU host rs sent wait au).asked := nth_mem (show J < (askU au 16).length by rw [← HLM.out]; exact hJn)
    have hJr := nthR_rqs (bxU host rs sent wait au) (l := askU au 16) (i := J) (by rw [← HLM.out]; exact hJn)
    have hqok := hL.wfAt hJn
    obtain ⟨rb, ro, rfl, hcl⟩ := hL.at (by omega)
    have hcJ := cells_rq (hcl J hJn)
    rw [hJr, sz_rq] at hcJ
    rw [hJr] at hqok
    have hown := own_ans hxm lo hi
    clear hcl hJr hxm
    obtain ⟨q, hqe⟩ : ∃ q, rq1 (bxU host rs sent wait au) (nth (askU au 16) J) = q := ⟨_, rfl⟩
    rw [hqe] at hcJ hqok hown
    have HANS := Lib.hid (ans_late (au := au) HO.out hown (show 0 ≤ delay by omega) (show delay ≤ wait + 1000 by omega))
    clear hqe hown
    obtain ⟨q0, q1, q2, q3⟩ := hcJ
    have hll := lt_of_cell q0
    simp only at hll
    have hlv := hV.lt
    have n0 : ¬ ((ln : Int) = 0) := by omega
    have n1 : (J : Int) < (ln : Int) := by omega
    generalize hWFe : wfR (ansR q lo hi) = WF at *
    have hans := fun (W : World) => ians_any q hqok lo hi wlo whi W
    rw [hWFe] at hans
    have HAN := Lib.hid hans
    have HWFe := Lib.hid hWFe
    clear hans hWFe
    obtain ⟨BS, hBS⟩ : ∃ z, (if WF = true then ppX (ansR q lo hi) else []) = z := ⟨_, rfl⟩
    rw [hBS] at HAN
    have HBS := Lib.hid hBS
    clear hBS
    refine region_rely (S := Ext) (fun W' => Ext V2 W') [some 95, some 96, some 97, some 98, some 99, some 100, some 101, some 102, some 103, some 104, some 94, some 105, some 106, some 19, some 20] [[], [], [1], [], [3], [2, 4], [0, 5], [6], [], [7, 8], [9], [10], [10], [11], [12]] [[], [], [], [], [], [], [], [], [], [], [], [], [], [], []] [.one (.slice (some ⟨rb, ro, none⟩) ln lc), .one (.int .u8 wh), .one (.int .i64 wh), .one (.slice (some ⟨rb, ro, none⟩) ln lc), .one (.int .i64 (ln : Int)), .one (.int .i64 (J : Int)), .one (.pointer (some ⟨rb, ro + J * 4, none⟩)), .one (.agg #[.int .i64 q.h, .int .i64 q.a, .int .i64 q.r, .int .u64 q.n]), .one (.agg #[.int .i64 lo, .int .i64 hi]), RAn WF BS, RAn WF BS, RSl BS, .one (.bool WF), RSl BS, .one (.bool WF)] (by kernel_rfl) (by kernel_rfl) (Ext.refl V2).drew ?_ ?_
    · refine stepsR_cons ?_ ?_
      · intro vs W' hl hI hd ho
        refine hold ?_
        obtain ⟨x0, x1, x2, x3, x4, x5, x6, x7, x8, x9, x10, x11, x12, x13, x14, rfl⟩ := lenlit15 hl; clear hl
        refine held ?_
        simp only [putAll, Act.put, List.setIfInBounds_toArray, List.set_cons_succ, List.set_cons_zero]
        go_wp2_with fail
        exact rely_done _ rfl rfl (Ext.refl _) hI
      refine stepsR_cons ?_ ?_
      · intro vs W' hl hI hd ho
        refine hold ?_
        obtain ⟨x0, x1, x2, x3, x4, x5, x6, x7, x8, x9, x10, x11, x12, x13, x14, rfl⟩ := lenlit15 hl; clear hl
        refine held ?_
        simp only [putAll, Act.put, List.setIfInBounds_toArray, List.set_cons_succ, List.set_cons_zero]
        go_wp2_with fail
        exact rely_done _ rfl rfl (Ext.refl _) hI
      refine stepsR_cons ?_ ?_
      · intro vs W' hl hI hd ho
        refine hold ?_
        obtain ⟨x0, x1, x2, x3, x4, x5, x6, x7, x8, x9, x10, x11, x12, x13, x14, rfl⟩ := lenlit15 hl; clear hl
        simp only [factsR, atR, List.getElem?_cons_succ, List.getElem?_cons_zero, Rel.one, Rel.blk, RAn, RSl] at hd
        obtain ⟨rfl, -⟩ := hd
        refine held ?_
        simp only [putAll, Act.put, List.setIfInBounds_toArray, List.set_cons_succ, List.set_cons_zero]
        go_wp2_with fail
        exact rely_done _ rfl rfl (Ext.refl _) hI
      refine stepsR_cons ?_ ?_
      · intro vs W' hl hI hd ho
        refine hold ?_
        obtain ⟨x0, x1, x2, x3, x4, x5, x6, x7, x8, x9, x10, x11, x12, x13, x14, rfl⟩ := lenlit15 hl; clear hl
        refine held ?_
        simp only [putAll, Act.put, List.setIfInBounds_toArray, List.set_cons_succ, List.set_cons_zero]
        go_wp2_with fail
        exact rely_done _ rfl rfl (Ext.refl _) hI
      refine stepsR_cons ?_ ?_
      · intro vs W' hl hI hd ho
        refine hold ?_
        obtain ⟨x0, x1, x2, x3, x4, x5, x6, x7, x8, x9, x10, x11, x12, x13, x14, rfl⟩ := lenlit15 hl; clear hl
        simp only [factsR, atR, List.getElem?_cons_succ, List.getElem?_cons_zero, Rel.one, Rel.blk, RAn, RSl] at hd
        obtain ⟨rfl, -⟩ := hd
        refine held ?_
        simp only [putAll, Act.put, List.setIfInBounds_toArray, List.set_cons_succ, List.set_cons_zero]
        go_wp2_with fail
        exact rely_done _ rfl rfl (Ext.refl _) hI
      refine stepsR_cons ?_ ?_
      · intro vs W' hl hI hd ho
        refine hold ?_
        obtain ⟨x0, x1, x2, x3, x4, x5, x6, x7, x8, x9, x10, x11, x12, x13, x14, rfl⟩ := lenlit15 hl; clear hl
        simp only [factsR, atR, List.getElem?_cons_succ, List.getElem?_cons_zero, Rel.one, Rel.blk, RAn, RSl] at hd
        obtain ⟨rfl, rfl, -⟩ := hd
        refine held ?_
        simp only [putAll, Act.put, List.setIfInBounds_toArray, List.set_cons_succ, List.set_cons_zero]
        go_wp2_with fail
        exact rely_done _ rfl rfl (Ext.refl _) hI
      refine stepsR_cons ?_ ?_
      · intro vs W' hl hI hd ho
        refine hold ?_
        obtain ⟨x0, x1, x2, x3, x4, x5, x6, x7, x8, x9, x10, x11, x12, x13, x14, rfl⟩ := lenlit15 hl; clear hl
        simp only [factsR, atR, List.getElem?_cons_succ, List.getElem?_cons_zero, Rel.one, Rel.blk, RAn, RSl] at hd
        obtain ⟨rfl, rfl, -⟩ := hd
        refine held ?_
        simp only [putAll, Act.put, List.setIfInBounds_toArray, List.set_cons_succ, List.set_cons_zero]
        go_wp2_with fail
        exact rely_done _ rfl rfl (Ext.refl _) hI
      refine stepsR_cons ?_ ?_
      · intro vs W' hl hI hd ho
        refine hold ?_
        obtain ⟨x0, x1, x2, x3, x4, x5, x6, x7, x8, x9, x10, x11, x12, x13, x14, rfl⟩ := lenlit15 hl; clear hl
        simp only [factsR, atR, List.getElem?_cons_succ, List.getElem?_cons_zero, Rel.one, Rel.blk, RAn, RSl] at hd
        obtain ⟨rfl, -⟩ := hd
        refine held ?_
        simp only [putAll, Act.put, List.setIfInBounds_toArray, List.set_cons_succ, List.set_cons_zero]
        have t0 := hI.cell q0
        have t1 := hI.cell q1
        have t2 := hI.cell q2
        have t3 := hI.cell q3
        go_wp2_with fail
        exact rely_done _ rfl rfl (Ext.refl _) hI
      refine stepsR_cons ?_ ?_
      · intro vs W' hl hI hd ho
        refine hold ?_
        obtain ⟨x0, x1, x2, x3, x4, x5, x6, x7, x8, x9, x10, x11, x12, x13, x14, rfl⟩ := lenlit15 hl; clear hl
        refine held ?_
        simp only [putAll, Act.put, List.setIfInBounds_toArray, List.set_cons_succ, List.set_cons_zero]
        have t0 := hI.cell v0
        have t1 := hI.cell v1
        go_wp2_with fail
        exact rely_done _ rfl rfl (Ext.refl _) hI
      refine stepsR_cons ?_ ?_
      · intro vs W' hl hI hd ho
        refine hold ?_
        obtain ⟨x0, x1, x2, x3, x4, x5, x6, x7, x8, x9, x10, x11, x12, x13, x14, rfl⟩ := lenlit15 hl; clear hl
        simp only [factsR, atR, List.getElem?_cons_succ, List.getElem?_cons_zero, Rel.one, Rel.blk, RAn, RSl] at hd
        obtain ⟨rfl, rfl, -⟩ := hd
        refine held ?_
        simp only [putAll, Act.put, List.setIfInBounds_toArray, List.set_cons_succ, List.set_cons_zero]
        go_wp2_with fail
        refine (HAN.out W').mono ?_
        rintro e w4 ⟨a9, m9, k9, rfl, hs9, hx4⟩
        go_wp2_with fail
        exact rely_done _ rfl ⟨_, _, _, rfl, hs9⟩ hx4 (hI.trans hx4)
      refine stepsR_cons ?_ ?_
      · intro vs W' hl hI hd ho
        refine hold ?_
        obtain ⟨x0, x1, x2, x3, x4, x5, x6, x7, x8, x9, x10, x11, x12, x13, x14, rfl⟩ := lenlit15 hl; clear hl
        simp only [factsR, atR, List.getElem?_cons_succ, List.getElem?_cons_zero, Rel.one, Rel.blk, RAn, RSl] at hd
        obtain ⟨⟨a9, m9, k9, rfl, hs9⟩, -⟩ := hd
        refine held ?_
        simp only [putAll, Act.put, List.setIfInBounds_toArray, List.set_cons_succ, List.set_cons_zero]
        go_wp2_with fail
        exact rely_done _ rfl ⟨_, _, _, rfl, hs9⟩ (Ext.refl _) hI
      refine stepsR_cons ?_ ?_
      · intro vs W' hl hI hd ho
        refine hold ?_
        obtain ⟨x0, x1, x2, x3, x4, x5, x6, x7, x8, x9, x10, x11, x12, x13, x14, rfl⟩ := lenlit15 hl; clear hl
        simp only [factsR, atR, List.getElem?_cons_succ, List.getElem?_cons_zero, Rel.one, Rel.blk, RAn, RSl] at hd
        obtain ⟨⟨a10, m10, k10, rfl, hs10⟩, -⟩ := hd
        refine held ?_
        simp only [putAll, Act.put, List.setIfInBounds_toArray, List.set_cons_succ, List.set_cons_zero]
        go_wp2_with fail
        exact rely_done _ rfl ⟨_, _, _, rfl, hs10⟩ (Ext.refl _) hI
      refine stepsR_cons ?_ ?_
      · intro vs W' hl hI hd ho
        refine hold ?_
        obtain ⟨x0, x1, x2, x3, x4, x5, x6, x7, x8, x9, x10, x11, x12, x13, x14, rfl⟩ := lenlit15 hl; clear hl
        simp only [factsR, atR, List.getElem?_cons_succ, List.getElem?_cons_zero, Rel.one, Rel.blk, RAn, RSl] at hd
        obtain ⟨⟨a10, m10, k10, rfl, hs10⟩, -⟩ := hd
        refine held ?_
        simp only [putAll, Act.put, List.setIfInBounds_toArray, List.set_cons_succ, List.set_cons_zero]
        go_wp2_with fail
        exact rely_done _ rfl rfl (Ext.refl _) hI
      refine stepsR_cons ?_ ?_
      · intro vs W' hl hI hd ho
        refine hold ?_
        obtain ⟨x0, x1, x2, x3, x4, x5, x6, x7, x8, x9, x10, x11, x12, x13, x14, rfl⟩ := lenlit15 hl; clear hl
        simp only [factsR, atR, List.getElem?_cons_succ, List.getElem?_cons_zero, Rel.one, Rel.blk, RAn, RSl] at hd
        obtain ⟨⟨a11, m11, k11, rfl, hs11⟩, -⟩ := hd
        refine held ?_
        simp only [putAll, Act.put, List.setIfInBounds_toArray, List.set_cons_succ, List.set_cons_zero]
        go_wp2_with fail
        exact rely_done _ rfl ⟨_, _, _, rfl, hs11⟩ (Ext.refl _) hI
      refine stepsR_cons ?_ ?_
      · intro vs W' hl hI hd ho
        refine hold ?_
        obtain ⟨x0, x1, x2, x3, x4, x5, x6, x7, x8, x9, x10, x11, x12, x13, x14, rfl⟩ := lenlit15 hl; clear hl
        simp only [factsR, atR, List.getElem?_cons_succ, List.getElem?_cons_zero, Rel.one, Rel.blk, RAn, RSl] at hd
        obtain ⟨rfl, -⟩ := hd
        refine held ?_
        simp only [putAll, Act.put, List.setIfInBounds_toArray, List.set_cons_succ, List.set_cons_zero]
        go_wp2_with fail
        exact rely_done _ rfl rfl (Ext.refl _) hI
      exact trivial
    · intro vs W' hl hI hd
      obtain ⟨x0, x1, x2, x3, x4, x5, x6, x7, x8, x9, x10, x11, x12, x13, x14, rfl⟩ := lenlit15 hl; clear hl
      simp only [List.length_cons, List.length_nil, List.range, List.range.loop, Nat.zero_add, Nat.reduceAdd, factsR, atR, List.getElem?_cons_succ, List.getElem?_cons_zero, Rel.one, Rel.blk, RAn, RSl] at hd
      obtain ⟨rfl, rfl, rfl, rfl, rfl, rfl, rfl, rfl, rfl, ⟨a9, m9, k9, rfl, hs9⟩, ⟨a10, m10, k10, rfl, hs10⟩, ⟨a11, m11, k11, rfl, hs11⟩, rfl, ⟨xa, xn, xc, rfl, hS⟩, rfl, -⟩ := hd
      simp only [putAll, Act.put, List.setIfInBounds_toArray, List.set_cons_succ, List.set_cons_zero]
      clear q0 q1 q2 q3 n0 n1 hJ2 hwq hll hlv
      clear c0 c1 v0 v1 x0 x1 x2 x3 x4 x5 x6
      replace hC := hC.ext hI
      replace hV := hV.ext hI
      replace hB := hB.ext hI
      replace hF := hF.ext hI
      replace hL := hL.ext hI
      replace hE := hE.trans hI
      clear hI
      have c0 := hC.c 0 _ rfl
      have c1 := hC.c 1 _ rfl
      have v0 := hV.c 0 _ rfl
      have v1 := hV.c 1 _ rfl
      have x0 := hB.c 0 _ rfl
      have x1 := hB.c 1 _ rfl
      have x2 := hB.c 2 _ rfl
      have x3 := hB.c 3 _ rfl
      have x4 := hB.c 4 _ rfl
      have x5 := hB.c 5 _ rfl
      have x6 := hB.c 6 _ rfl
      rcases WF with _ | _
      · clear hS
        go_wp2_with fail
        go_ret
        exact ⟨rfl, hE⟩
      have hw := HWFe.out
      have hbs : ppX (ansR q lo hi) = BS := HBS.out
      rw [← hbs] at hS
      clear hbs
      have hrok := ansR_ok hqok wlo whi
      have hxn : xn ≤ 1000000000 := by rw [← hS.hlen]; have := ppX_len hrok hw; omega
      have hgp := gpX_pp hrok hw
      have HW := Lib.hid hw
      have hr5 : (ansR q lo hi).lo = lo ∧ (ansR q lo hi).hi = hi := ⟨rfl, rfl⟩
      clear hw
      generalize ansR q lo hi = r at *
      have HGP := Lib.hid hgp
      clear hgp hqok
      have hwd : IntKind.i64.wrap (sent + delay) = sent + delay := IntWalk.i64_in _ (by omega)
      clear hL
      by_cases hl : wait < delay
      · have hl2 : decide (wait < delay) = true := decide_eq_true hl
        have HT4 := Lib.hid (HANS.out.2.1 (by omega))
        clear hl
        go_wp2_with fail
        refine (itake_is (bxU host rs sent wait au) sa sn sc ga 0 gc xa xn xc (ppX r) (sent + delay) W' hF hS hxn (by omega) (by omega) (TB.ext HT.out hE) (by rw [HGP.out]; exact ⟨HT4.out.1, HT4.out.2, HANS.out.1⟩)).mono ?_
        rintro _ w5 ⟨sa1, sn1, sc1, ga1, gn1, gc1, rfl, hX, -, hx⟩
        go_upto_region 11 with fail
        have hXb := Bk.new w5 33 #[.int .i64 (bxU host rs sent wait au).host, .int .i64 (bxU host rs sent wait au).round, .int .u64 (bxU host rs sent wait au).head, .int .i64 (bxU host rs sent wait au).sent, .int .i64 (bxU host rs sent wait au).wait, .slice sa1 sn1 sc1, .slice ga1 gn1 gc1]
        replace hx := hx.alloc (.cells #[.int .i64 (bxU host rs sent wait au).host, .int .i64 (bxU host rs sent wait au).round, .int .u64 (bxU host rs sent wait au).head, .int .i64 (bxU host rs sent wait au).sent, .int .i64 (bxU host rs sent wait au).wait, .slice sa1 sn1 sc1, .slice ga1 gn1 gc1] 33)
        have hx2 : Ext w5 (w5.alloc (.cells #[.int .i64 (bxU host rs sent wait au).host, .int .i64 (bxU host rs sent wait au).round, .int .u64 (bxU host rs sent wait au).head, .int .i64 (bxU host rs sent wait au).sent, .int .i64 (bxU host rs sent wait au).wait, .slice sa1 sn1 sc1, .slice ga1 gn1 gc1] 33)) := (Ext.refl w5).alloc _
        generalize w5.alloc (.cells #[.int .i64 (bxU host rs sent wait au).host, .int .i64 (bxU host rs sent wait au).round, .int .u64 (bxU host rs sent wait au).head, .int .i64 (bxU host rs sent wait au).sent, .int .i64 (bxU host rs sent wait au).wait, .slice sa1 sn1 sc1, .slice ga1 gn1 gc1] 33) = V5 at *
        generalize w5.heap.size = b5 at hXb ⊢
        replace hX := hX.ext hx2
        clear hx2
        clear c0 c1 v0 v1 x0 x1 x2 x3 x4 x5 x6
        replace hC := hC.ext hx
        replace hV := hV.ext hx
        replace hB := hB.ext hx
        replace hF := hF.ext hx
        replace hS := hS.ext hx
        replace hE := hE.trans hx
        clear hx
        have c0 := hC.c 0 _ rfl
        have c1 := hC.c 1 _ rfl
        have v0 := hV.c 0 _ rfl
        have v1 := hV.c 1 _ rfl
        have x0 := hB.c 0 _ rfl
        have x1 := hB.c 1 _ rfl
        have x2 := hB.c 2 _ rfl
        have x3 := hB.c 3 _ rfl
        have x4 := hB.c 4 _ rfl
        have x5 := hB.c 5 _ rfl
        have x6 := hB.c 6 _ rfl
        have y0 := hXb.c 0 _ rfl
        have y1 := hXb.c 1 _ rfl
        have y2 := hXb.c 2 _ rfl
        have y3 := hXb.c 3 _ rfl
        have y4 := hXb.c 4 _ rfl
        have y5 := hXb.c 5 _ rfl
        have y6 := hXb.c 6 _ rfl
        go_wp2_with fail
        refine (rsame13_any (bxU host rs sent wait au) sa1 sn1 sc1 ga1 gn1 gc1 (bxU host rs sent wait au) sa sn sc ga 0 gc V5 hX hF).mono ?_
        rintro _ w6 ⟨rfl, hx⟩
        rw [decide_eq_true rfl]
        clear c0 c1 v0 v1 x0 x1 x2 x3 x4 x5 x6
        clear y0 y1 y2 y3 y4 y5 y6
        replace hE := hE.trans hx
        go_wp2_with fail
        go_ret
        exact ⟨rfl, hE⟩
      have hl2 : decide (wait < delay) = false := decide_eq_false hl
      have HT1 := Lib.hid (HANS.out.2.2 (by omega))
      have HT2 := Lib.hid ((HANS.out.2.2 (by omega)).2.2 rfl)
      have hr1 : 1 ≤ 1000 := by omega
      clear hl
      go_wp2_with fail
      refine (itake_is (bxU host rs sent wait au) sa sn sc ga 0 gc xa xn xc (ppX r) (sent + delay) W' hF hS hxn (by omega) (by omega) (TB.ext HT.out hE) (by rw [HGP.out]; exact ⟨HT1.out.1, HT1.out.2.1, HANS.out.1⟩)).mono ?_
      rintro _ w5 ⟨sa1, sn1, sc1, ga1, gn1, gc1, rfl, hX, -, hx⟩
      have hg1 : gn1 = 1 := hX.rw.hlen.symm
      subst hg1
      have hs1 : sn1 ≤ 16 := by rw [← hX.sl.hlen]; exact askU_len au 16
      go_upto_region 11 with fail
      have hXb := Bk.new w5 33 #[.int .i64 (bxG (bxU host rs sent wait au) r).host, .int .i64 (bxG (bxU host rs sent wait au) r).round, .int .u64 (bxG (bxU host rs sent wait au) r).head, .int .i64 (bxG (bxU host rs sent wait au) r).sent, .int .i64 (bxG (bxU host rs sent wait au) r).wait, .slice sa1 sn1 sc1, .slice ga1 1 gc1]
      replace hx := hx.alloc (.cells #[.int .i64 (bxG (bxU host rs sent wait au) r).host, .int .i64 (bxG (bxU host rs sent wait au) r).round, .int .u64 (bxG (bxU host rs sent wait au) r).head, .int .i64 (bxG (bxU host rs sent wait au) r).sent, .int .i64 (bxG (bxU host rs sent wait au) r).wait, .slice sa1 sn1 sc1, .slice ga1 1 gc1] 33)
      have hx2 : Ext w5 (w5.alloc (.cells #[.int .i64 (bxG (bxU host rs sent wait au) r).host, .int .i64 (bxG (bxU host rs sent wait au) r).round, .int .u64 (bxG (bxU host rs sent wait au) r).head, .int .i64 (bxG (bxU host rs sent wait au) r).sent, .int .i64 (bxG (bxU host rs sent wait au) r).wait, .slice sa1 sn1 sc1, .slice ga1 1 gc1] 33)) := (Ext.refl w5).alloc _
      generalize w5.alloc (.cells #[.int .i64 (bxG (bxU host rs sent wait au) r).host, .int .i64 (bxG (bxU host rs sent wait au) r).round, .int .u64 (bxG (bxU host rs sent wait au) r).head, .int .i64 (bxG (bxU host rs sent wait au) r).sent, .int .i64 (bxG (bxU host rs sent wait au) r).wait, .slice sa1 sn1 sc1, .slice ga1 1 gc1] 33) = V5 at *
      generalize w5.heap.size = b5 at hXb ⊢
      replace hX := hX.ext hx2
      clear hx2
      clear c0 c1 v0 v1 x0 x1 x2 x3 x4 x5 x6
      replace hC := hC.ext hx
      replace hV := hV.ext hx
      replace hB := hB.ext hx
      replace hF := hF.ext hx
      replace hS := hS.ext hx
      replace hE := hE.trans hx
      clear hx
      have c0 := hC.c 0 _ rfl
      have c1 := hC.c 1 _ rfl
      have v0 := hV.c 0 _ rfl
      have v1 := hV.c 1 _ rfl
      have x0 := hB.c 0 _ rfl
      have x1 := hB.c 1 _ rfl
      have x2 := hB.c 2 _ rfl
      have x3 := hB.c 3 _ rfl
      have x4 := hB.c 4 _ rfl
      have x5 := hB.c 5 _ rfl
      have x6 := hB.c 6 _ rfl
      have y0 := hXb.c 0 _ rfl
      have y1 := hXb.c 1 _ rfl
      have y2 := hXb.c 2 _ rfl
      have y3 := hXb.c 3 _ rfl
      have y4 := hXb.c 4 _ rfl
      have y5 := hXb.c 5 _ rfl
      have y6 := hXb.c 6 _ rfl
      have hwd2 : IntKind.i64.wrap (sent + delay + 2000000000) = sent + delay + 2000000000 := IntWalk.i64_in _ (by omega)
      go_wp2_with fail
      refine (itake_is (bxG (bxU host rs sent wait au) r) sa1 sn1 sc1 ga1 1 gc1 xa xn xc (ppX r) (sent + delay + 2000000000) V5 hX hS hxn (by omega) (by omega) (TB.ext HT.out hE) (by rw [HGP.out]; exact ⟨HT2.out.2.1, HT2.out.2.2, HT2.out.1⟩)).mono ?_
      rintro _ w6 ⟨sa2, sn2, sc2, ga2, gn2, gc2, rfl, hY, -, hx⟩
      go_upto_region 16 with fail
      have hYb := Bk.new w6 33 #[.int .i64 (bxG (bxU host rs sent wait au) r).host, .int .i64 (bxG (bxU host rs sent wait au) r).round, .int .u64 (bxG (bxU host rs sent wait au) r).head, .int .i64 (bxG (bxU host rs sent wait au) r).sent, .int .i64 (bxG (bxU host rs sent wait au) r).wait, .slice sa2 sn2 sc2, .slice ga2 gn2 gc2]
      replace hx := hx.alloc (.cells #[.int .i64 (bxG (bxU host rs sent wait au) r).host, .int .i64 (bxG (bxU host rs sent wait au) r).round, .int .u64 (bxG (bxU host rs sent wait au) r).head, .int .i64 (bxG (bxU host rs sent wait au) r).sent, .int .i64 (bxG (bxU host rs sent wait au) r).wait, .slice sa2 sn2 sc2, .slice ga2 gn2 gc2] 33)
      have hx2 : Ext w6 (w6.alloc (.cells #[.int .i64 (bxG (bxU host rs sent wait au) r).host, .int .i64 (bxG (bxU host rs sent wait au) r).round, .int .u64 (bxG (bxU host rs sent wait au) r).head, .int .i64 (bxG (bxU host rs sent wait au) r).sent, .int .i64 (bxG (bxU host rs sent wait au) r).wait, .slice sa2 sn2 sc2, .slice ga2 gn2 gc2] 33)) := (Ext.refl w6).alloc _
      generalize w6.alloc (.cells #[.int .i64 (bxG (bxU host rs sent wait au) r).host, .int .i64 (bxG (bxU host rs sent wait au) r).round, .int .u64 (bxG (bxU host rs sent wait au) r).head, .int .i64 (bxG (bxU host rs sent wait au) r).sent, .int .i64 (bxG (bxU host rs sent wait au) r).wait, .slice sa2 sn2 sc2, .slice ga2 gn2 gc2] 33) = V6 at *
      generalize w6.heap.size = b6 at hYb ⊢
      replace hY := hY.ext hx2
      clear hx2 c0 c1 x0 x1 x2 x3 x4 x5 x6 hC hB hwd hwd2
      clear v0 v1 y0 y1 y2 y3 y4 y5 y6
      replace hV := hV.ext hx
      replace hXb := hXb.ext hx
      replace hX := hX.ext hx
      replace hS := hS.ext hx
      replace hE := hE.trans hx
      clear hx
      have v0 := hV.c 0 _ rfl
      have v1 := hV.c 1 _ rfl
      have y0 := hXb.c 0 _ rfl
      have y1 := hXb.c 1 _ rfl
      have y2 := hXb.c 2 _ rfl
      have y3 := hXb.c 3 _ rfl
      have y4 := hXb.c 4 _ rfl
      have y5 := hXb.c 5 _ rfl
      have y6 := hXb.c 6 _ rfl
      have u0 := hYb.c 0 _ rfl
      have u1 := hYb.c 1 _ rfl
      have u2 := hYb.c 2 _ rfl
      have u3 := hYb.c 3 _ rfl
      have u4 := hYb.c 4 _ rfl
      have u5 := hYb.c 5 _ rfl
      have u6 := hYb.c 6 _ rfl
      obtain ⟨gb, go, rfl, hcg⟩ := hX.rw.at (by omega)
      have hc0 := hcg 0 (by omega)
      have e0 : nthR (bxG (bxU host rs sent wait au) r).got 0 = r := rfl
      rw [e0, sz_rp] at hc0
      simp only [Nat.zero_mul, Nat.add_zero] at hc0
      obtain ⟨d0, d1, d2, d3, d4, d5, -⟩ := cells_rp hc0
      rw [hr5.1] at d4
      rw [hr5.2] at d5
      clear hc0 e0 hcg d0 d1 d2 d3
      have qs := fun W => eqIv lo hi W
      have hl1 := hXb.lt
      have hl2' := hYb.lt
      have hl3 := hV.lt
      have hl4 := lt_of_cell d4
      simp only at hl4
      have hg := @grow_cell
      have hsm := fun (W : World) (hW : Ext V6 W) => rsame13_any (bxG (bxU host rs sent wait au) r) sa1 sn1 sc1 (some ⟨gb, go, none⟩) 1 gc1 (bxG (bxU host rs sent wait au) r) sa2 sn2 sc2 ga2 gn2 gc2 W (hX.ext hW) (hY.ext hW)
      rw [decide_eq_true rfl] at hsm
      have HSM := Lib.hid hsm
      clear hsm
      refine region_ext (by kernel_rfl) (by kernel_rfl) ?_
      repeat (go_big_quiet_step ((go_at_call 15; exact Calls.regrown_of (HSM.out _ (ext_grow _ _ _)))))
      refine wpQuiet_nil ?_
      intro w7 hx
      replace hE := hE.trans hx
      go_wp2_with fail
      go_ret
      exact ⟨rfl, hE⟩
end Go.Proofs.YtdmfdimhjemngaaDoor
