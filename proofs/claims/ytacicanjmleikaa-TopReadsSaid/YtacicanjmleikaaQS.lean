/-
  Package commit, walked: formed. Written by wip/gen_qs.py.
-/
import Derived.Test.YtacicanjmleikaaQQ
namespace Go.Proofs.Ytacicanjmleikaa
open Go.RowKit Go.Sort Go.Shelf
set_option linter.unusedSimpArgs false
set_option linter.unusedVariables false
set_option maxRecDepth 100000

theorem formB_rd {t : Tx} {k : Nat} (hk : k < t.rd.length) (h : stepSn t.rd k = false) : formB t = false := by
  unfold formB; rw [all_rangeQ_no hk h]; rfl
theorem formB_wr {t : Tx} {k : Nat} (hk : k < t.wr.length) (h : stepW t.wr k = false) : formB t = false := by
  unfold formB; rw [all_rangeQ_no hk h]; simp
theorem formB_end {t : Tx} (h1 : ∀ i, i < t.rd.length → stepSn t.rd i = true) (h2 : ∀ i, i < t.wr.length → stepW t.wr i = true) : formB t = (inT t.id 1 1000000 && (inT t.ts 0 3000000000000000 && (decide (t.rd.length ≤ 8) && decide (t.wr.length ≤ 8)))) := by
  unfold formB; rw [all_rangeQ.2 h1, all_rangeQ.2 h2]; simp
theorem stepSn_no {l : List Sn} {k : Nat} (h : sOk (nthR l k) = false) : stepSn l k = false := by unfold stepSn; rw [h]; rfl
theorem stepSn_zero {l : List Sn} (h : sOk (nthR l 0) = true) : stepSn l 0 = true := by unfold stepSn; rw [h]; rfl
theorem stepSn_pos {l : List Sn} {k : Nat} (h : sOk (nthR l k) = true) (hk : 0 < k) : stepSn l k = decide ((nthR l (k - 1)).k < (nthR l k).k) := by
  unfold stepSn
  rw [h, Bool.true_and, show (k == 0) = false from by simp; omega, Bool.false_or]
theorem stepW_no {l : List Wr} {k : Nat} (h : wOk (nthR l k) = false) : stepW l k = false := by unfold stepW; rw [h]; rfl
theorem stepW_zero {l : List Wr} (h : wOk (nthR l 0) = true) : stepW l 0 = true := by unfold stepW; rw [h]; rfl
theorem stepW_pos {l : List Wr} {k : Nat} (h : wOk (nthR l k) = true) (hk : 0 < k) : stepW l k = decide ((nthR l (k - 1)).k < (nthR l k).k) := by
  unfold stepW
  rw [h, Bool.true_and, show (k == 0) = false from by simp; omega, Bool.false_or]

def valT (r : TxR) : Value := .agg #[.int .i64 r.id, .int .i64 r.ts, .slice r.ra r.rn r.rc, .slice r.wa r.wn r.wc]

set_option maxHeartbeats 8000000 in
theorem formed_any (r : TxR) (t : Tx) (w : World) (h : TxL w r t) :
    Calls Try.prog 27 #[valT r] w fun e w' => e = .returned (.bool (formB t)) ∧ Ext w w' := by
  obtain ⟨id, ts, ra, rn, rc, wa, wn, wc⟩ := r
  obtain ⟨id2, ts2, xr, xw⟩ := t
  obtain ⟨e1, e2, hrd, hwr⟩ := h
  simp only at e1 e2 hrd hwr
  subst e1 e2
  unfold valT
  have bdr := hrd.bd
  have bdw := hwr.bd
  have Hrd := Lib.hid hrd.hlen
  have Hwr := Lib.hid hwr.hlen
  have hB := Bk.new w 66 #[.int .i64 id, .int .i64 ts, .slice ra rn rc, .slice wa wn wc]
  have hE : Ext w (w.alloc (.cells #[.int .i64 id, .int .i64 ts, .slice ra rn rc, .slice wa wn wc] 66)) := (Ext.refl w).alloc _
  go_enter Try.func27, Try.ntmps27
  go_upto_region 1 with fail
  generalize w.alloc (.cells #[.int .i64 id, .int .i64 ts, .slice ra rn rc, .slice wa wn wc] 66) = V at *
  have C0 := Lib.hid (hB.c 0 _ rfl)
  have C1 := Lib.hid (hB.c 1 _ rfl)
  have C2 := Lib.hid (hB.c 2 _ rfl)
  have C3 := Lib.hid (hB.c 3 _ rfl)
  have L0 := Lib.hid hB.lt
  have c2 := hB.c 2 _ rfl
  clear hB
  generalize w.heap.size = tb at *
  go_wp2_with fail
  clear c2
  go_loopw [11] (fun i wr => ∃ (k : Nat), k ≤ rn ∧ i = .int .i64 k ∧ Hid (∀ i, i < k → stepSn xr i = true) ∧ Ext V wr) (fun i _ => rn - (intOf i).toNat)
  case atStart => exact ⟨0, by omega, rfl, Lib.hid (fun i hi => by omega), Ext.refl _⟩
  case round =>
    obtain ⟨k, hk, rfl, HV, hx⟩ := hrel
    by_cases hlt : k < rn
    · obtain ⟨x1, o1, rfl, hc1⟩ := hrd.at (by omega)
      have hr := rangeAt_ext (hc1 k hlt) (hE.trans hx)
      have HS : Hid (stepSn xr k = true → ∀ i, i < k + 1 → stepSn xr i = true) := Lib.hid (fun h i hi => by
        rcases Nat.lt_or_ge i k with h2 | h2
        · exact HV.out i h2
        · obtain rfl : i = k := by omega
          exact h)
      have HN : Hid (stepSn xr k = false → formB ⟨id, ts, xr, xw⟩ = false) := Lib.hid (fun h => formB_rd (t := ⟨id, ts, xr, xw⟩) (by show k < xr.length; rw [Hrd.out]; exact hlt) h)
      have q1 := Lib.hid (fun h => stepSn_no (l := xr) (k := k) h)
      rw [sz_sn] at hr
      rcases Nat.eq_zero_or_pos k with hk0 | hk0
      · have q2 : Hid (sOk (nthR xr k) = true → stepSn xr k = true) := Lib.hid (fun h => by subst hk0; exact stepSn_zero h)
        have hk1 : ¬ ((0 : Int) < (k : Int)) := by omega
        have hk2 : decide ((0 : Int) < (k : Int)) = false := decide_eq_false hk1
        have hk3 : ¬ (0 < k) := by omega
        clear hc1 hk0
        generalize stepSn xr k = ST at *
        generalize nthR xr k = x at *
        obtain ⟨d0, d1⟩ := cells_sn hr
        clear hr
        have hwb := Bk.new wr 77 #[.int .i64 x.k, .int .i64 x.t] 
        have hwE : Ext wr (wr.alloc (.cells #[.int .i64 x.k, .int .i64 x.t] 77)) := (Ext.refl wr).alloc _
        go_upto_region 4 with fail
        generalize wr.alloc (.cells #[.int .i64 x.k, .int .i64 x.t] 77) = V2 at *
        replace hwE := hx.trans hwE
        have c0 := hwb.c 0 _ rfl
        have c1 := hwb.c 1 _ rfl
        have l2 := hwb.lt
        have b0 := hwE.cell C0.out
        have b1 := hwE.cell C1.out
        have b2 := hwE.cell C2.out
        have b3 := hwE.cell C3.out
        have l3 : tb < V2.heap.size := Nat.lt_of_lt_of_le L0.out hwE.sz
        have hg := @grow_cell
        clear d0 d1
        cases hkb : inT x.k 1 1000 with
        | false =>
          have hk5 := fun W => cbetween_any x.k 1 1000 W
          rw [hkb] at hk5
          have HK := Lib.hid hk5
          have HKB := Lib.hid hkb
          clear hkb hk5
          refine region_ext (by kernel_rfl) (by kernel_rfl) ?_
          repeat (go_big_quiet_step ((go_at_call 24; with_reducible exact Calls.regrown_of (extW (HK.out _)))))
          refine wpQuiet_nil ?_
          intro W1 hx1
          go_wp2_with fail
          go_ret
          exact ⟨by rw [HN.out (q1.out (by unfold sOk; simp [HKB.out]))]; rfl, hE.trans (hwE.trans hx1)⟩
        | true =>
          have hk5 := fun W => cbetween_any x.k 1 1000 W
          rw [hkb] at hk5
          have HK := Lib.hid hk5
          have HKB := Lib.hid hkb
          clear hkb hk5
          cases htb : inT x.t 0 3000000000000000 with
          | false =>
            have ht5 := fun W => cbetween_any x.t 0 3000000000000000 W
            rw [htb] at ht5
            have HT := Lib.hid ht5
            have HTB := Lib.hid htb
            clear htb ht5
            refine region_ext (by kernel_rfl) (by kernel_rfl) ?_
            repeat (go_big_quiet_step ((first | (go_at_call 24; with_reducible exact Calls.regrown_of (extW (HK.out _))) | (go_at_call 24; with_reducible exact Calls.regrown_of (extW (HT.out _))))))
            refine wpQuiet_nil ?_
            intro W1 hx1
            go_wp2_with fail
            go_ret
            exact ⟨by rw [HN.out (q1.out (by unfold sOk; simp [HKB.out, HTB.out]))]; rfl, hE.trans (hwE.trans hx1)⟩
          | true =>
            have ht5 := fun W => cbetween_any x.t 0 3000000000000000 W
            rw [htb] at ht5
            have HT := Lib.hid ht5
            have HTB := Lib.hid htb
            clear htb ht5
            refine region_ext (by kernel_rfl) (by kernel_rfl) ?_
            repeat (go_big_quiet_step ((first | (go_at_call 24; with_reducible exact Calls.regrown_of (extW (HK.out _))) | (go_at_call 24; with_reducible exact Calls.regrown_of (extW (HT.out _))))))
            refine wpQuiet_nil ?_
            intro W1 hx1
            go_wp2_with fail
            exact ⟨⟨k + 1, by omega, by go_num, Lib.hid (HS.out (q2.out (by unfold sOk; simp [HKB.out, HTB.out]))), hwE.trans hx1⟩, by simp [intOf]; omega⟩
      · have hr2 := rangeAt_ext (hc1 (k - 1) (by omega)) (hE.trans hx)
        rw [sz_sn] at hr2
        have e1 : (((k - 1 : Nat) : Int)) = (k : Int) - 1 := by omega
        have e2 : ((k : Int) - 1).toNat = k - 1 := by omega
        have q3 := Lib.hid (fun h => stepSn_pos (l := xr) (k := k) h hk0)
        clear hc1
        generalize stepSn xr k = ST at *
        generalize nthR xr k = x at *
        generalize nthR xr (k - 1) = y at *
        obtain ⟨d0, d1⟩ := cells_sn hr
        obtain ⟨f0, f1⟩ := cells_sn hr2
        clear hr hr2
        have hwb := Bk.new wr 77 #[.int .i64 x.k, .int .i64 x.t] 
        have hwE : Ext wr (wr.alloc (.cells #[.int .i64 x.k, .int .i64 x.t] 77)) := (Ext.refl wr).alloc _
        have d0' := hwE.cell f0
        have d1' := hwE.cell f1
        have l1 := lt_of_cell d0'
        have hk1 : (0 : Int) < (k : Int) := by omega
        go_upto_region 4 with fail
        generalize wr.alloc (.cells #[.int .i64 x.k, .int .i64 x.t] 77) = V2 at *
        replace hwE := hx.trans hwE
        have c0 := hwb.c 0 _ rfl
        have c1 := hwb.c 1 _ rfl
        have l2 := hwb.lt
        have b0 := hwE.cell C0.out
        have b1 := hwE.cell C1.out
        have b2 := hwE.cell C2.out
        have b3 := hwE.cell C3.out
        have l3 : tb < V2.heap.size := Nat.lt_of_lt_of_le L0.out hwE.sz
        have hg := @grow_cell
        clear d0 d1 f0 f1
        cases hkb : inT x.k 1 1000 with
        | false =>
          have hk5 := fun W => cbetween_any x.k 1 1000 W
          rw [hkb] at hk5
          have HK := Lib.hid hk5
          have HKB := Lib.hid hkb
          clear hkb hk5
          refine region_ext (by kernel_rfl) (by kernel_rfl) ?_
          repeat (go_big_quiet_step ((go_at_call 24; with_reducible exact Calls.regrown_of (extW (HK.out _)))))
          refine wpQuiet_nil ?_
          intro W1 hx1
          go_wp2_with fail
          go_ret
          exact ⟨by rw [HN.out (q1.out (by unfold sOk; simp [HKB.out]))]; rfl, hE.trans (hwE.trans hx1)⟩
        | true =>
          have hk5 := fun W => cbetween_any x.k 1 1000 W
          rw [hkb] at hk5
          have HK := Lib.hid hk5
          have HKB := Lib.hid hkb
          clear hkb hk5
          cases htb : inT x.t 0 3000000000000000 with
          | false =>
            have ht5 := fun W => cbetween_any x.t 0 3000000000000000 W
            rw [htb] at ht5
            have HT := Lib.hid ht5
            have HTB := Lib.hid htb
            clear htb ht5
            refine region_ext (by kernel_rfl) (by kernel_rfl) ?_
            repeat (go_big_quiet_step ((first | (go_at_call 24; with_reducible exact Calls.regrown_of (extW (HK.out _))) | (go_at_call 24; with_reducible exact Calls.regrown_of (extW (HT.out _))))))
            refine wpQuiet_nil ?_
            intro W1 hx1
            go_wp2_with fail
            go_ret
            exact ⟨by rw [HN.out (q1.out (by unfold sOk; simp [HKB.out, HTB.out]))]; rfl, hE.trans (hwE.trans hx1)⟩
          | true =>
            have ht5 := fun W => cbetween_any x.t 0 3000000000000000 W
            rw [htb] at ht5
            have HT := Lib.hid ht5
            have HTB := Lib.hid htb
            clear htb ht5
            by_cases ho : y.k < x.k
            · have ho1 : ¬ (x.k ≤ y.k) := by omega
              have HO := Lib.hid ho
              refine region_ext (by kernel_rfl) (by kernel_rfl) ?_
              repeat (go_big_quiet_step ((first | (go_at_call 24; with_reducible exact Calls.regrown_of (extW (HK.out _))) | (go_at_call 24; with_reducible exact Calls.regrown_of (extW (HT.out _))))))
              refine wpQuiet_nil ?_
              intro W1 hx1
              go_wp2_with fail
              exact ⟨⟨k + 1, by omega, by go_num, Lib.hid (HS.out (by rw [q3.out (by unfold sOk; simp [HKB.out, HTB.out])]; exact decide_eq_true HO.out)), hwE.trans hx1⟩, by simp [intOf]; omega⟩
            · have ho1 : x.k ≤ y.k := by omega
              have HO := Lib.hid ho
              refine region_ext (by kernel_rfl) (by kernel_rfl) ?_
              repeat (go_big_quiet_step ((first | (go_at_call 24; with_reducible exact Calls.regrown_of (extW (HK.out _))) | (go_at_call 24; with_reducible exact Calls.regrown_of (extW (HT.out _))))))
              refine wpQuiet_nil ?_
              intro W1 hx1
              go_wp2_with fail
              go_ret
              exact ⟨by rw [HN.out (by rw [q3.out (by unfold sOk; simp [HKB.out, HTB.out])]; exact decide_eq_false (by have := HO.out; omega))]; rfl, hE.trans (hwE.trans hx1)⟩
    · obtain rfl : rn = k := by omega
      have HRD : Hid (∀ i, i < xr.length → stepSn xr i = true) := Lib.hid (fun i hi => HV.out i (by rw [Hrd.out] at hi; exact hi))
      clear HV
      have b3 := hx.cell C3.out
      go_wp2_with fail
      clear b3
      have hx9 : Ext V wr := hx
      clear hx
      go_loopw [48] (fun i wr => ∃ (k : Nat), k ≤ wn ∧ i = .int .i64 k ∧ Hid (∀ i, i < k → stepW xw i = true) ∧ Ext V wr) (fun i _ => wn - (intOf i).toNat)
      case atStart => exact ⟨0, by omega, rfl, Lib.hid (fun i hi => by omega), hx9⟩
      case round =>
        clear hx9
        obtain ⟨k, hk, rfl, HV, hx⟩ := hrel
        by_cases hlt : k < wn
        · obtain ⟨x1, o1, rfl, hc1⟩ := hwr.at (by omega)
          have hr := rangeAt_ext (hc1 k hlt) (hE.trans hx)
          have HS : Hid (stepW xw k = true → ∀ i, i < k + 1 → stepW xw i = true) := Lib.hid (fun h i hi => by
            rcases Nat.lt_or_ge i k with h2 | h2
            · exact HV.out i h2
            · obtain rfl : i = k := by omega
              exact h)
          have HN : Hid (stepW xw k = false → formB ⟨id, ts, xr, xw⟩ = false) := Lib.hid (fun h => formB_wr (t := ⟨id, ts, xr, xw⟩) (by show k < xw.length; rw [Hwr.out]; exact hlt) h)
          have q1 := Lib.hid (fun h => stepW_no (l := xw) (k := k) h)
          rw [sz_wr] at hr
          rcases Nat.eq_zero_or_pos k with hk0 | hk0
          · have q2 : Hid (wOk (nthR xw k) = true → stepW xw k = true) := Lib.hid (fun h => by subst hk0; exact stepW_zero h)
            have hk1 : ¬ ((0 : Int) < (k : Int)) := by omega
            have hk2 : decide ((0 : Int) < (k : Int)) = false := decide_eq_false hk1
            have hk3 : ¬ (0 < k) := by omega
            clear hc1 hk0
            generalize stepW xw k = ST at *
            generalize nthR xw k = x at *
            obtain ⟨d0, d1, d2⟩ := cells_wr hr
            clear hr
            have hwb := Bk.new wr 60 #[.int .i64 x.k, .int .i64 x.v, .bool x.g] 
            have hwE : Ext wr (wr.alloc (.cells #[.int .i64 x.k, .int .i64 x.v, .bool x.g] 60)) := (Ext.refl wr).alloc _
            go_upto_region 10 with fail
            generalize wr.alloc (.cells #[.int .i64 x.k, .int .i64 x.v, .bool x.g] 60) = V2 at *
            replace hwE := hx.trans hwE
            have c0 := hwb.c 0 _ rfl
            have c1 := hwb.c 1 _ rfl
            have c2 := hwb.c 2 _ rfl
            have l2 := hwb.lt
            have b0 := hwE.cell C0.out
            have b1 := hwE.cell C1.out
            have b2 := hwE.cell C2.out
            have b3 := hwE.cell C3.out
            have l3 : tb < V2.heap.size := Nat.lt_of_lt_of_le L0.out hwE.sz
            have hg := @grow_cell
            clear d0 d1 d2
            cases hkb : inT x.k 1 1000 with
            | false =>
              have hk5 := fun W => cbetween_any x.k 1 1000 W
              rw [hkb] at hk5
              have HK := Lib.hid hk5
              have HKB := Lib.hid hkb
              clear hkb hk5
              refine region_ext (by kernel_rfl) (by kernel_rfl) ?_
              repeat (go_big_quiet_step ((go_at_call 24; with_reducible exact Calls.regrown_of (extW (HK.out _)))))
              refine wpQuiet_nil ?_
              intro W1 hx1
              go_wp2_with fail
              go_ret
              exact ⟨by rw [HN.out (q1.out (by unfold wOk; simp [HKB.out]))]; rfl, hE.trans (hwE.trans hx1)⟩
            | true =>
              have hk5 := fun W => cbetween_any x.k 1 1000 W
              rw [hkb] at hk5
              have HK := Lib.hid hk5
              have HKB := Lib.hid hkb
              clear hkb hk5
              cases htb : inT x.v 0 1000000 with
              | false =>
                have ht5 := fun W => cbetween_any x.v 0 1000000 W
                rw [htb] at ht5
                have HT := Lib.hid ht5
                have HTB := Lib.hid htb
                clear htb ht5
                refine region_ext (by kernel_rfl) (by kernel_rfl) ?_
                repeat (go_big_quiet_step ((first | (go_at_call 24; with_reducible exact Calls.regrown_of (extW (HK.out _))) | (go_at_call 24; with_reducible exact Calls.regrown_of (extW (HT.out _))))))
                refine wpQuiet_nil ?_
                intro W1 hx1
                go_wp2_with fail
                go_ret
                exact ⟨by rw [HN.out (q1.out (by unfold wOk; simp [HKB.out, HTB.out]))]; rfl, hE.trans (hwE.trans hx1)⟩
              | true =>
                have ht5 := fun W => cbetween_any x.v 0 1000000 W
                rw [htb] at ht5
                have HT := Lib.hid ht5
                have HTB := Lib.hid htb
                clear htb ht5
                obtain ⟨xk, xv, xg⟩ := x
                simp only at *
                cases xg with
                | false =>
                  refine region_ext (by kernel_rfl) (by kernel_rfl) ?_
                  repeat (go_big_quiet_step ((first | (go_at_call 24; with_reducible exact Calls.regrown_of (extW (HK.out _))) | (go_at_call 24; with_reducible exact Calls.regrown_of (extW (HT.out _))))))
                  refine wpQuiet_nil ?_
                  intro W1 hx1
                  go_wp2_with fail
                  exact ⟨⟨k + 1, by omega, by go_num, Lib.hid (HS.out (q2.out (by unfold wOk; simp [HKB.out, HTB.out]))), hwE.trans hx1⟩, by simp [intOf]; omega⟩
                | true =>
                  by_cases hv : xv = 0
                  · subst hv
                    refine region_ext (by kernel_rfl) (by kernel_rfl) ?_
                    repeat (go_big_quiet_step ((first | (go_at_call 24; with_reducible exact Calls.regrown_of (extW (HK.out _))) | (go_at_call 24; with_reducible exact Calls.regrown_of (extW (HT.out _))))))
                    refine wpQuiet_nil ?_
                    intro W1 hx1
                    go_wp2_with fail
                    exact ⟨⟨k + 1, by omega, by go_num, Lib.hid (HS.out (q2.out (by unfold wOk; simp [HKB.out, HTB.out]))), hwE.trans hx1⟩, by simp [intOf]; omega⟩
                  · have hv2 : (xv == 0) = false := by simp [hv]
                    have hv3 : (xv != 0) = true := by simp [hv]
                    have hv4 : decide (xv = 0) = false := by simp [hv]
                    have HVV := Lib.hid hv
                    refine region_ext (by kernel_rfl) (by kernel_rfl) ?_
                    repeat (go_big_quiet_step ((first | (go_at_call 24; with_reducible exact Calls.regrown_of (extW (HK.out _))) | (go_at_call 24; with_reducible exact Calls.regrown_of (extW (HT.out _))))))
                    refine wpQuiet_nil ?_
                    intro W1 hx1
                    go_wp2_with fail
                    go_ret
                    exact ⟨by rw [HN.out (q1.out (by unfold wOk; simp [HKB.out, HTB.out, HVV.out]))]; rfl, hE.trans (hwE.trans hx1)⟩
          · have hr2 := rangeAt_ext (hc1 (k - 1) (by omega)) (hE.trans hx)
            rw [sz_wr] at hr2
            have e1 : (((k - 1 : Nat) : Int)) = (k : Int) - 1 := by omega
            have e2 : ((k : Int) - 1).toNat = k - 1 := by omega
            have q3 := Lib.hid (fun h => stepW_pos (l := xw) (k := k) h hk0)
            clear hc1
            generalize stepW xw k = ST at *
            generalize nthR xw k = x at *
            generalize nthR xw (k - 1) = y at *
            obtain ⟨d0, d1, d2⟩ := cells_wr hr
            obtain ⟨f0, f1, f2⟩ := cells_wr hr2
            clear hr hr2
            have hwb := Bk.new wr 60 #[.int .i64 x.k, .int .i64 x.v, .bool x.g] 
            have hwE : Ext wr (wr.alloc (.cells #[.int .i64 x.k, .int .i64 x.v, .bool x.g] 60)) := (Ext.refl wr).alloc _
            have d0' := hwE.cell f0
            have d1' := hwE.cell f1
            have d2' := hwE.cell f2
            have l1 := lt_of_cell d0'
            have hk1 : (0 : Int) < (k : Int) := by omega
            go_upto_region 10 with fail
            generalize wr.alloc (.cells #[.int .i64 x.k, .int .i64 x.v, .bool x.g] 60) = V2 at *
            replace hwE := hx.trans hwE
            have c0 := hwb.c 0 _ rfl
            have c1 := hwb.c 1 _ rfl
            have c2 := hwb.c 2 _ rfl
            have l2 := hwb.lt
            have b0 := hwE.cell C0.out
            have b1 := hwE.cell C1.out
            have b2 := hwE.cell C2.out
            have b3 := hwE.cell C3.out
            have l3 : tb < V2.heap.size := Nat.lt_of_lt_of_le L0.out hwE.sz
            have hg := @grow_cell
            clear d0 d1 d2 f0 f1 f2
            cases hkb : inT x.k 1 1000 with
            | false =>
              have hk5 := fun W => cbetween_any x.k 1 1000 W
              rw [hkb] at hk5
              have HK := Lib.hid hk5
              have HKB := Lib.hid hkb
              clear hkb hk5
              refine region_ext (by kernel_rfl) (by kernel_rfl) ?_
              repeat (go_big_quiet_step ((go_at_call 24; with_reducible exact Calls.regrown_of (extW (HK.out _)))))
              refine wpQuiet_nil ?_
              intro W1 hx1
              go_wp2_with fail
              go_ret
              exact ⟨by rw [HN.out (q1.out (by unfold wOk; simp [HKB.out]))]; rfl, hE.trans (hwE.trans hx1)⟩
            | true =>
              have hk5 := fun W => cbetween_any x.k 1 1000 W
              rw [hkb] at hk5
              have HK := Lib.hid hk5
              have HKB := Lib.hid hkb
              clear hkb hk5
              cases htb : inT x.v 0 1000000 with
              | false =>
                have ht5 := fun W => cbetween_any x.v 0 1000000 W
                rw [htb] at ht5
                have HT := Lib.hid ht5
                have HTB := Lib.hid htb
                clear htb ht5
                refine region_ext (by kernel_rfl) (by kernel_rfl) ?_
                repeat (go_big_quiet_step ((first | (go_at_call 24; with_reducible exact Calls.regrown_of (extW (HK.out _))) | (go_at_call 24; with_reducible exact Calls.regrown_of (extW (HT.out _))))))
                refine wpQuiet_nil ?_
                intro W1 hx1
                go_wp2_with fail
                go_ret
                exact ⟨by rw [HN.out (q1.out (by unfold wOk; simp [HKB.out, HTB.out]))]; rfl, hE.trans (hwE.trans hx1)⟩
              | true =>
                have ht5 := fun W => cbetween_any x.v 0 1000000 W
                rw [htb] at ht5
                have HT := Lib.hid ht5
                have HTB := Lib.hid htb
                clear htb ht5
                obtain ⟨xk, xv, xg⟩ := x
                simp only at *
                cases xg with
                | false =>
                  by_cases ho : y.k < xk
                  · have ho1 : ¬ (xk ≤ y.k) := by omega
                    have HO := Lib.hid ho
                    refine region_ext (by kernel_rfl) (by kernel_rfl) ?_
                    repeat (go_big_quiet_step ((first | (go_at_call 24; with_reducible exact Calls.regrown_of (extW (HK.out _))) | (go_at_call 24; with_reducible exact Calls.regrown_of (extW (HT.out _))))))
                    refine wpQuiet_nil ?_
                    intro W1 hx1
                    go_wp2_with fail
                    exact ⟨⟨k + 1, by omega, by go_num, Lib.hid (HS.out (by rw [q3.out (by unfold wOk; simp [HKB.out, HTB.out])]; exact decide_eq_true HO.out)), hwE.trans hx1⟩, by simp [intOf]; omega⟩
                  · have ho1 : xk ≤ y.k := by omega
                    have HO := Lib.hid ho
                    refine region_ext (by kernel_rfl) (by kernel_rfl) ?_
                    repeat (go_big_quiet_step ((first | (go_at_call 24; with_reducible exact Calls.regrown_of (extW (HK.out _))) | (go_at_call 24; with_reducible exact Calls.regrown_of (extW (HT.out _))))))
                    refine wpQuiet_nil ?_
                    intro W1 hx1
                    go_wp2_with fail
                    go_ret
                    exact ⟨by rw [HN.out (by rw [q3.out (by unfold wOk; simp [HKB.out, HTB.out])]; exact decide_eq_false (by have := HO.out; omega))]; rfl, hE.trans (hwE.trans hx1)⟩
                | true =>
                  by_cases hv : xv = 0
                  · subst hv
                    by_cases ho : y.k < xk
                    · have ho1 : ¬ (xk ≤ y.k) := by omega
                      have HO := Lib.hid ho
                      refine region_ext (by kernel_rfl) (by kernel_rfl) ?_
                      repeat (go_big_quiet_step ((first | (go_at_call 24; with_reducible exact Calls.regrown_of (extW (HK.out _))) | (go_at_call 24; with_reducible exact Calls.regrown_of (extW (HT.out _))))))
                      refine wpQuiet_nil ?_
                      intro W1 hx1
                      go_wp2_with fail
                      exact ⟨⟨k + 1, by omega, by go_num, Lib.hid (HS.out (by rw [q3.out (by unfold wOk; simp [HKB.out, HTB.out])]; exact decide_eq_true HO.out)), hwE.trans hx1⟩, by simp [intOf]; omega⟩
                    · have ho1 : xk ≤ y.k := by omega
                      have HO := Lib.hid ho
                      refine region_ext (by kernel_rfl) (by kernel_rfl) ?_
                      repeat (go_big_quiet_step ((first | (go_at_call 24; with_reducible exact Calls.regrown_of (extW (HK.out _))) | (go_at_call 24; with_reducible exact Calls.regrown_of (extW (HT.out _))))))
                      refine wpQuiet_nil ?_
                      intro W1 hx1
                      go_wp2_with fail
                      go_ret
                      exact ⟨by rw [HN.out (by rw [q3.out (by unfold wOk; simp [HKB.out, HTB.out])]; exact decide_eq_false (by have := HO.out; omega))]; rfl, hE.trans (hwE.trans hx1)⟩
                  · have hv2 : (xv == 0) = false := by simp [hv]
                    have hv3 : (xv != 0) = true := by simp [hv]
                    have hv4 : decide (xv = 0) = false := by simp [hv]
                    have HVV := Lib.hid hv
                    refine region_ext (by kernel_rfl) (by kernel_rfl) ?_
                    repeat (go_big_quiet_step ((first | (go_at_call 24; with_reducible exact Calls.regrown_of (extW (HK.out _))) | (go_at_call 24; with_reducible exact Calls.regrown_of (extW (HT.out _))))))
                    refine wpQuiet_nil ?_
                    intro W1 hx1
                    go_wp2_with fail
                    go_ret
                    exact ⟨by rw [HN.out (q1.out (by unfold wOk; simp [HKB.out, HTB.out, HVV.out]))]; rfl, hE.trans (hwE.trans hx1)⟩
        · obtain rfl : wn = k := by omega
          have HWR : Hid (∀ i, i < xw.length → stepW xw i = true) := Lib.hid (fun i hi => HV.out i (by rw [Hwr.out] at hi; exact hi))
          clear HV
          have HEND := Lib.hid (formB_end (t := ⟨id, ts, xr, xw⟩) HRD.out HWR.out)
          have HEQ := Lib.hid (And.intro Hrd.out Hwr.out)
          simp only at HEND
          rw [HEQ.out.1, HEQ.out.2] at HEND
          clear HEQ Hrd Hwr HRD HWR
          have b0 := hx.cell C0.out
          have b1 := hx.cell C1.out
          have b2 := hx.cell C2.out
          have b3 := hx.cell C3.out
          cases hib : inT id 1 1000000 with
          | false =>
            have hi5 := fun W => cbetween_any id 1 1000000 W
            rw [hib] at hi5
            have HI := Lib.hid hi5
            have HIB := Lib.hid hib
            clear hi5 hib
            go_wp2_with (go_at_call 24; with_reducible refine (HI.out _).mono ?_; rintro _ _ ⟨rfl, rfl⟩)
            go_ret
            exact ⟨by rw [HEND.out, HIB.out]; rfl, hE.trans hx⟩
          | true =>
            have hi5 := fun W => cbetween_any id 1 1000000 W
            rw [hib] at hi5
            have HI := Lib.hid hi5
            have HIB := Lib.hid hib
            clear hi5 hib
            cases htb : inT ts 0 3000000000000000 with
            | false =>
              have ht5 := fun W => cbetween_any ts 0 3000000000000000 W
              rw [htb] at ht5
              have HT := Lib.hid ht5
              have HTB := Lib.hid htb
              clear ht5 htb
              go_wp2_with ((first | (go_at_call 24; with_reducible refine (HI.out _).mono ?_; rintro _ _ ⟨rfl, rfl⟩) | (go_at_call 24; with_reducible refine (HT.out _).mono ?_; rintro _ _ ⟨rfl, rfl⟩)))
              go_ret
              exact ⟨by rw [HEND.out, HIB.out, HTB.out]; rfl, hE.trans hx⟩
            | true =>
              have ht5 := fun W => cbetween_any ts 0 3000000000000000 W
              rw [htb] at ht5
              have HT := Lib.hid ht5
              have HTB := Lib.hid htb
              clear ht5 htb
              by_cases hr8 : rn ≤ 8
              · have HR8 := Lib.hid (decide_eq_true hr8)
                have r1 : decide ((rn : Int) ≤ 8) = true := by simp; omega
                by_cases hw8 : wn ≤ 8
                · have HW8 := Lib.hid (decide_eq_true hw8)
                  have r2 : decide ((wn : Int) ≤ 8) = true := by simp; omega
                  go_wp2_with ((first | (go_at_call 24; with_reducible refine (HI.out _).mono ?_; rintro _ _ ⟨rfl, rfl⟩) | (go_at_call 24; with_reducible refine (HT.out _).mono ?_; rintro _ _ ⟨rfl, rfl⟩)))
                  go_ret
                  exact ⟨by rw [HEND.out, HIB.out, HTB.out, HR8.out, HW8.out]; rfl, hE.trans hx⟩
                · have HW8 := Lib.hid (decide_eq_false hw8)
                  have r2 : decide ((wn : Int) ≤ 8) = false := by simp; omega
                  go_wp2_with ((first | (go_at_call 24; with_reducible refine (HI.out _).mono ?_; rintro _ _ ⟨rfl, rfl⟩) | (go_at_call 24; with_reducible refine (HT.out _).mono ?_; rintro _ _ ⟨rfl, rfl⟩)))
                  go_ret
                  exact ⟨by rw [HEND.out, HIB.out, HTB.out, HR8.out, HW8.out]; rfl, hE.trans hx⟩
              · have HR8 := Lib.hid (decide_eq_false hr8)
                have r1 : decide ((rn : Int) ≤ 8) = false := by simp; omega
                go_wp2_with ((first | (go_at_call 24; with_reducible refine (HI.out _).mono ?_; rintro _ _ ⟨rfl, rfl⟩) | (go_at_call 24; with_reducible refine (HT.out _).mono ?_; rintro _ _ ⟨rfl, rfl⟩)))
                go_ret
                exact ⟨by rw [HEND.out, HIB.out, HTB.out, HR8.out]; rfl, hE.trans hx⟩
end Go.Proofs.Ytacicanjmleikaa
