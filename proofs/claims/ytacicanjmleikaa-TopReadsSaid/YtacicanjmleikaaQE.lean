/-
  Package versions, walked: Valid. Written by wip/gen_qe.py.
-/
import Derived.Test.YtacicanjmleikaaQD
namespace Go.Proofs.Ytacicanjmleikaa
open Go.RowKit Go.Sort Go.Shelf
set_option linter.unusedSimpArgs false
set_option linter.unusedVariables false
set_option maxRecDepth 100000

theorem stepV_no1 {l : List Vn} {k : Nat} (h : wfV (nthR l k) = false) : stepV l k = false := by unfold stepV; rw [h]; rfl
theorem stepV_zero {l : List Vn} (h : wfV (nthR l 0) = true) : stepV l 0 = true := by unfold stepV; rw [h]; rfl
theorem stepV_pos {l : List Vn} {k : Nat} (h : wfV (nthR l k) = true) (hk : 0 < k) : stepV l k = decide (ordF (nthR l (k - 1)) (nthR l k) < 0) := by
  unfold stepV
  rw [h, Bool.true_and, show (k == 0) = false from by simp; omega, Bool.false_or]
  exact decide_eq_decide.2 ordF_lt.symm
theorem validV_no {l : List Vn} {k : Nat} (hk : k < l.length) (h : stepV l k = false) : validV l = false := by
  unfold validV; rw [all_rangeQ_no hk h]; rfl

set_option maxHeartbeats 2000000 in
theorem vvalid_any (a : Option Addr) (n c : Nat) (l : List Vn) (w : World) (h1 : Rw w a n c l) :
    Calls Try.prog 33 #[.slice a n c] w fun e w' => e = .returned (.bool (validV l)) ∧ Ext w w' := by
  have bd := h1.bd
  have HL := Lib.hid h1.hlen
  go_enter Try.func33, Try.ntmps33
  go_wp2_with fail
  go_loopw [7] (fun i wr => ∃ (k : Nat), k ≤ n ∧ i = .int .i64 k ∧ Hid (∀ i, i < k → stepV l i = true) ∧ Ext w wr) (fun i _ => n - (intOf i).toNat)
  case atStart => exact ⟨0, by omega, rfl, Lib.hid (fun i hi => by omega), Ext.refl _⟩
  case round =>
    obtain ⟨k, hk, rfl, HV, hx⟩ := hrel
    by_cases hlt : k < n
    · obtain ⟨x1, o1, rfl, hc1⟩ := h1.at (by omega)
      have hr := rangeAt_ext (hc1 k hlt) hx
      have HS : Hid (stepV l k = true → ∀ i, i < k + 1 → stepV l i = true) := Lib.hid (fun h i hi => by
        rcases Nat.lt_or_ge i k with h2 | h2
        · exact HV.out i h2
        · obtain rfl : i = k := by omega
          exact h)
      have HN : Hid (stepV l k = false → validV l = false) := Lib.hid (fun h => validV_no (by rw [HL.out]; exact hlt) h)
      have q1 := Lib.hid (fun h => stepV_no1 (l := l) (k := k) h)
      rw [sz_vn] at hr
      rcases Nat.eq_zero_or_pos k with hk0 | hk0
      · have q2 : Hid (wfV (nthR l k) = true → stepV l k = true) := Lib.hid (fun h => by subst hk0; exact stepV_zero h)
        have hk1 : ¬ ((0 : Int) < (k : Int)) := by omega
        have hk2 : decide ((0 : Int) < (k : Int)) = false := decide_eq_false hk1
        have hk3 : ¬ (0 < k) := by omega
        clear hc1 hk0
        generalize stepV l k = ST at *
        generalize nthR l k = x at *
        obtain ⟨d0, d1, d2, d3⟩ := cells_vn hr
        clear hr
        have hwb := World.alloc_heap_new wr (.cells #[.int .i64 x.k, .int .i64 x.t, .int .i64 x.v, .bool x.g] 47)
        have hwE : Ext wr (wr.alloc (.cells #[.int .i64 x.k, .int .i64 x.t, .int .i64 x.v, .bool x.g] 47)) := (Ext.refl wr).alloc _
        go_upto_region 4 with fail
        generalize wr.alloc (.cells #[.int .i64 x.k, .int .i64 x.t, .int .i64 x.v, .bool x.g] 47) = V at *
        replace hwE := hx.trans hwE
        have c0 := cell_of_block hwb 0 _ rfl
        have c1 := cell_of_block hwb 1 _ rfl
        have c2 := cell_of_block hwb 2 _ rfl
        have c3 := cell_of_block hwb 3 _ rfl
        have l2 := lt_of_block hwb
        clear hwb
        have hg := @grow_cell
        rcases hw : wfV x with _ | _
        · have hwc := fun W => vwell_any x W
          rw [hw] at hwc
          have HWC := Lib.hid hwc
          have HW := Lib.hid hw
          clear hw hwc
          refine region_ext (by kernel_rfl) (by kernel_rfl) ?_
          repeat (go_big_quiet_step ((go_at_call 43; exact Calls.regrown_of (HWC.out _))))
          refine wpQuiet_nil ?_
          intro W1 hx1
          go_wp2_with fail
          go_ret
          exact ⟨by rw [HN.out (q1.out HW.out)]; rfl, hwE.trans hx1⟩
        · have hwc := fun W => vwell_any x W
          rw [hw] at hwc
          have HWC := Lib.hid hwc
          have HW := Lib.hid hw
          clear hw hwc
          refine region_ext (by kernel_rfl) (by kernel_rfl) ?_
          repeat (go_big_quiet_step ((go_at_call 43; exact Calls.regrown_of (HWC.out _))))
          refine wpQuiet_nil ?_
          intro W1 hx1
          go_wp2_with fail
          exact ⟨⟨k + 1, by omega, by go_num, Lib.hid (HS.out (q2.out HW.out)), hwE.trans hx1⟩, by simp [intOf]; omega⟩
      · have hr2 := rangeAt_ext (hc1 (k - 1) (by omega)) hx
        rw [sz_vn] at hr2
        have e1 : (((k - 1 : Nat) : Int)) = (k : Int) - 1 := by omega
        have e2 : ((k : Int) - 1).toNat = k - 1 := by omega
        have q3 := Lib.hid (fun h => stepV_pos (l := l) (k := k) h hk0)
        clear hc1
        generalize stepV l k = ST at *
        generalize nthR l k = x at *
        generalize nthR l (k - 1) = y at *
        obtain ⟨d0, d1, d2, d3⟩ := cells_vn hr
        obtain ⟨f0, f1, f2, f3⟩ := cells_vn hr2
        clear hr hr2
        have hwb := World.alloc_heap_new wr (.cells #[.int .i64 x.k, .int .i64 x.t, .int .i64 x.v, .bool x.g] 47)
        have hwE : Ext wr (wr.alloc (.cells #[.int .i64 x.k, .int .i64 x.t, .int .i64 x.v, .bool x.g] 47)) := (Ext.refl wr).alloc _
        have d0' := hwE.cell f0
        have d1' := hwE.cell f1
        have d2' := hwE.cell f2
        have d3' := hwE.cell f3
        have l1 := lt_of_cell d0'
        have hk1 : (0 : Int) < (k : Int) := by omega
        go_upto_region 4 with fail
        generalize wr.alloc (.cells #[.int .i64 x.k, .int .i64 x.t, .int .i64 x.v, .bool x.g] 47) = V at *
        replace hwE := hx.trans hwE
        have c0 := cell_of_block hwb 0 _ rfl
        have c1 := cell_of_block hwb 1 _ rfl
        have c2 := cell_of_block hwb 2 _ rfl
        have c3 := cell_of_block hwb 3 _ rfl
        have l2 := lt_of_block hwb
        clear hwb
        have hg := @grow_cell
        rcases hw : wfV x with _ | _
        · have hwc := fun W => vwell_any x W
          rw [hw] at hwc
          have HWC := Lib.hid hwc
          have HW := Lib.hid hw
          clear hw hwc
          refine region_ext (by kernel_rfl) (by kernel_rfl) ?_
          repeat (go_big_quiet_step ((go_at_call 43; exact Calls.regrown_of (HWC.out _))))
          refine wpQuiet_nil ?_
          intro W1 hx1
          go_wp2_with fail
          go_ret
          exact ⟨by rw [HN.out (q1.out HW.out)]; rfl, hwE.trans hx1⟩
        · have hwc := fun W => vwell_any x W
          rw [hw] at hwc
          have HWC := Lib.hid hwc
          have HW := Lib.hid hw
          clear hw hwc
          have hoc := fun W => vorder_any y x W
          have HOX : Hid (ST = decide (ordF y x < 0)) := Lib.hid (q3.out HW.out)
          generalize ordF y x = O at *
          have HOC := Lib.hid hoc
          clear hoc
          by_cases ho : O < 0
          · have ho1 : ¬ (0 ≤ O) := by omega
            have HO := Lib.hid ho
            refine region_ext (by kernel_rfl) (by kernel_rfl) ?_
            repeat (go_big_quiet_step ((first | (go_at_call 43; exact Calls.regrown_of (HWC.out _)) | (go_at_call 49; exact Calls.regrown_of (HOC.out _)))))
            refine wpQuiet_nil ?_
            intro W1 hx1
            go_wp2_with fail
            exact ⟨⟨k + 1, by omega, by go_num, Lib.hid (HS.out (by rw [HOX.out]; exact decide_eq_true HO.out)), hwE.trans hx1⟩, by simp [intOf]; omega⟩
          · have ho1 : 0 ≤ O := by omega
            have HO := Lib.hid ho
            refine region_ext (by kernel_rfl) (by kernel_rfl) ?_
            repeat (go_big_quiet_step ((first | (go_at_call 43; exact Calls.regrown_of (HWC.out _)) | (go_at_call 49; exact Calls.regrown_of (HOC.out _)))))
            refine wpQuiet_nil ?_
            intro W1 hx1
            go_wp2_with fail
            go_ret
            exact ⟨by rw [HN.out (by rw [HOX.out]; exact decide_eq_false (by have := HO.out; omega))]; rfl, hwE.trans hx1⟩
    · obtain rfl : k = n := by omega
      have HR : Hid (validV l = decide (k ≤ 4000)) := Lib.hid (by unfold validV; rw [all_rangeQ.2 (fun i hi => HV.out i (by rw [HL.out] at hi; exact hi)), HL.out]; rfl)
      by_cases h100 : k ≤ 4000
      · have q : decide ((k : Int) ≤ 4000) = true := by simp; omega
        have HQ := Lib.hid (decide_eq_true h100)
        go_wp2_with fail
        go_ret
        exact ⟨by rw [HR.out, HQ.out]; rfl, hx⟩
      · have q : decide ((k : Int) ≤ 4000) = false := by simp; omega
        have HQ := Lib.hid (decide_eq_false h100)
        go_wp2_with fail
        go_ret
        exact ⟨by rw [HR.out, HQ.out]; rfl, hx⟩
end Go.Proofs.Ytacicanjmleikaa
