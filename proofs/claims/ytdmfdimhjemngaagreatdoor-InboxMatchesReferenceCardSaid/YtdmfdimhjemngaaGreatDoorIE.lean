/-
  The inbox's small functions, walked: the reference. Written by wip/gen_ie.py.
-/
import Derived.Test.YtdmfdimhjemngaaGreatDoorIC
namespace Go.Proofs.YtdmfdimhjemngaaGreatDoor
open Go.RowKit Go.Sort Go.Shelf
set_option linter.unusedSimpArgs false
set_option linter.unusedVariables false
set_option maxRecDepth 100000

theorem rreading_any (n : Int) (w : World) : Calls Tryz.prog 27 #[.int .i64 n] w fun e w' => e = .returned (.bool (inC n 0 3000000000000000)) ∧ w = w' := by
  by_cases h1 : 0 ≤ n
  · by_cases h2 : n ≤ 3000000000000000
    · have e : inC n 0 3000000000000000 = true := inC_iff.2 ⟨h1, h2⟩
      rw [e]; clear e
      go_enter Tryz.func27, Tryz.ntmps27
      go_wp2
      go_ret
      exact ⟨rfl, rfl⟩
    · have e : inC n 0 3000000000000000 = false := by unfold inC; simp; omega
      rw [e]; clear e
      go_enter Tryz.func27, Tryz.ntmps27
      go_wp2
      go_ret
      exact ⟨rfl, rfl⟩
  · have e : inC n 0 3000000000000000 = false := by unfold inC; simp; omega
    rw [e]; clear e
    go_enter Tryz.func27, Tryz.ntmps27
    go_wp2
    go_ret
    exact ⟨rfl, rfl⟩
theorem rwait_any (n : Int) (w : World) : Calls Tryz.prog 28 #[.int .i64 n] w fun e w' => e = .returned (.bool (inC n 0 1000000000)) ∧ w = w' := by
  by_cases h1 : 0 ≤ n
  · by_cases h2 : n ≤ 1000000000
    · have e : inC n 0 1000000000 = true := inC_iff.2 ⟨h1, h2⟩
      rw [e]; clear e
      go_enter Tryz.func28, Tryz.ntmps28
      go_wp2
      go_ret
      exact ⟨rfl, rfl⟩
    · have e : inC n 0 1000000000 = false := by unfold inC; simp; omega
      rw [e]; clear e
      go_enter Tryz.func28, Tryz.ntmps28
      go_wp2
      go_ret
      exact ⟨rfl, rfl⟩
  · have e : inC n 0 1000000000 = false := by unfold inC; simp; omega
    rw [e]; clear e
    go_enter Tryz.func28, Tryz.ntmps28
    go_wp2
    go_ret
    exact ⟨rfl, rfl⟩

set_option maxHeartbeats 2000000 in
theorem rasked_any (a : Option Addr) (n c : Nat) (l : List Int) (w : World) (h1 : Sl .i64 w a n c l) :
    Calls Tryz.prog 26 #[.slice a n c] w fun e w' => e = .returned (.bool (askB l)) ∧ Ext w w' := by
  have bd := h1.bd
  have HL := Lib.hid h1.hlen
  go_enter Tryz.func26, Tryz.ntmps26
  go_wp2_with fail
  go_loopw [3] (fun i wr => ∃ (k : Nat), k ≤ n ∧ i = .int .i64 (k : Int) ∧ Hid (∀ j, j < k → stepA l j) ∧ Ext w wr) (fun i _ => n - (intOf i).toNat)
  case atStart => exact ⟨0, by omega, rfl, Lib.hid (fun i hi => absurd hi (by omega)), Ext.refl w⟩
  case round =>
    obtain ⟨k, hk, rfl, HOK, hE⟩ := hrel
    by_cases hlt : k < n
    · obtain ⟨x1, o1, rfl, hc1⟩ := h1.at (by omega)
      have d0 := hE.cell (hc1 k hlt)
      have hl0 := lt_of_cell d0
      simp only at hl0
      have dp : 0 < k → wr.cell? ⟨x1, o1 + (k - 1), none⟩ = some (.int .i64 (nth l (k - 1))) := fun h0 => hE.cell (hc1 (k - 1) (by omega))
      have HST : Hid (stepA l k ↔ inC (nth l k) 1 16 = true ∧ (0 < k → nth l (k - 1) < nth l k)) := Lib.hid Iff.rfl
      generalize nth l k = x at *
      generalize nth l (k - 1) = y at *
      have HDP := Lib.hid dp
      have hg := @grow_cell
      clear dp hc1
      go_upto_region 4 with fail
      by_cases hb1 : x < 1
      · have hq : decide (x < 1) = true := by simp; omega
        have HB := Lib.hid hb1
        clear hb1
        refine region_ext (by kernel_rfl) (by kernel_rfl) ?_
        repeat (go_big_quiet_step (fail))
        refine wpQuiet_nil ?_
        intro w' hE'
        go_wp2_with fail
        go_ret
        refine ⟨ret_bool ?_, hE.trans hE'⟩
        rw [askB_no (k := k) (by rw [HL.out]; exact hlt) (fun h => by have := inC_iff.1 (HST.out.1 h).1; have := HB.out; omega)]
      have hq : decide (x < 1) = false := by simp; omega
      by_cases hb2 : 16 < x
      · have hq2 : decide (16 < x) = true := by simp; omega
        have HB := Lib.hid hb2
        clear hb2 hb1
        refine region_ext (by kernel_rfl) (by kernel_rfl) ?_
        repeat (go_big_quiet_step (fail))
        refine wpQuiet_nil ?_
        intro w' hE'
        go_wp2_with fail
        go_ret
        refine ⟨ret_bool ?_, hE.trans hE'⟩
        rw [askB_no (k := k) (by rw [HL.out]; exact hlt) (fun h => by have := inC_iff.1 (HST.out.1 h).1; have := HB.out; omega)]
      have hq2 : decide (16 < x) = false := by simp; omega
      have HB : Hid (inC x 1 16 = true) := Lib.hid (inC_iff.2 ⟨by omega, by omega⟩)
      clear hb1 hb2
      by_cases hk0 : k = 0
      · have hk1 : decide ((0 : Int) < (k : Int)) = false := by simp; omega
        have hk2 : decide (0 < k) = false := by simp; omega
        have HK0 := Lib.hid hk0
        clear hk0
        refine region_ext (by kernel_rfl) (by kernel_rfl) ?_
        repeat (go_big_quiet_step (fail))
        refine wpQuiet_nil ?_
        intro w' hE'
        go_wp2_with fail
        refine ⟨⟨k + 1, by omega, by go_num, Lib.hid (fun i hi => ?_), hE.trans hE'⟩, by simp [intOf]; omega⟩
        by_cases e : i = k
        · rw [e]; exact HST.out.2 ⟨HB.out, fun h => absurd HK0.out (by omega)⟩
        · exact HOK.out i (by omega)
      · obtain ⟨m, rfl⟩ : ∃ m, k = m + 1 := ⟨k - 1, by omega⟩
        have hy := HDP.out (by omega)
        rw [show m + 1 - 1 = m by omega] at hy
        have hly := lt_of_cell hy
        simp only at hly
        have hk1 : decide ((0 : Int) < (m : Int) + 1) = true := decide_eq_true (by omega)
        have hk2 : decide (0 < m + 1) = true := by simp
        have hml : (m : Int) < n := by omega
        have hwr : IntKind.i64.wrap ((m : Int) + 1 - 1) = m := IntWalk.i64_in _ (by omega) |>.trans (by omega)
        have HLT := Lib.hid hlt
        by_cases hlt2 : y < x
        · have hle : decide (x ≤ y) = false := by simp; omega
          have H2 := Lib.hid hlt2
          clear hlt2
          refine region_ext (by kernel_rfl) (by kernel_rfl) ?_
          repeat (go_big_quiet_step (fail))
          refine wpQuiet_nil ?_
          intro w' hE'
          go_wp2_with fail
          refine ⟨⟨m + 1 + 1, by omega, by go_num, Lib.hid (fun i hi => ?_), hE.trans hE'⟩, by simp [intOf]; omega⟩
          by_cases e : i = m + 1
          · rw [e]; exact HST.out.2 ⟨HB.out, fun _ => H2.out⟩
          · exact HOK.out i (by omega)
        · have hle : decide (x ≤ y) = true := by simp; omega
          have H2 := Lib.hid hlt2
          clear hlt2
          refine region_ext (by kernel_rfl) (by kernel_rfl) ?_
          repeat (go_big_quiet_step (fail))
          refine wpQuiet_nil ?_
          intro w' hE'
          go_wp2_with fail
          go_ret
          refine ⟨ret_bool ?_, hE.trans hE'⟩
          rw [askB_no (k := m + 1) (by rw [HL.out]; exact HLT.out) (fun h => by have h3 := (HST.out.1 h).2 (by omega); have h4 := H2.out; omega)]
    · obtain rfl : k = n := by omega
      have ht : askB l = true := askB_steps.2 (fun i hi => HOK.out i (by rw [← HL.out]; exact hi))
      have hlen := askB_len ht
      rw [HL.out] at hlen
      have q : decide ((k : Int) ≤ 16) = true := by simp; omega
      have HT := Lib.hid ht
      clear ht
      go_wp2_with fail
      go_ret
      exact ⟨ret_bool HT.out.symm, hE⟩

theorem mem_nth {l : List Int} {x : Int} : x ∈ l ↔ ∃ i, i < l.length ∧ nth l i = x := by
  constructor
  · intro h
    obtain ⟨i, hi, rfl⟩ := List.mem_iff_getElem.1 h
    exact ⟨i, hi, by simp [nth, List.getD_eq_getElem?_getD, hi]⟩
  · rintro ⟨i, hi, rfl⟩
    exact nth_mem hi

set_option maxHeartbeats 1000000 in
theorem rHas_any (a : Option Addr) (n c : Nat) (l : List Int) (v : Int) (w : World) (h1 : Sl .i64 w a n c l) :
    Calls Tryz.prog 76 #[.slice a n c, .int .i64 v] w fun e w' => e = .returned (.bool (decide (v ∈ l))) ∧ Ext w w' := by
  have bd := h1.bd
  have HL := Lib.hid h1.hlen
  go_enter Tryz.func76, Tryz.ntmps76
  go_wp2_with fail
  go_loopw [5] (fun i wr => ∃ (k : Nat), k ≤ n ∧ i = .int .i64 (k : Int) ∧ Hid (∀ j, j < k → nth l j ≠ v) ∧ Ext w wr) (fun i _ => n - (intOf i).toNat)
  case atStart => exact ⟨0, by omega, rfl, Lib.hid (fun i hi => absurd hi (by omega)), Ext.refl w⟩
  case round =>
    obtain ⟨k, hk, rfl, HOK, hE⟩ := hrel
    by_cases hlt : k < n
    · obtain ⟨x1, o1, rfl, hc1⟩ := h1.at (by omega)
      have d0 := hE.cell (hc1 k hlt)
      have HY : Hid (nth l k = nth l k) := Lib.hid rfl
      rcases hv : (nth l k == v) with _ | _
      · have HV := Lib.hid hv
        go_wp2_with fail
        refine ⟨⟨k + 1, by omega, by go_num, Lib.hid (fun i hi => ?_), hE⟩, by simp [intOf]; omega⟩
        by_cases e : i = k
        · rw [e]; exact fun e2 => by have := HV.out; rw [e2] at this; simp at this
        · exact HOK.out i (by omega)
      · have HV := Lib.hid hv
        go_wp2_with fail
        go_ret
        refine ⟨ret_bool ?_, hE⟩
        exact (decide_eq_true (mem_nth.2 ⟨k, by rw [HL.out]; exact hlt, by simpa using HV.out⟩)).symm
    · obtain rfl : k = n := by omega
      go_wp2_with fail
      go_ret
      refine ⟨ret_bool ?_, hE⟩
      refine (decide_eq_false (fun h => ?_)).symm
      obtain ⟨i, hi, e⟩ := mem_nth.1 h
      exact HOK.out i (by rw [← HL.out]; exact hi) e

theorem own_ref (b : Bx) (x : Rp) : ownB b x = (x.h == b.host && (x.r == b.round && (decide (x.a ∈ b.asked) && x.n == nonF b.head b.host b.round x.a))) := by
  unfold ownB
  cases decide (x.a ∈ b.asked) <;> cases (x.h == b.host) <;> cases (x.r == b.round) <;> simp

set_option maxHeartbeats 4000000 in
theorem rfits_any (b : Bx) (sa : Option Addr) (sn sc : Nat) (ga : Option Addr) (gn gc : Nat) (x : Rp) (hx : x.Ok) (w : World) (hb : BxF w b sa sn sc ga gn gc) :
    Calls Tryz.prog 52 #[.agg #[.int .i64 b.host, .int .i64 b.round, .int .u64 b.head, .int .i64 b.sent, .int .i64 b.wait, .slice sa sn sc, .slice ga gn gc], .agg #[.int .i64 x.a, .int .i64 x.h, .int .i64 x.r, .int .u64 x.n, .int .i64 x.lo, .int .i64 x.hi, .int .i64 x.k, .int .i64 x.t, .int .i64 x.c, .int .i64 x.s]] w fun e w' => e = .returned (.bool (ownB b x)) ∧ Ext w w' := by
  have ho := hb.ok
  have HE : Hid (ownB b x = (x.h == b.host && (x.r == b.round && (decide (x.a ∈ b.asked) && x.n == nonF b.head b.host b.round x.a)))) := Lib.hid (own_ref b x)
  have hP := Bk.new w 29 #[.int .i64 b.host, .int .i64 b.round, .int .u64 b.head, .int .i64 b.sent, .int .i64 b.wait, .slice sa sn sc, .slice ga gn gc]
  have hQ := Bk.new (w.alloc (.cells #[.int .i64 b.host, .int .i64 b.round, .int .u64 b.head, .int .i64 b.sent, .int .i64 b.wait, .slice sa sn sc, .slice ga gn gc] 29)) 60 #[.int .i64 x.a, .int .i64 x.h, .int .i64 x.r, .int .u64 x.n, .int .i64 x.lo, .int .i64 x.hi, .int .i64 x.k, .int .i64 x.t, .int .i64 x.c, .int .i64 x.s]
  rw [World.size_alloc] at hQ
  replace hP := hP.ext ((Ext.refl _).alloc (.cells #[.int .i64 x.a, .int .i64 x.h, .int .i64 x.r, .int .u64 x.n, .int .i64 x.lo, .int .i64 x.hi, .int .i64 x.k, .int .i64 x.t, .int .i64 x.c, .int .i64 x.s] 60))
  have hE : Ext w ((w.alloc (.cells #[.int .i64 b.host, .int .i64 b.round, .int .u64 b.head, .int .i64 b.sent, .int .i64 b.wait, .slice sa sn sc, .slice ga gn gc] 29)).alloc (.cells #[.int .i64 x.a, .int .i64 x.h, .int .i64 x.r, .int .u64 x.n, .int .i64 x.lo, .int .i64 x.hi, .int .i64 x.k, .int .i64 x.t, .int .i64 x.c, .int .i64 x.s] 60)) := ((Ext.refl w).alloc _).alloc _
  go_enter Tryz.func52, Tryz.ntmps52
  go_upto_region 1 with fail
  generalize (w.alloc (.cells #[.int .i64 b.host, .int .i64 b.round, .int .u64 b.head, .int .i64 b.sent, .int .i64 b.wait, .slice sa sn sc, .slice ga gn gc] 29)).alloc (.cells #[.int .i64 x.a, .int .i64 x.h, .int .i64 x.r, .int .u64 x.n, .int .i64 x.lo, .int .i64 x.hi, .int .i64 x.k, .int .i64 x.t, .int .i64 x.c, .int .i64 x.s] 60) = V at *
  generalize w.heap.size + 1 = qb at hQ ⊢
  generalize w.heap.size = pb at hP ⊢
  have p0 := hP.c 0 _ rfl
  have p1 := hP.c 1 _ rfl
  have p2 := hP.c 2 _ rfl
  have p3 := hP.c 3 _ rfl
  have p4 := hP.c 4 _ rfl
  have p5 := hP.c 5 _ rfl
  have p6 := hP.c 6 _ rfl
  have r0 := hQ.c 0 _ rfl
  have r1 := hQ.c 1 _ rfl
  have r2 := hQ.c 2 _ rfl
  have r3 := hQ.c 3 _ rfl
  have r4 := hQ.c 4 _ rfl
  have r5 := hQ.c 5 _ rfl
  have r6 := hQ.c 6 _ rfl
  have r7 := hQ.c 7 _ rfl
  have r8 := hQ.c 8 _ rfl
  have r9 := hQ.c 9 _ rfl
  rcases c1 : (x.h == b.host) with _ | _
  · have C1 := Lib.hid c1
    have c1' : (x.h != b.host) = true := by rw [bne, c1]; rfl
    go_wp2_with fail
    go_ret
    exact ⟨ret_bool (by rw [HE.out, C1.out]; simp), hE⟩
  have C1 := Lib.hid c1
  have c1' : (x.h != b.host) = false := by rw [bne, c1]; rfl
  rcases c2 : (x.r == b.round) with _ | _
  · have C2 := Lib.hid c2
    have c2' : (x.r != b.round) = true := by rw [bne, c2]; rfl
    go_wp2_with fail
    go_ret
    exact ⟨ret_bool (by rw [HE.out, C2.out]; simp), hE⟩
  have C2 := Lib.hid c2
  have c2' : (x.r != b.round) = false := by rw [bne, c2]; rfl
  go_wp2_with fail
  refine (rHas_any sa sn sc b.asked x.a V (hb.sl.ext hE)).mono ?_
  rintro e W ⟨rfl, hx2⟩
  clear p0 p1 p2 p3 p4 p5 p6 r0 r1 r2 r3 r4 r5 r6 r7 r8 r9
  replace hE := hE.trans hx2
  replace hP := hP.ext hx2
  replace hQ := hQ.ext hx2
  have p0 := hP.c 0 _ rfl
  have p1 := hP.c 1 _ rfl
  have p2 := hP.c 2 _ rfl
  have p3 := hP.c 3 _ rfl
  have p4 := hP.c 4 _ rfl
  have p5 := hP.c 5 _ rfl
  have p6 := hP.c 6 _ rfl
  have r0 := hQ.c 0 _ rfl
  have r1 := hQ.c 1 _ rfl
  have r2 := hQ.c 2 _ rfl
  have r3 := hQ.c 3 _ rfl
  have r4 := hQ.c 4 _ rfl
  have r5 := hQ.c 5 _ rfl
  have r6 := hQ.c 6 _ rfl
  have r7 := hQ.c 7 _ rfl
  have r8 := hQ.c 8 _ rfl
  have r9 := hQ.c 9 _ rfl
  rcases c3 : decide (x.a ∈ b.asked) with _ | _
  · have C3 := Lib.hid c3
    clear c3
    go_wp2_with fail
    go_ret
    exact ⟨ret_bool (by rw [HE.out, C3.out]; simp), hE⟩
  have C3 := Lib.hid c3
  clear c3
  go_upto_region 3 with fail
  have hlP := hP.lt
  have hlQ := hQ.lt
  have hg := @grow_cell
  rcases c4 : (x.n == nonF b.head b.host b.round x.a) with _ | _
  · have C4 := Lib.hid c4
    refine region_ext (by kernel_rfl) (by kernel_rfl) ?_
    repeat (go_big_quiet_step ((go_at_call 18; exact Calls.regrown_of (rnonce_any _ _ _ _ ho.head ho.host ho.round hx.a _))))
    refine wpQuiet_nil ?_
    intro W' hx3
    replace hE := hE.trans hx3
    go_wp2_with fail
    go_ret
    exact ⟨ret_bool (by rw [HE.out, C4.out]; simp), hE⟩
  have C4 := Lib.hid c4
  refine region_ext (by kernel_rfl) (by kernel_rfl) ?_
  repeat (go_big_quiet_step ((go_at_call 18; exact Calls.regrown_of (rnonce_any _ _ _ _ ho.head ho.host ho.round hx.a _))))
  refine wpQuiet_nil ?_
  intro W' hx3
  replace hE := hE.trans hx3
  go_wp2_with fail
  go_ret
  exact ⟨ret_bool (by rw [HE.out, C1.out, C2.out, C3.out, C4.out]; rfl), hE⟩
end Go.Proofs.YtdmfdimhjemngaaGreatDoor
