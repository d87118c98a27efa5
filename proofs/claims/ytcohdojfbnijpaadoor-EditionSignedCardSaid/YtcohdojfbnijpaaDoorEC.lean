/-
  Differences and moves, by both, walked. Written by wip/gen_ec.py.
-/
import Derived.Test.YtcohdojfbnijpaaDoorEB
namespace Go.Proofs.YtcohdojfbnijpaaDoor
open Go.RowKit Go.Sort Go.Shelf
set_option linter.unusedSimpArgs false
set_option linter.unusedVariables false
set_option maxRecDepth 100000

theorem edif_any (a : Option Addr) (n c : Nat) (l : List Lp) (a2 : Option Addr) (n2 c2 : Nat) (l2 : List Lp) (w : World) (h1 : Rw w a n c l) (h2 : Rw w a2 n2 c2 l2) :
    Calls Tryd.prog 21 #[.slice a n c, .slice a2 n2 c2] w fun e w' => e = .returned (.tuple #[.int .i64 (dfrF l l2).1, .bool (dfrF l l2).2.1, .int .i64 (dfrF l l2).2.2]) ∧ Ext w w' := by
  go_enter Tryd.func21, Tryd.ntmps21
  go_wp2_with fail
  refine (lvalid_any a n c l w h1).mono ?_
  rintro e w1 ⟨rfl, hx⟩
  rcases hv : validL l with _ | _
  · have HR : Hid (dfrF l l2 = (0, false, 1)) := Lib.hid (by unfold dfrF; rw [if_neg (fun h => by rw [hv] at h; cases h.1)])
    clear hv
    go_wp2_with fail
    go_ret3
    exact ⟨by rw [HR.out]; rfl, hx⟩
  have HV1 := Lib.hid hv
  clear hv
  go_wp2_with fail
  refine (lvalid_any a2 n2 c2 l2 w1 (h2.ext hx)).mono ?_
  rintro e w2 ⟨rfl, hy⟩
  replace hx := hx.trans hy
  clear hy
  rcases hv : validL l2 with _ | _
  · have HR : Hid (dfrF l l2 = (0, false, 1)) := Lib.hid (by unfold dfrF; rw [if_neg (fun h => by rw [hv] at h; cases h.2)])
    clear hv
    go_wp2_with fail
    go_ret3
    exact ⟨by rw [HR.out]; rfl, hx⟩
  have HV2 := Lib.hid hv
  clear hv
  have HR : Hid (dfrF l l2 = (difD l l2, difS l l2, 0)) := Lib.hid (by unfold dfrF; rw [if_pos ⟨HV1.out, HV2.out⟩])
  go_wp2_with fail
  refine (difference_any a n c l a2 n2 c2 l2 w2 (h1.ext hx) (h2.ext hx)).mono ?_
  rintro e w3 ⟨rfl, hy⟩
  replace hx := hx.trans hy
  go_wp2_with fail
  go_ret3
  exact ⟨by rw [HR.out]; rfl, hx⟩

set_option maxHeartbeats 2000000 in
theorem rstep_any (a : Option Addr) (n c : Nat) (l : List Lp) (day : Int) (w : World) (h1 : Rw w a n c l) :
    Calls Tryd.prog 57 #[.slice a n c, .int .i64 day] w fun e w' => e = .returned (.int .i64 (stepAt l day)) ∧ Ext w w' := by
  have bd := h1.bd
  have HL := Lib.hid h1.hlen
  go_enter Tryd.func57, Tryd.ntmps57
  go_wp2_with fail
  go_loopw [5] (fun i wr => ∃ (k : Nat), k ≤ n ∧ i = .int .i64 (k : Int) ∧ Hid (∀ j, j < k → (nthR l j).d ≠ day) ∧ Ext w wr) (fun i _ => n - (intOf i).toNat)
  case atStart => exact ⟨0, by omega, rfl, Lib.hid (fun j hj => by omega), Ext.refl _⟩
  case round =>
    obtain ⟨k, hk, rfl, HK, hx⟩ := hrel
    have HS : Hid (stepAt l day = stepAt (l.drop k) day) := Lib.hid (stepAt_from l day k (by rw [HL.out]; exact hk) HK.out)
    by_cases hlt : k < n
    · obtain ⟨x1, o1, rfl, hc1⟩ := h1.at (by omega)
      have hr := rangeAt_ext (hc1 k hlt) hx
      have e1 : l.drop k = nthR l k :: l.drop (k + 1) := by rw [List.drop_eq_getElem_cons (by rw [HL.out]; exact hlt), nthR_get (by rw [HL.out]; exact hlt)]
      rw [sz_lp] at hr
      obtain ⟨d0, d1⟩ := cells_lp hr
      clear hr hc1
      by_cases he : (nthR l k).d = day
      · have HR : Hid (stepAt l day = (nthR l k).s) := Lib.hid (by rw [HS.out, e1]; simp only [stepAt]; rw [if_pos he])
        clear e1
        generalize nthR l k = x at *
        subst he
        go_wp2_with fail
        go_ret
        exact ⟨by rw [HR.out]; rfl, hx⟩
      · have HK2 : Hid (∀ j, j < k + 1 → (nthR l j).d ≠ day) := Lib.hid (fun j hj => by
          by_cases hjk : j = k
          · subst hjk; exact he
          · exact HK.out j (by omega))
        clear e1
        generalize nthR l k = x at *
        have q := beq_eq_false_iff_ne.2 he
        go_wp2_with fail
        exact ⟨⟨k + 1, by omega, by go_num, HK2, hx⟩, by simp [intOf]; omega⟩
    · obtain rfl : k = n := by omega
      have HR : Hid (stepAt l day = 0) := Lib.hid (by rw [HS.out, List.drop_of_length_le (Nat.le_of_eq HL.out)]; rfl)
      go_wp2_with fail
      go_ret
      exact ⟨by rw [HR.out]; rfl, hx⟩

set_option maxHeartbeats 40000000 in
theorem rdif_any (a : Option Addr) (n c : Nat) (l : List Lp) (a2 : Option Addr) (n2 c2 : Nat) (l2 : List Lp) (w : World) (h1 : Rw w a n c l) (h2 : Rw w a2 n2 c2 l2) :
    Calls Tryd.prog 22 #[.slice a n c, .slice a2 n2 c2] w fun e w' => e = .returned (.tuple #[.int .i64 (dfrF l l2).1, .bool (dfrF l l2).2.1, .int .i64 (dfrF l l2).2.2]) ∧ Ext w w' := by
  have bd1 := h1.bd
  have bd2 := h2.bd
  have HL := Lib.hid h1.hlen
  have HL2 := Lib.hid h2.hlen
  go_enter Tryd.func22, Tryd.ntmps22
  go_wp2_with fail
  refine (rvalid17_any a n c l w h1).mono ?_
  rintro e w1 ⟨rfl, hx⟩
  go_wp2_with fail
  refine (rvalid17_any a2 n2 c2 l2 w1 (h2.ext hx)).mono ?_
  rintro e w2 ⟨rfl, hy⟩
  replace hx := hx.trans hy
  clear hy
  rcases hv : validL l with _ | _
  · have HR : Hid (dfrF l l2 = (0, false, 1)) := Lib.hid (by unfold dfrF; rw [if_neg (fun h => by rw [hv] at h; cases h.1)])
    clear hv
    go_wp2_with fail
    go_ret3
    exact ⟨by rw [HR.out]; rfl, hx⟩
  have HV1 := Lib.hid hv
  clear hv
  rcases hv : validL l2 with _ | _
  · have HR : Hid (dfrF l l2 = (0, false, 1)) := Lib.hid (by unfold dfrF; rw [if_neg (fun h => by rw [hv] at h; cases h.2)])
    clear hv
    go_wp2_with fail
    go_ret3
    exact ⟨by rw [HR.out]; rfl, hx⟩
  have HV2 := Lib.hid hv
  clear hv
  go_wp2_with fail
  go_loopw [9, 10] (fun s i wr => ∃ (k : Nat) (m : Int), k ≤ n ∧ i = .int .i64 (k : Int) ∧ s = .int .i64 m ∧ Hid (BestL l l2 k (-1) m) ∧ -1 ≤ m ∧ m ≤ 34000 ∧ Ext w wr) (fun _ i _ => n - (intOf i).toNat)
  case atStart => exact ⟨0, -1, by omega, rfl, rfl, Lib.hid (BestL.zero _ _ _), by omega, by omega, hx⟩
  case round =>
    obtain ⟨k, m, hk, rfl, rfl, HK, m0', m9, hy⟩ := hrel
    clear hx
    have hx := hy
    clear hy
    by_cases hlt : k < n
    · obtain ⟨x1, o1, rfl, hc1⟩ := h1.at (by omega)
      have hr1 := rangeAt_ext (hc1 k hlt) hx
      have hxb := vfrom_gt (validL_from HV1.out) (nthR l k) (nthR_mem (by rw [HL.out]; exact hlt))
      have hsb := stepAt_bd (nthR l k).d (validL_from HV2.out)
      have HC : Hid (candL l l2 k ↔ stepAt l2 (nthR l k).d ≠ (nthR l k).s) := Lib.hid Iff.rfl
      have HSK : Hid (¬ candL l l2 k ∨ (0 ≤ m ∧ m ≤ (nthR l k).d) → BestL l l2 (k + 1) (-1) m) := Lib.hid (fun h => HK.out.skip h)
      have HTK : Hid (candL l l2 k → m < 0 ∨ (nthR l k).d < m → BestL l l2 (k + 1) (-1) (nthR l k).d) := Lib.hid (fun h h' => HK.out.take h (by omega) h')
      have HST : Hid (∀ W, Ext w W → Calls Tryd.prog 57 #[.slice a2 n2 c2, .int .i64 (nthR l k).d] W fun e w' => e = .returned (.int .i64 (stepAt l2 (nthR l k).d)) ∧ Ext W w') := Lib.hid (fun W h => rstep_any a2 n2 c2 l2 _ W (h2.ext h))
      rw [sz_lp] at hr1
      obtain ⟨d0, d1⟩ := cells_lp hr1
      have lx := lt_of_cell d0
      clear hr1 hc1
      generalize stepAt l2 (nthR l k).d = ST at *
      generalize nthR l k = x at *
      have hg := @grow_cell
      by_cases q1 : ST = x.s
      · have HB := Lib.hid (HSK.out (.inl (fun h => HC.out.1 h q1)))
        have HQ := Lib.hid q1
        clear hsb
        subst q1
        go_upto_region 9 with fail
        refine region_ext (by kernel_rfl) (by kernel_rfl) ?_
        repeat (go_big_quiet_step ((go_at_call 57; exact Calls.regrown_of (HST.out _ (hx.trans (ext_grow _ _ _))))))
        refine wpQuiet_nil ?_
        intro w6 hx6
        go_wp2_with fail
        exact ⟨⟨k + 1, m, by omega, by go_num, rfl, HB, m0', m9, hx.trans hx6⟩, by simp [intOf]; omega⟩
      · have hcd : candL l l2 k := HC.out.2 q1
        have d1' : ¬ ST = x.s := q1
        have dq := bne_iff_ne.2 q1
        by_cases q2 : m < 0
        · have HB := Lib.hid (HTK.out hcd (.inl q2))
          have dq2 := decide_eq_true q2
          clear hcd
          go_upto_region 9 with fail
          refine region_ext (by kernel_rfl) (by kernel_rfl) ?_
          repeat (go_big_quiet_step ((go_at_call 57; exact Calls.regrown_of (HST.out _ (hx.trans (ext_grow _ _ _))))))
          refine wpQuiet_nil ?_
          intro w6 hx6
          replace d0 := hx6.cell d0
          clear d1
          go_wp2_with fail
          exact ⟨⟨k + 1, x.d, by omega, by go_num, rfl, HB, by omega, by omega, hx.trans hx6⟩, by simp [intOf]; omega⟩
        · have dq2 := decide_eq_false q2
          by_cases q3 : x.d < m
          · have HB := Lib.hid (HTK.out hcd (.inr q3))
            have dq3 := decide_eq_true q3
            clear hcd
            go_upto_region 9 with fail
            refine region_ext (by kernel_rfl) (by kernel_rfl) ?_
            repeat (go_big_quiet_step ((go_at_call 57; exact Calls.regrown_of (HST.out _ (hx.trans (ext_grow _ _ _))))))
            refine wpQuiet_nil ?_
            intro w6 hx6
            replace d0 := hx6.cell d0
            clear d1
            go_wp2_with fail
            exact ⟨⟨k + 1, x.d, by omega, by go_num, rfl, HB, by omega, by omega, hx.trans hx6⟩, by simp [intOf]; omega⟩
          · have HB := Lib.hid (HSK.out (.inr ⟨by omega, by omega⟩))
            have dq3 := decide_eq_false q3
            clear hcd
            go_upto_region 9 with fail
            refine region_ext (by kernel_rfl) (by kernel_rfl) ?_
            repeat (go_big_quiet_step ((go_at_call 57; exact Calls.regrown_of (HST.out _ (hx.trans (ext_grow _ _ _))))))
            refine wpQuiet_nil ?_
            intro w6 hx6
            go_wp2_with fail
            exact ⟨⟨k + 1, m, by omega, by go_num, rfl, HB, m0', m9, hx.trans hx6⟩, by simp [intOf]; omega⟩
    · have hkn : n = k := by omega
      subst hkn
      have HM1 := HK
      clear HK
      obtain ⟨m1, hm1⟩ : ∃ z, z = m := ⟨_, rfl⟩
      rw [← hm1] at HM1 m0' m9 ⊢
      clear hm1
      go_upto_region 12 with fail
      go_loopw [9, 11] (fun s i wr => ∃ (k : Nat) (m : Int), k ≤ n2 ∧ i = .int .i64 (k : Int) ∧ s = .int .i64 m ∧ Hid (BestL l2 l k m1 m) ∧ -1 ≤ m ∧ m ≤ 34000 ∧ Ext w wr) (fun _ i _ => n2 - (intOf i).toNat)
      case atStart => exact ⟨0, m1, by omega, rfl, rfl, Lib.hid (BestL.zero _ _ _), by omega, by omega, hx⟩
      case round =>
        obtain ⟨k, m, hk, rfl, rfl, HK, m0', m9, hy⟩ := hrel
        clear hx
        have hx := hy
        clear hy
        by_cases hlt : k < n2
        · obtain ⟨x1, o1, rfl, hc1⟩ := h2.at (by omega)
          have hr1 := rangeAt_ext (hc1 k hlt) hx
          have hxb := vfrom_gt (validL_from HV2.out) (nthR l2 k) (nthR_mem (by rw [HL2.out]; exact hlt))
          have hsb := stepAt_bd (nthR l2 k).d (validL_from HV1.out)
          have HC : Hid (candL l2 l k ↔ stepAt l (nthR l2 k).d ≠ (nthR l2 k).s) := Lib.hid Iff.rfl
          have HSK : Hid (¬ candL l2 l k ∨ (0 ≤ m ∧ m ≤ (nthR l2 k).d) → BestL l2 l (k + 1) m1 m) := Lib.hid (fun h => HK.out.skip h)
          have HTK : Hid (candL l2 l k → m < 0 ∨ (nthR l2 k).d < m → BestL l2 l (k + 1) m1 (nthR l2 k).d) := Lib.hid (fun h h' => HK.out.take h (by omega) h')
          have HST : Hid (∀ W, Ext w W → Calls Tryd.prog 57 #[.slice a n c, .int .i64 (nthR l2 k).d] W fun e w' => e = .returned (.int .i64 (stepAt l (nthR l2 k).d)) ∧ Ext W w') := Lib.hid (fun W h => rstep_any a n c l _ W (h1.ext h))
          rw [sz_lp] at hr1
          obtain ⟨d0, d1⟩ := cells_lp hr1
          have lx := lt_of_cell d0
          clear hr1 hc1
          generalize stepAt l (nthR l2 k).d = ST at *
          generalize nthR l2 k = x at *
          have hg := @grow_cell
          by_cases q1 : ST = x.s
          · have HB := Lib.hid (HSK.out (.inl (fun h => HC.out.1 h q1)))
            have HQ := Lib.hid q1
            clear hsb
            subst q1
            go_upto_region 14 with fail
            refine region_ext (by kernel_rfl) (by kernel_rfl) ?_
            repeat (go_big_quiet_step ((go_at_call 57; exact Calls.regrown_of (HST.out _ (hx.trans (ext_grow _ _ _))))))
            refine wpQuiet_nil ?_
            intro w6 hx6
            go_wp2_with fail
            exact ⟨⟨k + 1, m, by omega, by go_num, rfl, HB, m0', m9, hx.trans hx6⟩, by simp [intOf]; omega⟩
          · have hcd : candL l2 l k := HC.out.2 q1
            have d1' : ¬ ST = x.s := q1
            have dq := bne_iff_ne.2 q1
            by_cases q2 : m < 0
            · have HB := Lib.hid (HTK.out hcd (.inl q2))
              have dq2 := decide_eq_true q2
              clear hcd
              go_upto_region 14 with fail
              refine region_ext (by kernel_rfl) (by kernel_rfl) ?_
              repeat (go_big_quiet_step ((go_at_call 57; exact Calls.regrown_of (HST.out _ (hx.trans (ext_grow _ _ _))))))
              refine wpQuiet_nil ?_
              intro w6 hx6
              replace d0 := hx6.cell d0
              clear d1
              go_wp2_with fail
              exact ⟨⟨k + 1, x.d, by omega, by go_num, rfl, HB, by omega, by omega, hx.trans hx6⟩, by simp [intOf]; omega⟩
            · have dq2 := decide_eq_false q2
              by_cases q3 : x.d < m
              · have HB := Lib.hid (HTK.out hcd (.inr q3))
                have dq3 := decide_eq_true q3
                clear hcd
                go_upto_region 14 with fail
                refine region_ext (by kernel_rfl) (by kernel_rfl) ?_
                repeat (go_big_quiet_step ((go_at_call 57; exact Calls.regrown_of (HST.out _ (hx.trans (ext_grow _ _ _))))))
                refine wpQuiet_nil ?_
                intro w6 hx6
                replace d0 := hx6.cell d0
                clear d1
                go_wp2_with fail
                exact ⟨⟨k + 1, x.d, by omega, by go_num, rfl, HB, by omega, by omega, hx.trans hx6⟩, by simp [intOf]; omega⟩
              · have HB := Lib.hid (HSK.out (.inr ⟨by omega, by omega⟩))
                have dq3 := decide_eq_false q3
                clear hcd
                go_upto_region 14 with fail
                refine region_ext (by kernel_rfl) (by kernel_rfl) ?_
                repeat (go_big_quiet_step ((go_at_call 57; exact Calls.regrown_of (HST.out _ (hx.trans (ext_grow _ _ _))))))
                refine wpQuiet_nil ?_
                intro w6 hx6
                go_wp2_with fail
                exact ⟨⟨k + 1, m, by omega, by go_num, rfl, HB, m0', m9, hx.trans hx6⟩, by simp [intOf]; omega⟩
        · have hkn : n2 = k := by omega
          subst hkn
          have HF : Hid ((difL l l2 = none ∧ m = -1) ∨ (difL l l2 = some m ∧ 0 ≤ m)) := Lib.hid (best_dif HV1.out HV2.out (by rw [HL.out]; exact HM1.out) (by rw [HL2.out]; exact HK.out))
          clear HK HM1
          rcases HF.out with ⟨e1, e2⟩ | ⟨e1, e2⟩
          · have HR : Hid (dfrF l l2 = (0, false, 0)) := Lib.hid (by unfold dfrF difD difS; rw [if_pos ⟨HV1.out, HV2.out⟩, e1]; rfl)
            have q : m < 0 := by omega
            clear HF
            go_wp2_with fail
            go_ret3
            exact ⟨by rw [HR.out]; rfl, hx⟩
          · have HR : Hid (dfrF l l2 = (m, true, 0)) := Lib.hid (by unfold dfrF difD difS; rw [if_pos ⟨HV1.out, HV2.out⟩, e1]; rfl)
            have q : ¬ m < 0 := by omega
            clear HF
            go_wp2_with fail
            go_ret3
            exact ⟨by rw [HR.out]; rfl, hx⟩

set_option maxHeartbeats 2000000 in
/-- Whether two tables are the same. -/
theorem r17same_any (a : Option Addr) (n c : Nat) (l : List Lp) (a2 : Option Addr) (n2 c2 : Nat) (l2 : List Lp) (w : World) (h1 : Rw w a n c l) (h2 : Rw w a2 n2 c2 l2) :
    Calls Tryd.prog 28 #[.slice a n c, .slice a2 n2 c2] w fun e w' => e = .returned (.bool (decide (l = l2))) ∧ Ext w w' := by
  have bd1 := h1.bd
  have bd2 := h2.bd
  have HL1 := Lib.hid h1.hlen
  have HL2 := Lib.hid h2.hlen
  by_cases hn : n = n2
  · subst hn
    go_enter Tryd.func28, Tryd.ntmps28
    go_wp2_with fail
    go_loopw [5] (fun i wr => ∃ (k : Nat), k ≤ n ∧ i = .int .i64 (k : Int) ∧ Hid (∀ j, j < k → nthR l j = nthR l2 j) ∧ Ext w wr) (fun i _ => n - (intOf i).toNat)
    case atStart => exact ⟨0, by omega, rfl, Lib.hid (fun j hj => by omega), Ext.refl _⟩
    case round =>
      obtain ⟨k, hk, rfl, HK, hx⟩ := hrel
      by_cases hlt : k < n
      · obtain ⟨x1, o1, rfl, hc1⟩ := h1.at (by omega)
        obtain ⟨x2, o2, rfl, hc2⟩ := h2.at (by omega)
        have hr1 := rangeAt_ext (hc1 k hlt) hx
        have hr2 := rangeAt_ext (hc2 k hlt) hx
        rw [sz_lp] at hr1 hr2
        obtain ⟨d0, d1⟩ := cells_lp hr1
        obtain ⟨e0, e1⟩ := cells_lp hr2
        have lx := lt_of_cell d0
        have ly := lt_of_cell e0
        clear hr1 hr2 hc1 hc2
        have hg := @grow_cell
        by_cases he : nthR l k = nthR l2 k
        · have HK2 : Hid (∀ j, j < k + 1 → nthR l j = nthR l2 j) := Lib.hid (fun j hj => by
            by_cases hjk : j = k
            · subst hjk; exact he
            · exact HK.out j (by omega))
          generalize nthR l k = x at *
          generalize nthR l2 k = y at *
          subst he
          have q := fun W => eqLp x.d x.s x.d x.s W
          go_upto_region 6 with fail
          refine region_ext (by kernel_rfl) (by kernel_rfl) ?_
          repeat (go_big_quiet_step (fail))
          refine wpQuiet_nil ?_
          intro w6 hx6
          go_wp2_with fail
          exact ⟨⟨k + 1, by omega, by go_num, HK2, hx.trans hx6⟩, by simp [intOf]; omega⟩
        · have HR : Hid (decide (l = l2) = false) := Lib.hid (decide_eq_false (fun h => he (by rw [h])))
          generalize nthR l k = x at *
          generalize nthR l2 k = y at *
          have hne : ¬ (x.d = y.d ∧ x.s = y.s) := fun h => he (by cases x; cases y; simp_all)
          have q : ∀ W, (Op.equalIn 10000 52 (.agg #[.int .i64 x.d, .int .i64 x.s]) (.agg #[.int .i64 y.d, .int .i64 y.s])).run Tryd.prog W = .ok false W := fun W => by rw [eqLp, decide_eq_false hne]
          clear he hne
          go_upto_region 6 with fail
          refine region_ext (by kernel_rfl) (by kernel_rfl) ?_
          repeat (go_big_quiet_step (fail))
          refine wpQuiet_nil ?_
          intro w6 hx6
          go_wp2_with fail
          go_ret
          exact ⟨by rw [HR.out]; rfl, hx.trans hx6⟩
      · obtain rfl : k = n := by omega
        have HR : Hid (decide (l = l2) = true) := Lib.hid (decide_eq_true (by
          apply List.ext_getElem (by rw [HL1.out, HL2.out])
          intro i h3 h4
          have := HK.out i (by rw [HL1.out] at h3; exact h3)
          rwa [nthR_get h3, nthR_get h4] at this))
        go_wp2_with fail
        go_ret
        exact ⟨by rw [HR.out]; rfl, hx⟩
  · have HR : Hid (decide (l = l2) = false) := Lib.hid (decide_eq_false (fun h => hn (by rw [← HL1.out, ← HL2.out, h])))
    have q : ¬ (n : Int) = (n2 : Int) := by omega
    go_enter Tryd.func28, Tryd.ntmps28
    go_wp2_with fail
    go_ret
    exact ⟨by rw [HR.out]; rfl, Ext.refl _⟩

/-- What Offset answers. -/
noncomputable def offF (l : List Lp) (t : Int) : Int × Int := if (dayF l t).2 = 0 then (offL l (dayF l t).1, 0) else (0, (dayF l t).2)
theorem lOffset_any (a : Option Addr) (n c : Nat) (l : List Lp) (t : Int) (w : World) (h1 : Rw w a n c l) :
    Calls Tryd.prog 37 #[.slice a n c, .int .i64 t] w fun e w' => e = .returned (.tuple #[.int .i64 (offF l t).1, .int .i64 (offF l t).2]) ∧ Ext w w' := by
  go_enter Tryd.func37, Tryd.ntmps37
  go_wp2_with fail
  refine (lDay_any a n c l t w h1).mono ?_
  rintro e w1 ⟨rfl, hx⟩
  rcases dayF_cases l t with hq | hq | ⟨d, hq, hr, hd, ht0, ht9⟩
  · have HR : Hid (offF l t = (0, 1)) := Lib.hid (by unfold offF; rw [hq]; rfl)
    rw [hq]
    clear hq
    go_wp2_with fail
    go_ret2
    exact ⟨by rw [HR.out]; rfl, hx⟩
  · have HR : Hid (offF l t = (0, 3)) := Lib.hid (by unfold offF; rw [hq]; rfl)
    rw [hq]
    clear hq
    go_wp2_with fail
    go_ret2
    exact ⟨by rw [HR.out]; rfl, hx⟩
  · have HR : Hid (offF l t = (offL l d, 0)) := Lib.hid (by unfold offF; rw [hq]; rfl)
    have HV := Lib.hid (rightL_iff.1 hr).1
    rw [hq]
    clear hq hr hd
    go_wp2_with fail
    refine (loffset_any a n c l d w1 (h1.ext hx) HV.out).mono ?_
    rintro e w2 ⟨rfl, hy⟩
    go_wp2_with fail
    go_ret2
    exact ⟨by rw [HR.out]; rfl, hx.trans hy⟩

theorem res_emov (W : World) (b : Nat) (d m z : Int) (tmps : Array Value) (h4 : tmps[6]?.getD undef = .pointer (some ⟨b, 0, none⟩)) (h5 : tmps[7]?.getD undef = .int .i64 z) (h : Bk W b 29 #[.int .i64 d, .int .i64 m]) :
    (results Tryd.f23 tmps).run Tryd.prog W = .ok (.tuple #[.agg #[.int .i64 d, .int .i64 m], .int .i64 z]) W := by
  have c0 := h.c 0 _ rfl
  have c1 := h.c 1 _ rfl
  simp [results, Tryd.results23, go_sem, h4, h5, c0, c1]
set_option maxHeartbeats 4000000 in
theorem emov_any (a : Option Addr) (n c : Nat) (l : List Lp) (a2 : Option Addr) (n2 c2 : Nat) (l2 : List Lp) (cd cm : Int) (w : World) (h1 : Rw w a n c l) (h2 : Rw w a2 n2 c2 l2) :
    Calls Tryd.prog 23 #[.slice a n c, .slice a2 n2 c2, .agg #[.int .i64 cd, .int .i64 cm]] w fun e w' => e = .returned (.tuple #[.agg #[.int .i64 (movF l l2 cd cm).1.1, .int .i64 (movF l l2 cd cm).1.2], .int .i64 (movF l l2 cd cm).2]) ∧ Ext w w' := by
  have hC := Bk.new w 29 #[.int .i64 cd, .int .i64 cm]
  have hB := Bk.new (w.alloc (.cells #[.int .i64 cd, .int .i64 cm] 29)) 29 #[.int .i64 0, .int .i64 0]
  replace hC := hC.ext ((Ext.refl _).alloc (.cells #[.int .i64 0, .int .i64 0] 29))
  have hE : Ext w ((w.alloc (.cells #[.int .i64 cd, .int .i64 cm] 29)).alloc (.cells #[.int .i64 0, .int .i64 0] 29)) := ((Ext.refl w).alloc _).alloc _
  rw [World.size_alloc] at hB
  go_enter Tryd.func23, Tryd.ntmps23
  go_upto_region 1 with fail
  generalize (w.alloc (.cells #[.int .i64 cd, .int .i64 cm] 29)).alloc (.cells #[.int .i64 0, .int .i64 0] 29) = W at *
  generalize hbe : w.heap.size + 1 = b at hB ⊢
  have hbs : w.heap.size ≤ b := by omega
  have hne : w.heap.size ≠ b := by omega
  generalize w.heap.size = pc at hC hne ⊢
  clear hbe
  go_wp2_with fail
  refine (lvalid_any a n c l W (h1.ext hE)).mono ?_
  rintro e w1 ⟨rfl, hx⟩
  replace hB := hB.ext hx
  replace hC := hC.ext hx
  replace hE := hE.trans hx
  clear hx
  rcases hv : validL l with _ | _
  · have HR : Hid (movF l l2 cd cm = ((0, 0), 1)) := Lib.hid (by unfold movF; rw [if_neg (fun h => by rw [hv] at h; cases h.1)])
    clear hv
    have g0 := hB.c 0 _ rfl
    have g1 := hB.c 1 _ rfl
    have f0 := hB.free 0
    have f1 := hB.free 1
    go_wp2_with fail
    exact bodyPost_ret (res_emov _ b 0 0 1 _ (by rfl) (by rfl) (hB.set2 _ _)) rfl ⟨by rw [HR.out], (hE.setCell (p := ⟨b, 0, none⟩) hbs _).setCell (p := ⟨b, 1, none⟩) hbs _⟩
  have HV1 := Lib.hid hv
  clear hv
  go_wp2_with fail
  refine (lvalid_any a2 n2 c2 l2 w1 (h2.ext hE)).mono ?_
  rintro e w2 ⟨rfl, hx⟩
  replace hB := hB.ext hx
  replace hC := hC.ext hx
  replace hE := hE.trans hx
  clear hx
  rcases hv : validL l2 with _ | _
  · have HR : Hid (movF l l2 cd cm = ((0, 0), 1)) := Lib.hid (by unfold movF; rw [if_neg (fun h => by rw [hv] at h; cases h.2)])
    clear hv
    have g0 := hB.c 0 _ rfl
    have g1 := hB.c 1 _ rfl
    have f0 := hB.free 0
    have f1 := hB.free 1
    go_wp2_with fail
    exact bodyPost_ret (res_emov _ b 0 0 1 _ (by rfl) (by rfl) (hB.set2 _ _)) rfl ⟨by rw [HR.out], (hE.setCell (p := ⟨b, 0, none⟩) hbs _).setCell (p := ⟨b, 1, none⟩) hbs _⟩
  have HV2 := Lib.hid hv
  clear hv
  have e0 := hC.c 0 _ rfl
  have e1 := hC.c 1 _ rfl
  have HM : Hid (movF l l2 cd cm = if (froF l cd cm).2 = 0 then toF l2 (froF l cd cm).1 else ((0, 0), (froF l cd cm).2)) := Lib.hid (by unfold movF; rw [if_pos ⟨HV1.out, HV2.out⟩])
  go_wp2_with fail
  refine (cfrom_any a n c l cd cm w2 (h1.ext hE)).mono ?_
  rintro e w3 ⟨rfl, hx⟩
  replace hB := hB.ext hx
  replace hC := hC.ext hx
  replace hE := hE.trans hx
  clear hx
  clear e0 e1
  generalize froF l cd cm = FR at *
  obtain ⟨t, z⟩ := FR
  by_cases hz : z = 0
  · subst hz
    have HR0 : Hid (movF l l2 cd cm = toF l2 t) := Lib.hid (by rw [HM.out]; rfl)
    clear HM
    go_wp2_with fail
    refine (cto_any a2 n2 c2 l2 t w3 (h2.ext hE)).mono ?_
    rintro e w4 ⟨rfl, hx⟩
    replace hB := hB.ext hx
    replace hC := hC.ext hx
    replace hE := hE.trans hx
    clear hx
    generalize toF l2 t = TO at *
    obtain ⟨⟨td, tm⟩, tz⟩ := TO
    have HR := HR0
    have g0 := hB.c 0 _ rfl
    have g1 := hB.c 1 _ rfl
    have f0 := hB.free 0
    have f1 := hB.free 1
    go_wp2_with fail
    exact bodyPost_ret (res_emov _ b td tm tz _ (by rfl) (by rfl) (hB.set2 _ _)) rfl ⟨by rw [HR.out], (hE.setCell (p := ⟨b, 0, none⟩) hbs _).setCell (p := ⟨b, 1, none⟩) hbs _⟩
  · have HR : Hid (movF l l2 cd cm = ((0, 0), z)) := Lib.hid (by rw [HM.out, if_neg hz])
    clear HM
    have dz := beq_eq_false_iff_ne.2 hz
    have g0 := hB.c 0 _ rfl
    have g1 := hB.c 1 _ rfl
    have f0 := hB.free 0
    have f1 := hB.free 1
    go_wp2_with fail
    exact bodyPost_ret (res_emov _ b 0 0 z _ (by rfl) (by rfl) (hB.set2 _ _)) rfl ⟨by rw [HR.out], (hE.setCell (p := ⟨b, 0, none⟩) hbs _).setCell (p := ⟨b, 1, none⟩) hbs _⟩

theorem res_rmov (W : World) (b : Nat) (d m z : Int) (tmps : Array Value) (h4 : tmps[6]?.getD undef = .pointer (some ⟨b, 0, none⟩)) (h5 : tmps[7]?.getD undef = .int .i64 z) (h : Bk W b 29 #[.int .i64 d, .int .i64 m]) :
    (results Tryd.f24 tmps).run Tryd.prog W = .ok (.tuple #[.agg #[.int .i64 d, .int .i64 m], .int .i64 z]) W := by
  have c0 := h.c 0 _ rfl
  have c1 := h.c 1 _ rfl
  simp [results, Tryd.results24, go_sem, h4, h5, c0, c1]
set_option maxHeartbeats 4000000 in
theorem rmov_any (a : Option Addr) (n c : Nat) (l : List Lp) (a2 : Option Addr) (n2 c2 : Nat) (l2 : List Lp) (cd cm : Int) (w : World) (h1 : Rw w a n c l) (h2 : Rw w a2 n2 c2 l2) :
    Calls Tryd.prog 24 #[.slice a n c, .slice a2 n2 c2, .agg #[.int .i64 cd, .int .i64 cm]] w fun e w' => e = .returned (.tuple #[.agg #[.int .i64 (movF l l2 cd cm).1.1, .int .i64 (movF l l2 cd cm).1.2], .int .i64 (movF l l2 cd cm).2]) ∧ Ext w w' := by
  have hC := Bk.new w 29 #[.int .i64 cd, .int .i64 cm]
  have hB := Bk.new (w.alloc (.cells #[.int .i64 cd, .int .i64 cm] 29)) 29 #[.int .i64 0, .int .i64 0]
  replace hC := hC.ext ((Ext.refl _).alloc (.cells #[.int .i64 0, .int .i64 0] 29))
  have hE : Ext w ((w.alloc (.cells #[.int .i64 cd, .int .i64 cm] 29)).alloc (.cells #[.int .i64 0, .int .i64 0] 29)) := ((Ext.refl w).alloc _).alloc _
  rw [World.size_alloc] at hB
  go_enter Tryd.func24, Tryd.ntmps24
  go_upto_region 1 with fail
  generalize (w.alloc (.cells #[.int .i64 cd, .int .i64 cm] 29)).alloc (.cells #[.int .i64 0, .int .i64 0] 29) = W at *
  generalize hbe : w.heap.size + 1 = b at hB ⊢
  have hbs : w.heap.size ≤ b := by omega
  have hne : w.heap.size ≠ b := by omega
  generalize w.heap.size = pc at hC hne ⊢
  clear hbe
  go_wp2_with fail
  refine (rvalid17_any a n c l W (h1.ext hE)).mono ?_
  rintro e w1 ⟨rfl, hx⟩
  replace hB := hB.ext hx
  replace hC := hC.ext hx
  replace hE := hE.trans hx
  clear hx
  go_wp2_with fail
  refine (rvalid17_any a2 n2 c2 l2 w1 (h2.ext hE)).mono ?_
  rintro e w2 ⟨rfl, hx⟩
  replace hB := hB.ext hx
  replace hC := hC.ext hx
  replace hE := hE.trans hx
  clear hx
  rcases hv : validL l with _ | _
  · have HR : Hid (movF l l2 cd cm = ((0, 0), 1)) := Lib.hid (by unfold movF; rw [if_neg (fun h => by rw [hv] at h; cases h.1)])
    clear hv
    have g0 := hB.c 0 _ rfl
    have g1 := hB.c 1 _ rfl
    have f0 := hB.free 0
    have f1 := hB.free 1
    go_wp2_with fail
    exact bodyPost_ret (res_rmov _ b 0 0 1 _ (by rfl) (by rfl) (hB.set2 _ _)) rfl ⟨by rw [HR.out], (hE.setCell (p := ⟨b, 0, none⟩) hbs _).setCell (p := ⟨b, 1, none⟩) hbs _⟩
  have HV1 := Lib.hid hv
  clear hv
  rcases hv : validL l2 with _ | _
  · have HR : Hid (movF l l2 cd cm = ((0, 0), 1)) := Lib.hid (by unfold movF; rw [if_neg (fun h => by rw [hv] at h; cases h.2)])
    clear hv
    have g0 := hB.c 0 _ rfl
    have g1 := hB.c 1 _ rfl
    have f0 := hB.free 0
    have f1 := hB.free 1
    go_wp2_with fail
    exact bodyPost_ret (res_rmov _ b 0 0 1 _ (by rfl) (by rfl) (hB.set2 _ _)) rfl ⟨by rw [HR.out], (hE.setCell (p := ⟨b, 0, none⟩) hbs _).setCell (p := ⟨b, 1, none⟩) hbs _⟩
  have HV2 := Lib.hid hv
  clear hv
  have e0 := hC.c 0 _ rfl
  have e1 := hC.c 1 _ rfl
  have HM : Hid (movF l l2 cd cm = if (froF l cd cm).2 = 0 then toF l2 (froF l cd cm).1 else ((0, 0), (froF l cd cm).2)) := Lib.hid (by unfold movF; rw [if_pos ⟨HV1.out, HV2.out⟩])
  go_wp2_with fail
  refine (r18from_any a n c l cd cm w2 (h1.ext hE)).mono ?_
  rintro e w3 ⟨rfl, hx⟩
  replace hB := hB.ext hx
  replace hC := hC.ext hx
  replace hE := hE.trans hx
  clear hx
  clear e0 e1
  generalize froF l cd cm = FR at *
  obtain ⟨t, z⟩ := FR
  by_cases hz : z = 0
  · subst hz
    have HR0 : Hid (movF l l2 cd cm = toF l2 t) := Lib.hid (by rw [HM.out]; rfl)
    clear HM
    go_wp2_with fail
    refine (r18to_any a2 n2 c2 l2 t w3 (h2.ext hE)).mono ?_
    rintro e w4 ⟨rfl, hx⟩
    replace hB := hB.ext hx
    replace hC := hC.ext hx
    replace hE := hE.trans hx
    clear hx
    generalize toF l2 t = TO at *
    obtain ⟨⟨td, tm⟩, tz⟩ := TO
    have HR := HR0
    have g0 := hB.c 0 _ rfl
    have g1 := hB.c 1 _ rfl
    have f0 := hB.free 0
    have f1 := hB.free 1
    go_wp2_with fail
    exact bodyPost_ret (res_rmov _ b td tm tz _ (by rfl) (by rfl) (hB.set2 _ _)) rfl ⟨by rw [HR.out], (hE.setCell (p := ⟨b, 0, none⟩) hbs _).setCell (p := ⟨b, 1, none⟩) hbs _⟩
  · have HR : Hid (movF l l2 cd cm = ((0, 0), z)) := Lib.hid (by rw [HM.out, if_neg hz])
    clear HM
    have dz := beq_eq_false_iff_ne.2 hz
    have g0 := hB.c 0 _ rfl
    have g1 := hB.c 1 _ rfl
    have f0 := hB.free 0
    have f1 := hB.free 1
    go_wp2_with fail
    exact bodyPost_ret (res_rmov _ b 0 0 z _ (by rfl) (by rfl) (hB.set2 _ _)) rfl ⟨by rw [HR.out], (hE.setCell (p := ⟨b, 0, none⟩) hbs _).setCell (p := ⟨b, 1, none⟩) hbs _⟩
end Go.Proofs.YtcohdojfbnijpaaDoor
