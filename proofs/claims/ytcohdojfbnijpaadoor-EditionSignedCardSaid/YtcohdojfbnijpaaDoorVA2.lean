/-
  The reference's tables of leap seconds, walked: sum, begin, Start, Length, Day.
-/
import Derived.Test.YtcohdojfbnijpaaDoorVR
import Derived.Laws.StructEq
import Derived.Laws.Tables
import Derived.Laws.Cover2
import Derived.WalkMore
import Derived.Laws.IdiomStrings
import Derived.Lib.LaidTab
namespace Go.Proofs.YtcohdojfbnijpaaDoor
open Go.RowKit Go.Sort Go.Shelf
set_option linter.unusedSimpArgs false
set_option linter.unusedVariables false
set_option maxRecDepth 100000

/-- The sum over the first k leap seconds. -/
def sumT (l : List Lp) (day : Int) (k : Nat) : Int := sumL (l.take k) day
theorem sumL_snoc (x : Lp) (day : Int) : ∀ l : List Lp, sumL (l ++ [x]) day = sumL l day + (if x.d < day then x.s else 0)
  | [] => by simp [sumL]
  | y :: l => by
    simp only [List.cons_append, sumL, sumL_snoc x day l]
    omega
theorem sumT_succ {l : List Lp} {day : Int} {k : Nat} (h : k < l.length) : sumT l day (k + 1) = sumT l day k + (if (nthR l k).d < day then (nthR l k).s else 0) := by
  unfold sumT
  rw [List.take_succ_eq_append_getElem h, sumL_snoc, nthR_get h]
theorem sumT_all {l : List Lp} {day : Int} {last : Int} (h : vfrom last l = true) : sumT l day l.length = offL l day := by
  unfold sumT
  rw [List.take_length, sumL_eq h]
theorem nthR_step {l : List Lp} {last : Int} (h : vfrom last l = true) {k : Nat} (hk : k < l.length) : (nthR l k).s = 1 ∨ (nthR l k).s = -1 := by
  rw [nthR_get hk]
  exact (vfrom_gt h _ (List.getElem_mem hk)).2.2
theorem sumT_bd {l : List Lp} {day last : Int} (h : vfrom last l = true) : ∀ k, k ≤ l.length → - (k : Int) ≤ sumT l day k ∧ sumT l day k ≤ k
  | 0, _ => by simp [sumT, sumL]
  | k + 1, hk => by
    have ih := sumT_bd (day := day) h k (by omega)
    have hs := nthR_step h (show k < l.length by omega)
    rw [sumT_succ (by omega)]
    split <;> omega

set_option maxHeartbeats 2000000 in
theorem r17sum_any (a : Option Addr) (n c : Nat) (l : List Lp) (day : Int) (w : World) (h1 : Rw w a n c l) (hv : validL l = true) :
    Calls Tryd.prog 87 #[.slice a n c, .int .i64 day] w fun e w' => e = .returned (.int .i64 (offL l day)) ∧ Ext w w' := by
  have bd := h1.bd
  have HL := Lib.hid h1.hlen
  have HV := Lib.hid (validL_from hv)
  have hn : n ≤ 100 := by have := validL_len hv; have := h1.hlen; omega
  clear hv
  go_enter Tryd.func87, Tryd.ntmps87
  go_wp2_with fail
  go_loopw [5, 6] (fun s i wr => ∃ (k : Nat) (S : Int), k ≤ n ∧ i = .int .i64 (k : Int) ∧ s = .int .i64 S ∧ Hid (S = sumT l day k) ∧ -200 ≤ S ∧ S ≤ 200 ∧ Ext w wr) (fun _ i _ => n - (intOf i).toNat)
  case atStart => exact ⟨0, 0, by omega, rfl, rfl, Lib.hid rfl, by omega, by omega, Ext.refl _⟩
  case round =>
    obtain ⟨k, S, hk, rfl, rfl, HK, s1, s2, hx⟩ := hrel
    by_cases hlt : k < n
    · obtain ⟨x1, o1, rfl, hc1⟩ := h1.at (by omega)
      have hr := rangeAt_ext (hc1 k hlt) hx
      rw [sz_lp] at hr
      have lx := lt_of_cell (cells_lp hr).1
      obtain ⟨d0, d1⟩ := cells_lp hr
      clear hr hc1
      have HS := Lib.hid (sumT_succ (l := l) (day := day) (k := k) (by rw [HL.out]; exact hlt))
      have hbd := sumT_bd (day := day) HV.out (k + 1) (by rw [HL.out]; omega)
      have hst := nthR_step HV.out (k := k) (by rw [HL.out]; exact hlt)
      generalize nthR l k = x at *
      by_cases g : x.d < day
      · have HS1 : Hid (S + x.s = sumT l day (k + 1)) := Lib.hid (by rw [HS.out, if_pos g, HK.out])
        have hb2 : -200 ≤ S + x.s ∧ S + x.s ≤ 200 := by have := HS1.out; omega
        go_wp2_with fail
        exact ⟨⟨k + 1, S + x.s, by omega, by go_num, rfl, Lib.hid HS1.out, hb2.1, hb2.2, hx⟩, by simp [intOf]; omega⟩
      · have HS1 : Hid (S = sumT l day (k + 1)) := Lib.hid (by rw [HS.out, if_neg g, HK.out]; omega)
        go_wp2_with fail
        exact ⟨⟨k + 1, S, by omega, by go_num, rfl, HS1, s1, s2, hx⟩, by simp [intOf]; omega⟩
    · obtain rfl : k = n := by omega
      have HR : Hid (S = offL l day) := Lib.hid (by rw [HK.out, ← sumT_all HV.out, HL.out])
      go_wp2_with fail
      go_ret
      exact ⟨by rw [HR.out]; rfl, hx⟩

theorem r17begin_any (a : Option Addr) (n c : Nat) (l : List Lp) (day : Int) (w : World) (h1 : Rw w a n c l) (hv : validL l = true) (hd : -2 ≤ day ∧ day ≤ 40000) :
    Calls Tryd.prog 76 #[.slice a n c, .int .i64 day] w fun e w' => e = .returned (.int .i64 (startL l day)) ∧ Ext w w' := by
  have hb := validL_off hv day
  have HS : Hid (day * 86400000000 + 1000000 * offL l day = startL l day) := Lib.hid (by unfold startL; rw [Int.mul_comm 1000000])
  have HV := Lib.hid hv
  clear hv
  go_enter Tryd.func76, Tryd.ntmps76
  go_wp2_with fail
  refine (r17sum_any a n c l day w h1 HV.out).mono ?_
  rintro e w1 ⟨rfl, hx⟩
  generalize offL l day = O at *
  go_wp2_with fail
  go_ret
  exact ⟨by rw [HS.out]; rfl, hx⟩

theorem r17Start_any (a : Option Addr) (n c : Nat) (l : List Lp) (day : Int) (w : World) (h1 : Rw w a n c l) :
    Calls Tryd.prog 49 #[.slice a n c, .int .i64 day] w fun e w' => e = .returned (.tuple #[.int .i64 (startF l day).1, .int .i64 (startF l day).2]) ∧ Ext w w' := by
  have HRI : Hid (rightL l day = (validL l && inW day 0 34000)) := Lib.hid (by unfold rightL inW; rw [Bool.decide_and])
  go_enter Tryd.func49, Tryd.ntmps49
  go_wp2_with fail
  refine (rvalid17_any a n c l w h1).mono ?_
  rintro e w1 ⟨rfl, hx⟩
  go_wp2_with fail
  refine (risday_any day w1).mono ?_
  rintro e w2 ⟨rfl, rfl⟩
  rcases hv : validL l with _ | _
  · have HR : Hid (startF l day = (0, 1)) := Lib.hid (by unfold startF; rw [HRI.out, hv]; rfl)
    clear hv
    go_wp2_with fail
    go_ret2
    exact ⟨by rw [HR.out]; rfl, hx⟩
  · rcases hd : inW day 0 34000 with _ | _
    · have HR : Hid (startF l day = (0, 1)) := Lib.hid (by unfold startF; rw [HRI.out, hv, hd]; rfl)
      clear hv hd
      go_wp2_with fail
      go_ret2
      exact ⟨by rw [HR.out]; rfl, hx⟩
    · have HR : Hid (startF l day = (startL l day, 0)) := Lib.hid (by unfold startF; rw [HRI.out, hv, hd]; rfl)
      have hb := inW_iff.1 hd
      have HV := Lib.hid hv
      clear hv hd
      go_wp2_with fail
      refine (r17begin_any a n c l day w2 (h1.ext hx) HV.out (by omega)).mono ?_
      rintro e w3 ⟨rfl, hy⟩
      go_wp2_with fail
      go_ret2
      exact ⟨by rw [HR.out]; rfl, hx.trans hy⟩

theorem r17Length_any (a : Option Addr) (n c : Nat) (l : List Lp) (day : Int) (w : World) (h1 : Rw w a n c l) :
    Calls Tryd.prog 50 #[.slice a n c, .int .i64 day] w fun e w' => e = .returned (.tuple #[.int .i64 (lengthF l day).1, .int .i64 (lengthF l day).2]) ∧ Ext w w' := by
  have HRI : Hid (rightL l day = (validL l && inW day 0 34000)) := Lib.hid (by unfold rightL inW; rw [Bool.decide_and])
  go_enter Tryd.func50, Tryd.ntmps50
  go_wp2_with fail
  refine (rvalid17_any a n c l w h1).mono ?_
  rintro e w1 ⟨rfl, hx⟩
  go_wp2_with fail
  refine (risday_any day w1).mono ?_
  rintro e w2 ⟨rfl, rfl⟩
  rcases hv : validL l with _ | _
  · have HR : Hid (lengthF l day = (0, 1)) := Lib.hid (by unfold lengthF; rw [HRI.out, hv]; rfl)
    clear hv
    go_wp2_with fail
    go_ret2
    exact ⟨by rw [HR.out]; rfl, hx⟩
  · rcases hd : inW day 0 34000 with _ | _
    · have HR : Hid (lengthF l day = (0, 1)) := Lib.hid (by unfold lengthF; rw [HRI.out, hv, hd]; rfl)
      clear hv hd
      go_wp2_with fail
      go_ret2
      exact ⟨by rw [HR.out]; rfl, hx⟩
    · have HR : Hid (lengthF l day = (lenL l day, 0)) := Lib.hid (by unfold lengthF; rw [HRI.out, hv, hd]; rfl)
      have hb := inW_iff.1 hd
      have b1 := startL_bd hv (day := day + 1) (by omega) (by omega)
      have b2 := startL_bd hv (day := day) (by omega) (by omega)
      have HS : Hid (startL l (day + 1) - startL l day = lenL l day) := Lib.hid (by rw [startL_succ]; omega)
      have HV := Lib.hid hv
      clear hv hd
      go_wp2_with fail
      refine (r17begin_any a n c l (day + 1) w2 (h1.ext hx) HV.out (by omega)).mono ?_
      rintro e w3 ⟨rfl, hy⟩
      replace hx := hx.trans hy
      clear hy
      go_wp2_with fail
      refine (r17begin_any a n c l day w3 (h1.ext hx) HV.out (by omega)).mono ?_
      rintro e w4 ⟨rfl, hy⟩
      replace hx := hx.trans hy
      clear hy
      generalize startL l (day + 1) = S1 at *
      generalize startL l day = S0 at *
      go_wp2_with fail
      go_ret2
      exact ⟨by rw [HR.out, ← HS.out]; rfl, hx⟩

theorem near_day {l : List Lp} {t D : Int} (hv : validL l = true) (hd : IsDay l t D) : t / 86400000000 - 1 ≤ D ∧ D ≤ t / 86400000000 + 1 := by
  have h1 := hd.1
  have h2 := hd.2
  have b1 := validL_off hv D
  have b2 := validL_off hv (D + 1)
  unfold startL at h1 h2
  omega

set_option maxHeartbeats 4000000 in
theorem r17Day_any (a : Option Addr) (n c : Nat) (l : List Lp) (t : Int) (w : World) (h1 : Rw w a n c l) :
    Calls Tryd.prog 81 #[.slice a n c, .int .i64 t] w fun e w' => e = .returned (.tuple #[.int .i64 (dayF l t).1, .int .i64 (dayF l t).2]) ∧ Ext w w' := by
  go_enter Tryd.func81, Tryd.ntmps81
  go_wp2_with fail
  refine (rvalid17_any a n c l w h1).mono ?_
  rintro e w1 ⟨rfl, hx⟩
  rcases hv : validL l with _ | _
  · have HR : Hid (dayF l t = (0, 1)) := Lib.hid (dayF_no (fun h => by rw [hv] at h; cases h.1))
    clear hv
    go_wp2_with fail
    go_ret2
    exact ⟨by rw [HR.out]; rfl, hx⟩
  have HV := Lib.hid hv
  clear hv
  by_cases t0 : 0 ≤ t
  · by_cases t9 : t ≤ 3000000000000000
    · have q1 : ¬ 3000000000000000 < t := by omega
      have q0 : ¬ t < 0 := by omega
      have sb := startL_bd HV.out (day := 34001) (by omega) (by omega)
      by_cases hr : t < startL l 34001
      · obtain ⟨hd, d0, d9⟩ := dayL_spec HV.out t0 hr
        have HR : Hid (dayF l t = (dayL l t, 0)) := Lib.hid (by unfold dayF; rw [if_pos ⟨HV.out, t0, t9⟩, if_pos hr])
        generalize dayL l t = D at *
        obtain ⟨n1, n2⟩ := near_day HV.out hd
        have HD := Lib.hid hd
        have hr' : ¬ startL l 34001 ≤ t := by omega
        clear hd
        have HS34 : Hid (∀ W, Rw W a n c l → Calls Tryd.prog 76 #[.slice a n c, .int .i64 34001] W fun e w' => e = .returned (.int .i64 (startL l 34001)) ∧ Ext W w') := Lib.hid (fun W h => r17begin_any a n c l 34001 W h HV.out (by omega))
        generalize startL l 34001 = S34 at *
        have N0 : 0 ≤ t / 86400000000 ∧ t / 86400000000 ≤ 40000 := by omega
        go_wp2_with fail
        refine (HS34.out w1 (h1.ext hx)).mono ?_
        rintro e w2 ⟨rfl, hy⟩
        replace hx := hx.trans hy
        clear hy
        clear HS34
        go_upto_region 7 with fail
        generalize t / 86400000000 = N at *
        go_wp2_with fail
        all_goals (
          go_loopw [8] (fun i wr => ∃ (k : Int), N - 1 ≤ k ∧ 0 ≤ k ∧ k ≤ D ∧ i = .int .i64 k ∧ Ext w wr) (fun i _ => (D + 1 - intOf i).toNat)
          case atStart => first | exact ⟨max 0 (N - 1), by omega, by omega, by omega, rfl, hx⟩ | exact ⟨N - 1, by omega, by omega, by omega, rfl, hx⟩ | exact ⟨0, by omega, by omega, by omega, rfl, hx⟩
          case round =>
            obtain ⟨k, k1, k0, k9, rfl, hz⟩ := hrel
            clear hx
            have hkN : k ≤ N + 1 := by omega
            have e1 : startL l k ≤ t := by have := startL_mono HV.out k9; have := HD.out.1; omega
            have HB0 := Lib.hid (fun W (h : Rw W a n c l) => r17begin_any a n c l k W h HV.out (by omega))
            have HB1 := Lib.hid (fun W (h : Rw W a n c l) => r17begin_any a n c l (k + 1) W h HV.out (by omega))
            by_cases hkD : k = D
            · have e2 : t < startL l (k + 1) := by rw [hkD]; exact HD.out.2
              generalize startL l k = S0 at *
              generalize startL l (k + 1) = S1 at *
              have HKD := Lib.hid hkD
              clear hkD
              go_wp2_with fail
              refine (HB0.out wr (h1.ext hz)).mono ?_
              rintro e w3 ⟨rfl, hy⟩
              replace hz := hz.trans hy
              clear hy
              go_wp2_with fail
              refine (HB1.out w3 (h1.ext hz)).mono ?_
              rintro e w4 ⟨rfl, hy⟩
              replace hz := hz.trans hy
              clear hy
              go_wp2_with fail
              go_ret2
              exact ⟨by rw [HR.out, HKD.out]; rfl, hz⟩
            · have e2 : ¬ t < startL l (k + 1) := by
                have := startL_mono HV.out (show k + 1 ≤ D by omega)
                have := HD.out.1
                omega
              generalize startL l k = S0 at *
              generalize startL l (k + 1) = S1 at *
              go_wp2_with fail
              refine (HB0.out wr (h1.ext hz)).mono ?_
              rintro e w3 ⟨rfl, hy⟩
              replace hz := hz.trans hy
              clear hy
              go_wp2_with fail
              refine (HB1.out w3 (h1.ext hz)).mono ?_
              rintro e w4 ⟨rfl, hy⟩
              replace hz := hz.trans hy
              clear hy
              go_wp2_with fail
              exact ⟨⟨k + 1, by omega, by omega, by omega, rfl, hz⟩, by simp [intOf]; omega⟩)
      · have HR : Hid (dayF l t = (0, 3)) := Lib.hid (by unfold dayF; rw [if_pos ⟨HV.out, t0, t9⟩, if_neg hr])
        have hr' : startL l 34001 ≤ t := by omega
        go_wp2_with fail
        refine (r17begin_any a n c l 34001 w1 (h1.ext hx) HV.out (by omega)).mono ?_
        rintro e w2 ⟨rfl, hy⟩
        replace hx := hx.trans hy
        generalize startL l 34001 = S34 at *
        go_wp2_with fail
        go_ret2
        exact ⟨by rw [HR.out]; rfl, hx⟩
    · have HR : Hid (dayF l t = (0, 1)) := Lib.hid (dayF_no (fun h => t9 h.2.2))
      have q1 : 3000000000000000 < t := by omega
      have q0 : ¬ t < 0 := by omega
      go_wp2_with fail
      go_ret2
      exact ⟨by rw [HR.out]; rfl, hx⟩
  · have HR : Hid (dayF l t = (0, 1)) := Lib.hid (dayF_no (fun h => t0 h.2.1))
    have q0 : t < 0 := by omega
    go_wp2_with fail
    go_ret2
    exact ⟨by rw [HR.out]; rfl, hx⟩
end Go.Proofs.YtcohdojfbnijpaaDoor
