/-
  leap.Start, leap.Length, leap.Day, walked.
-/
import Derived.Test.YtcohdojfbnijpaaDoorVC
namespace Go.Proofs.YtcohdojfbnijpaaDoor
open Go.RowKit Go.Sort Go.Shelf
set_option linter.unusedSimpArgs false
set_option linter.unusedVariables false
set_option maxRecDepth 100000

theorem lstart_any (a : Option Addr) (n c : Nat) (l : List Lp) (day : Int) (w : World) (h1 : Rw w a n c l) (hv : validL l = true) (hd : -2 ≤ day ∧ day ≤ 40000) :
    Calls Tryd.prog 65 #[.slice a n c, .int .i64 day] w fun e w' => e = .returned (.int .i64 (startL l day)) ∧ Ext w w' := by
  have bo := validL_off hv day
  go_enter Tryd.func65, Tryd.ntmps65
  go_wp2_with fail
  refine (loffset_any a n c l day w h1 hv).mono ?_
  rintro e w1 ⟨rfl, hx⟩
  have HU : Hid (startL l day = day * 86400000000 + offL l day * 1000000) := Lib.hid rfl
  generalize offL l day = O at *
  go_wp2_with fail
  go_ret
  exact ⟨by rw [HU.out]; rfl, hx⟩

theorem lright_any (a : Option Addr) (n c : Nat) (l : List Lp) (day : Int) (w : World) (h1 : Rw w a n c l) :
    Calls Tryd.prog 64 #[.slice a n c, .int .i64 day] w fun e w' => e = .returned (.bool (rightL l day)) ∧ Ext w w' := by
  go_enter Tryd.func64, Tryd.ntmps64
  go_wp2_with fail
  refine (lvalid_any a n c l w h1).mono ?_
  rintro e w1 ⟨rfl, hx⟩
  rcases hv : validL l with _ | _
  · have HR : Hid (rightL l day = false) := Lib.hid (by unfold rightL; rw [hv]; rfl)
    clear hv
    go_wp2_with fail
    go_ret
    exact ⟨by rw [HR.out]; rfl, hx⟩
  · by_cases h0 : 0 ≤ day
    · by_cases h9 : day ≤ 34000
      · have HR : Hid (rightL l day = true) := Lib.hid (rightL_iff.2 ⟨hv, h0, h9⟩)
        clear hv
        go_wp2_with fail
        go_ret
        exact ⟨by rw [HR.out]; rfl, hx⟩
      · have HR : Hid (rightL l day = false) := Lib.hid (by rw [Bool.eq_false_iff]; intro h; exact h9 (rightL_iff.1 h).2.2)
        have q := decide_eq_false h9
        clear hv
        go_wp2_with fail
        go_ret
        exact ⟨by rw [HR.out]; rfl, hx⟩
    · have HR : Hid (rightL l day = false) := Lib.hid (by rw [Bool.eq_false_iff]; intro h; exact h0 (rightL_iff.1 h).2.1)
      clear hv
      go_wp2_with fail
      go_ret
      exact ⟨by rw [HR.out]; rfl, hx⟩

theorem lStart_any (a : Option Addr) (n c : Nat) (l : List Lp) (day : Int) (w : World) (h1 : Rw w a n c l) :
    Calls Tryd.prog 32 #[.slice a n c, .int .i64 day] w fun e w' => e = .returned (.tuple #[.int .i64 (startF l day).1, .int .i64 (startF l day).2]) ∧ Ext w w' := by
  go_enter Tryd.func32, Tryd.ntmps32
  go_wp2_with fail
  refine (lright_any a n c l day w h1).mono ?_
  rintro e w1 ⟨rfl, hx⟩
  rcases hv : rightL l day with _ | _
  · have HR : Hid (startF l day = (0, 1)) := Lib.hid (by unfold startF; rw [hv]; rfl)
    clear hv
    go_wp2_with fail
    go_ret2
    exact ⟨by rw [HR.out]; rfl, hx⟩
  · have HR : Hid (startF l day = (startL l day, 0)) := Lib.hid (by unfold startF; rw [hv]; rfl)
    obtain ⟨r1, r2, r3⟩ := rightL_iff.1 hv
    have HV := Lib.hid r1
    clear hv r1
    go_wp2_with fail
    refine (lstart_any a n c l day w1 (h1.ext hx) HV.out (by omega)).mono ?_
    rintro e w2 ⟨rfl, hy⟩
    go_wp2_with fail
    go_ret2
    exact ⟨by rw [HR.out]; rfl, hx.trans hy⟩

theorem lLength_any (a : Option Addr) (n c : Nat) (l : List Lp) (day : Int) (w : World) (h1 : Rw w a n c l) :
    Calls Tryd.prog 33 #[.slice a n c, .int .i64 day] w fun e w' => e = .returned (.tuple #[.int .i64 (lengthF l day).1, .int .i64 (lengthF l day).2]) ∧ Ext w w' := by
  go_enter Tryd.func33, Tryd.ntmps33
  go_wp2_with fail
  refine (lright_any a n c l day w h1).mono ?_
  rintro e w1 ⟨rfl, hx⟩
  rcases hv : rightL l day with _ | _
  · have HR : Hid (lengthF l day = (0, 1)) := Lib.hid (by unfold lengthF; rw [hv]; rfl)
    clear hv
    go_wp2_with fail
    go_ret2
    exact ⟨by rw [HR.out]; rfl, hx⟩
  · have HR : Hid (lengthF l day = (lenL l day, 0)) := Lib.hid (by unfold lengthF; rw [hv]; rfl)
    obtain ⟨r1, r2, r3⟩ := rightL_iff.1 hv
    have HV := Lib.hid r1
    have HS : Hid (startL l (day + 1) - startL l day = lenL l day) := Lib.hid (by rw [startL_succ]; omega)
    have b1 := startL_bd r1 (day := day + 1) (by omega) (by omega)
    have b2 := startL_bd r1 (day := day) (by omega) (by omega)
    clear hv r1
    go_wp2_with fail
    refine (lstart_any a n c l (day + 1) w1 (h1.ext hx) HV.out (by omega)).mono ?_
    rintro e w2 ⟨rfl, hy⟩
    go_wp2_with fail
    refine (lstart_any a n c l day w2 ((h1.ext hx).ext hy) HV.out (by omega)).mono ?_
    rintro e w3 ⟨rfl, hz⟩
    generalize startL l (day + 1) = S1 at *
    generalize startL l day = S0 at *
    go_wp2_with fail
    go_ret2
    exact ⟨by rw [HR.out, ← HS.out]; rfl, (hx.trans hy).trans hz⟩

set_option maxHeartbeats 1000000 in
/-- The closure of leap.Day: whether a day has ended. -/
theorem lday1_any (Bn Bt : Nat) (a : Option Addr) (n c : Nat) (l : List Lp) (i t : Int) (w : World) (h1 : Rw w a n c l) (hv : validL l = true) (hi : 0 ≤ i ∧ i ≤ 34000)
    (hn : w.cell? ⟨Bn, 0, none⟩ = some (.slice a n c)) (ht : w.cell? ⟨Bt, 0, none⟩ = some (.int .i64 t)) :
    Calls Tryd.prog 66 #[.int .i64 i, .pointer (some ⟨Bn, 0, none⟩), .pointer (some ⟨Bt, 0, none⟩)] w fun e w' => e = .returned (.bool (decide (t < startL l (i + 1)))) ∧ Ext w w' := by
  have HV := Lib.hid hv
  have l1 := lt_of_cell hn
  have l2 := lt_of_cell ht
  clear hv
  go_enter Tryd.func66, Tryd.ntmps66
  go_upto_region 1 with fail
  have H1 := Lib.hid (fun d os => lstart_any a n c l (i + 1) (grow (redrawn w d) os) (h1.ext (ext_grow w d os)) HV.out (by omega))
  generalize hSS : startL l (i + 1) = SS at *
  have HSS := Lib.hid hSS
  clear hSS
  have hg := @grow_cell
  refine region_ext (by kernel_rfl) (by kernel_rfl) ?_
  repeat (go_big_quiet_step ((go_at_call 65; exact Calls.regrown_of (H1.out _ _))))
  refine wpQuiet_nil ?_
  intro V hx
  go_wp2_with fail
  go_ret
  exact ⟨by rw [HSS.out]; rfl, hx⟩

set_option maxHeartbeats 2000000 in
theorem lsearch_any (Bn Bt : Nat) (a : Option Addr) (n c : Nat) (l : List Lp) (t : Int) (w : World) (h1 : Rw w a n c l) (hv : validL l = true)
    (hn : w.cell? ⟨Bn, 0, none⟩ = some (.slice a n c)) (ht : w.cell? ⟨Bt, 0, none⟩ = some (.int .i64 t)) :
    Calls Tryd.prog 67 #[.int .i64 34001, .func (.func 66) #[] #[.pointer (some ⟨Bn, 0, none⟩), .pointer (some ⟨Bt, 0, none⟩)]] w fun e w' => ∃ D : Nat, e = .returned (.int .i64 D) ∧ Ext w w' ∧ D ≤ 34001 ∧ (∀ i : Nat, i < D → startL l ((i : Int) + 1) ≤ t) ∧ (∀ i : Nat, D ≤ i → i < 34001 → t < startL l ((i : Int) + 1)) := by
  have HV := Lib.hid hv
  have HM : Hid (∀ i j : Nat, i ≤ j → startL l ((i : Int) + 1) ≤ startL l ((j : Int) + 1)) := Lib.hid (fun i j hij => startL_mono hv (by omega))
  clear hv
  go_enter Tryd.func67, Tryd.ntmps67
  go_wp2_with fail
  go_loopw [5, 6] (fun s5 s6 wr => ∃ (lo hi : Nat), s5 = .int .i64 lo ∧ s6 = .int .i64 hi ∧ lo ≤ hi ∧ hi ≤ 34001 ∧ Ext w wr ∧ Hid ((∀ i : Nat, i < lo → startL l ((i : Int) + 1) ≤ t) ∧ (∀ i : Nat, hi ≤ i → i < 34001 → t < startL l ((i : Int) + 1)))) (fun s5 s6 _ => (intOf s6).toNat - (intOf s5).toNat)
  case atStart => exact ⟨0, 34001, rfl, rfl, by omega, by omega, Ext.refl _, Lib.hid ⟨fun i hi => by omega, fun i h1 h2 => by omega⟩⟩
  case round =>
    obtain ⟨lo, hi, rfl, rfl, hlh, h9, hx, I⟩ := hrel
    by_cases hlt : lo < hi
    · have hc := lday1_any Bn Bt a n c l (((lo + hi) / 2 : Nat) : Int) t wr (h1.ext hx) HV.out (by omega) (hx.cell hn) (hx.cell ht)
      have hm : (((lo + hi) / 2 : Nat) : Int) = ((lo : Int) + (hi : Int)) / 2 := by omega
      have HMM := Lib.hid hm
      rcases hp : decide (t < startL l ((((lo + hi) / 2 : Nat) : Int) + 1)) with _ | _
      · rw [hp] at hc
        have HP : Hid (startL l ((((lo + hi) / 2 : Nat) : Int) + 1) ≤ t) := Lib.hid (by simpa using hp)
        rw [hm] at hc
        clear hp hm
        go_wp2_with fail
        refine hc.mono ?_
        rintro e w1 ⟨rfl, hy⟩
        go_wp2_with fail
        refine ⟨⟨(lo + hi) / 2 + 1, hi, by rw [← HMM.out]; rfl, rfl, by omega, h9, hx.trans hy, Lib.hid ⟨fun i hi' => Int.le_trans (HM.out i ((lo + hi) / 2) (by omega)) HP.out, I.out.2⟩⟩, ?_⟩
        simp only [intOf]
        omega
      · rw [hp] at hc
        have HP : Hid (t < startL l ((((lo + hi) / 2 : Nat) : Int) + 1)) := Lib.hid (by simpa using hp)
        rw [hm] at hc
        clear hp hm
        go_wp2_with fail
        refine hc.mono ?_
        rintro e w1 ⟨rfl, hy⟩
        go_wp2_with fail
        refine ⟨⟨lo, (lo + hi) / 2, rfl, by rw [← HMM.out], by omega, by omega, hx.trans hy, Lib.hid ⟨I.out.1, fun i hi' _ => Int.lt_of_lt_of_le HP.out (HM.out ((lo + hi) / 2) i (by omega))⟩⟩, ?_⟩
        simp only [intOf]
        omega
    · obtain rfl : lo = hi := by omega
      go_wp2_with fail
      go_ret
      exact ⟨lo, rfl, hx, h9, I.out⟩

theorem dayF_no {l : List Lp} {t : Int} (h : ¬ (validL l = true ∧ 0 ≤ t ∧ t ≤ 3000000000000000)) : dayF l t = (0, 1) := by unfold dayF; rw [if_neg h]
theorem dayF_of {l : List Lp} {t : Int} {D : Nat} (hv : validL l = true) (h0 : 0 ≤ t) (h1 : t ≤ 3000000000000000) (hD : D ≤ 34001) (ha : ∀ i : Nat, i < D → startL l ((i : Int) + 1) ≤ t) (hb : ∀ i : Nat, D ≤ i → i < 34001 → t < startL l ((i : Int) + 1)) :
    dayF l t = if D ≤ 34000 then ((D : Int), 0) else (0, 3) := by
  unfold dayF
  rw [if_pos ⟨hv, h0, h1⟩]
  by_cases h9 : D ≤ 34000
  · have hd : IsDay l t D := by
      refine ⟨?_, hb D (Nat.le_refl _) (by omega)⟩
      rcases Nat.eq_zero_or_pos D with h | h
      · subst h; rw [show ((0 : Nat) : Int) = 0 from rfl, startL_zero hv]; exact h0
      · have := ha (D - 1) (by omega)
        rwa [show ((D - 1 : Nat) : Int) + 1 = (D : Int) by omega] at this
    rw [if_pos (dayL_lt hv hd (by omega)), dayL_of hv hd, if_pos h9]
  · have := ha 34000 (by omega)
    rw [show ((34000 : Nat) : Int) + 1 = 34001 from rfl] at this
    rw [if_neg (by omega), if_neg h9]

set_option maxHeartbeats 2000000 in
theorem lDay_any (a : Option Addr) (n c : Nat) (l : List Lp) (t : Int) (w : World) (h1 : Rw w a n c l) :
    Calls Tryd.prog 34 #[.slice a n c, .int .i64 t] w fun e w' => e = .returned (.tuple #[.int .i64 (dayF l t).1, .int .i64 (dayF l t).2]) ∧ Ext w w' := by
  have hE : Ext w ((w.alloc (.cells #[.slice a n c] 23)).alloc (.cells #[.int .i64 t] 3)) := ((Ext.refl w).alloc _).alloc _
  have b1 := (Boxed.new w 23 (.slice a n c)).alloc (.cells #[.int .i64 t] 3)
  have b2 := Boxed.new (w.alloc (.cells #[.slice a n c] 23)) 3 (.int .i64 t)
  simp only [World.size_alloc] at b2
  go_enter Tryd.func34, Tryd.ntmps34
  go_upto_region 1 with fail
  generalize (w.alloc (.cells #[.slice a n c] 23)).alloc (.cells #[.int .i64 t] 3) = W at *
  have c1 := b1.cell
  have c2 := b2.cell
  clear b1 b2
  go_wp2_with fail
  refine (lvalid_any a n c l W (h1.ext hE)).mono ?_
  rintro e w1 ⟨rfl, hx⟩
  replace c1 := hx.cell c1
  replace c2 := hx.cell c2
  replace hE := hE.trans hx
  clear hx
  rcases hv : validL l with _ | _
  · have HR : Hid (dayF l t = (0, 1)) := Lib.hid (dayF_no (fun h => by rw [hv] at h; cases h.1))
    clear hv
    go_wp2_with fail
    go_ret2
    exact ⟨by rw [HR.out]; rfl, hE⟩
  · have HV := Lib.hid hv
    clear hv
    by_cases h0 : 0 ≤ t
    · by_cases h9 : t ≤ 3000000000000000
      · have h9' : ¬ 3000000000000000 < t := by omega
        go_wp2_with fail
        refine (lsearch_any _ _ a n c l t w1 (h1.ext hE) HV.out c1 c2).mono ?_
        rintro e w2 ⟨D, rfl, hx, hD, ha, hb⟩
        have HR := Lib.hid (dayF_of HV.out h0 h9 hD ha hb)
        clear ha hb
        by_cases h3 : D ≤ 34000
        · have HR2 : Hid (dayF l t = ((D : Int), 0)) := Lib.hid (by rw [HR.out, if_pos h3])
          have q : decide ((34000 : Int) < (D : Int)) = false := by simp; omega
          go_wp2_with fail
          go_ret2
          exact ⟨by rw [HR2.out]; rfl, hE.trans hx⟩
        · have HR2 : Hid (dayF l t = (0, 3)) := Lib.hid (by rw [HR.out, if_neg h3])
          have q : decide ((34000 : Int) < (D : Int)) = true := by simp; omega
          go_wp2_with fail
          go_ret2
          exact ⟨by rw [HR2.out]; rfl, hE.trans hx⟩
      · have HR : Hid (dayF l t = (0, 1)) := Lib.hid (dayF_no (fun h => h9 h.2.2))
        have h9' : 3000000000000000 < t := by omega
        go_wp2_with fail
        all_goals (go_ret2; exact ⟨by rw [HR.out]; rfl, hE⟩)
    · have HR : Hid (dayF l t = (0, 1)) := Lib.hid (dayF_no (fun h => h0 h.2.1))
      have h0' : t < 0 := by omega
      go_wp2_with fail
      all_goals (go_ret2; exact ⟨by rw [HR.out]; rfl, hE⟩)
end Go.Proofs.YtcohdojfbnijpaaDoor
