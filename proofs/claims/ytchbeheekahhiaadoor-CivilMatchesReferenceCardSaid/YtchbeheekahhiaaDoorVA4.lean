/-
  The reference's calendar, walked. Written by wip/gen_va4.py.
-/
import Derived.Test.YtchbeheekahhiaaDoorVA3
namespace Go.Proofs.YtchbeheekahhiaaDoor
open Go.RowKit Go.Sort Go.Shelf
set_option linter.unusedSimpArgs false
set_option linter.unusedVariables false
set_option maxRecDepth 100000

theorem r05len_any (y : Int) (k : Nat) (hk : k < 12) (hy : 0 ≤ y ∧ y ≤ 100000) (w : World) :
    Calls Tryd.prog 56 #[.int .i64 y, .int .i64 ((k : Int) + 1)] w fun e w' => e = .returned (.int .i64 (lenM y (k + 1))) ∧ w' = w := by
  have hb : lenM y (k + 1) = lens.getD k 0 + (if k + 1 = 2 ∧ y % 4 = 0 then 1 else 0) := by unfold lenM; rw [Nat.add_sub_cancel]
  have hk12 : k = 0 ∨ k = 1 ∨ k = 2 ∨ k = 3 ∨ k = 4 ∨ k = 5 ∨ k = 6 ∨ k = 7 ∨ k = 8 ∨ k = 9 ∨ k = 10 ∨ k = 11 := by omega
  rcases hk12 with rfl | rfl | rfl | rfl | rfl | rfl | rfl | rfl | rfl | rfl | rfl | rfl
  · rw [show (((0 : Nat) : Int) + 1) = 1 from rfl]
    have HR : Hid (lenM y (0 + 1) = 31) := Lib.hid (by rw [hb, if_neg (by omega)]; rfl)
    clear hb
    go_enter Tryd.func56, Tryd.ntmps56
    go_wp2_with fail
    all_goals first | (go_ret; exact ⟨by rw [HR.out]; rfl, rfl⟩) | (exfalso; omega)
  · rw [show (((1 : Nat) : Int) + 1) = 2 from rfl]
    by_cases h4 : y % 4 = 0
    · have HR : Hid (lenM y (1 + 1) = 29) := Lib.hid (by rw [hb, if_pos ⟨rfl, h4⟩]; rfl)
      clear hb
      go_enter Tryd.func56, Tryd.ntmps56
      go_wp2_with fail
      all_goals first | (go_ret; exact ⟨by rw [HR.out]; rfl, rfl⟩) | (exfalso; omega)
    · have HR : Hid (lenM y (1 + 1) = 28) := Lib.hid (by rw [hb, if_neg (fun h => h4 h.2)]; rfl)
      clear hb
      go_enter Tryd.func56, Tryd.ntmps56
      go_wp2_with fail
      all_goals first | (go_ret; exact ⟨by rw [HR.out]; rfl, rfl⟩) | (exfalso; omega)
  · rw [show (((2 : Nat) : Int) + 1) = 3 from rfl]
    have HR : Hid (lenM y (2 + 1) = 31) := Lib.hid (by rw [hb, if_neg (by omega)]; rfl)
    clear hb
    go_enter Tryd.func56, Tryd.ntmps56
    go_wp2_with fail
    all_goals first | (go_ret; exact ⟨by rw [HR.out]; rfl, rfl⟩) | (exfalso; omega)
  · rw [show (((3 : Nat) : Int) + 1) = 4 from rfl]
    have HR : Hid (lenM y (3 + 1) = 30) := Lib.hid (by rw [hb, if_neg (by omega)]; rfl)
    clear hb
    go_enter Tryd.func56, Tryd.ntmps56
    go_wp2_with fail
    all_goals first | (go_ret; exact ⟨by rw [HR.out]; rfl, rfl⟩) | (exfalso; omega)
  · rw [show (((4 : Nat) : Int) + 1) = 5 from rfl]
    have HR : Hid (lenM y (4 + 1) = 31) := Lib.hid (by rw [hb, if_neg (by omega)]; rfl)
    clear hb
    go_enter Tryd.func56, Tryd.ntmps56
    go_wp2_with fail
    all_goals first | (go_ret; exact ⟨by rw [HR.out]; rfl, rfl⟩) | (exfalso; omega)
  · rw [show (((5 : Nat) : Int) + 1) = 6 from rfl]
    have HR : Hid (lenM y (5 + 1) = 30) := Lib.hid (by rw [hb, if_neg (by omega)]; rfl)
    clear hb
    go_enter Tryd.func56, Tryd.ntmps56
    go_wp2_with fail
    all_goals first | (go_ret; exact ⟨by rw [HR.out]; rfl, rfl⟩) | (exfalso; omega)
  · rw [show (((6 : Nat) : Int) + 1) = 7 from rfl]
    have HR : Hid (lenM y (6 + 1) = 31) := Lib.hid (by rw [hb, if_neg (by omega)]; rfl)
    clear hb
    go_enter Tryd.func56, Tryd.ntmps56
    go_wp2_with fail
    all_goals first | (go_ret; exact ⟨by rw [HR.out]; rfl, rfl⟩) | (exfalso; omega)
  · rw [show (((7 : Nat) : Int) + 1) = 8 from rfl]
    have HR : Hid (lenM y (7 + 1) = 31) := Lib.hid (by rw [hb, if_neg (by omega)]; rfl)
    clear hb
    go_enter Tryd.func56, Tryd.ntmps56
    go_wp2_with fail
    all_goals first | (go_ret; exact ⟨by rw [HR.out]; rfl, rfl⟩) | (exfalso; omega)
  · rw [show (((8 : Nat) : Int) + 1) = 9 from rfl]
    have HR : Hid (lenM y (8 + 1) = 30) := Lib.hid (by rw [hb, if_neg (by omega)]; rfl)
    clear hb
    go_enter Tryd.func56, Tryd.ntmps56
    go_wp2_with fail
    all_goals first | (go_ret; exact ⟨by rw [HR.out]; rfl, rfl⟩) | (exfalso; omega)
  · rw [show (((9 : Nat) : Int) + 1) = 10 from rfl]
    have HR : Hid (lenM y (9 + 1) = 31) := Lib.hid (by rw [hb, if_neg (by omega)]; rfl)
    clear hb
    go_enter Tryd.func56, Tryd.ntmps56
    go_wp2_with fail
    all_goals first | (go_ret; exact ⟨by rw [HR.out]; rfl, rfl⟩) | (exfalso; omega)
  · rw [show (((10 : Nat) : Int) + 1) = 11 from rfl]
    have HR : Hid (lenM y (10 + 1) = 30) := Lib.hid (by rw [hb, if_neg (by omega)]; rfl)
    clear hb
    go_enter Tryd.func56, Tryd.ntmps56
    go_wp2_with fail
    all_goals first | (go_ret; exact ⟨by rw [HR.out]; rfl, rfl⟩) | (exfalso; omega)
  · rw [show (((11 : Nat) : Int) + 1) = 12 from rfl]
    have HR : Hid (lenM y (11 + 1) = 31) := Lib.hid (by rw [hb, if_neg (by omega)]; rfl)
    clear hb
    go_enter Tryd.func56, Tryd.ntmps56
    go_wp2_with fail
    all_goals first | (go_ret; exact ⟨by rw [HR.out]; rfl, rfl⟩) | (exfalso; omega)

set_option maxHeartbeats 2000000 in
theorem r05date_any (day : Int) (w : World) :
    Calls Tryd.prog 40 #[.int .i64 day] w fun e w' => e = .returned (.tuple #[.int .i64 (datF day).1.1, .int .i64 (datF day).1.2.1, .int .i64 (datF day).1.2.2, .int .i64 (datF day).2]) ∧ w' = w := by
  by_cases h0 : 0 ≤ day
  · by_cases h9 : day ≤ 34000
    · obtain ⟨hm, hm9⟩ := monOf_spec h0 h9
      have HR := Lib.hid (datF_yes h0 h9 hm)
      generalize monOf day = N at *
      have hM1 := hm.1
      have hM2 := hm.2
      have h9' : ¬ 34000 < day := by omega
      have HM := Lib.hid hm
      clear hm hM1 hM2
      go_enter Tryd.func40, Tryd.ntmps40
      go_wp2_with fail
      go_loopw [0, 6, 7] (fun d y m wr => ∃ (n : Nat) (r : Int), n ≤ N ∧ d = .int .i64 r ∧ y = .int .i64 (yearN n) ∧ m = .int .i64 (((n % 12 : Nat) : Int) + 1) ∧ Hid (r = day - monS n) ∧ 0 ≤ r ∧ r ≤ 34000 ∧ wr = w) (fun d _ _ _ => (intOf d).toNat)
      case atStart => exact ⟨0, day, by omega, rfl, rfl, rfl, Lib.hid (by show day = day - 0; omega), h0, h9, rfl⟩
      case round =>
        obtain ⟨n, r, hn, rfl, rfl, rfl, hr, hr0, hr9, rfl⟩ := hrel
        have hyb := yearN_bd (n := n) (by omega)
        have hlb := lenN_bd n
        have hk12 : n % 12 < 12 := Nat.mod_lt _ (by decide)
        have HLN : Hid (lenM (yearN n) (n % 12 + 1) = lenN n) := Lib.hid rfl
        have hcall := r05len_any (yearN n) (n % 12) hk12 (by omega) wr
        rw [HLN.out] at hcall
        have HYN : Hid (yearN (n + 1) = if n % 12 = 11 then yearN n + 1 else yearN n) := Lib.hid (by unfold yearN; split <;> omega)
        have HMS : Hid (monS (n + 1) = monS n + lenN n) := Lib.hid rfl
        have hmN : Hid ((monN n : Int) = ((n % 12 : Nat) : Int) + 1) := Lib.hid (by unfold monN; omega)
        generalize hK : n % 12 = K at hcall HYN hmN hk12 ⊢
        have HK := Lib.hid hK
        clear hK
        generalize lenN n = LN at *
        generalize hYE : yearN n = YN at *
        have HYE := Lib.hid hYE
        clear hYE
        by_cases hlt : r < LN
        · have hnN : n = N := InMon.uniq (day := day) ⟨by have := hr.out; omega, by rw [HMS.out]; have := hr.out; omega⟩ HM.out
          have hlt' : ¬ LN ≤ r := by omega
          have HEND : Hid (day - monS N + 1 = r + 1) := Lib.hid (by rw [← hnN]; have := hr.out; omega)
          subst hnN
          go_wp2_with fail
          refine hcall.mono ?_
          rintro e w1 ⟨rfl, rfl⟩
          go_wp2_with fail
          (try simp only [Exit.inBlock, Exit.then]); refine bodyPost_ret (results_tmp4 rfl _ _ _) rfl ?_
          exact ⟨by rw [HR.out, HEND.out, hmN.out, HYE.out]; rfl, rfl⟩
        · have hge : LN ≤ r := by omega
          have hnN : n + 1 ≤ N := by
            rcases Nat.lt_or_ge n N with h | h
            · exact h
            · exfalso
              obtain rfl : n = N := by omega
              have := HM.out.2
              rw [HMS.out] at this
              have := hr.out
              omega
          have HR2 : Hid (r - LN = day - monS (n + 1)) := Lib.hid (by rw [HMS.out]; have := hr.out; omega)
          by_cases hk : K = 11
          · have HY2 : Hid (yearN (n + 1) = YN + 1) := Lib.hid (by rw [HYN.out, if_pos hk])
            have q1 : (12 : Int) < (K : Int) + 1 + 1 := by omega
            have HK2 : Hid ((n + 1) % 12 = 0) := Lib.hid (by have := HK.out; omega)
            have HKK := Lib.hid hk
            clear hk
            go_wp2_with fail
            refine hcall.mono ?_
            rintro e w1 ⟨rfl, rfl⟩
            go_wp2_with fail
            refine hcall.mono ?_
            rintro e w1 ⟨rfl, rfl⟩
            go_wp2_with fail
            exact ⟨⟨n + 1, r - LN, hnN, rfl, by rw [HY2.out], by rw [HK2.out]; rfl, HR2, by omega, by omega, trivial⟩, by simp only [intOf]; omega⟩
          · have HY2 : Hid (yearN (n + 1) = YN) := Lib.hid (by rw [HYN.out, if_neg hk])
            have q1 : ¬ (12 : Int) < (K : Int) + 1 + 1 := by omega
            have HK2 : Hid ((n + 1) % 12 = K + 1) := Lib.hid (by have := HK.out; omega)
            go_wp2_with fail
            refine hcall.mono ?_
            rintro e w1 ⟨rfl, rfl⟩
            go_wp2_with fail
            refine hcall.mono ?_
            rintro e w1 ⟨rfl, rfl⟩
            go_wp2_with fail
            exact ⟨⟨n + 1, r - LN, hnN, rfl, by rw [HY2.out], by rw [HK2.out]; push_cast; rfl, HR2, by omega, by omega, trivial⟩, by simp only [intOf]; omega⟩
    · have HR := Lib.hid (datF_no (day := day) (fun h => h9 h.2))
      have h9' : 34000 < day := by omega
      go_enter Tryd.func40, Tryd.ntmps40
      go_wp2_with fail
      all_goals first | ((try simp only [Exit.inBlock, Exit.then]); refine bodyPost_ret (results_tmp4 rfl _ _ _) rfl ?_; exact ⟨by rw [HR.out]; rfl, by first | rfl | trivial⟩) | (exfalso; omega)
  · have HR := Lib.hid (datF_no (day := day) (fun h => h0 h.1))
    have h0' : day < 0 := by omega
    go_enter Tryd.func40, Tryd.ntmps40
    go_wp2_with fail
    all_goals first | ((try simp only [Exit.inBlock, Exit.then]); refine bodyPost_ret (results_tmp4 rfl _ _ _) rfl ?_; exact ⟨by rw [HR.out]; rfl, by first | rfl | trivial⟩) | (exfalso; omega)

theorem r05month_any (y m : Int) (w : World) :
    Calls Tryd.prog 59 #[.int .i64 y, .int .i64 m] w fun e w' => e = .returned (.bool (isMon y m)) ∧ w' = w := by
  by_cases h : 2000 ≤ y ∧ y ≤ 2093 ∧ 1 ≤ m ∧ m ≤ 12
  · obtain ⟨h1, h2, h3, h4⟩ := h
    have HR : Hid (isMon y m = true) := Lib.hid (isMon_iff.2 ⟨h1, h2, h3, h4⟩)
    go_enter Tryd.func59, Tryd.ntmps59
    go_wp2_with fail
    go_ret
    exact ⟨by rw [HR.out]; rfl, by first | rfl | trivial⟩
  · have HR : Hid (isMon y m = false) := Lib.hid (by rw [Bool.eq_false_iff]; exact fun e => h (isMon_iff.1 e))
    have HH := Lib.hid h
    clear h
    by_cases h1 : 2000 ≤ y
    · by_cases h2 : y ≤ 2093
      · by_cases h3 : 1 ≤ m
        · have h4 : ¬ m ≤ 12 := fun h4 => HH.out ⟨h1, h2, h3, h4⟩
          have q := decide_eq_false h4
          go_enter Tryd.func59, Tryd.ntmps59
          go_wp2_with fail
          go_ret
          exact ⟨by rw [HR.out]; rfl, by first | rfl | trivial⟩
        · have q := decide_eq_false h3
          go_enter Tryd.func59, Tryd.ntmps59
          go_wp2_with fail
          go_ret
          exact ⟨by rw [HR.out]; rfl, by first | rfl | trivial⟩
      · have q := decide_eq_false h2
        go_enter Tryd.func59, Tryd.ntmps59
        go_wp2_with fail
        go_ret
        exact ⟨by rw [HR.out]; rfl, by first | rfl | trivial⟩
    · have q := decide_eq_false h1
      go_enter Tryd.func59, Tryd.ntmps59
      go_wp2_with fail
      go_ret
      exact ⟨by rw [HR.out]; rfl, by first | rfl | trivial⟩

set_option maxHeartbeats 2000000 in
theorem r05before_any (Y K : Nat) (hY : Y ≤ 93) (hK : K < 12) (w : World) :
    Calls Tryd.prog 60 #[.int .i64 (2000 + (Y : Int)), .int .i64 ((K : Int) + 1)] w fun e w' => e = .returned (.int .i64 (monS (12 * Y + K))) ∧ w' = w := by
  have hbd : ∀ i, i ≤ 12 * Y + K → 0 ≤ monS i ∧ monS i ≤ 40000 := fun i hi => ⟨monS_nonneg _, by have := monS_mono (show i ≤ 1128 by omega); rw [monS_last] at this; omega⟩
  have HBD := Lib.hid hbd
  clear hbd
  go_enter Tryd.func60, Tryd.ntmps60
  go_wp2_with fail
  go_loopw [5, 6] (fun n y wr => ∃ (j : Nat), j ≤ Y + 1 ∧ y = .int .i64 (2000 + (j : Int)) ∧ n = .int .i64 (monS (min (12 * j) (12 * Y + K))) ∧ wr = w) (fun _ y _ => (2000 + (Y : Int) + 1 - intOf y).toNat)
  case atStart => exact ⟨0, by omega, rfl, by rw [show min (12 * 0) (12 * Y + K) = 0 by omega]; rfl, rfl⟩
  case round =>
    obtain ⟨j, hj, rfl, rfl, rfl⟩ := hrel
    have hb := HBD.out (min (12 * j) (12 * Y + K)) (by omega)
    by_cases hlt : j ≤ Y
    · have q : ¬ 2000 + (Y : Int) < 2000 + (j : Int) := by omega
      go_upto_region 6 with fail
      go_loopw [5, 7] (fun n m wq => ∃ (i : Nat), i ≤ 12 ∧ m = .int .i64 ((i : Int) + 1) ∧ n = .int .i64 (monS (min (12 * j + i) (12 * Y + K))) ∧ wq = wr) (fun _ m _ => (14 - intOf m).toNat)
      case atStart => exact ⟨0, by omega, rfl, rfl, rfl⟩
      case round =>
        obtain ⟨i, hi, rfl, rfl, rfl⟩ := hrel
        by_cases h12 : i < 12
        · have q2 : ¬ 12 < (i : Int) + 1 := by omega
          by_cases hin : 12 * j + i < 12 * Y + K
          · have e1 : min (12 * j + i) (12 * Y + K) = 12 * j + i := by omega
            have e2 : min (12 * j + (i + 1)) (12 * Y + K) = 12 * j + i + 1 := by omega
            have hb2 := HBD.out (12 * j + i + 1) (by omega)
            have hb1 := HBD.out (12 * j + i) (by omega)
            have HL : Hid (monS (12 * j + i + 1) = monS (12 * j + i) + lenM (2000 + (j : Int)) (i + 1)) := Lib.hid (by
              show monS (12 * j + i) + lenN (12 * j + i) = _
              unfold lenN yearN monN
              rw [show (12 * j + i) / 12 = j by omega, show (12 * j + i) % 12 = i by omega])
            have hcall := r05len_any (2000 + (j : Int)) i h12 (by omega) wr
            have hlb := lenM_bd (2000 + (j : Int)) (i + 1) (by omega) (by omega)
            have HE2 : Hid (monS (min (12 * j + (i + 1)) (12 * Y + K)) = monS (12 * j + i) + lenM (2000 + (j : Int)) (i + 1)) := Lib.hid (by rw [e2, HL.out])
            rw [e1]
            clear e1 e2
            generalize lenM (2000 + (j : Int)) (i + 1) = LL at *
            generalize hMM : monS (12 * j + i) = MM at *
            clear hMM
            by_cases hy : j < Y
            · have q3 : (2000 : Int) + (j : Int) < 2000 + (Y : Int) := by omega
              go_wp2_with fail
              refine hcall.mono ?_
              rintro e w1 ⟨rfl, rfl⟩
              go_wp2_with fail
              exact ⟨⟨i + 1, by omega, by push_cast; rfl, by rw [HE2.out], by first | rfl | trivial⟩, by simp only [intOf]; omega⟩
            · have q3 : ¬ (2000 : Int) + (j : Int) < 2000 + (Y : Int) := by omega
              have q4 : (i : Int) + 1 < (K : Int) + 1 := by omega
              go_wp2_with fail
              refine hcall.mono ?_
              rintro e w1 ⟨rfl, rfl⟩
              go_wp2_with fail
              exact ⟨⟨i + 1, by omega, by push_cast; rfl, by rw [HE2.out], by first | rfl | trivial⟩, by simp only [intOf]; omega⟩
          · have e1 : min (12 * j + i) (12 * Y + K) = 12 * Y + K := by omega
            have HE2 : Hid (min (12 * j + (i + 1)) (12 * Y + K) = 12 * Y + K) := Lib.hid (by omega)
            have q3 : ¬ (2000 : Int) + (j : Int) < 2000 + (Y : Int) := by omega
            have q4 : ¬ (i : Int) + 1 < (K : Int) + 1 := by omega
            rw [e1]
            clear e1
            generalize hMM : monS (12 * Y + K) = MM at *
            have HMM := Lib.hid hMM
            clear hMM
            go_wp2_with fail
            exact ⟨⟨i + 1, by omega, by push_cast; rfl, by rw [HE2.out, HMM.out], by first | rfl | trivial⟩, by simp only [intOf]; omega⟩
        · obtain rfl : i = 12 := by omega
          have HE : Hid (∀ z, z = min (12 * j + 12) (12 * Y + K) → monS z = monS (min (12 * (j + 1)) (12 * Y + K))) := Lib.hid (fun z hz => by rw [hz]; rfl)
          obtain ⟨I9, hI9⟩ : ∃ z, z = min (12 * j + 12) (12 * Y + K) := ⟨_, rfl⟩
          rw [← hI9]
          have HE9 := Lib.hid (HE.out I9 hI9)
          clear HE hI9
          go_wp2_with fail
          exact ⟨⟨j + 1, by omega, by push_cast; rfl, congrArg (Value.int .i64) HE9.out, by first | rfl | trivial⟩, by simp only [intOf]; omega⟩
    · have q : 2000 + (Y : Int) < 2000 + (j : Int) := by omega
      have HE : Hid (monS (min (12 * j) (12 * Y + K)) = monS (12 * Y + K)) := Lib.hid (by rw [show min (12 * j) (12 * Y + K) = 12 * Y + K by omega])
      generalize monS (min (12 * j) (12 * Y + K)) = MM at *
      go_wp2_with fail
      go_ret
      exact ⟨by rw [HE.out]; rfl, by first | rfl | trivial⟩

set_option maxHeartbeats 2000000 in
theorem r05day_any (y m d : Int) (hd : -9000000000000000000 ≤ d ∧ d ≤ 9000000000000000000) (w : World) :
    Calls Tryd.prog 44 #[.int .i64 y, .int .i64 m, .int .i64 d] w fun e w' => e = .returned (.tuple #[.int .i64 (dyF y m d).1, .int .i64 (dyF y m d).2]) ∧ w' = w := by
  rcases hm : isMon y m with _ | _
  · have HR : Hid (dyF y m d = (0, 1)) := Lib.hid (by unfold dyF okD; rw [hm]; rfl)
    have HM := Lib.hid hm
    clear hm
    go_enter Tryd.func44, Tryd.ntmps44
    go_wp2_with fail
    refine (r05month_any y m w).mono ?_
    rintro e w1 ⟨rfl, rfl⟩
    rw [HM.out]
    go_wp2_with fail
    go_ret2
    exact ⟨by rw [HR.out]; rfl, by first | rfl | trivial⟩
  · obtain ⟨m1, m2, m3, m4⟩ := isMon_iff.1 hm
    obtain ⟨Y, rfl⟩ : ∃ Y : Nat, y = 2000 + (Y : Int) := ⟨(y - 2000).toNat, by omega⟩
    obtain ⟨K, rfl⟩ : ∃ K : Nat, m = (K : Int) + 1 := ⟨(m - 1).toNat, by omega⟩
    have HM := Lib.hid hm
    have hK : K < 12 := by omega
    have hY : Y ≤ 93 := by omega
    have hlen := r05len_any (2000 + (Y : Int)) K hK (by omega) w
    have hfst := r05before_any Y K hY hK w
    have hlb := lenM_bd (2000 + (Y : Int)) (K + 1) (by omega) (by omega)
    have hF : fstD (2000 + (Y : Int)) ((K : Int) + 1) = monS (12 * Y + K) := by unfold fstD; congr 1; omega
    have hok : okD (2000 + (Y : Int)) ((K : Int) + 1) d = decide (1 ≤ d ∧ d ≤ lenM (2000 + (Y : Int)) (K + 1)) := by
      unfold okD
      rw [hm, show ((K : Int) + 1).toNat = K + 1 by omega]; rfl
    have hb : 0 ≤ monS (12 * Y + K) ∧ monS (12 * Y + K) ≤ 40000 := ⟨monS_nonneg _, by have := monS_mono (show 12 * Y + K ≤ 1128 by omega); rw [monS_last] at this; omega⟩
    have hD : dyF (2000 + (Y : Int)) ((K : Int) + 1) d = if 1 ≤ d ∧ d ≤ lenM (2000 + (Y : Int)) (K + 1) then (if monS (12 * Y + K) + d - 1 ≤ 34000 then (monS (12 * Y + K) + d - 1, 0) else (0, 3)) else (0, 1) := by
      unfold dyF
      rw [hF, hok]
      by_cases h : 1 ≤ d ∧ d ≤ lenM (2000 + (Y : Int)) (K + 1)
      · rw [if_pos h, if_pos (decide_eq_true h)]
      · rw [if_neg h, if_neg (by simpa using h)]
    clear hm hF hok
    generalize lenM (2000 + (Y : Int)) (K + 1) = LL at *
    generalize monS (12 * Y + K) = MM at *
    by_cases hd1 : 1 ≤ d
    · have hd1' : ¬ d < 1 := by omega
      have q7 := decide_eq_false hd1'
      by_cases hd2 : d ≤ LL
      · have hd2' : ¬ LL < d := by omega
        by_cases h9 : MM + d - 1 ≤ 34000
        · have HR : Hid (dyF (2000 + (Y : Int)) ((K : Int) + 1) d = (MM + d - 1, 0)) := Lib.hid (by rw [hD, if_pos ⟨hd1, hd2⟩, if_pos h9])
          have h9' : ¬ 34000 < MM + d - 1 := by omega
          clear hD
          go_enter Tryd.func44, Tryd.ntmps44
          go_wp2_with fail
          refine (r05month_any _ _ w).mono ?_
          rintro e w1 ⟨rfl, rfl⟩
          rw [HM.out]
          go_wp2_with fail
          refine hlen.mono ?_
          rintro e w1 ⟨rfl, rfl⟩
          go_wp2_with fail
          refine hfst.mono ?_
          rintro e w1 ⟨rfl, rfl⟩
          go_wp2_with fail
          go_ret2
          exact ⟨by rw [HR.out]; rfl, by first | rfl | trivial⟩
        · have HR : Hid (dyF (2000 + (Y : Int)) ((K : Int) + 1) d = (0, 3)) := Lib.hid (by rw [hD, if_pos ⟨hd1, hd2⟩, if_neg h9])
          have h9' : 34000 < MM + d - 1 := by omega
          clear hD
          go_enter Tryd.func44, Tryd.ntmps44
          go_wp2_with fail
          refine (r05month_any _ _ w).mono ?_
          rintro e w1 ⟨rfl, rfl⟩
          rw [HM.out]
          go_wp2_with fail
          refine hlen.mono ?_
          rintro e w1 ⟨rfl, rfl⟩
          go_wp2_with fail
          refine hfst.mono ?_
          rintro e w1 ⟨rfl, rfl⟩
          go_wp2_with fail
          go_ret2
          exact ⟨by rw [HR.out]; rfl, by first | rfl | trivial⟩
      · have HR : Hid (dyF (2000 + (Y : Int)) ((K : Int) + 1) d = (0, 1)) := Lib.hid (by rw [hD, if_neg (fun h => hd2 h.2)])
        have hd2' : LL < d := by omega
        clear hD
        go_enter Tryd.func44, Tryd.ntmps44
        go_wp2_with fail
        refine (r05month_any _ _ w).mono ?_
        rintro e w1 ⟨rfl, rfl⟩
        rw [HM.out]
        go_wp2_with fail
        refine hlen.mono ?_
        rintro e w1 ⟨rfl, rfl⟩
        go_wp2_with fail
        all_goals first | (go_ret2; exact ⟨by rw [HR.out]; rfl, by first | rfl | trivial⟩) | (exfalso; omega)
    · have HR : Hid (dyF (2000 + (Y : Int)) ((K : Int) + 1) d = (0, 1)) := Lib.hid (by rw [hD, if_neg (fun h => hd1 h.1)])
      have hd1' : d < 1 := by omega
      clear hD
      go_enter Tryd.func44, Tryd.ntmps44
      go_wp2_with fail
      refine (r05month_any _ _ w).mono ?_
      rintro e w1 ⟨rfl, rfl⟩
      rw [HM.out]
      go_wp2_with fail
      all_goals first | (go_ret2; exact ⟨by rw [HR.out]; rfl, by first | rfl | trivial⟩) | (exfalso; omega)
end Go.Proofs.YtchbeheekahhiaaDoor
