/-
  calendar.Day, walked.
-/
import Derived.Test.YtchbeheekahhiaaDoorVJ
namespace Go.Proofs.YtchbeheekahhiaaDoor
open Go.RowKit Go.Sort Go.Shelf
set_option linter.unusedSimpArgs false
set_option linter.unusedVariables false
set_option maxRecDepth 100000

theorem kmonth_any (y m : Int) (w : World) :
    Calls Tryd.prog 57 #[.int .i64 y, .int .i64 m] w fun e w' => e = .returned (.bool (isMon y m)) ∧ w' = w := by
  by_cases h : 2000 ≤ y ∧ y ≤ 2093 ∧ 1 ≤ m ∧ m ≤ 12
  · obtain ⟨h1, h2, h3, h4⟩ := h
    have HR : Hid (isMon y m = true) := Lib.hid (isMon_iff.2 ⟨h1, h2, h3, h4⟩)
    go_enter Tryd.func57, Tryd.ntmps57
    go_wp2_with fail
    go_ret
    exact ⟨by rw [HR.out]; rfl, by first | rfl | trivial⟩
  · have HR : Hid (isMon y m = false) := Lib.hid (by rw [Bool.eq_false_iff]; exact fun e => h (isMon_iff.1 e))
    have HH := Lib.hid h
    clear h
    by_cases h1 : 2000 ≤ y
    · by_cases h2 : y ≤ 2093
      · by_cases h3 : 1 ≤ m
        · have h4 : ¬ m ≤ 12 := fun h4 => HH.out ⟨h1, h2, h3, h4⟩
          have q := decide_eq_false h4
          go_enter Tryd.func57, Tryd.ntmps57
          go_wp2_with fail
          go_ret
          exact ⟨by rw [HR.out]; rfl, by first | rfl | trivial⟩
        · have q := decide_eq_false h3
          go_enter Tryd.func57, Tryd.ntmps57
          go_wp2_with fail
          go_ret
          exact ⟨by rw [HR.out]; rfl, by first | rfl | trivial⟩
      · have q := decide_eq_false h2
        go_enter Tryd.func57, Tryd.ntmps57
        go_wp2_with fail
        go_ret
        exact ⟨by rw [HR.out]; rfl, by first | rfl | trivial⟩
    · have q := decide_eq_false h1
      go_enter Tryd.func57, Tryd.ntmps57
      go_wp2_with fail
      go_ret
      exact ⟨by rw [HR.out]; rfl, by first | rfl | trivial⟩

theorem monS_step (Y k : Nat) : monS (12 * Y + (k + 1)) = monS (12 * Y + k) + lenN (12 * Y + k) := rfl

set_option maxHeartbeats 2000000 in
theorem kfirst_any (Y K : Nat) (hY : Y ≤ 93) (hK : K < 12) (w : World) (ht : TL w) :
    Calls Tryd.prog 58 #[.int .i64 (2000 + (Y : Int)), .int .i64 ((K : Int) + 1)] w fun e w' => e = .returned (.int .i64 (monS (12 * Y + K))) ∧ w' = w := by
  have HT := Lib.hid ht
  clear ht
  have h12 := monS_year Y
  have HB : Hid (2000 + (Y : Int) - 2000 = (Y : Int)) := Lib.hid (by omega)
  have HS0 : Hid ((Y : Int) * 365 + ((Y : Int) + 3) / 4 = monS (12 * Y)) := Lib.hid (by rw [monS_year]; omega)
  clear h12
  go_enter Tryd.func58, Tryd.ntmps58
  go_wp2_with fail
  go_loopw [5, 6] (fun n m wr => ∃ (k : Nat), k ≤ K ∧ m = .int .i64 ((k : Int) + 1) ∧ n = .int .i64 (monS (12 * Y + k)) ∧ wr = w) (fun _ m _ => (12 - intOf m).toNat)
  case atStart =>
    refine ⟨0, by omega, rfl, ?_, rfl⟩
    rw [Nat.add_zero, ← HS0.out]
    congr 1
    omega
  case round =>
    obtain ⟨k, hk, rfl, rfl, rfl⟩ := hrel
    have hb : 0 ≤ monS (12 * Y + k) ∧ monS (12 * Y + k) ≤ 40000 := ⟨monS_nonneg _, by have := monS_mono (show 12 * Y + k ≤ 1128 by omega); rw [monS_last] at this; omega⟩
    by_cases hlt : k < K
    · have q : (k : Int) + 1 < (K : Int) + 1 := by omega
      have hcall := klen_any (2000 + (Y : Int)) k (by omega) (by omega) wr HT.out
      have hlb := lenM_bd (2000 + (Y : Int)) (k + 1) (by omega) (by omega)
      have HL : Hid (monS (12 * Y + (k + 1)) = monS (12 * Y + k) + lenM (2000 + (Y : Int)) (k + 1)) := Lib.hid (by
        rw [monS_step]
        unfold lenN yearN monN
        rw [show (12 * Y + k) / 12 = Y by omega, show (12 * Y + k) % 12 = k by omega])
      generalize lenM (2000 + (Y : Int)) (k + 1) = LL at *
      generalize hMM : monS (12 * Y + k) = MM at *
      clear hMM
      go_wp2_with fail
      refine hcall.mono ?_
      rintro e w1 ⟨rfl, rfl⟩
      go_wp2_with fail
      exact ⟨⟨k + 1, by omega, by push_cast; rfl, by rw [HL.out], by first | rfl | trivial⟩, by simp only [intOf]; omega⟩
    · obtain rfl : k = K := by omega
      go_wp2_with fail
      go_ret
      exact ⟨rfl, by first | rfl | trivial⟩

set_option maxHeartbeats 2000000 in
theorem kday_any (y m d : Int) (hd : -9000000000000000000 ≤ d ∧ d ≤ 9000000000000000000) (w : World) (ht : TL w) :
    Calls Tryd.prog 43 #[.int .i64 y, .int .i64 m, .int .i64 d] w fun e w' => e = .returned (.tuple #[.int .i64 (dyF y m d).1, .int .i64 (dyF y m d).2]) ∧ w' = w := by
  have HT := Lib.hid ht
  clear ht
  rcases hm : isMon y m with _ | _
  · have HR : Hid (dyF y m d = (0, 1)) := Lib.hid (by unfold dyF okD; rw [hm]; rfl)
    have HM := Lib.hid hm
    clear hm
    go_enter Tryd.func43, Tryd.ntmps43
    go_wp2_with fail
    refine (kmonth_any y m w).mono ?_
    rintro e w1 ⟨rfl, rfl⟩
    rw [HM.out]
    go_wp2_with fail
    go_ret2
    exact ⟨by rw [HR.out]; rfl, by first | rfl | trivial⟩
  · obtain ⟨m1, m2, m3, m4⟩ := isMon_iff.1 hm
    obtain ⟨Y, rfl⟩ : ∃ Y : Nat, y = 2000 + (Y : Int) := ⟨(y - 2000).toNat, by omega⟩
    obtain ⟨K, rfl⟩ : ∃ K : Nat, m = (K : Int) + 1 := ⟨(m - 1).toNat, by omega⟩
    have HM := Lib.hid hm
    have hK : K < 12 := by omega
    have hY : Y ≤ 93 := by omega
    have hlen := klen_any (2000 + (Y : Int)) K hK (by omega) w HT.out
    have hfst := kfirst_any Y K hY hK w HT.out
    have hlb := lenM_bd (2000 + (Y : Int)) (K + 1) (by omega) (by omega)
    have hF : fstD (2000 + (Y : Int)) ((K : Int) + 1) = monS (12 * Y + K) := by unfold fstD; congr 1; omega
    have hok : okD (2000 + (Y : Int)) ((K : Int) + 1) d = decide (1 ≤ d ∧ d ≤ lenM (2000 + (Y : Int)) (K + 1)) := by
      unfold okD
      rw [hm, show ((K : Int) + 1).toNat = K + 1 by omega]; rfl
    have hb : 0 ≤ monS (12 * Y + K) ∧ monS (12 * Y + K) ≤ 40000 := ⟨monS_nonneg _, by have := monS_mono (show 12 * Y + K ≤ 1128 by omega); rw [monS_last] at this; omega⟩
    have hD : dyF (2000 + (Y : Int)) ((K : Int) + 1) d = if 1 ≤ d ∧ d ≤ lenM (2000 + (Y : Int)) (K + 1) then (if monS (12 * Y + K) + d - 1 ≤ 34000 then (monS (12 * Y + K) + d - 1, 0) else (0, 3)) else (0, 1) := by
      unfold dyF
      rw [hF, hok]
      by_cases h : 1 ≤ d ∧ d ≤ lenM (2000 + (Y : Int)) (K + 1)
      · rw [if_pos h, if_pos (decide_eq_true h)]
      · rw [if_neg h, if_neg (by simpa using h)]
    clear hm hF hok
    generalize lenM (2000 + (Y : Int)) (K + 1) = LL at *
    generalize monS (12 * Y + K) = MM at *
    by_cases hd1 : 1 ≤ d
    · have hd1' : ¬ d < 1 := by omega
      have q7 := decide_eq_false hd1'
      by_cases hd2 : d ≤ LL
      · have hd2' : ¬ LL < d := by omega
        by_cases h9 : MM + d - 1 ≤ 34000
        · have HR : Hid (dyF (2000 + (Y : Int)) ((K : Int) + 1) d = (MM + d - 1, 0)) := Lib.hid (by rw [hD, if_pos ⟨hd1, hd2⟩, if_pos h9])
          have h9' : ¬ 34000 < MM + d - 1 := by omega
          clear hD
          go_enter Tryd.func43, Tryd.ntmps43
          go_wp2_with fail
          refine (kmonth_any _ _ w).mono ?_
          rintro e w1 ⟨rfl, rfl⟩
          rw [HM.out]
          go_wp2_with fail
          refine hlen.mono ?_
          rintro e w1 ⟨rfl, rfl⟩
          go_wp2_with fail
          refine hfst.mono ?_
          rintro e w1 ⟨rfl, rfl⟩
          go_wp2_with fail
          go_ret2
          exact ⟨by rw [HR.out]; rfl, by first | rfl | trivial⟩
        · have HR : Hid (dyF (2000 + (Y : Int)) ((K : Int) + 1) d = (0, 3)) := Lib.hid (by rw [hD, if_pos ⟨hd1, hd2⟩, if_neg h9])
          have h9' : 34000 < MM + d - 1 := by omega
          clear hD
          go_enter Tryd.func43, Tryd.ntmps43
          go_wp2_with fail
          refine (kmonth_any _ _ w).mono ?_
          rintro e w1 ⟨rfl, rfl⟩
          rw [HM.out]
          go_wp2_with fail
          refine hlen.mono ?_
          rintro e w1 ⟨rfl, rfl⟩
          go_wp2_with fail
          refine hfst.mono ?_
          rintro e w1 ⟨rfl, rfl⟩
          go_wp2_with fail
          go_ret2
          exact ⟨by rw [HR.out]; rfl, by first | rfl | trivial⟩
      · have HR : Hid (dyF (2000 + (Y : Int)) ((K : Int) + 1) d = (0, 1)) := Lib.hid (by rw [hD, if_neg (fun h => hd2 h.2)])
        have hd2' : LL < d := by omega
        clear hD
        go_enter Tryd.func43, Tryd.ntmps43
        go_wp2_with fail
        refine (kmonth_any _ _ w).mono ?_
        rintro e w1 ⟨rfl, rfl⟩
        rw [HM.out]
        go_wp2_with fail
        refine hlen.mono ?_
        rintro e w1 ⟨rfl, rfl⟩
        go_wp2_with fail
        all_goals first | (go_ret2; exact ⟨by rw [HR.out]; rfl, by first | rfl | trivial⟩) | (exfalso; omega)
    · have HR : Hid (dyF (2000 + (Y : Int)) ((K : Int) + 1) d = (0, 1)) := Lib.hid (by rw [hD, if_neg (fun h => hd1 h.1)])
      have hd1' : d < 1 := by omega
      clear hD
      go_enter Tryd.func43, Tryd.ntmps43
      go_wp2_with fail
      refine (kmonth_any _ _ w).mono ?_
      rintro e w1 ⟨rfl, rfl⟩
      rw [HM.out]
      go_wp2_with fail
      all_goals first | (go_ret2; exact ⟨by rw [HR.out]; rfl, by first | rfl | trivial⟩) | (exfalso; omega)
end Go.Proofs.YtchbeheekahhiaaDoor
