/-
  calendar.Date, calendar.Day, walked.
-/
import Derived.Test.YtchbeheekahhiaaDoorVI
namespace Go.Proofs.YtchbeheekahhiaaDoor
open Go.RowKit Go.Sort Go.Shelf
set_option linter.unusedSimpArgs false
set_option linter.unusedVariables false
set_option maxRecDepth 100000

theorem yearN_bd {n : Nat} (h : n ≤ 1200) : 2000 ≤ yearN n ∧ yearN n ≤ 2100 := by unfold yearN; omega

theorem results_tmp4 {fn : Func} {t u v x : Tmp} (h : fn.results = #[.tmp t, .tmp u, .tmp v, .tmp x]) (tmps : Array Value) (P : Program) (w : World) :
    (results fn tmps).run P w = .ok (.tuple #[tmps.getD t undef, tmps.getD u undef, tmps.getD v undef, tmps.getD x undef]) w := by
  simp [results, h]

set_option maxHeartbeats 2000000 in
theorem kdate_any (day : Int) (w : World) (ht : TL w) :
    Calls Tryd.prog 38 #[.int .i64 day] w fun e w' => e = .returned (.tuple #[.int .i64 (datF day).1.1, .int .i64 (datF day).1.2.1, .int .i64 (datF day).1.2.2, .int .i64 (datF day).2]) ∧ w' = w := by
  have HT := Lib.hid ht
  clear ht
  by_cases h0 : 0 ≤ day
  · by_cases h9 : day ≤ 34000
    · obtain ⟨hm, hm9⟩ := monOf_spec h0 h9
      have HR := Lib.hid (datF_yes h0 h9 hm)
      generalize monOf day = N at *
      have hM1 := hm.1
      have hM2 := hm.2
      have h9' : ¬ 34000 < day := by omega
      have HM := Lib.hid hm
      have HQ0 : Hid (monS (48 * (day / 1461).toNat) = 1461 * (day / 1461)) := Lib.hid (by rw [monS_four]; omega)
      have HY0 : Hid (yearN (48 * (day / 1461).toNat) = 2000 + 4 * (day / 1461)) := Lib.hid (by unfold yearN; omega)
      have hq9 : (day / 1461).toNat ≤ 24 := by omega
      clear hm hM1 hM2
      go_enter Tryd.func38, Tryd.ntmps38
      go_wp2_with fail
      go_loopw [0, 2, 3] (fun d y m wr => ∃ (n : Nat) (r : Int), n ≤ N ∧ d = .int .i64 r ∧ y = .int .i64 (yearN n) ∧ m = .int .i64 (((n % 12 : Nat) : Int) + 1) ∧ Hid (r = day - monS n) ∧ 0 ≤ r ∧ r ≤ 34000 ∧ wr = w) (fun d _ _ _ => (intOf d).toNat)
      case atStart =>
        have e1 : monS (48 * (day / 1461).toNat) ≤ day := by rw [HQ0.out]; omega
        have e2 : 48 * (day / 1461).toNat ≤ N := by
          rcases Nat.lt_or_ge N (48 * (day / 1461).toNat) with h | h
          · have := monS_mono (show N + 1 ≤ 48 * (day / 1461).toNat by omega)
            have := HM.out.2
            omega
          · exact h
        refine ⟨48 * (day / 1461).toNat, day % 1461, e2, rfl, by rw [HY0.out], ?_, Lib.hid (by rw [HQ0.out]; omega), by omega, by omega, rfl⟩
        rw [show 48 * (day / 1461).toNat % 12 = 0 by omega]
        rfl
      case round =>
        obtain ⟨n, r, hn, rfl, rfl, rfl, hr, hr0, hr9, rfl⟩ := hrel
        have hyb := yearN_bd (n := n) (by omega)
        have hlb := lenN_bd n
        have hk12 : n % 12 < 12 := Nat.mod_lt _ (by decide)
        have HLN : Hid (lenM (yearN n) (n % 12 + 1) = lenN n) := Lib.hid rfl
        have hcall := klen_any (yearN n) (n % 12) hk12 (by omega) wr HT.out
        rw [HLN.out] at hcall
        have HYN : Hid (yearN (n + 1) = if n % 12 = 11 then yearN n + 1 else yearN n) := Lib.hid (by unfold yearN; split <;> omega)
        have HMS : Hid (monS (n + 1) = monS n + lenN n) := Lib.hid rfl
        have hmN : Hid ((monN n : Int) = ((n % 12 : Nat) : Int) + 1) := Lib.hid (by unfold monN; omega)
        generalize hK : n % 12 = K at hcall HYN hmN hk12 ⊢
        have HK := Lib.hid hK
        clear hK
        generalize lenN n = LN at *
        generalize hYE : yearN n = YN at *
        have HYE := Lib.hid hYE
        clear hYE
        by_cases hlt : r < LN
        · have hnN : n = N := InMon.uniq (day := day) ⟨by have := hr.out; omega, by rw [HMS.out]; have := hr.out; omega⟩ HM.out
          have hlt' : ¬ LN ≤ r := by omega
          have HEND : Hid (day - monS N + 1 = r + 1) := Lib.hid (by rw [← hnN]; have := hr.out; omega)
          subst hnN
          go_wp2_with fail
          refine hcall.mono ?_
          rintro e w1 ⟨rfl, rfl⟩
          go_wp2_with fail
          (try simp only [Exit.inBlock, Exit.then]); refine bodyPost_ret (results_tmp4 rfl _ _ _) rfl ?_
          exact ⟨by rw [HR.out, HEND.out, hmN.out, HYE.out]; rfl, rfl⟩
        · have hge : LN ≤ r := by omega
          have hnN : n + 1 ≤ N := by
            rcases Nat.lt_or_ge n N with h | h
            · exact h
            · exfalso
              obtain rfl : n = N := by omega
              have := HM.out.2
              rw [HMS.out] at this
              have := hr.out
              omega
          have HR2 : Hid (r - LN = day - monS (n + 1)) := Lib.hid (by rw [HMS.out]; have := hr.out; omega)
          by_cases hk : K = 11
          · have HY2 : Hid (yearN (n + 1) = YN + 1) := Lib.hid (by rw [HYN.out, if_pos hk])
            have q1 : (12 : Int) < (K : Int) + 1 + 1 := by omega
            have HK2 : Hid ((n + 1) % 12 = 0) := Lib.hid (by have := HK.out; omega)
            have HKK := Lib.hid hk
            clear hk
            go_wp2_with fail
            refine hcall.mono ?_
            rintro e w1 ⟨rfl, rfl⟩
            go_wp2_with fail
            refine hcall.mono ?_
            rintro e w1 ⟨rfl, rfl⟩
            go_wp2_with fail
            exact ⟨⟨n + 1, r - LN, hnN, rfl, by rw [HY2.out], by rw [HK2.out]; rfl, HR2, by omega, by omega, trivial⟩, by simp only [intOf]; omega⟩
          · have HY2 : Hid (yearN (n + 1) = YN) := Lib.hid (by rw [HYN.out, if_neg hk])
            have q1 : ¬ (12 : Int) < (K : Int) + 1 + 1 := by omega
            have HK2 : Hid ((n + 1) % 12 = K + 1) := Lib.hid (by have := HK.out; omega)
            go_wp2_with fail
            refine hcall.mono ?_
            rintro e w1 ⟨rfl, rfl⟩
            go_wp2_with fail
            refine hcall.mono ?_
            rintro e w1 ⟨rfl, rfl⟩
            go_wp2_with fail
            exact ⟨⟨n + 1, r - LN, hnN, rfl, by rw [HY2.out], by rw [HK2.out]; push_cast; rfl, HR2, by omega, by omega, trivial⟩, by simp only [intOf]; omega⟩
    · have HR := Lib.hid (datF_no (day := day) (fun h => h9 h.2))
      have h9' : 34000 < day := by omega
      go_enter Tryd.func38, Tryd.ntmps38
      go_wp2_with fail
      all_goals first | ((try simp only [Exit.inBlock, Exit.then]); refine bodyPost_ret (results_tmp4 rfl _ _ _) rfl ?_; exact ⟨by rw [HR.out]; rfl, by first | rfl | trivial⟩) | (exfalso; omega)
  · have HR := Lib.hid (datF_no (day := day) (fun h => h0 h.1))
    have h0' : day < 0 := by omega
    go_enter Tryd.func38, Tryd.ntmps38
    go_wp2_with fail
    all_goals first | ((try simp only [Exit.inBlock, Exit.then]); refine bodyPost_ret (results_tmp4 rfl _ _ _) rfl ?_; exact ⟨by rw [HR.out]; rfl, by first | rfl | trivial⟩) | (exfalso; omega)
end Go.Proofs.YtchbeheekahhiaaDoor
