/-
  The small reference functions on tables and days, walked.
-/
import Derived.Test.YtcohdojfbnijpaaDoorVG
namespace Go.Proofs.YtcohdojfbnijpaaDoor
open Go.RowKit Go.Sort Go.Shelf
set_option linter.unusedSimpArgs false
set_option linter.unusedVariables false
set_option maxRecDepth 100000

theorem risday_any (d : Int) (w : World) : Calls Tryd.prog 75 #[.int .i64 d] w fun e w' => e = .returned (.bool (inW d 0 34000)) ∧ w' = w := by
  by_cases h1 : 0 ≤ d
  · by_cases h2 : d ≤ 34000
    · have e := Lib.hid (inW_yes h1 h2)
      go_enter Tryd.func75, Tryd.ntmps75
      go_wp2_with fail
      go_ret
      exact ⟨by rw [e.out]; rfl, rfl⟩
    · have e := Lib.hid (inW_no2 (lo := 0) h2)
      have q := decide_eq_false h2
      go_enter Tryd.func75, Tryd.ntmps75
      go_wp2_with fail
      go_ret
      exact ⟨by rw [e.out]; rfl, rfl⟩
  · have e := Lib.hid (inW_no1 (hi := 34000) h1)
    have q := decide_eq_false h1
    go_enter Tryd.func75, Tryd.ntmps75
    go_wp2_with fail
    go_ret
    exact ⟨by rw [e.out]; rfl, rfl⟩

/-- The day of the leap second before the k-th one. -/
def lastD (l : List Lp) : Nat → Int
  | 0 => -1
  | k + 1 => (nthR l k).d

set_option maxHeartbeats 2000000 in
theorem rvalid17_any (a : Option Addr) (n c : Nat) (l : List Lp) (w : World) (h1 : Rw w a n c l) :
    Calls Tryd.prog 36 #[.slice a n c] w fun e w' => e = .returned (.bool (validL l)) ∧ Ext w w' := by
  have bd := h1.bd
  have HL := Lib.hid h1.hlen
  go_enter Tryd.func36, Tryd.ntmps36
  go_wp2_with fail
  go_loopw [3] (fun i wr => ∃ (k : Nat), k ≤ n ∧ i = .int .i64 (k : Int) ∧ Hid (vfrom (-1) l = vfrom (lastD l k) (l.drop k) ∧ -1 ≤ lastD l k) ∧ Ext w wr) (fun i _ => n - (intOf i).toNat)
  case atStart => exact ⟨0, by omega, rfl, Lib.hid ⟨rfl, Int.le_refl _⟩, Ext.refl _⟩
  case round =>
    obtain ⟨k, hk, rfl, HV, hx⟩ := hrel
    by_cases hlt : k < n
    · obtain ⟨x1, o1, rfl, hc1⟩ := h1.at (by omega)
      have hr := rangeAt_ext (hc1 k hlt) hx
      have HD := Lib.hid (valid_drop (l := l) (k := k) (last := lastD l k) (by rw [HL.out]; exact hlt))
      rw [sz_lp] at hr
      have lx := lt_of_cell (cells_lp hr).1
      obtain ⟨d0, d1⟩ := cells_lp hr
      clear hr
      have HG : Hid (goodL (lastD l k) (nthR l k) = true → vfrom (-1) l = vfrom (nthR l k).d (l.drop (k + 1))) := Lib.hid (fun h => by rw [HV.out.1, HD.out, h]; rfl)
      have HN : Hid (goodL (lastD l k) (nthR l k) = false → validL l = false) := Lib.hid (fun h => by unfold validL; rw [HV.out.1, HD.out, h]; rfl)
      have HLk : Hid (lastD l (k + 1) = (nthR l k).d) := Lib.hid rfl
      by_cases g1 : 0 ≤ (nthR l k).d
      · have g1' : ¬ (nthR l k).d < 0 := by omega
        by_cases g2 : (nthR l k).d < 34000
        · have g2' : ¬ 34000 ≤ (nthR l k).d := by omega
          by_cases g3 : (nthR l k).s = 1 ∨ (nthR l k).s = -1
          · have hs := g3
            rcases k with _ | K
            · generalize nthR l 0 = x at *
              have HV2 : Hid (vfrom (-1) l = vfrom (lastD l 1) (l.drop 1) ∧ -1 ≤ lastD l 1) := Lib.hid ⟨by rw [HLk.out]; exact HG.out (goodL_iff.2 ⟨by show -1 < _; omega, g2, g3⟩), by rw [HLk.out]; omega⟩
              simp only [Nat.zero_mul, Nat.add_zero] at d0 d1
              clear g3
              rcases hs with hs | hs
              · go_upto_region 6 with fail
                have hg := @grow_cell
                refine region_ext (by kernel_rfl) (by kernel_rfl) ?_
                repeat (go_big_quiet_step (fail))
                refine wpQuiet_nil ?_
                intro w6 hx6
                go_wp2_with fail
                exact ⟨⟨1, by omega, by simp, HV2, hx.trans hx6⟩, by simp [intOf]; omega⟩
              · have hs1 : ¬ x.s = 1 := by omega
                go_upto_region 6 with fail
                have hg := @grow_cell
                refine region_ext (by kernel_rfl) (by kernel_rfl) ?_
                repeat (go_big_quiet_step (fail))
                refine wpQuiet_nil ?_
                intro w6 hx6
                go_wp2_with fail
                exact ⟨⟨1, by omega, by simp, HV2, hx.trans hx6⟩, by simp [intOf]; omega⟩
            · have hrK := rangeAt_ext (hc1 K (by omega)) hx
              rw [sz_lp] at hrK
              obtain ⟨e0, -⟩ := cells_lp hrK
              clear hrK
              have HLK : Hid (lastD l (K + 1) = (nthR l K).d) := Lib.hid rfl
              have HVK := Lib.hid HV.out.2
              rw [HLK.out] at HG HN HVK
              have le0 := lt_of_cell e0
              generalize nthR l (K + 1) = x at *
              generalize hYD : (nthR l K).d = yd at *
              clear hYD hc1
              by_cases g4 : yd < x.d
              · have g4' : ¬ x.d ≤ yd := by omega
                have HV2 : Hid (vfrom (-1) l = vfrom (lastD l (K + 1 + 1)) (l.drop (K + 1 + 1)) ∧ -1 ≤ lastD l (K + 1 + 1)) := Lib.hid ⟨by rw [HLk.out]; exact HG.out (goodL_iff.2 ⟨g4, g2, g3⟩), by rw [HLk.out]; omega⟩
                clear g3
                rcases hs with hs | hs
                · go_upto_region 6 with fail
                  have hg := @grow_cell
                  refine region_ext (by kernel_rfl) (by kernel_rfl) ?_
                  repeat (go_big_quiet_step (fail))
                  refine wpQuiet_nil ?_
                  intro w6 hx6
                  go_wp2_with fail
                  exact ⟨⟨K + 1 + 1, by omega, by go_num, HV2, hx.trans hx6⟩, by simp [intOf]; omega⟩
                · have hs1 : ¬ x.s = 1 := by omega
                  go_upto_region 6 with fail
                  have hg := @grow_cell
                  refine region_ext (by kernel_rfl) (by kernel_rfl) ?_
                  repeat (go_big_quiet_step (fail))
                  refine wpQuiet_nil ?_
                  intro w6 hx6
                  go_wp2_with fail
                  exact ⟨⟨K + 1 + 1, by omega, by go_num, HV2, hx.trans hx6⟩, by simp [intOf]; omega⟩
              · have g4' : x.d ≤ yd := by omega
                have HF : Hid (validL l = false) := Lib.hid (HN.out (by rw [Bool.eq_false_iff]; intro h; have := goodL_iff.1 h; omega))
                clear g3
                rcases hs with hs | hs
                · go_upto_region 6 with fail
                  have hg := @grow_cell
                  refine region_ext (by kernel_rfl) (by kernel_rfl) ?_
                  repeat (go_big_quiet_step (fail))
                  refine wpQuiet_nil ?_
                  intro w6 hx6
                  go_wp2_with fail
                  go_ret
                  exact ⟨by rw [HF.out]; rfl, hx.trans hx6⟩
                · have hs1 : ¬ x.s = 1 := by omega
                  go_upto_region 6 with fail
                  have hg := @grow_cell
                  refine region_ext (by kernel_rfl) (by kernel_rfl) ?_
                  repeat (go_big_quiet_step (fail))
                  refine wpQuiet_nil ?_
                  intro w6 hx6
                  go_wp2_with fail
                  go_ret
                  exact ⟨by rw [HF.out]; rfl, hx.trans hx6⟩
          · have HF : Hid (validL l = false) := Lib.hid (HN.out (by rw [Bool.eq_false_iff]; intro h; have := goodL_iff.1 h; have := HV.out.2; omega))
            have g5 : ¬ (nthR l k).s = 1 := fun h => g3 (.inl h)
            have g6 : ¬ (nthR l k).s = -1 := fun h => g3 (.inr h)
            clear g3
            go_wp2_with fail
            all_goals first | (go_ret; exact ⟨by rw [HF.out]; rfl, hx⟩) | (exfalso; omega)
        · have HF : Hid (validL l = false) := Lib.hid (HN.out (by rw [Bool.eq_false_iff]; intro h; have := goodL_iff.1 h; have := HV.out.2; omega))
          have g2' : 34000 ≤ (nthR l k).d := by omega
          go_wp2_with fail
          all_goals first | (go_ret; exact ⟨by rw [HF.out]; rfl, hx⟩) | (exfalso; omega)
      · have HF : Hid (validL l = false) := Lib.hid (HN.out (by rw [Bool.eq_false_iff]; intro h; have := goodL_iff.1 h; have := HV.out.2; omega))
        have g1' : (nthR l k).d < 0 := by omega
        go_wp2_with fail
        all_goals first | (go_ret; exact ⟨by rw [HF.out]; rfl, hx⟩) | (exfalso; omega)
    · obtain rfl : k = n := by omega
      have HR : Hid (validL l = decide (k ≤ 100)) := Lib.hid (by unfold validL; rw [HV.out.1, List.drop_of_length_le (by rw [HL.out]; exact Nat.le_refl _), HL.out]; rfl)
      by_cases h100 : k ≤ 100
      · have q : decide ((k : Int) ≤ 100) = true := by simp; omega
        have HQ := Lib.hid (decide_eq_true h100)
        go_wp2_with fail
        go_ret
        exact ⟨by rw [HR.out, HQ.out]; rfl, hx⟩
      · have q : decide ((k : Int) ≤ 100) = false := by simp; omega
        have HQ := Lib.hid (decide_eq_false h100)
        go_wp2_with fail
        go_ret
        exact ⟨by rw [HR.out, HQ.out]; rfl, hx⟩
end Go.Proofs.YtcohdojfbnijpaaDoor
