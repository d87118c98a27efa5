/-
  Tables of leap seconds: what makes one valid, walked; the leap seconds before a day, by the program's iterator; when a day begins.
-/
import Derived.Test.YtcohdojfbnijpaaDoorVA
import Derived.Test.YtcohdojfbnijpaaDoorW1
import Derived.Deep.DeepCutAuto
namespace Go.Proofs.YtcohdojfbnijpaaDoor
open Go.RowKit Go.Sort
set_option linter.unusedSimpArgs false
set_option linter.unusedVariables false
set_option maxRecDepth 100000

theorem valid_drop {l : List Lp} {k : Nat} {last : Int} (h : k < l.length) : vfrom last (l.drop k) = (goodL last (nthR l k) && vfrom (nthR l k).d (l.drop (k + 1))) := by
  rw [List.drop_eq_getElem_cons h, nthR_get h]; rfl

set_option maxHeartbeats 1000000 in
theorem lvalid_any (a : Option Addr) (n c : Nat) (l : List Lp) (w : World) (h1 : Rw w a n c l) :
    Calls Tryd.prog 56 #[.slice a n c] w fun e w' => e = .returned (.bool (validL l)) ∧ Ext w w' := by
  have bd := h1.bd
  have HL := Lib.hid h1.hlen
  go_enter Tryd.func56, Tryd.ntmps56
  go_wp2_with fail
  go_loopw [3, 8] (fun t i wr => ∃ (k : Nat) (last : Int), k ≤ n ∧ i = .int .i64 k ∧ t = .int .i64 last ∧ vfrom (-1) l = vfrom last (l.drop k) ∧ Ext w wr) (fun _ i _ => n - (intOf i).toNat)
  case atStart => exact ⟨0, -1, by omega, rfl, rfl, by simp, Ext.refl _⟩
  case round =>
    obtain ⟨k, last, hk, rfl, rfl, hv, hx⟩ := hrel
    have HV := Lib.hid hv
    clear hv
    by_cases hlt : k < n
    · obtain ⟨x1, o1, rfl, hc1⟩ := h1.at (by omega)
      have hr := rangeAt_ext (hc1 k hlt) hx
      have hd := valid_drop (l := l) (k := k) (last := last) (by rw [HL.out]; exact hlt)
      have HD := Lib.hid hd
      rw [sz_lp] at hr
      clear hc1 hd
      generalize nthR l k = x at *
      obtain ⟨d0, d1⟩ := cells_lp hr
      clear hr
      rcases hg : goodL last x with _ | _
      · have HR : Hid (validL l = false) := Lib.hid (by unfold validL; rw [HV.out, HD.out, hg]; rfl)
        have hn : ¬ (last < x.d ∧ x.d < 34000 ∧ (x.s = 1 ∨ x.s = -1)) := fun h => by rw [goodL_iff.2 h] at hg; cases hg
        clear hg
        by_cases s1 : last < x.d
        · have s1' : ¬ x.d ≤ last := by omega
          by_cases s2 : x.d < 34000
          · have s2' : ¬ 34000 ≤ x.d := by omega
            have s3 : x.s ≠ 1 := fun h => hn ⟨s1, s2, .inl h⟩
            have s4 : x.s ≠ -1 := fun h => hn ⟨s1, s2, .inr h⟩
            clear hn
            go_wp2_with fail
            go_ret
            exact ⟨by rw [HR.out]; rfl, hx.alloc _⟩
          · have s2' : 34000 ≤ x.d := by omega
            clear hn
            go_wp2_with fail
            go_ret
            exact ⟨by rw [HR.out]; rfl, hx.alloc _⟩
        · have s1' : x.d ≤ last := by omega
          clear hn
          go_wp2_with fail
          go_ret
          exact ⟨by rw [HR.out]; rfl, hx.alloc _⟩
      · obtain ⟨s1, s2, s3⟩ := goodL_iff.1 hg
        have HV2 : Hid (vfrom (-1) l = vfrom x.d (l.drop (k + 1))) := Lib.hid (by rw [HV.out, HD.out, hg]; rfl)
        have s1' : ¬ x.d ≤ last := by omega
        have s2' : ¬ 34000 ≤ x.d := by omega
        clear hg
        by_cases s4 : x.s = 1
        · have s5 : (x.s == 1) = true := by simp [s4]
          clear s3
          go_wp2_with fail
          exact ⟨⟨k + 1, x.d, by omega, by go_num, rfl, HV2.out, hx.alloc _⟩, by simp [intOf]; omega⟩
        · have s5 : x.s = -1 := by omega
          clear s3
          go_wp2_with fail
          exact ⟨⟨k + 1, x.d, by omega, by go_num, rfl, HV2.out, hx.alloc _⟩, by simp [intOf]; omega⟩
    · obtain rfl : k = n := by omega
      have HR : Hid (validL l = decide (k ≤ 100)) := Lib.hid (by unfold validL; rw [HV.out, List.drop_of_length_le (by rw [HL.out]; exact Nat.le_refl _), HL.out]; rfl)
      by_cases h100 : k ≤ 100
      · have q : decide ((k : Int) ≤ 100) = true := by simp; omega
        have HQ := Lib.hid (decide_eq_true h100)
        go_wp2_with fail
        go_ret
        exact ⟨by rw [HR.out, HQ.out]; rfl, hx⟩
      · have q : decide ((k : Int) ≤ 100) = false := by simp; omega
        have HQ := Lib.hid (decide_eq_false h100)
        go_wp2_with fail
        go_ret
        exact ⟨by rw [HR.out, HQ.out]; rfl, hx⟩
end Go.Proofs.YtcohdojfbnijpaaDoor
