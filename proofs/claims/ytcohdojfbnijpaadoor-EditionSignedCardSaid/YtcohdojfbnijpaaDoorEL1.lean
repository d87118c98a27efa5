/-
  The law EditionDiffers.
-/
import Derived.Test.YtcohdojfbnijpaaDoorEJ
namespace Go.Proofs.YtcohdojfbnijpaaDoor
open Go.RowKit Go.Sort Go.Shelf
set_option linter.unusedSimpArgs false
set_option linter.unusedVariables false
set_option maxRecDepth 100000

theorem edr0 (w : World) : EdR w none 0 0 [] := ⟨rfl, Nat.le_refl 0, Nat.zero_le _, Nat.zero_le _, fun i hi => absurd hi (Nat.not_lt_zero i)⟩
theorem startF_ok {l : List Lp} {day : Int} (hv : validL l = true) (h0 : 0 ≤ day) (h9 : day ≤ 34000) : startF l day = (startL l day, 0) := by unfold startF; rw [if_pos (rightL_iff.2 ⟨hv, h0, h9⟩)]
theorem lengthF_ok {l : List Lp} {day : Int} (hv : validL l = true) (h0 : 0 ≤ day) (h9 : day ≤ 34000) : lengthF l day = (lenL l day, 0) := by unfold lengthF; rw [if_pos (rightL_iff.2 ⟨hv, h0, h9⟩)]
theorem dfrF_none {l l2 : List Lp} (h1 : validL l = true) (h2 : validL l2 = true) (h : difL l l2 = none) : dfrF l l2 = (0, false, 0) := by
  unfold dfrF difD difS; rw [if_pos ⟨h1, h2⟩, h]; rfl
theorem dfrF_some {l l2 : List Lp} {d : Int} (h1 : validL l = true) (h2 : validL l2 = true) (h : difL l l2 = some d) : dfrF l l2 = (d, true, 0) := by
  unfold dfrF difD difS; rw [if_pos ⟨h1, h2⟩, h]; rfl
theorem day_bd {x : Int} (h : 0 ≤ x ∧ x ≤ 4294967295) : 0 ≤ (wrap64 x).tmod 34001 ∧ (wrap64 x).tmod 34001 ≤ 34000 := by
  have e : wrap64 x = x := by unfold wrap64; omega
  rw [e, Int.tmod_eq_emod_of_nonneg h.1]
  omega
theorem fewE_nil : fewE [] = true := rfl
theorem few3_nil (n m : Nat) : few3 [] n m = (decide (n ≤ 110) && decide (m ≤ 110)) := rfl

set_option maxHeartbeats 8000000 in
theorem ediffers_law (a : Option Addr) (n c : Nat) (l : List Lp) (a2 : Option Addr) (n2 c2 : Nat) (l2 : List Lp) (x : Int) (hx0 : 0 ≤ x ∧ x ≤ 4294967295) (w : World) (h1 : Rw w a n c l) (h2 : Rw w a2 n2 c2 l2) (ht : TB w) :
    Calls Tryd.prog 7 #[.slice a n c, .slice a2 n2 c2, .int .u32 x] w (Yes w) := by
  have HT := Lib.hid ht
  have b1 := Lib.hid h1.bd
  have b2 := Lib.hid h2.bd
  have HX := Lib.hid hx0
  clear ht hx0
  go_enter Tryd.func7, Tryd.ntmps7
  go_wp2_with fail
  refine (ehead_any w HT.out).mono ?_
  rintro e w1 ⟨rfl, hE⟩
  go_wp2_with fail
  refine (l20few_any none 0 0 [] a n c a2 n2 c2 w1 (edr0 w1) b1.out.2.2 b2.out.2.2).mono ?_
  rintro e w2 ⟨rfl, hx⟩
  replace hE := hE.trans hx
  clear hx
  rcases hf : few3 [] n n2 with _ | _
  · clear hf
    go_wp2_with fail
    go_ret
    exact ⟨rfl, hE⟩
  clear hf
  go_wp2_with fail
  refine (rvalid17_any a n c l w2 (h1.ext hE)).mono ?_
  rintro e w3 ⟨rfl, hx⟩
  replace hE := hE.trans hx
  clear hx
  rcases hv : validL l with _ | _
  · clear hv
    go_wp2_with fail
    go_ret
    exact ⟨rfl, hE⟩
  have HV := Lib.hid hv
  clear hv
  go_wp2_with fail
  refine (rvalid17_any a2 n2 c2 l2 w3 (h2.ext hE)).mono ?_
  rintro e w4 ⟨rfl, hx⟩
  replace hE := hE.trans hx
  clear hx
  rcases hv : validL l2 with _ | _
  · clear hv
    go_wp2_with fail
    go_ret
    exact ⟨rfl, hE⟩
  have HV2 := Lib.hid hv
  clear hv
  go_wp2_with fail
  refine (edif_any a n c l a2 n2 c2 l2 w4 (h1.ext hE) (h2.ext hE)).mono ?_
  rintro e w5 ⟨rfl, hx⟩
  replace hE := hE.trans hx
  clear hx
  have HD : Hid (0 ≤ (wrap64 x).tmod 34001 ∧ (wrap64 x).tmod 34001 ≤ 34000) := Lib.hid (day_bd HX.out)
  rcases hd : difL l l2 with _ | d
  · have he := difL_none.1 hd
    have HS := Lib.hid (decide_eq_true he)
    rw [dfrF_none HV.out HV2.out hd]
    have HE := Lib.hid he
    clear hd he
    go_wp2_with fail
    refine (r17same_any a n c l a2 n2 c2 l2 w5 (h1.ext hE) (h2.ext hE)).mono ?_
    rintro e w6 ⟨rfl, hx⟩
    replace hE := hE.trans hx
    clear hx
    rw [HS.out]
    go_wp2_with fail
    generalize (wrap64 x).tmod 34001 = day at HD ⊢
    have he := HE.out
    subst he
    refine (lStart_any a n c l day w6 (h1.ext hE)).mono ?_
    rintro e w7 ⟨rfl, hx⟩
    replace hE := hE.trans hx
    clear hx
    rw [startF_ok HV.out HD.out.1 HD.out.2]
    go_wp2_with fail
    refine (lStart_any a2 n2 c2 l day w7 (h2.ext hE)).mono ?_
    rintro e w8 ⟨rfl, hx⟩
    replace hE := hE.trans hx
    clear hx
    rw [startF_ok HV.out HD.out.1 HD.out.2]
    go_wp2_with fail
    refine (lLength_any a n c l day w8 (h1.ext hE)).mono ?_
    rintro e w9 ⟨rfl, hx⟩
    replace hE := hE.trans hx
    clear hx
    rw [lengthF_ok HV.out HD.out.1 HD.out.2]
    go_wp2_with fail
    refine (lLength_any a2 n2 c2 l day w9 (h2.ext hE)).mono ?_
    rintro e w10 ⟨rfl, hx⟩
    replace hE := hE.trans hx
    clear hx
    rw [lengthF_ok HV.out HD.out.1 HD.out.2]
    go_wp2_with fail
    go_ret
    exact ⟨rfl, hE⟩
  · obtain ⟨q1, q2, -, -⟩ := difL_step (validL_from HV.out) (validL_from HV2.out) hd
    have qb := difL_bd HV.out HV2.out hd
    have HS := Lib.hid (decide_eq_false (show ¬ (l = l2) from fun he => by rw [difL_none.2 he] at hd; cases hd))
    rw [dfrF_some HV.out HV2.out hd]
    have Q := Lib.hid (⟨q1, q2, qb⟩ : (∀ day, day < d → stepAt l day = stepAt l2 day) ∧ stepAt l d ≠ stepAt l2 d ∧ (0 ≤ d ∧ d < 34000))
    clear hd q1 q2 qb
    go_wp2_with fail
    refine (r17same_any a n c l a2 n2 c2 l2 w5 (h1.ext hE) (h2.ext hE)).mono ?_
    rintro e w6 ⟨rfl, hx⟩
    replace hE := hE.trans hx
    clear hx
    rw [HS.out]
    go_wp2_with fail
    have HM : Hid (0 ≤ min ((wrap64 x).tmod 34001) d ∧ min ((wrap64 x).tmod 34001) d ≤ d) := Lib.hid ⟨by have := HD.out; have := Q.out.2.2; omega, by omega⟩
    generalize min ((wrap64 x).tmod 34001) d = day at HM ⊢
    replace HD : Hid (0 ≤ day ∧ day ≤ 34000) := Lib.hid ⟨HM.out.1, by have := HM.out.2; have := Q.out.2.2; omega⟩
    refine (lStart_any a n c l day w6 (h1.ext hE)).mono ?_
    rintro e w7 ⟨rfl, hx⟩
    replace hE := hE.trans hx
    clear hx
    rw [startF_ok HV.out HD.out.1 HD.out.2]
    go_wp2_with fail
    refine (lStart_any a2 n2 c2 l2 day w7 (h2.ext hE)).mono ?_
    rintro e w8 ⟨rfl, hx⟩
    replace hE := hE.trans hx
    clear hx
    rw [startF_ok HV2.out HD.out.1 HD.out.2, ← startL_same HV.out HV2.out Q.out.1 HD.out.1 HM.out.2]
    go_wp2_with fail
    refine (lLength_any a n c l day w8 (h1.ext hE)).mono ?_
    rintro e w9 ⟨rfl, hx⟩
    replace hE := hE.trans hx
    clear hx
    rw [lengthF_ok HV.out HD.out.1 HD.out.2]
    go_wp2_with fail
    refine (lLength_any a2 n2 c2 l2 day w9 (h2.ext hE)).mono ?_
    rintro e w10 ⟨rfl, hx⟩
    replace hE := hE.trans hx
    clear hx
    rw [lengthF_ok HV2.out HD.out.1 HD.out.2]
    by_cases hdd : day < d
    · have e0 : lenL l day = lenL l2 day := by rw [lenL_step HV.out, lenL_step HV2.out, Q.out.1 day hdd]
      rw [e0]
      have p1 := Lib.hid hdd
      have p2 := decide_eq_true hdd
      clear hdd e0
      go_wp2_with fail
      go_ret
      exact ⟨rfl, hE⟩
    · have e0 : day = d := by have := HM.out.2; omega
      have e1 : (lenL l day == lenL l2 day) = false := beq_eq_false_iff_ne.2 (by rw [lenL_step HV.out, lenL_step HV2.out, e0]; have := Q.out.2.1; omega)
      have p2 := decide_eq_false hdd
      clear hdd e0
      go_wp2_with fail
      go_ret
      exact ⟨rfl, hE⟩
end Go.Proofs.YtcohdojfbnijpaaDoor
