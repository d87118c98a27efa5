/-
  civil.To, civil.From, civil.Show, walked.
-/
import Derived.Test.YtcohdojfbnijpaaDoorVE
namespace Go.Proofs.YtcohdojfbnijpaaDoor
open Go.RowKit Go.Sort Go.Shelf
set_option linter.unusedSimpArgs false
set_option linter.unusedVariables false
set_option maxRecDepth 100000

theorem dayF_cases (l : List Lp) (t : Int) : dayF l t = (0, 1) ∨ dayF l t = (0, 3) ∨ ∃ d, dayF l t = (d, 0) ∧ rightL l d = true ∧ IsDay l t d ∧ 0 ≤ t ∧ t ≤ 3000000000000000 := by
  by_cases h : validL l = true ∧ 0 ≤ t ∧ t ≤ 3000000000000000
  · by_cases h2 : t < startL l 34001
    · right; right
      obtain ⟨h3, h4, h5⟩ := dayL_spec h.1 h.2.1 h2
      exact ⟨dayL l t, by unfold dayF; rw [if_pos h, if_pos h2], rightL_iff.2 ⟨h.1, h4, h5⟩, h3, h.2⟩
    · right; left
      unfold dayF; rw [if_pos h, if_neg h2]
  · left; exact dayF_no h

/-- What To answers: the day, the microsecond, the error. -/
noncomputable def toF (l : List Lp) (t : Int) : (Int × Int) × Int := if (dayF l t).2 = 0 then (((dayF l t).1, t - startL l (dayF l t).1), 0) else ((0, 0), (dayF l t).2)
theorem toF_of {l : List Lp} {t d : Int} (h : dayF l t = (d, 0)) : toF l t = ((d, t - startL l d), 0) := by unfold toF; rw [h, if_pos rfl]
theorem toF_err {l : List Lp} {t e : Int} (h : dayF l t = (0, e)) (he : e ≠ 0) : toF l t = ((0, 0), e) := by unfold toF; rw [h, if_neg he]
/-- What From answers. -/
def froF (l : List Lp) (day micro : Int) : Int × Int := if rightL l day = true ∧ 0 ≤ micro then (if micro < lenL l day then (startL l day + micro, 0) else (0, 40)) else (0, 1)
/-- What Show answers. -/
noncomputable def shoF (l : List Lp) (t : Int) : (Int × Int × Int) × Int := if (toF l t).2 = 0 then (((toF l t).1.1, min ((toF l t).1.2 / 1000000) 86399, (toF l t).1.2 % 1000000), 0) else ((0, 0, 0), (toF l t).2)
theorem isDay_micro {l : List Lp} {t d : Int} (h : IsDay l t d) : 0 ≤ t - startL l d ∧ t - startL l d < lenL l d := by
  have h1 := h.1
  have h2 := h.2
  rw [startL_succ] at h2
  omega

theorem res_to (W : World) (b : Nat) (d m z : Int) (tmps : Array Value) (h4 : tmps[4]?.getD undef = .pointer (some ⟨b, 0, none⟩)) (h5 : tmps[5]?.getD undef = .int .i64 z) (h : Bk W b 29 #[.int .i64 d, .int .i64 m]) :
    (results Tryd.f59 tmps).run Tryd.prog W = .ok (.tuple #[.agg #[.int .i64 d, .int .i64 m], .int .i64 z]) W := by
  have c0 := h.c 0 _ rfl
  have c1 := h.c 1 _ rfl
  simp [results, Tryd.results59, go_sem, h4, h5, c0, c1]
set_option maxHeartbeats 2000000 in
theorem cto_any (a : Option Addr) (n c : Nat) (l : List Lp) (t : Int) (w : World) (h1 : Rw w a n c l) :
    Calls Tryd.prog 59 #[.slice a n c, .int .i64 t] w fun e w' => e = .returned (.tuple #[.agg #[.int .i64 (toF l t).1.1, .int .i64 (toF l t).1.2], .int .i64 (toF l t).2]) ∧ Ext w w' := by
  have hB := Bk.new w 29 #[.int .i64 0, .int .i64 0]
  have hE : Ext w (w.alloc (.cells #[.int .i64 0, .int .i64 0] 29)) := (Ext.refl w).alloc _
  go_enter Tryd.func59, Tryd.ntmps59
  go_upto_region 1 with fail
  generalize w.alloc (.cells #[.int .i64 0, .int .i64 0] 29) = W at *
  generalize hbe : w.heap.size = b at hB ⊢
  have hbs : w.heap.size ≤ b := Nat.le_of_eq hbe
  clear hbe
  go_wp2_with fail
  refine (lDay_any a n c l t W (h1.ext hE)).mono ?_
  rintro e w1 ⟨rfl, hx⟩
  replace hB := hB.ext hx
  replace hE := hE.trans hx
  clear hx
  have g0 := hB.c 0 _ rfl
  have g1 := hB.c 1 _ rfl
  have f0 := hB.free 0
  have f1 := hB.free 1
  rcases dayF_cases l t with hq | hq | ⟨d, hq, hr, hd, ht0, ht9⟩
  · have HR := Lib.hid (toF_err hq (by decide))
    rw [hq]
    clear hq
    go_wp2_with fail
    exact bodyPost_ret (res_to _ b 0 0 1 _ (by rfl) (by rfl) (hB.set2 _ _)) rfl ⟨by rw [HR.out], (hE.setCell (p := ⟨b, 0, none⟩) hbs _).setCell (p := ⟨b, 1, none⟩) hbs _⟩
  · have HR := Lib.hid (toF_err hq (by decide))
    rw [hq]
    clear hq
    go_wp2_with fail
    exact bodyPost_ret (res_to _ b 0 0 3 _ (by rfl) (by rfl) (hB.set2 _ _)) rfl ⟨by rw [HR.out], (hE.setCell (p := ⟨b, 0, none⟩) hbs _).setCell (p := ⟨b, 1, none⟩) hbs _⟩
  · have HR := Lib.hid (toF_of hq)
    have HF := Lib.hid (fndF_yes hr)
    have hb := startL_bd (rightL_iff.1 hr).1 (rightL_iff.1 hr).2.1 (by have := (rightL_iff.1 hr).2.2; omega)
    rw [hq]
    clear hq hr hd
    go_wp2_with fail
    refine (cfind_any a n c l d w1 (h1.ext hE)).mono ?_
    rintro e w2 ⟨rfl, hx⟩
    rw [HF.out]
    replace hB := hB.ext hx
    replace hE := hE.trans hx
    clear hx g0 g1 f0 f1
    generalize lenL l d = LL at *
    go_upto_region 5 with fail
    have hD := Bk.new w2 93 #[.int .i64 (startL l d), .int .i64 LL, .int .i64 d]
    replace hB := hB.ext ((Ext.refl w2).alloc (.cells #[.int .i64 (startL l d), .int .i64 LL, .int .i64 d] 93))
    replace hE := hE.alloc (.cells #[.int .i64 (startL l d), .int .i64 LL, .int .i64 d] 93)
    generalize w2.alloc (.cells #[.int .i64 (startL l d), .int .i64 LL, .int .i64 d] 93) = V at *
    have d0 := hD.c 0 _ rfl
    have d2 := hD.c 2 _ rfl
    have g0 := hB.c 0 _ rfl
    have g1 := hB.c 1 _ rfl
    have f0 := hB.free 0
    have f1 := hB.free 1
    go_wp2_with fail
    exact bodyPost_ret (res_to _ b d (t - startL l d) 0 _ (by rfl) (by rfl) (hB.set2 _ _)) rfl ⟨by rw [HR.out], (hE.setCell (p := ⟨b, 0, none⟩) hbs _).setCell (p := ⟨b, 1, none⟩) hbs _⟩

theorem ret_wall {d x r d' x' r' : Int} (h1 : d = d') (h2 : x = x') (h3 : r = r') : Ending.returned (.tuple #[.agg #[.int .i64 d, .int .i64 x, .int .i64 r], .int .i64 0]) = .returned (.tuple #[.agg #[.int .i64 d', .int .i64 x', .int .i64 r'], .int .i64 0]) := by rw [h1, h2, h3]

set_option maxHeartbeats 2000000 in
theorem cfrom_any (a : Option Addr) (n c : Nat) (l : List Lp) (day micro : Int) (w : World) (h1 : Rw w a n c l) :
    Calls Tryd.prog 58 #[.slice a n c, .agg #[.int .i64 day, .int .i64 micro]] w fun e w' => e = .returned (.tuple #[.int .i64 (froF l day micro).1, .int .i64 (froF l day micro).2]) ∧ Ext w w' := by
  have hB := Bk.new w 29 #[.int .i64 day, .int .i64 micro]
  have hE : Ext w (w.alloc (.cells #[.int .i64 day, .int .i64 micro] 29)) := (Ext.refl w).alloc _
  go_enter Tryd.func58, Tryd.ntmps58
  go_upto_region 1 with fail
  generalize w.alloc (.cells #[.int .i64 day, .int .i64 micro] 29) = W at *
  generalize w.heap.size = b at hB ⊢
  have g0 := hB.c 0 _ rfl
  have g1 := hB.c 1 _ rfl
  go_wp2_with fail
  refine (cfind_any a n c l day W (h1.ext hE)).mono ?_
  rintro e w1 ⟨rfl, hx⟩
  replace hB := hB.ext hx
  replace hE := hE.trans hx
  clear hx g0 g1
  rcases hr : rightL l day with _ | _
  · have HR : Hid (froF l day micro = (0, 1)) := Lib.hid (by unfold froF; rw [if_neg (fun h => by rw [hr] at h; cases h.1)])
    rw [fndF_no hr]
    clear hr
    go_wp2_with fail
    go_ret2
    exact ⟨by rw [HR.out]; rfl, hE.alloc _⟩
  rw [fndF_yes hr]
  have hb := startL_bd (rightL_iff.1 hr).1 (rightL_iff.1 hr).2.1 (by have := (rightL_iff.1 hr).2.2; omega)
  have hl := lenL_bd (rightL_iff.1 hr).1 day
  by_cases h0 : 0 ≤ micro
  · have h0' : ¬ micro < 0 := by omega
    have hF : froF l day micro = if micro < lenL l day then (startL l day + micro, 0) else (0, 40) := by unfold froF; rw [if_pos ⟨hr, h0⟩]
    generalize startL l day = S0 at *
    generalize lenL l day = L0 at *
    clear hr
    go_upto_region 2 with fail
    have hD := Bk.new w1 93 #[.int .i64 S0, .int .i64 L0, .int .i64 day]
    replace hB := hB.ext ((Ext.refl w1).alloc (.cells #[.int .i64 S0, .int .i64 L0, .int .i64 day] 93))
    replace hE := hE.alloc (.cells #[.int .i64 S0, .int .i64 L0, .int .i64 day] 93)
    generalize w1.alloc (.cells #[.int .i64 S0, .int .i64 L0, .int .i64 day] 93) = V at *
    have g1 := hB.c 1 _ rfl
    have d0 := hD.c 0 _ rfl
    have d1 := hD.c 1 _ rfl
    by_cases h9 : micro < L0
    · have HR : Hid (froF l day micro = (S0 + micro, 0)) := Lib.hid (by rw [hF, if_pos h9])
      have HI := Lib.hid (inW_yes (n := micro) (lo := 0) (hi := L0 - 1) h0 (by omega))
      clear hF
      go_wp2_with fail
      refine (chas_any S0 L0 micro V (by omega)).mono ?_
      rintro e w2 ⟨rfl, hx⟩
      rw [HI.out]
      replace hE := hE.trans hx
      replace g1 := hx.cell g1
      replace d0 := hx.cell d0
      replace d1 := hx.cell d1
      clear hx
      go_wp2_with fail
      refine (ctime_any S0 L0 micro w2 (by omega) (by omega)).mono ?_
      rintro e w3 ⟨rfl, hx⟩
      go_wp2_with fail
      go_ret2
      exact ⟨by rw [HR.out]; rfl, hE.trans hx⟩
    · have HR : Hid (froF l day micro = (0, 40)) := Lib.hid (by rw [hF, if_neg h9])
      have HI := Lib.hid (inW_no2 (n := micro) (lo := 0) (hi := L0 - 1) (by omega))
      clear hF
      go_wp2_with fail
      refine (chas_any S0 L0 micro V (by omega)).mono ?_
      rintro e w2 ⟨rfl, hx⟩
      rw [HI.out]
      replace hE := hE.trans hx
      clear hx
      go_wp2_with fail
      go_ret2
      exact ⟨by rw [HR.out]; rfl, hE⟩
  · have h0' : micro < 0 := by omega
    have HR : Hid (froF l day micro = (0, 1)) := Lib.hid (by unfold froF; rw [if_neg (fun h => h0 h.2)])
    generalize startL l day = S0 at *
    generalize lenL l day = L0 at *
    clear hr
    go_upto_region 2 with fail
    have hD := Bk.new w1 93 #[.int .i64 S0, .int .i64 L0, .int .i64 day]
    replace hB := hB.ext ((Ext.refl w1).alloc (.cells #[.int .i64 S0, .int .i64 L0, .int .i64 day] 93))
    replace hE := hE.alloc (.cells #[.int .i64 S0, .int .i64 L0, .int .i64 day] 93)
    generalize w1.alloc (.cells #[.int .i64 S0, .int .i64 L0, .int .i64 day] 93) = V at *
    have g1 := hB.c 1 _ rfl
    go_wp2_with fail
    all_goals (go_ret2; exact ⟨by rw [HR.out]; rfl, hE⟩)
end Go.Proofs.YtcohdojfbnijpaaDoor
