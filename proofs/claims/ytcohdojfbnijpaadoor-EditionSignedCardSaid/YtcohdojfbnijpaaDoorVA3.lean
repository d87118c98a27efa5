/-
  The reference's To, From, Show, Find, walked.
-/
import Derived.Test.YtcohdojfbnijpaaDoorVA2
import Derived.Test.YtcohdojfbnijpaaDoorVS
namespace Go.Proofs.YtcohdojfbnijpaaDoor
open Go.RowKit Go.Sort Go.Shelf
set_option linter.unusedSimpArgs false
set_option linter.unusedVariables false
set_option maxRecDepth 100000

theorem res_r18to (W : World) (b : Nat) (d m z : Int) (tmps : Array Value) (h4 : tmps[4]?.getD undef = .pointer (some ⟨b, 0, none⟩)) (h5 : tmps[5]?.getD undef = .int .i64 z) (h : Bk W b 29 #[.int .i64 d, .int .i64 m]) :
    (results Tryd.f61 tmps).run Tryd.prog W = .ok (.tuple #[.agg #[.int .i64 d, .int .i64 m], .int .i64 z]) W := by
  have c0 := h.c 0 _ rfl
  have c1 := h.c 1 _ rfl
  simp [results, Tryd.results61, go_sem, h4, h5, c0, c1]
set_option maxHeartbeats 2000000 in
theorem r18to_any (a : Option Addr) (n c : Nat) (l : List Lp) (t : Int) (w : World) (h1 : Rw w a n c l) :
    Calls Tryd.prog 61 #[.slice a n c, .int .i64 t] w fun e w' => e = .returned (.tuple #[.agg #[.int .i64 (toF l t).1.1, .int .i64 (toF l t).1.2], .int .i64 (toF l t).2]) ∧ Ext w w' := by
  have hB := Bk.new w 29 #[.int .i64 0, .int .i64 0]
  have hE : Ext w (w.alloc (.cells #[.int .i64 0, .int .i64 0] 29)) := (Ext.refl w).alloc _
  go_enter Tryd.func61, Tryd.ntmps61
  go_upto_region 1 with fail
  generalize w.alloc (.cells #[.int .i64 0, .int .i64 0] 29) = W at *
  generalize hbe : w.heap.size = b at hB ⊢
  have hbs : w.heap.size ≤ b := Nat.le_of_eq hbe
  clear hbe
  go_wp2_with fail
  refine (r17Day_any a n c l t W (h1.ext hE)).mono ?_
  rintro e w1 ⟨rfl, hx⟩
  replace hB := hB.ext hx
  replace hE := hE.trans hx
  clear hx
  have g0 := hB.c 0 _ rfl
  have g1 := hB.c 1 _ rfl
  have f0 := hB.free 0
  have f1 := hB.free 1
  rcases dayF_cases l t with hq | hq | ⟨d, hq, hr, hd, ht0, ht9⟩
  · have HR := Lib.hid (toF_err hq (by decide))
    rw [hq]
    clear hq
    go_wp2_with fail
    exact bodyPost_ret (res_r18to _ b 0 0 1 _ (by rfl) (by rfl) (hB.set2 _ _)) rfl ⟨by rw [HR.out], (hE.setCell (p := ⟨b, 0, none⟩) hbs _).setCell (p := ⟨b, 1, none⟩) hbs _⟩
  · have HR := Lib.hid (toF_err hq (by decide))
    rw [hq]
    clear hq
    go_wp2_with fail
    exact bodyPost_ret (res_r18to _ b 0 0 3 _ (by rfl) (by rfl) (hB.set2 _ _)) rfl ⟨by rw [HR.out], (hE.setCell (p := ⟨b, 0, none⟩) hbs _).setCell (p := ⟨b, 1, none⟩) hbs _⟩
  · have HR := Lib.hid (toF_of hq)
    have HS : Hid (startF l d = (startL l d, 0)) := Lib.hid (by unfold startF; rw [if_pos hr])
    have hb := startL_bd (rightL_iff.1 hr).1 (rightL_iff.1 hr).2.1 (by have := (rightL_iff.1 hr).2.2; omega)
    rw [hq]
    clear hq hr hd
    go_wp2_with fail
    refine (r17Start_any a n c l d w1 (h1.ext hE)).mono ?_
    rintro e w2 ⟨rfl, hx⟩
    rw [HS.out]
    replace hB := hB.ext hx
    replace hE := hE.trans hx
    clear hx g0 g1 f0 f1 HS
    generalize startL l d = S0 at *
    have g0 := hB.c 0 _ rfl
    have g1 := hB.c 1 _ rfl
    have f0 := hB.free 0
    have f1 := hB.free 1
    go_wp2_with fail
    exact bodyPost_ret (res_r18to _ b d (t - S0) 0 _ (by rfl) (by rfl) (hB.set2 _ _)) rfl ⟨by rw [HR.out], (hE.setCell (p := ⟨b, 0, none⟩) hbs _).setCell (p := ⟨b, 1, none⟩) hbs _⟩

set_option maxHeartbeats 2000000 in
theorem r18from_any (a : Option Addr) (n c : Nat) (l : List Lp) (day micro : Int) (w : World) (h1 : Rw w a n c l) :
    Calls Tryd.prog 60 #[.slice a n c, .agg #[.int .i64 day, .int .i64 micro]] w fun e w' => e = .returned (.tuple #[.int .i64 (froF l day micro).1, .int .i64 (froF l day micro).2]) ∧ Ext w w' := by
  have hB := Bk.new w 29 #[.int .i64 day, .int .i64 micro]
  have hE : Ext w (w.alloc (.cells #[.int .i64 day, .int .i64 micro] 29)) := (Ext.refl w).alloc _
  go_enter Tryd.func60, Tryd.ntmps60
  go_upto_region 1 with fail
  generalize w.alloc (.cells #[.int .i64 day, .int .i64 micro] 29) = W at *
  generalize w.heap.size = b at hB ⊢
  have g0 := hB.c 0 _ rfl
  have g1 := hB.c 1 _ rfl
  go_wp2_with fail
  refine (r17Length_any a n c l day W (h1.ext hE)).mono ?_
  rintro e w1 ⟨rfl, hx⟩
  replace hB := hB.ext hx
  replace hE := hE.trans hx
  clear hx g0 g1
  have g0 := hB.c 0 _ rfl
  have g1 := hB.c 1 _ rfl
  rcases hr : rightL l day with _ | _
  · have HR : Hid (froF l day micro = (0, 1)) := Lib.hid (by unfold froF; rw [if_neg (fun h => by rw [hr] at h; cases h.1)])
    rw [show lengthF l day = (0, 1) by unfold lengthF; rw [hr]; rfl]
    clear hr
    go_wp2_with fail
    go_ret2
    exact ⟨by rw [HR.out]; rfl, hE⟩
  rw [show lengthF l day = (lenL l day, 0) by unfold lengthF; rw [hr]; rfl]
  have HS : Hid (startF l day = (startL l day, 0)) := Lib.hid (by unfold startF; rw [if_pos hr])
  have hb := startL_bd (rightL_iff.1 hr).1 (rightL_iff.1 hr).2.1 (by have := (rightL_iff.1 hr).2.2; omega)
  have hl := lenL_bd (rightL_iff.1 hr).1 day
  by_cases h0 : 0 ≤ micro
  · have h0' : ¬ micro < 0 := by omega
    have hF : froF l day micro = if micro < lenL l day then (startL l day + micro, 0) else (0, 40) := by unfold froF; rw [if_pos ⟨hr, h0⟩]
    generalize startL l day = S0 at *
    generalize lenL l day = L0 at *
    clear hr
    by_cases h9 : micro < L0
    · have HR : Hid (froF l day micro = (S0 + micro, 0)) := Lib.hid (by rw [hF, if_pos h9])
      have h9' : ¬ L0 ≤ micro := by omega
      clear hF
      have hl2 : L0 ≤ 86401000000 := by omega
      clear hl
      go_wp2_with fail
      refine (r17Start_any a n c l day w1 (h1.ext hE)).mono ?_
      rintro e w2 ⟨rfl, hx⟩
      rw [HS.out]
      replace hE := hE.trans hx
      replace g1 := hx.cell g1
      clear hx
      go_wp2_with fail
      go_ret2
      exact ⟨by rw [HR.out]; rfl, hE⟩
    · have HR : Hid (froF l day micro = (0, 40)) := Lib.hid (by rw [hF, if_neg h9])
      have h9' : L0 ≤ micro := by omega
      clear hF hl
      go_wp2_with fail
      go_ret2
      exact ⟨by rw [HR.out]; rfl, hE⟩
  · have h0' : micro < 0 := by omega
    have HR : Hid (froF l day micro = (0, 1)) := Lib.hid (by unfold froF; rw [if_neg (fun h => h0 h.2)])
    generalize startL l day = S0 at *
    generalize lenL l day = L0 at *
    clear hr hl
    go_wp2_with fail
    go_ret2
    exact ⟨by rw [HR.out]; rfl, hE⟩

end Go.Proofs.YtcohdojfbnijpaaDoor
