/-
  The reference's To, From, Show, Find, walked.
-/
import Derived.Test.YtchbeheekahhiaaDoorVA2
namespace Go.Proofs.YtchbeheekahhiaaDoor
open Go.RowKit Go.Sort Go.Shelf
set_option linter.unusedSimpArgs false
set_option linter.unusedVariables false
set_option maxRecDepth 100000

theorem res_r18to (W : World) (b : Nat) (d m z : Int) (tmps : Array Value) (h4 : tmps[4]?.getD undef = .pointer (some ⟨b, 0, none⟩)) (h5 : tmps[5]?.getD undef = .int .i64 z) (h : Bk W b 24 #[.int .i64 d, .int .i64 m]) :
    (results Tryd.f12 tmps).run Tryd.prog W = .ok (.tuple #[.agg #[.int .i64 d, .int .i64 m], .int .i64 z]) W := by
  have c0 := h.c 0 _ rfl
  have c1 := h.c 1 _ rfl
  simp [results, Tryd.results12, go_sem, h4, h5, c0, c1]
theorem res_r18show (W : World) (b : Nat) (d m s z : Int) (tmps : Array Value) (h4 : tmps[4]?.getD undef = .pointer (some ⟨b, 0, none⟩)) (h5 : tmps[5]?.getD undef = .int .i64 z) (h : Bk W b 26 #[.int .i64 d, .int .i64 m, .int .i64 s]) :
    (results Tryd.f16 tmps).run Tryd.prog W = .ok (.tuple #[.agg #[.int .i64 d, .int .i64 m, .int .i64 s], .int .i64 z]) W := by
  have c0 := h.c 0 _ rfl
  have c1 := h.c 1 _ rfl
  have c2 := h.c 2 _ rfl
  simp [results, Tryd.results16, go_sem, h4, h5, c0, c1, c2]

set_option maxHeartbeats 2000000 in
theorem r18to_any (a : Option Addr) (n c : Nat) (l : List Lp) (t : Int) (w : World) (h1 : Rw w a n c l) :
    Calls Tryd.prog 12 #[.slice a n c, .int .i64 t] w fun e w' => e = .returned (.tuple #[.agg #[.int .i64 (toF l t).1.1, .int .i64 (toF l t).1.2], .int .i64 (toF l t).2]) ∧ Ext w w' := by
  have hB := Bk.new w 24 #[.int .i64 0, .int .i64 0]
  have hE : Ext w (w.alloc (.cells #[.int .i64 0, .int .i64 0] 24)) := (Ext.refl w).alloc _
  go_enter Tryd.func12, Tryd.ntmps12
  go_upto_region 1 with fail
  generalize w.alloc (.cells #[.int .i64 0, .int .i64 0] 24) = W at *
  generalize hbe : w.heap.size = b at hB ⊢
  have hbs : w.heap.size ≤ b := Nat.le_of_eq hbe
  clear hbe
  go_wp2_with fail
  refine (r17Day_any a n c l t W (h1.ext hE)).mono ?_
  rintro e w1 ⟨rfl, hx⟩
  replace hB := hB.ext hx
  replace hE := hE.trans hx
  clear hx
  have g0 := hB.c 0 _ rfl
  have g1 := hB.c 1 _ rfl
  have f0 := hB.free 0
  have f1 := hB.free 1
  rcases dayF_cases l t with hq | hq | ⟨d, hq, hr, hd, ht0, ht9⟩
  · have HR := Lib.hid (toF_err hq (by decide))
    rw [hq]
    clear hq
    go_wp2_with fail
    exact bodyPost_ret (res_r18to _ b 0 0 1 _ (by rfl) (by rfl) (hB.set2 _ _)) rfl ⟨by rw [HR.out], (hE.setCell (p := ⟨b, 0, none⟩) hbs _).setCell (p := ⟨b, 1, none⟩) hbs _⟩
  · have HR := Lib.hid (toF_err hq (by decide))
    rw [hq]
    clear hq
    go_wp2_with fail
    exact bodyPost_ret (res_r18to _ b 0 0 3 _ (by rfl) (by rfl) (hB.set2 _ _)) rfl ⟨by rw [HR.out], (hE.setCell (p := ⟨b, 0, none⟩) hbs _).setCell (p := ⟨b, 1, none⟩) hbs _⟩
  · have HR := Lib.hid (toF_of hq)
    have HS : Hid (startF l d = (startL l d, 0)) := Lib.hid (by unfold startF; rw [if_pos hr])
    have hb := startL_bd (rightL_iff.1 hr).1 (rightL_iff.1 hr).2.1 (by have := (rightL_iff.1 hr).2.2; omega)
    rw [hq]
    clear hq hr hd
    go_wp2_with fail
    refine (r17Start_any a n c l d w1 (h1.ext hE)).mono ?_
    rintro e w2 ⟨rfl, hx⟩
    rw [HS.out]
    replace hB := hB.ext hx
    replace hE := hE.trans hx
    clear hx g0 g1 f0 f1 HS
    generalize startL l d = S0 at *
    have g0 := hB.c 0 _ rfl
    have g1 := hB.c 1 _ rfl
    have f0 := hB.free 0
    have f1 := hB.free 1
    go_wp2_with fail
    exact bodyPost_ret (res_r18to _ b d (t - S0) 0 _ (by rfl) (by rfl) (hB.set2 _ _)) rfl ⟨by rw [HR.out], (hE.setCell (p := ⟨b, 0, none⟩) hbs _).setCell (p := ⟨b, 1, none⟩) hbs _⟩

set_option maxHeartbeats 2000000 in
theorem r18show_any (a : Option Addr) (n c : Nat) (l : List Lp) (t : Int) (w : World) (h1 : Rw w a n c l) :
    Calls Tryd.prog 16 #[.slice a n c, .int .i64 t] w fun e w' => e = .returned (.tuple #[.agg #[.int .i64 (shoF l t).1.1, .int .i64 (shoF l t).1.2.1, .int .i64 (shoF l t).1.2.2], .int .i64 (shoF l t).2]) ∧ Ext w w' := by
  have hB := Bk.new w 26 #[.int .i64 0, .int .i64 0, .int .i64 0]
  have hE : Ext w (w.alloc (.cells #[.int .i64 0, .int .i64 0, .int .i64 0] 26)) := (Ext.refl w).alloc _
  go_enter Tryd.func16, Tryd.ntmps16
  go_upto_region 1 with fail
  generalize w.alloc (.cells #[.int .i64 0, .int .i64 0, .int .i64 0] 26) = W at *
  generalize hbe : w.heap.size = b at hB ⊢
  have hbs : w.heap.size ≤ b := Nat.le_of_eq hbe
  clear hbe
  go_wp2_with fail
  refine (r18to_any a n c l t W (h1.ext hE)).mono ?_
  rintro e w1 ⟨rfl, hx⟩
  replace hB := hB.ext hx
  replace hE := hE.trans hx
  clear hx
  have hcase : (toF l t = ((0, 0), 1) ∨ toF l t = ((0, 0), 3)) ∨ ∃ d, toF l t = ((d, t - startL l d), 0) ∧ 0 ≤ t - startL l d ∧ t - startL l d < 86401000000 := by
    rcases dayF_cases l t with hq | hq | ⟨d, hq, hr, hd, ht0, ht9⟩
    · exact .inl (.inl (toF_err hq (by decide)))
    · exact .inl (.inr (toF_err hq (by decide)))
    · have := isDay_micro hd
      have := lenL_bd (rightL_iff.1 hr).1 d
      exact .inr ⟨d, toF_of hq, by omega, by omega⟩
  rcases hcase with (hq | hq) | ⟨d, hq, hm0, hm9⟩
  · have HR : Hid (shoF l t = ((0, 0, 0), 1)) := Lib.hid (by unfold shoF; rw [hq, if_neg (by decide)])
    rw [hq]
    clear hq
    go_upto_region 2 with fail
    have hD := Bk.new w1 24 #[.int .i64 0, .int .i64 0]
    replace hB := hB.ext ((Ext.refl w1).alloc (.cells #[.int .i64 0, .int .i64 0] 24))
    replace hE := hE.alloc (.cells #[.int .i64 0, .int .i64 0] 24)
    generalize w1.alloc (.cells #[.int .i64 0, .int .i64 0] 24) = V at *
    have g0 := hB.c 0 _ rfl
    have g1 := hB.c 1 _ rfl
    have g2 := hB.c 2 _ rfl
    have f0 := hB.free 0
    have f1 := hB.free 1
    have f2 := hB.free 2
    go_wp2_with fail
    exact bodyPost_ret (res_r18show _ b 0 0 0 1 _ (by rfl) (by rfl) (hB.set3 _ _ _)) rfl ⟨by rw [HR.out], ((hE.setCell (p := ⟨b, 0, none⟩) hbs _).setCell (p := ⟨b, 1, none⟩) hbs _).setCell (p := ⟨b, 2, none⟩) hbs _⟩
  · have HR : Hid (shoF l t = ((0, 0, 0), 3)) := Lib.hid (by unfold shoF; rw [hq, if_neg (by decide)])
    rw [hq]
    clear hq
    go_upto_region 2 with fail
    have hD := Bk.new w1 24 #[.int .i64 0, .int .i64 0]
    replace hB := hB.ext ((Ext.refl w1).alloc (.cells #[.int .i64 0, .int .i64 0] 24))
    replace hE := hE.alloc (.cells #[.int .i64 0, .int .i64 0] 24)
    generalize w1.alloc (.cells #[.int .i64 0, .int .i64 0] 24) = V at *
    have g0 := hB.c 0 _ rfl
    have g1 := hB.c 1 _ rfl
    have g2 := hB.c 2 _ rfl
    have f0 := hB.free 0
    have f1 := hB.free 1
    have f2 := hB.free 2
    go_wp2_with fail
    exact bodyPost_ret (res_r18show _ b 0 0 0 3 _ (by rfl) (by rfl) (hB.set3 _ _ _)) rfl ⟨by rw [HR.out], ((hE.setCell (p := ⟨b, 0, none⟩) hbs _).setCell (p := ⟨b, 1, none⟩) hbs _).setCell (p := ⟨b, 2, none⟩) hbs _⟩
  · have HR : Hid (shoF l t = ((d, min ((t - startL l d) / 1000000) 86399, (t - startL l d) % 1000000), 0)) := Lib.hid (by unfold shoF; rw [hq, if_pos rfl])
    rw [hq]
    clear hq
    generalize t - startL l d = M at *
    go_upto_region 2 with fail
    have hD := Bk.new w1 24 #[.int .i64 d, .int .i64 M]
    replace hB := hB.ext ((Ext.refl w1).alloc (.cells #[.int .i64 d, .int .i64 M] 24))
    replace hE := hE.alloc (.cells #[.int .i64 d, .int .i64 M] 24)
    generalize w1.alloc (.cells #[.int .i64 d, .int .i64 M] 24) = V at *
    have d0 := hD.c 0 _ rfl
    have d1 := hD.c 1 _ rfl
    have g0 := hB.c 0 _ rfl
    have g1 := hB.c 1 _ rfl
    have g2 := hB.c 2 _ rfl
    have f0 := hB.free 0
    have f1 := hB.free 1
    have f2 := hB.free 2
    go_wp2_with fail
    all_goals exact bodyPost_ret (res_r18show _ b d _ _ 0 _ (by rfl) (by rfl) (hB.set3 _ _ _)) rfl ⟨by rw [HR.out] <;> exact ret_wall (d' := d) (x' := min (M / 1000000) 86399) (r' := M % 1000000) rfl (by omega) rfl, ((hE.setCell (p := ⟨b, 0, none⟩) hbs _).setCell (p := ⟨b, 1, none⟩) hbs _).setCell (p := ⟨b, 2, none⟩) hbs _⟩

set_option maxHeartbeats 2000000 in
theorem r18from_any (a : Option Addr) (n c : Nat) (l : List Lp) (day micro : Int) (w : World) (h1 : Rw w a n c l) :
    Calls Tryd.prog 14 #[.slice a n c, .agg #[.int .i64 day, .int .i64 micro]] w fun e w' => e = .returned (.tuple #[.int .i64 (froF l day micro).1, .int .i64 (froF l day micro).2]) ∧ Ext w w' := by
  have hB := Bk.new w 24 #[.int .i64 day, .int .i64 micro]
  have hE : Ext w (w.alloc (.cells #[.int .i64 day, .int .i64 micro] 24)) := (Ext.refl w).alloc _
  go_enter Tryd.func14, Tryd.ntmps14
  go_upto_region 1 with fail
  generalize w.alloc (.cells #[.int .i64 day, .int .i64 micro] 24) = W at *
  generalize w.heap.size = b at hB ⊢
  have g0 := hB.c 0 _ rfl
  have g1 := hB.c 1 _ rfl
  go_wp2_with fail
  refine (r17Length_any a n c l day W (h1.ext hE)).mono ?_
  rintro e w1 ⟨rfl, hx⟩
  replace hB := hB.ext hx
  replace hE := hE.trans hx
  clear hx g0 g1
  have g0 := hB.c 0 _ rfl
  have g1 := hB.c 1 _ rfl
  rcases hr : rightL l day with _ | _
  · have HR : Hid (froF l day micro = (0, 1)) := Lib.hid (by unfold froF; rw [if_neg (fun h => by rw [hr] at h; cases h.1)])
    rw [show lengthF l day = (0, 1) by unfold lengthF; rw [hr]; rfl]
    clear hr
    go_wp2_with fail
    go_ret2
    exact ⟨by rw [HR.out]; rfl, hE⟩
  rw [show lengthF l day = (lenL l day, 0) by unfold lengthF; rw [hr]; rfl]
  have HS : Hid (startF l day = (startL l day, 0)) := Lib.hid (by unfold startF; rw [if_pos hr])
  have hb := startL_bd (rightL_iff.1 hr).1 (rightL_iff.1 hr).2.1 (by have := (rightL_iff.1 hr).2.2; omega)
  have hl := lenL_bd (rightL_iff.1 hr).1 day
  by_cases h0 : 0 ≤ micro
  · have h0' : ¬ micro < 0 := by omega
    have hF : froF l day micro = if micro < lenL l day then (startL l day + micro, 0) else (0, 40) := by unfold froF; rw [if_pos ⟨hr, h0⟩]
    generalize startL l day = S0 at *
    generalize lenL l day = L0 at *
    clear hr
    by_cases h9 : micro < L0
    · have HR : Hid (froF l day micro = (S0 + micro, 0)) := Lib.hid (by rw [hF, if_pos h9])
      have h9' : ¬ L0 ≤ micro := by omega
      clear hF
      have hl2 : L0 ≤ 86401000000 := by omega
      clear hl
      go_wp2_with fail
      refine (r17Start_any a n c l day w1 (h1.ext hE)).mono ?_
      rintro e w2 ⟨rfl, hx⟩
      rw [HS.out]
      replace hE := hE.trans hx
      replace g1 := hx.cell g1
      clear hx
      go_wp2_with fail
      go_ret2
      exact ⟨by rw [HR.out]; rfl, hE⟩
    · have HR : Hid (froF l day micro = (0, 40)) := Lib.hid (by rw [hF, if_neg h9])
      have h9' : L0 ≤ micro := by omega
      clear hF hl
      go_wp2_with fail
      go_ret2
      exact ⟨by rw [HR.out]; rfl, hE⟩
  · have h0' : micro < 0 := by omega
    have HR : Hid (froF l day micro = (0, 1)) := Lib.hid (by unfold froF; rw [if_neg (fun h => h0 h.2)])
    generalize startL l day = S0 at *
    generalize lenL l day = L0 at *
    clear hr hl
    go_wp2_with fail
    go_ret2
    exact ⟨by rw [HR.out]; rfl, hE⟩

set_option maxHeartbeats 4000000 in
theorem r18find_any (a : Option Addr) (n c : Nat) (l : List Lp) (day sec mic : Int) (w : World) (h1 : Rw w a n c l) :
    Calls Tryd.prog 18 #[.slice a n c, .agg #[.int .i64 day, .int .i64 sec, .int .i64 mic]] w (FdP l day sec mic w) := by
  have hB := Bk.new w 26 #[.int .i64 day, .int .i64 sec, .int .i64 mic]
  have hE : Ext w (w.alloc (.cells #[.int .i64 day, .int .i64 sec, .int .i64 mic] 26)) := (Ext.refl w).alloc _
  go_enter Tryd.func18, Tryd.ntmps18
  go_upto_region 1 with fail
  generalize w.alloc (.cells #[.int .i64 day, .int .i64 sec, .int .i64 mic] 26) = W at *
  generalize w.heap.size = b at hB ⊢
  have g0 := hB.c 0 _ rfl
  go_wp2_with fail
  refine (r17Length_any a n c l day W (h1.ext hE)).mono ?_
  rintro e w1 ⟨rfl, hx⟩
  replace hB := hB.ext hx
  replace hE := hE.trans hx
  clear hx g0
  rcases hr : rightL l day with _ | _
  · have HR : Hid (fdF l day sec mic = ([], 1)) := Lib.hid (by unfold fdF; rw [if_neg (fun h => by rw [hr] at h; cases h.1)])
    rw [show lengthF l day = (0, 1) by unfold lengthF; rw [hr]; rfl]
    clear hr
    go_wp2_with fail
    go_ret2
    exact ⟨none, 0, 0, by rw [HR.out]; rfl, by rw [HR.out]; exact OwI.nil _ _ _ _, hE⟩
  rw [show lengthF l day = (lenL l day, 0) by unfold lengthF; rw [hr]; rfl]
  have HS : Hid (startF l day = (startL l day, 0)) := Lib.hid (by unfold startF; rw [if_pos hr])
  have hday := (rightL_iff.1 hr).2
  have hb := startL_bd (rightL_iff.1 hr).1 (rightL_iff.1 hr).2.1 (by have := (rightL_iff.1 hr).2.2; omega)
  have hl := lenL_bd (rightL_iff.1 hr).1 day
  have HW : Hid (walB day sec mic = (inW sec 0 86399 && inW mic 0 999999)) := Lib.hid (by unfold walB; rw [inW_yes hday.1 hday.2]; rfl)
  have hF : (inW sec 0 86399 && inW mic 0 999999) = true → fdF l day sec mic = (fndT (startL l day) (lenL l day) sec mic, 0) := fun h => by
    rw [Bool.and_eq_true] at h
    unfold fdF; rw [if_pos ⟨hr, h.1, h.2⟩]
  have hN : (inW sec 0 86399 && inW mic 0 999999) = false → fdF l day sec mic = ([], 1) := fun h => by
    unfold fdF
    rw [if_neg]
    rintro ⟨-, h2, h3⟩
    rw [h2, h3] at h
    cases h
  generalize startL l day = S0 at *
  generalize lenL l day = L0 at *
  clear hr hday
  have g0 := hB.c 0 _ rfl
  have g1 := hB.c 1 _ rfl
  have g2 := hB.c 2 _ rfl
  go_wp2_with fail
  refine (rwall_any day sec mic w1).mono ?_
  rintro e w2 ⟨rfl, hx⟩
  rw [HW.out]
  replace hB := hB.ext hx
  replace hE := hE.trans hx
  clear hx g0 g1 g2
  rcases hs : (inW sec 0 86399 && inW mic 0 999999) with _ | _
  · have HR := Lib.hid (hN hs)
    clear hs hF hN
    go_wp2_with fail
    go_ret2
    exact ⟨none, 0, 0, by rw [HR.out]; rfl, by rw [HR.out]; exact OwI.nil _ _ _ _, hE⟩
  have HR := Lib.hid (hF hs)
  rw [Bool.and_eq_true] at hs
  have hsec := inW_iff.1 hs.1
  have hmic := inW_iff.1 hs.2
  clear hs hF hN HW
  have g0 := hB.c 0 _ rfl
  have g1 := hB.c 1 _ rfl
  go_wp2_with fail
  refine (r17Start_any a n c l day w2 (h1.ext hE)).mono ?_
  rintro e V ⟨rfl, hx⟩
  rw [HS.out]
  replace hB := hB.ext hx
  replace hE := hE.trans hx
  clear hx g0 g1
  have g1 := hB.c 1 _ rfl
  go_upto_region 7 with fail
  obtain ⟨F0, hF0⟩ : ∃ F0, sec * 1000000 + mic = F0 := ⟨_, rfl⟩
  have HT : Hid (fndT S0 L0 sec mic = if F0 < L0 then (if sec = 86399 ∧ F0 + 1000000 < L0 then [S0 + F0, S0 + (F0 + 1000000)] else [S0 + F0]) else []) := Lib.hid (by unfold fndT; rw [hF0])
  have HF0 := Lib.hid hF0
  have hFb : 0 ≤ F0 ∧ F0 < 86400000000 := by omega
  have HSG : Hid (sec = 86399 → 86399000000 ≤ F0) := Lib.hid (by omega)
  have HSL : Hid (sec ≠ 86399 → F0 < 86399000000) := Lib.hid (by omega)
  have HLL := Lib.hid hl
  have hL9 : 86399000000 ≤ L0 ∧ L0 ≤ 86401000000 := by omega
  clear hl hF0 g1 HS
  have hVs : w.heap.size ≤ V.heap.size := hE.sz
  go_loopw [10, 11] (fun o mi wr => ∃ (k : Int) (aa : Option Addr) (m cc : Nat), sec ≤ k ∧ k ≤ 86401 ∧ mi = .int .i64 k ∧ o = .slice aa m cc ∧ m ≤ 2 ∧ Hid ((k = sec ∧ m = 0 ∧ OwI .i64 3 V.heap.size wr aa m cc []) ∨ (sec < k ∧ (sec = 86399 → k = 86400) ∧ ((F0 < L0 ∧ m = 1 ∧ OwI .i64 3 V.heap.size wr aa m cc [S0 + F0]) ∨ (¬ F0 < L0 ∧ m = 0 ∧ OwI .i64 3 V.heap.size wr aa m cc []))) ∨ (sec = 86399 ∧ k = 86401 ∧ OwI .i64 3 V.heap.size wr aa m cc (fndT S0 L0 sec mic))) ∧ Ext V wr) (fun _ mi _ => (86402 - intOf mi).toNat)
  case atStart => exact ⟨sec, none, 0, 0, by omega, by omega, rfl, rfl, by omega, Lib.hid (.inl ⟨rfl, rfl, OwI.nil _ _ _ _⟩), Ext.refl _⟩
  case round =>
    obtain ⟨k, aa, m, cc, hk, hk9, rfl, rfl, hm2, hO, hx⟩ := hrel
    have hBr := hB.ext hx
    have hEr := hE.trans hx
    have g1 := hBr.c 1 _ rfl
    have g2 := hBr.c 2 _ rfl
    have hz := hx.sz
    by_cases hlast : k ≤ 86400
    · have hl' : ¬ 86400 < k := by omega
      rcases hO.out with ⟨rfl, rfl, ho⟩ | ⟨hks, hks2, hoo⟩ | ⟨-, h2, -⟩
      · clear hO
        rw [show k = k from rfl] at *
        have hmin : k ≤ 86399 := by omega
        have hm9 : k * 1000000 + mic = F0 := HF0.out
        have hkn : k = 86399 → k + 1 = 86400 := by omega
        have HKN := Lib.hid hkn
        clear hkn
        by_cases hlt : F0 < L0
        · have hq : k * 1000000 + mic < L0 := by omega
          have HM9 := Lib.hid hm9
          clear hm9
          go_wp2_with (at_builtin; refine app1 el_i64 rfl _ _ rfl _ V.heap.size _ _ _ _ _ rfl ho rfl hz (by unfold maxLen; omega) (by omega) ?_; intro g5 c5 w5 ho5 hB5; refine hold ?_)
          refine held ?_
          have hE5 : Ext V w5 := Below.trans hx hB5
          rw [HM9.out] at ho5
          go_wp2_with fail
          exact ⟨⟨k + 1, _, 1, c5, by omega, by omega, rfl, rfl, by omega, Lib.hid (.inr (.inl ⟨by omega, HKN.out, .inl ⟨hlt, rfl, ho5⟩⟩)), hE5⟩, by simp only [intOf]; omega⟩
        · have hq : ¬ k * 1000000 + mic < L0 := by omega
          clear hm9
          go_wp2_with fail
          exact ⟨⟨k + 1, _, 0, _, by omega, by omega, rfl, rfl, by omega, Lib.hid (.inr (.inl ⟨by omega, HKN.out, .inr ⟨hlt, rfl, ho⟩⟩)), hx⟩, by simp only [intOf]; omega⟩
      · clear hO
        by_cases hs9 : sec = 86399
        · have hk4 := hks2 hs9
          have hfg := HSG.out hs9
          have h2nd : 86400 * 1000000 + mic = F0 + 1000000 := by have := HF0.out; omega
          subst hk4
          have HS9 := Lib.hid hs9
          by_cases hlt2 : F0 + 1000000 < L0
          · rcases hoo with ⟨hlt, rfl, ho⟩ | ⟨hlt, -, -⟩
            · have hTT : fndT S0 L0 sec mic = [S0 + F0] ++ [S0 + (F0 + 1000000)] := by rw [HT.out, if_pos hlt, if_pos ⟨hs9, hlt2⟩]; rfl
              have HTT := Lib.hid hTT
              have hq : 86400000000 + mic < L0 := by omega
              have H2 : Hid (86400000000 + mic = F0 + 1000000) := Lib.hid (by omega)
              clear hTT h2nd hks2
              subst hs9
              go_wp2_with (at_builtin; refine app1 el_i64 rfl _ _ rfl _ V.heap.size _ _ _ _ _ rfl ho rfl hz (by unfold maxLen; omega) (by omega) ?_; intro g5 c5 w5 ho5 hB5; refine hold ?_)
              refine held ?_
              have hE5 : Ext V w5 := Below.trans hx hB5
              rw [H2.out, ← HTT.out] at ho5
              go_wp2_with fail
              exact ⟨⟨86401, _, 2, c5, by omega, by omega, rfl, rfl, by omega, Lib.hid (.inr (.inr ⟨HS9.out, rfl, ho5⟩)), hE5⟩, by simp only [intOf]; omega⟩
            · omega
          · have hq : ¬ 86400000000 + mic < L0 := by omega
            have hTT : ∀ (m : Nat), ((F0 < L0 ∧ m = 1 ∧ OwI .i64 3 V.heap.size wr aa m cc [S0 + F0]) ∨ (¬ F0 < L0 ∧ m = 0 ∧ OwI .i64 3 V.heap.size wr aa m cc [])) → OwI .i64 3 V.heap.size wr aa m cc (fndT S0 L0 sec mic) := by
              intro m h
              rw [HT.out]
              rcases h with ⟨h1, -, h2⟩ | ⟨h1, -, h2⟩
              · rw [if_pos h1, if_neg (fun h => hlt2 h.2)]; exact h2
              · rw [if_neg h1]; exact h2
            have HTT := Lib.hid (hTT _ hoo)
            clear hTT hoo h2nd hks2
            subst hs9
            go_wp2_with fail
            exact ⟨⟨86401, _, m, _, by omega, by omega, rfl, rfl, hm2, Lib.hid (.inr (.inr ⟨by first | exact HS9.out | trivial, by first | rfl | trivial, HTT.out⟩)), hx⟩, by simp only [intOf]; omega⟩
        · have HOO := Lib.hid hoo
          have HS9 := Lib.hid hs9
          clear hoo hks2
          by_cases hq : k * 1000000 + mic < L0
          · by_cases hk3 : k ≤ 86399
            · have hne : ¬ k = sec := by omega
              have hne2 := beq_eq_false_iff_ne.2 hne
              clear hs9
              go_wp2_with fail
              exact ⟨⟨k + 1, _, m, _, by omega, by omega, rfl, rfl, hm2, Lib.hid (.inr (.inl ⟨by omega, fun h => absurd h HS9.out, HOO.out⟩)), hx⟩, by simp only [intOf]; omega⟩
            · have hne : ¬ 86399 = sec := by omega
              have hne2 := beq_eq_false_iff_ne.2 hne
              have hk5 : k = 86400 := by omega
              subst hk5
              clear hs9
              go_wp2_with fail
              exact ⟨⟨86401, _, m, _, by omega, by omega, rfl, rfl, hm2, Lib.hid (.inr (.inl ⟨by omega, fun h => absurd h HS9.out, HOO.out⟩)), hx⟩, by simp only [intOf]; omega⟩
          · clear hs9
            go_wp2_with fail
            exact ⟨⟨k + 1, _, m, _, by omega, by omega, rfl, rfl, hm2, Lib.hid (.inr (.inl ⟨by omega, fun h => absurd h HS9.out, HOO.out⟩)), hx⟩, by simp only [intOf]; omega⟩
      · omega
    · have hk8 : k = 86401 := by omega
      have hfin : OwI .i64 3 V.heap.size wr aa m cc (fndT S0 L0 sec mic) := by
        rcases hO.out with ⟨h1, -, -⟩ | ⟨h1, h2, h3⟩ | ⟨-, -, h3⟩
        · omega
        · have hs9 : sec ≠ 86399 := fun h => by have := h2 h; omega
          rw [HT.out]
          rcases h3 with ⟨q1, -, q2⟩ | ⟨q1, -, q2⟩
          · rw [if_pos q1, if_neg (fun h => hs9 h.1)]; exact q2
          · rw [if_neg q1]; exact q2
        · exact h3
      have HFIN := Lib.hid hfin
      clear hfin hO
      subst hk8
      go_wp2_with fail
      go_ret2
      exact ⟨_, _, _, by rw [HR.out]; rfl, by rw [HR.out]; exact (HFIN.out).mono hVs, hEr⟩
end Go.Proofs.YtchbeheekahhiaaDoor
