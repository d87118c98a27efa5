/-
  civil.Find, walked.
-/
import Derived.Test.YtchbeheekahhiaaDoorVF
namespace Go.Proofs.YtchbeheekahhiaaDoor
open Go.RowKit Go.Sort Go.Shelf
set_option linter.unusedSimpArgs false
set_option linter.unusedVariables false
set_option maxRecDepth 100000

/-- The times at which a wall clock shows this on a day that begins at S and is L long. -/
def fndT (S L sec mic : Int) : List Int := if sec * 1000000 + mic < L then (if sec = 86399 ∧ sec * 1000000 + mic + 1000000 < L then [S + (sec * 1000000 + mic), S + (sec * 1000000 + mic + 1000000)] else [S + (sec * 1000000 + mic)]) else []
def fdF (l : List Lp) (day sec mic : Int) : List Int × Int := if rightL l day = true ∧ inW sec 0 86399 = true ∧ inW mic 0 999999 = true then (fndT (startL l day) (lenL l day) sec mic, 0) else ([], 1)
def FdP (l : List Lp) (day sec mic : Int) (w : World) : Ending → World → Prop := fun e w' => ∃ a' n' c', e = .returned (.tuple #[.slice a' n' c', .int .i64 (fdF l day sec mic).2]) ∧ OwI .i64 3 w.heap.size w' a' n' c' (fdF l day sec mic).1 ∧ Ext w w'

set_option maxHeartbeats 4000000 in
theorem cfnd_any (a : Option Addr) (n c : Nat) (l : List Lp) (day sec mic : Int) (w : World) (h1 : Rw w a n c l) :
    Calls Tryd.prog 17 #[.slice a n c, .agg #[.int .i64 day, .int .i64 sec, .int .i64 mic]] w (FdP l day sec mic w) := by
  have hB := Bk.new w 26 #[.int .i64 day, .int .i64 sec, .int .i64 mic]
  have hE : Ext w (w.alloc (.cells #[.int .i64 day, .int .i64 sec, .int .i64 mic] 26)) := (Ext.refl w).alloc _
  go_enter Tryd.func17, Tryd.ntmps17
  go_upto_region 1 with fail
  generalize w.alloc (.cells #[.int .i64 day, .int .i64 sec, .int .i64 mic] 26) = W at *
  generalize w.heap.size = b at hB ⊢
  have g0 := hB.c 0 _ rfl
  go_wp2_with fail
  refine (cfind_any a n c l day W (h1.ext hE)).mono ?_
  rintro e w1 ⟨rfl, hx⟩
  replace hB := hB.ext hx
  replace hE := hE.trans hx
  clear hx g0
  rcases hr : rightL l day with _ | _
  · have HR : Hid (fdF l day sec mic = ([], 1)) := Lib.hid (by unfold fdF; rw [if_neg (fun h => by rw [hr] at h; cases h.1)])
    rw [fndF_no hr]
    clear hr
    go_wp2_with fail
    go_ret2
    exact ⟨none, 0, 0, by rw [HR.out]; rfl, by rw [HR.out]; exact OwI.nil _ _ _ _, hE.alloc _⟩
  rw [fndF_yes hr]
  have hb := startL_bd (rightL_iff.1 hr).1 (rightL_iff.1 hr).2.1 (by have := (rightL_iff.1 hr).2.2; omega)
  have hl := lenL_bd (rightL_iff.1 hr).1 day
  have hF : inW sec 0 86399 = true → inW mic 0 999999 = true → fdF l day sec mic = (fndT (startL l day) (lenL l day) sec mic, 0) := fun h h' => by unfold fdF; rw [if_pos ⟨hr, h, h'⟩]
  have hN : inW sec 0 86399 = false ∨ inW mic 0 999999 = false → fdF l day sec mic = ([], 1) := fun h => by
    unfold fdF
    rw [if_neg]
    rintro ⟨-, h2, h3⟩
    rcases h with h | h
    · rw [h] at h2; cases h2
    · rw [h] at h3; cases h3
  generalize startL l day = S0 at *
  generalize lenL l day = L0 at *
  clear hr
  go_upto_region 2 with fail
  have hD := Bk.new w1 58 #[.int .i64 S0, .int .i64 L0, .int .i64 day]
  replace hB := hB.ext ((Ext.refl w1).alloc (.cells #[.int .i64 S0, .int .i64 L0, .int .i64 day] 58))
  replace hE := hE.alloc (.cells #[.int .i64 S0, .int .i64 L0, .int .i64 day] 58)
  generalize w1.alloc (.cells #[.int .i64 S0, .int .i64 L0, .int .i64 day] 58) = V at *
  generalize w1.heap.size = bd at *
  have g1 := hB.c 1 _ rfl
  have g2 := hB.c 2 _ rfl
  go_wp2_with fail
  refine (cwithin_any sec 0 86399 V).mono ?_
  rintro e w2 ⟨rfl, rfl⟩
  rcases hs : inW sec 0 86399 with _ | _
  · have HR := Lib.hid (hN (.inl hs))
    clear hs hF hN
    go_wp2_with fail
    go_ret2
    exact ⟨none, 0, 0, by rw [HR.out]; rfl, by rw [HR.out]; exact OwI.nil _ _ _ _, hE⟩
  have hsec := inW_iff.1 hs
  have HSI := Lib.hid hs
  clear hs
  go_wp2_with fail
  refine (cwithin_any mic 0 999999 V).mono ?_
  rintro e w2 ⟨rfl, rfl⟩
  rcases hs : inW mic 0 999999 with _ | _
  · have HR := Lib.hid (hN (.inr hs))
    clear hs hF hN
    go_wp2_with fail
    go_ret2
    exact ⟨none, 0, 0, by rw [HR.out]; rfl, by rw [HR.out]; exact OwI.nil _ _ _ _, hE⟩
  have hmic := inW_iff.1 hs
  have HR := Lib.hid (hF HSI.out hs)
  clear hs hF hN HSI
  go_upto_region 6 with fail
  obtain ⟨F0, hF0⟩ : ∃ F0, sec * 1000000 + mic = F0 := ⟨_, rfl⟩
  have hT : fndT S0 L0 sec mic = if F0 < L0 then (if sec = 86399 ∧ F0 + 1000000 < L0 then [S0 + F0, S0 + (F0 + 1000000)] else [S0 + F0]) else [] := by unfold fndT; rw [hF0]
  rw [hF0]
  have hFb : 0 ≤ F0 ∧ F0 < 86400000000 := by omega
  have hsl : sec ≠ 86399 → F0 < 86399000000 := by omega
  have hsg : sec = 86399 → 86399000000 ≤ F0 := by omega
  have HSG := Lib.hid hsg
  have HT := Lib.hid hT
  have HSL := Lib.hid hsl
  have HLL := Lib.hid hl
  have hL9 : 86399000000 ≤ L0 ∧ L0 ≤ 86401000000 := by omega
  clear hT hsl hsg hl hF0
  go_wp2_with fail
  have hVs : w.heap.size ≤ V.heap.size := hE.sz
  go_loopw [8, 10] (fun o mi wr => ∃ (k : Nat) (aa : Option Addr) (m cc : Nat), k ≤ 2 ∧ mi = .int .i64 (F0 + (k : Int) * 1000000) ∧ o = .slice aa m cc ∧ Hid ((k = 0 ∧ m = 0 ∧ OwI .i64 3 V.heap.size wr aa m cc []) ∨ (k = 1 ∧ m = 1 ∧ F0 < L0 ∧ OwI .i64 3 V.heap.size wr aa m cc [S0 + F0]) ∨ (k = 2 ∧ m = 2 ∧ F0 < L0 ∧ sec = 86399 ∧ F0 + 1000000 < L0 ∧ OwI .i64 3 V.heap.size wr aa m cc [S0 + F0, S0 + (F0 + 1000000)])) ∧ Ext V wr) (fun _ mi _ => (F0 + 3000000 - intOf mi).toNat)
  case atStart => exact ⟨0, none, 0, 0, by omega, by simp, rfl, Lib.hid (.inl ⟨rfl, rfl, OwI.nil _ _ _ _⟩), Ext.refl _⟩
  case round =>
    obtain ⟨k, aa, m, cc, hk, rfl, rfl, hO, hx⟩ := hrel
    have hDr := hD.ext hx
    have hBr := hB.ext hx
    have hEr := hE.trans hx
    have d0 := hDr.c 0 _ rfl
    have d1 := hDr.c 1 _ rfl
    have g1 := hBr.c 1 _ rfl
    have hz := hEr.sz
    rcases hO.out with ⟨rfl, rfl, ho⟩ | ⟨rfl, rfl, hlt, ho⟩ | ⟨rfl, rfl, hlt, hsec2, hlt2, ho⟩
    · clear hO
      rw [show F0 + ((0 : Nat) : Int) * 1000000 = F0 by omega]
      by_cases hlt : F0 < L0
      · have HI := Lib.hid (inW_yes (n := F0) (lo := 0) (hi := L0 - 1) (by omega) (by omega))
        go_wp2_with fail
        refine (chas_any S0 L0 (F0) wr (by omega)).mono ?_
        rintro e w3 ⟨rfl, hy⟩
        rw [HI.out]
        replace d0 := hy.cell d0
        replace d1 := hy.cell d1
        replace g1 := hy.cell g1
        go_wp2_with fail
        refine (ctime_any S0 L0 (F0) w3 (by omega) (by omega)).mono ?_
        rintro e w4 ⟨rfl, hy2⟩
        have ho2 := (ho.ext hy).ext hy2
        have hz2 := (hx.trans (hy.trans hy2)).sz
        have hx4 := hx.trans (hy.trans hy2)
        go_wp2_with (at_builtin; refine app1 el_i64 rfl _ _ rfl _ V.heap.size _ _ _ _ _ rfl ho2 rfl hz2 (by unfold maxLen; omega) (by omega) ?_; intro g5 c5 w5 ho5 hB5; refine hold ?_)
        refine held ?_
        have hE5 : Ext V w5 := Below.trans hx4 hB5
        go_wp2_with fail
        exact ⟨⟨1, _, 1, c5, by omega, by simp, rfl, Lib.hid (.inr (.inl ⟨rfl, rfl, hlt, ho5⟩)), hE5⟩, by simp only [intOf]; omega⟩
      · have HI := Lib.hid (inW_no2 (n := F0) (lo := 0) (hi := L0 - 1) (by omega))
        go_wp2_with fail
        refine (chas_any S0 L0 (F0) wr (by omega)).mono ?_
        rintro e w3 ⟨rfl, hy⟩
        rw [HI.out]
        replace d0 := hy.cell d0
        replace d1 := hy.cell d1
        replace g1 := hy.cell g1
        go_wp2_with fail
        go_ret2
        exact ⟨_, _, _, by rw [HR.out]; rfl, by rw [HR.out]; show OwI _ _ _ _ _ _ _ (fndT S0 L0 sec mic); rw [HT.out, if_neg (by omega)]; exact (ho.ext hy).mono hVs, hEr.trans hy⟩
    · clear hO
      rw [show F0 + ((1 : Nat) : Int) * 1000000 = F0 + 1000000 by omega]
      have q1 : F0 < F0 + 1000000 := by omega
      have q2 : F0 + 1000000 - F0 ≤ 1000000 := by omega
      by_cases hlt2 : F0 + 1000000 < L0
      · by_cases hsec2 : sec = 86399
        · have q9 : ¬ sec < 86399 := by omega
          have HS2 := Lib.hid hsec2
          clear hsec2
          have HI := Lib.hid (inW_yes (n := F0 + 1000000) (lo := 0) (hi := L0 - 1) (by omega) (by omega))
          go_wp2_with fail
          refine (chas_any S0 L0 (F0 + 1000000) wr (by omega)).mono ?_
          rintro e w3 ⟨rfl, hy⟩
          rw [HI.out]
          replace d0 := hy.cell d0
          replace d1 := hy.cell d1
          replace g1 := hy.cell g1
          go_wp2_with fail
          refine (ctime_any S0 L0 (F0 + 1000000) w3 (by omega) (by omega)).mono ?_
          rintro e w4 ⟨rfl, hy2⟩
          have ho2 := (ho.ext hy).ext hy2
          have hz2 := (hx.trans (hy.trans hy2)).sz
          have hx4 := hx.trans (hy.trans hy2)
          go_wp2_with (at_builtin; refine app1 el_i64 rfl _ _ rfl _ V.heap.size _ _ _ _ _ rfl ho2 rfl hz2 (by unfold maxLen; omega) (by omega) ?_; intro g5 c5 w5 ho5 hB5; refine hold ?_)
          refine held ?_
          have hE5 : Ext V w5 := Below.trans hx4 hB5
          go_wp2_with fail
          exact ⟨⟨2, _, 2, c5, by omega, by simp; omega, rfl, Lib.hid (.inr (.inr ⟨rfl, rfl, hlt, HS2.out, hlt2, ho5⟩)), hE5⟩, by simp only [intOf]; omega⟩
        · have q9 : sec < 86399 := by omega
          have HI := Lib.hid (inW_yes (n := F0 + 1000000) (lo := 0) (hi := L0 - 1) (by omega) (by omega))
          go_wp2_with fail
          refine (chas_any S0 L0 (F0 + 1000000) wr (by omega)).mono ?_
          rintro e w3 ⟨rfl, hy⟩
          rw [HI.out]
          replace d0 := hy.cell d0
          replace d1 := hy.cell d1
          replace g1 := hy.cell g1
          go_wp2_with fail
          go_ret2
          exact ⟨_, _, _, by rw [HR.out]; rfl, by rw [HR.out]; show OwI _ _ _ _ _ _ _ (fndT S0 L0 sec mic); rw [HT.out, if_pos hlt, if_neg (fun h => by omega)]; exact (ho.ext hy).mono hVs, hEr.trans hy⟩
      · have HI := Lib.hid (inW_no2 (n := F0 + 1000000) (lo := 0) (hi := L0 - 1) (by omega))
        go_wp2_with fail
        refine (chas_any S0 L0 (F0 + 1000000) wr (by omega)).mono ?_
        rintro e w3 ⟨rfl, hy⟩
        rw [HI.out]
        replace d0 := hy.cell d0
        replace d1 := hy.cell d1
        replace g1 := hy.cell g1
        go_wp2_with fail
        go_ret2
        exact ⟨_, _, _, by rw [HR.out]; rfl, by rw [HR.out]; show OwI _ _ _ _ _ _ _ (fndT S0 L0 sec mic); rw [HT.out, if_pos hlt, if_neg (fun h => by omega)]; exact (ho.ext hy).mono hVs, hEr.trans hy⟩
    · clear hO
      have hsg := HSG.out hsec2
      rw [show F0 + ((2 : Nat) : Int) * 1000000 = F0 + 2000000 by omega]
      have HI := Lib.hid (inW_no2 (n := F0 + 2000000) (lo := 0) (hi := L0 - 1) (by omega))
      go_wp2_with fail
      refine (chas_any S0 L0 (F0 + 2000000) wr (by omega)).mono ?_
      rintro e w3 ⟨rfl, hy⟩
      rw [HI.out]
      replace d0 := hy.cell d0
      replace d1 := hy.cell d1
      replace g1 := hy.cell g1
      go_wp2_with fail
      go_ret2
      exact ⟨_, _, _, by rw [HR.out]; rfl, by rw [HR.out]; show OwI _ _ _ _ _ _ _ (fndT S0 L0 sec mic); rw [HT.out, if_pos hlt, if_pos ⟨hsec2, hlt2⟩]; exact (ho.ext hy).mono hVs, hEr.trans hy⟩
end Go.Proofs.YtchbeheekahhiaaDoor
