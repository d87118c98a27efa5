/-
  The law EditionNewest.
-/
import Derived.Test.YtcohdojfbnijpaaDoorEL1
namespace Go.Proofs.YtcohdojfbnijpaaDoor
open Go.RowKit Go.Sort Go.Shelf
set_option linter.unusedSimpArgs false
set_option linter.unusedVariables false
set_option maxRecDepth 100000

/-- What the newest one is: it holds, and no other one that holds is newer, or as new and comes before. -/
theorem bstN_spec (es : List Ed) (t : Int) : ∀ n, (bstN es t n < 0 → ∀ i, i < n → hldB (nthE es i) t = false) ∧
    (0 ≤ bstN es t n → hldB (nthE es (bstN es t n).toNat) t = true ∧ ∀ i, i < n → hldB (nthE es i) t = true → (nthE es i).v ≤ (nthE es (bstN es t n).toNat).v ∧ ((nthE es i).v = (nthE es (bstN es t n).toNat).v → (bstN es t n).toNat ≤ i))
  | 0 => ⟨fun _ i hi => by omega, fun h => by simp [bstN] at h⟩
  | n + 1 => by
    obtain ⟨h1, h2⟩ := bstN_spec es t n
    have hb := bstN_bd es t n
    have hs : bstN es t (n + 1) = if hldB (nthE es n) t = true ∧ (bstN es t n < 0 ∨ (nthE es (bstN es t n).toNat).v < (nthE es n).v) then (n : Int) else bstN es t n := rfl
    by_cases hc : hldB (nthE es n) t = true ∧ (bstN es t n < 0 ∨ (nthE es (bstN es t n).toNat).v < (nthE es n).v)
    · rw [if_pos hc] at hs
      rw [hs, Int.toNat_natCast]
      refine ⟨fun h => by omega, fun _ => ⟨hc.1, fun i hi hh => ?_⟩⟩
      by_cases hin : i = n
      · subst hin; exact ⟨Int.le_refl _, fun _ => Nat.le_refl _⟩
      · rcases hc.2 with h | h
        · rw [h1 h i (by omega)] at hh; cases hh
        · rcases Int.lt_or_le (bstN es t n) 0 with h0 | h0
          · rw [h1 h0 i (by omega)] at hh; cases hh
          · have := ((h2 h0).2 i (by omega) hh).1
            exact ⟨by omega, fun h => by omega⟩
    · rw [if_neg hc] at hs
      rw [hs]
      refine ⟨fun h i hi => ?_, fun h => ⟨(h2 h).1, fun i hi hh => ?_⟩⟩
      · by_cases hin : i = n
        · subst hin
          rw [Bool.eq_false_iff]
          exact fun hh => hc ⟨hh, .inl h⟩
        · exact h1 h i (by omega)
      · by_cases hin : i = n
        · subst hin
          have : ¬ (nthE es (bstN es t i).toNat).v < (nthE es i).v := fun hv => hc ⟨hh, .inr hv⟩
          exact ⟨by omega, fun _ => by omega⟩
        · exact (h2 h).2 i (by omega) hh
theorem hldB_iff {e : Ed} {t : Int} : hldB e t = true ↔ e.f ≤ t ∧ t < e.u := by unfold hldB; rw [Bool.and_eq_true, decide_eq_true_iff, decide_eq_true_iff]
theorem time_bd {x : Int} (h : 0 ≤ x ∧ x ≤ 18446744073709551615) : 0 ≤ wrap64 (x.tmod 3000000000000001) ∧ wrap64 (x.tmod 3000000000000001) ≤ 3000000000000000 := by
  rw [Int.tmod_eq_emod_of_nonneg h.1]
  have e : wrap64 (x % 3000000000000001) = x % 3000000000000001 := by unfold wrap64; omega
  rw [e]
  omega

set_option maxHeartbeats 8000000 in
theorem enewest_law (a : Option Addr) (n c : Nat) (es : List Ed) (x : Int) (hx0 : 0 ≤ x ∧ x ≤ 18446744073709551615) (w : World) (h1 : EdR w a n c es) (ht : TB w) :
    Calls Tryd.prog 6 #[.slice a n c, .int .u64 x] w (Yes w) := by
  have HT := Lib.hid ht
  have bd := h1.bd
  have HL := Lib.hid h1.hlen
  have HX := Lib.hid (time_bd hx0)
  clear ht hx0
  go_enter Tryd.func6, Tryd.ntmps6
  go_wp2_with fail
  refine (ehead_any w HT.out).mono ?_
  rintro _ w1 ⟨rfl, hE⟩
  go_wp2_with fail
  refine (r20few_any a n c es w1 (h1.ext hE)).mono ?_
  rintro _ w2 ⟨rfl, hx⟩
  replace hE := hE.trans hx
  clear hx
  rcases hf : fewE es with _ | _
  · clear hf
    go_wp2_with fail
    go_ret
    exact ⟨rfl, hE⟩
  clear hf
  by_cases g1 : n ≤ 50
  case neg =>
    have dg1 : decide (50 < (n : Int)) = true := decide_eq_true (by omega)
    have dg2 : 50 < (n : Int) := by omega
    clear g1
    go_wp2_with fail
    go_ret
    exact ⟨rfl, hE⟩
  have g1' : ¬ 50 < (n : Int) := by omega
  have dg1 : decide (50 < (n : Int)) = false := decide_eq_false g1'
  have G1 := Lib.hid g1
  clear g1
  go_wp2_with fail
  clear dg1 g1'
  have hE0 := hE
  clear hE
  go_loopw [6] (fun i wr => ∃ (k : Nat), k ≤ n ∧ i = .int .i64 (k : Int) ∧ Hid (∀ j, j < k → frmB (nthE es j).v (nthE es j).f (nthE es j).u (nthE es j).l = true) ∧ Ext w wr) (fun i _ => n - (intOf i).toNat)
  case atStart => exact ⟨0, by omega, rfl, Lib.hid (fun j hj => by omega), hE0⟩
  case round =>
    clear hE0
    obtain ⟨k, hk, rfl, HK, hx⟩ := hrel
    by_cases hlt : k < n
    · obtain ⟨x1, o1, rfl, hc1⟩ := (h1.ext hx).at (by omega)
      obtain ⟨a', n', c', h6, hr⟩ := hc1 k hlt
      have HY : Hid (frmB (nthE es k).v (nthE es k).f (nthE es k).u (nthE es k).l = true → ∀ j, j < k + 1 → frmB (nthE es j).v (nthE es j).f (nthE es j).u (nthE es j).l = true) := Lib.hid (fun h j hj => by
        by_cases hjk : j = k
        · subst hjk; exact h
        · exact HK.out j (by omega))
      clear hc1
      obtain ⟨d0, d1, d2, d3, d4, d5⟩ := h6
      generalize nthE es k = e at *
      go_wp2_with fail
      refine (rformed_any e.v e.f e.u a' n' c' e.l e.C e.S wr hr).mono ?_
      rintro _ w3 ⟨rfl, hx3⟩
      rcases hf : frmB e.v e.f e.u e.l with _ | _
      · clear hf
        go_wp2_with fail
        go_ret
        exact ⟨rfl, hx.trans hx3⟩
      · have HK2 := Lib.hid (HY.out hf)
        clear hf
        go_wp2_with fail
        exact ⟨⟨k + 1, by omega, by go_num, HK2, hx.trans hx3⟩, by simp [intOf]; omega⟩
    · have hkn : n = k := by omega
      subst hkn
      have HA : Hid (allF es = true) := Lib.hid (all_take (fun i hi => HK.out i (by rw [HL.out] at hi; exact hi)))
      clear HK
      go_wp2_with fail
      generalize wrap64 (x.tmod 3000000000000001) = t at HX ⊢
      have HN : Hid (nwF es t = (max (bstN es t n) 0, decide (0 ≤ bstN es t n), 0)) := Lib.hid (by unfold nwF; rw [HL.out, if_pos ⟨G1.out, HX.out, HA.out⟩])
      refine (enew_any a n c es t wr (h1.ext hx)).mono ?_
      rintro _ w3 ⟨rfl, hy⟩
      replace hx := hx.trans hy
      clear hy
      have HS := Lib.hid (bstN_spec es t n)
      have hbb := bstN_bd es t n
      rw [HN.out]
      by_cases hb : 0 ≤ bstN es t n
      case neg =>
        have e1 : max (bstN es t n) 0 = 0 := by omega
        have HF := Lib.hid (HS.out.1 (by omega))
        rw [e1, decide_eq_false hb]
        clear hb e1 hbb HS HN
        go_wp2_with fail
        have hE0 := hx
        clear hx
        go_loopw [11] (fun i wr => ∃ (k : Nat), k ≤ n ∧ i = .int .i64 (k : Int) ∧ Ext w wr) (fun i _ => n - (intOf i).toNat)
        case atStart => exact ⟨0, by omega, rfl, hE0⟩
        case round =>
          clear hE0
          obtain ⟨k, hk, rfl, hx⟩ := hrel
          by_cases hlt : k < n
          · obtain ⟨x1, o1, rfl, hc1⟩ := (h1.ext hx).at (by omega)
            obtain ⟨a', n', c', h6, hr⟩ := hc1 k hlt
            have hh := HF.out k hlt
            clear hc1
            obtain ⟨d0, d1, d2, d3, d4, d5⟩ := h6
            generalize nthE es k = e at *
            by_cases q1 : t < e.f
            · have q2 := decide_eq_true q1
              clear hh
              go_wp2_with fail
              exact ⟨⟨k + 1, by omega, by go_num, hx⟩, by simp [intOf]; omega⟩
            · have q2 := decide_eq_false q1
              have q3 : e.u ≤ t := by
                rcases Int.lt_or_le t e.u with h | h
                · rw [hldB_iff.2 ⟨by omega, h⟩] at hh; cases hh
                · exact h
              have q4 := decide_eq_true q3
              clear hh
              go_wp2_with fail
              exact ⟨⟨k + 1, by omega, by go_num, hx⟩, by simp [intOf]; omega⟩
          · have hkn : n = k := by omega
            subst hkn
            go_wp2_with fail
            go_ret
            exact ⟨rfl, hx⟩
      case pos =>
        obtain ⟨K, hK⟩ : ∃ K : Nat, bstN es t n = (K : Int) := ⟨(bstN es t n).toNat, by omega⟩
        have e1 : max (bstN es t n) 0 = (K : Int) := by omega
        have hKn : K < n := by omega
        obtain ⟨hh, hs⟩ := HS.out.2 hb
        rw [hK, Int.toNat_natCast] at hh hs
        rw [e1, decide_eq_true hb]
        have HF := Lib.hid hs
        have HH := Lib.hid (hldB_iff.1 hh)
        clear hb e1 hbb HS HN hK hs hh
        obtain ⟨x1, o1, rfl, hc1⟩ := (h1.ext hx).at (by omega)
        obtain ⟨a', n', c', h6, hr⟩ := hc1 K hKn
        clear hc1
        obtain ⟨d0, d1, d2, d3, d4, d5⟩ := h6
        have q1 := decide_eq_false (show ¬ t < (nthE es K).f by have := HH.out; omega)
        have q2 := decide_eq_false (show ¬ (nthE es K).u ≤ t by have := HH.out; omega)
        have q3 : decide ((n : Int) ≤ K) = false := decide_eq_false (by omega)
        have q1' : ¬ t < (nthE es K).f := by have := HH.out; omega
        have q2' : ¬ (nthE es K).u ≤ t := by have := HH.out; omega
        have q3' : ¬ ((n : Int) ≤ K) := by omega
        go_wp2_with fail
        clear q1 q2 q3 q1' q2' q3' d0 d1 d2 d3 d4 d5 hr
        have hE0 := hx
        clear hx
        go_loopw [11] (fun i wr => ∃ (k : Nat), k ≤ n ∧ i = .int .i64 (k : Int) ∧ Ext w wr) (fun i _ => n - (intOf i).toNat)
        case atStart => exact ⟨0, by omega, rfl, hE0⟩
        case round =>
          clear hE0
          obtain ⟨k, hk, rfl, hx⟩ := hrel
          by_cases hlt : k < n
          · obtain ⟨x1, o1, he, hc1⟩ := (h1.ext hx).at (by omega)
            simp at he
            obtain ⟨rfl, rfl⟩ := he
            obtain ⟨a', n', c', h6, hr⟩ := hc1 k hlt
            obtain ⟨a2, n2, c2, g6, gr⟩ := hc1 K hKn
            have hh := HF.out k hlt
            clear hc1
            obtain ⟨d0, d1, d2, d3, d4, d5⟩ := h6
            have l6 := lt_of_cell d0
            by_cases q1 : t < (nthE es k).f
            · have q2 := decide_eq_true q1
              clear hh
              go_wp2_with fail
              exact ⟨⟨k + 1, by omega, by go_num, hx⟩, by simp [intOf]; omega⟩
            have q2 := decide_eq_false q1
            by_cases q3 : (nthE es k).u ≤ t
            · have q4 := decide_eq_true q3
              clear hh
              go_wp2_with fail
              exact ⟨⟨k + 1, by omega, by go_num, hx⟩, by simp [intOf]; omega⟩
            have q4 := decide_eq_false q3
            obtain ⟨r1, r2⟩ := hh (hldB_iff.2 ⟨by omega, by omega⟩)
            have hg := @grow_cell
            by_cases hkK : K = k
            · subst hkK
              clear r1 r2 g6 gr
              go_upto_region 17 with fail
              refine region_ext (by kernel_rfl) (by kernel_rfl) ?_
              repeat (go_big_quiet_step (fail))
              refine wpQuiet_nil ?_
              intro w9 hx9
              go_wp2_with fail
              exact ⟨⟨K + 1, by omega, by go_num, hx.trans hx9⟩, by simp [intOf]; omega⟩
            · obtain ⟨y0, y1, y2, y3, y4, y5⟩ := g6
              have s1 := decide_eq_false (show ¬ (nthE es K).v < (nthE es k).v by omega)
              by_cases hv : (nthE es k).v = (nthE es K).v
              · have s2 : decide ((k : Int) < K) = false := decide_eq_false (by have := r2 hv; omega)
                have s3 : ¬ (k : Int) < K := by have := r2 hv; omega
                generalize nthE es k = e at *
                generalize nthE es K = g at *
                clear r1 r2 hkK
                go_upto_region 17 with fail
                refine region_ext (by kernel_rfl) (by kernel_rfl) ?_
                repeat (go_big_quiet_step (fail))
                refine wpQuiet_nil ?_
                intro w9 hx9
                go_wp2_with fail
                exact ⟨⟨k + 1, by omega, by go_num, hx.trans hx9⟩, by simp [intOf]; omega⟩
              · have s2 := decide_eq_false hv
                have s3 := beq_eq_false_iff_ne.2 hv
                generalize nthE es k = e at *
                generalize nthE es K = g at *
                clear r1 r2 hkK
                go_upto_region 17 with fail
                refine region_ext (by kernel_rfl) (by kernel_rfl) ?_
                repeat (go_big_quiet_step (fail))
                refine wpQuiet_nil ?_
                intro w9 hx9
                go_wp2_with fail
                exact ⟨⟨k + 1, by omega, by go_num, hx.trans hx9⟩, by simp [intOf]; omega⟩
          · have hkn : n = k := by omega
            subst hkn
            go_wp2_with fail
            go_ret
            exact ⟨rfl, hx⟩
end Go.Proofs.YtcohdojfbnijpaaDoor
