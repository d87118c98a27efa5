import Derived.Test.YthjldbefjkbniaaW21
import Derived.Test.YthjldbefjkbniaaW18
namespace Go.Proofs.Ythjldbefjkbniaa
open Go.RowKit Go.Sort Go.Shelf
set_option linter.unusedSimpArgs false
set_option linter.unusedVariables false
set_option maxRecDepth 100000

/-- Where the k-th list's frame begins. -/
def cum (xs : List (List Int)) (k : Nat) : Nat := (frs (xs.take k)).length
theorem cum_succ {xs : List (List Int)} {k : Nat} (h : k < xs.length) : cum xs (k + 1) = cum xs k + (lframe (nthL xs k)).length := by
  unfold cum; rw [frs_take_succ h, List.length_append]
theorem cum_le (xs : List (List Int)) (k : Nat) : cum xs k ≤ (frs xs).length := frs_take_le xs k
theorem cum_zero (xs : List (List Int)) : cum xs 0 = 0 := rfl

/-- j is how many frames are whole before K, out of the first k. -/
structure Whole (xs : List (List Int)) (K k j : Nat) : Prop where
  le : j ≤ k
  at_ : cum xs j ≤ K
  more : ∀ i, j < i → i ≤ k → K < cum xs i

theorem Whole.yes {xs : List (List Int)} {K k j : Nat} (h : Whole xs K k j) (hc : cum xs (k + 1) ≤ K) : Whole xs K (k + 1) (k + 1) := ⟨Nat.le_refl _, hc, fun i h1 h2 => by omega⟩
theorem Whole.no {xs : List (List Int)} {K k j : Nat} (h : Whole xs K k j) (hc : K < cum xs (k + 1)) : Whole xs K (k + 1) j := by
  refine ⟨by have := h.le; omega, h.at_, fun i h1 h2 => ?_⟩
  by_cases e : i = k + 1
  · subst e; exact hc
  · exact h.more i h1 (by omega)

theorem Whole.lfr {xs : List (List Int)} {K j : Nat} (h : Whole xs K xs.length j) (hok : okL xs) (hK : K ≤ (frs xs).length) : lfr ((frs xs).take K) = (xs.take j, cum xs j) :=
  lfr_cut hok h.le h.at_ (fun hj => h.more (j + 1) (by omega) (by omega)) hK

set_option maxHeartbeats 4000000 in
theorem cuts_any (a1 : Option Addr) (n1 c1 : Nat) (xs : List (List Int)) (cut : Int) (w : World) (h1 : Sll .i64 w a1 n1 c1 xs) (hcw : (Lit.int .i64 cut).wf = true) (ht : tot xs ≤ 1000000000) :
    Calls Try.prog 6 #[.slice a1 n1 c1, .int .i64 cut] w fun e w' => e = .returned (.bool true) ∧ Ext w w' := by
  have b1 := h1.bd
  have bc := wf_i64 hcw
  clear hcw
  by_cases hs : tot xs ≤ 200
  · have hsb : decide (tot xs ≤ 200) = true := by simpa using hs
    have hok := h1.okL (by omega)
    have hfl := frs_len_le xs hok
    have n1b : n1 ≤ 200 := by have := h1.hlen; unfold tot at hs; omega
    have hfb : (frs xs).length ≤ 4200 := by omega
    have HLX := Lib.hid h1.hlen
    have hlall : lfr (frs xs) = (xs, (frs xs).length) := by
      have := lfr_frs [] xs hok
      rw [lfr_none (xs := []) (by decide)] at this
      simpa using this
    have HALL := Lib.hid hlall
    have HCUT : Hid (∀ K j, Whole xs K n1 j → K ≤ (frs xs).length → lfr ((frs xs).take K) = (xs.take j, cum xs j)) := fun K j h hK => (Whole.lfr (h1.hlen ▸ h) hok hK)
    have HCL := Lib.hid (cum_le xs)
    have HCS : Hid (∀ k, k < n1 → cum xs (k + 1) = cum xs k + (lframe (nthL xs k)).length) := fun k hk => cum_succ (h1.hlen ▸ hk)
    have HC0 := Lib.hid (cum_zero xs)
    have HK := Lib.hid hok
    have HT := Lib.hid ht
    have HW0 : Hid (∀ K, Whole xs K 0 0) := fun K => ⟨Nat.le_refl _, by rw [cum_zero]; omega, fun i h1 h2 => by omega⟩
    clear hok hfl ht hs hlall
    go_enter Try.func6, Try.ntmps6
    go_wp2_with fail
    refine (head_any _).mono ?_
    rintro e w1 ⟨rfl, hE1⟩
    have hx := h1.ext hE1
    clear h1
    go_wp2_with fail
    refine (small_any _ _ _ xs _ hx HT.out).mono ?_
    rintro e w3 ⟨rfl, rfl⟩
    rw [hsb]
    go_wp2_with fail
    refine (framed_any _ _ _ xs _ hx HK.out (by omega)).mono ?_
    rintro e w4 ⟨a4, c4, rfl, s4, hE4⟩
    have s4' := s4.sl (frs_wf xs)
    replace hx := hx.ext hE4
    have hE02 := hE1.trans hE4
    clear s4 hE4 hE1
    have FWF := Lib.hid (frs_wf xs)
    generalize hFX : frs xs = FX at *
    clear hFX
    generalize hFL : FX.length = L at *
    have HFL := Lib.hid hFL
    clear hFL
    have b4 := s4'.bd
    have bk := cutK cut (L := L + 1) (by omega)
    simp only [Int.natCast_add, Int.natCast_one] at bk
    have hL0 : ((L : Int) + 1 == 0) = false := by simp; omega
    by_cases hneg : cut.tmod ((L : Int) + 1) < 0
    · obtain ⟨K, hK⟩ : ∃ K : Nat, cut.tmod ((L : Int) + 1) = (K : Int) - ((L : Int) + 1) := ⟨(cut.tmod ((L : Int) + 1) + (L + 1)).toNat, by omega⟩
      have hKL : K ≤ L := by omega
      have hnd : decide ((K : Int) - ((L : Int) + 1) < 0) = true := by simp; omega
      have HB := Lib.hid bk
      clear bk bc
      go_wp2
      go_loopw [9, 10, 11, 48] (fun q b t i wr => ∃ k j B T : Nat, k ≤ n1 ∧ i = .int .i64 k ∧ q = .int .i64 j ∧ b = .int .i64 B ∧ t = .int .i64 T ∧ B = cum xs j ∧ T = cum xs k ∧ Whole xs K k j ∧ Ext w wr ∧ Ext w4 wr) (fun _ _ _ i _ => n1 - (intOf i).toNat)
      case atStart => exact ⟨0, 0, 0, 0, by omega, rfl, rfl, rfl, rfl, rfl, rfl, HW0.out K, hE02, Ext.refl _⟩
      case round =>
        obtain ⟨k, j, B, T, hk, rfl, rfl, rfl, rfl, hB, hT, hw, hE, hE4⟩ := hrel
        have HBB := Lib.hid hB
        have HTT := Lib.hid hT
        have HWW := Lib.hid hw
        have hTl : T ≤ L := by rw [hT]; exact HCL.out k
        have hBl : B ≤ L := by rw [hB]; exact HCL.out j
        have hjk := hw.le
        clear hB hT hw
        replace hx := hx.ext hE4
        replace s4' := s4'.ext hE4
        by_cases hlt : k < n1
        · have hcs := HCS.out k hlt
          have hcl := HCL.out (k + 1)
          rw [hcs, ← HTT.out] at hcl
          obtain ⟨x1, o1, rfl, hc1⟩ := hx.at (by omega)
          obtain ⟨p1, q1, r1, g1, s1⟩ := hc1 k hlt
          have hq : q1 ≤ 1000 := by
            have := (HK.out _ (nthL_mem (xs := xs) (i := k) (by rw [HLX.out]; exact hlt))).1
            rw [s1.hlen] at this; exact this
          have HCC := Lib.hid hcs
          clear hc1 hcs
          generalize hFR : (lframe (nthL xs k)).length = fr at *
          have HFR := Lib.hid hFR
          clear hFR
          by_cases hyes : T + fr ≤ K
          · have hyi : (T : Int) + fr ≤ K := by omega
            go_wp2_with fail
            refine (frame_any _ _ _ _ _ s1 hq).mono ?_
            rintro e w6 ⟨g6, c6, rfl, _, hE6⟩
            rw [HFR.out]
            go_wp2
            go_roundw
            case rel => exact ⟨k + 1, k + 1, T + fr, T + fr, by omega, by go_num, by go_num, by go_num, by go_num, by rw [HCC.out, HTT.out], by rw [HCC.out, HTT.out], HWW.out.yes (by rw [HCC.out, ← HTT.out]; exact hyes), hE.trans hE6, hE4.trans hE6⟩
            case measure => simp [intOf]; omega
          · have hyi : ¬ (T : Int) + fr ≤ K := by omega
            go_wp2_with fail
            refine (frame_any _ _ _ _ _ s1 hq).mono ?_
            rintro e w6 ⟨g6, c6, rfl, _, hE6⟩
            rw [HFR.out]
            go_wp2
            go_roundw
            case rel => exact ⟨k + 1, j, B, T + fr, by omega, by go_num, rfl, rfl, by go_num, HBB.out, by rw [HCC.out, HTT.out], HWW.out.no (by rw [HCC.out, ← HTT.out]; omega), hE.trans hE6, hE4.trans hE6⟩
            case measure => simp [intOf]; omega
        · obtain rfl : k = n1 := by omega
          have hcut := HCUT.out K j HWW.out hKL
          rw [← HBB.out] at hcut
          have HCT := Lib.hid hcut
          have hsK := s4'.take (m := K) (by omega)
          have hKc : (K : Int) ≤ c4 := by omega
          have hjc : (j : Int) ≤ c1 := by omega
          have hxj := hx.take (m := j) (by omega)
          have HJL := Lib.hid hxj.hlen
          clear hcut
          go_wp2_with fail
          refine (frames_any _ _ _ (FX.take K) _ hsK (by omega)).mono ?_
          intro e w8 hp
          rw [show lframes (FX.take K).length (FX.take K) = _ from HCT.out] at hp
          obtain ⟨a8, c8, rfl, s8, hE8⟩ := hp
          simp only at s8 ⊢
          replace s8 := s8.sll
          rw [HJL.out] at s8 ⊢
          replace hx := hx.ext hE8
          replace hxj := hxj.ext hE8
          replace s4' := s4'.ext hE8
          replace hE := hE.trans hE8
          clear hE8 hsK hE4 hE02
          go_wp2_with fail
          refine (frames_any _ _ _ FX _ s4' (by omega)).mono ?_
          intro e w9 hp
          rw [show lframes FX.length FX = _ from HALL.out] at hp
          obtain ⟨a9, c9, rfl, s9, hE9⟩ := hp
          simp only at s9 ⊢
          replace s9 := s9.sll
          rw [HLX.out] at s9 ⊢
          replace s8 := s8.ext hE9
          replace hx := hx.ext hE9
          replace hxj := hxj.ext hE9
          replace hE := hE.trans hE9
          clear hE9 s4'
          generalize xs.take j = XJ at *
          go_wp2_with fail
          refine (lists_any _ _ _ _ _ _ XJ XJ _ s8 hxj).mono ?_
          rintro e w10 ⟨he, hE10⟩
          rw [show (XJ == XJ) = true from by simp] at he
          subst he
          replace hx := hx.ext hE10
          replace s9 := s9.ext hE10
          replace hE := hE.trans hE10
          clear hE10 s8 hxj
          go_wp2_with fail
          refine (lists_any _ _ _ _ _ _ xs xs _ s9 hx).mono ?_
          rintro e w11 ⟨he, hE11⟩
          rw [show (xs == xs) = true from by simp] at he
          subst he
          go_wp2
          go_ret
          exact ⟨rfl, hE.trans hE11⟩
    · obtain ⟨K, hK⟩ : ∃ K : Nat, cut.tmod ((L : Int) + 1) = (K : Int) := ⟨(cut.tmod ((L : Int) + 1)).toNat, by omega⟩
      have hKL : K ≤ L := by omega
      have HB := Lib.hid bk
      clear bk bc
      go_wp2
      go_loopw [9, 10, 11, 48] (fun q b t i wr => ∃ k j B T : Nat, k ≤ n1 ∧ i = .int .i64 k ∧ q = .int .i64 j ∧ b = .int .i64 B ∧ t = .int .i64 T ∧ B = cum xs j ∧ T = cum xs k ∧ Whole xs K k j ∧ Ext w wr ∧ Ext w4 wr) (fun _ _ _ i _ => n1 - (intOf i).toNat)
      case atStart => exact ⟨0, 0, 0, 0, by omega, rfl, rfl, rfl, rfl, rfl, rfl, HW0.out K, hE02, Ext.refl _⟩
      case round =>
        obtain ⟨k, j, B, T, hk, rfl, rfl, rfl, rfl, hB, hT, hw, hE, hE4⟩ := hrel
        have HBB := Lib.hid hB
        have HTT := Lib.hid hT
        have HWW := Lib.hid hw
        have hTl : T ≤ L := by rw [hT]; exact HCL.out k
        have hBl : B ≤ L := by rw [hB]; exact HCL.out j
        have hjk := hw.le
        clear hB hT hw
        replace hx := hx.ext hE4
        replace s4' := s4'.ext hE4
        by_cases hlt : k < n1
        · have hcs := HCS.out k hlt
          have hcl := HCL.out (k + 1)
          rw [hcs, ← HTT.out] at hcl
          obtain ⟨x1, o1, rfl, hc1⟩ := hx.at (by omega)
          obtain ⟨p1, q1, r1, g1, s1⟩ := hc1 k hlt
          have hq : q1 ≤ 1000 := by
            have := (HK.out _ (nthL_mem (xs := xs) (i := k) (by rw [HLX.out]; exact hlt))).1
            rw [s1.hlen] at this; exact this
          have HCC := Lib.hid hcs
          clear hc1 hcs
          generalize hFR : (lframe (nthL xs k)).length = fr at *
          have HFR := Lib.hid hFR
          clear hFR
          by_cases hyes : T + fr ≤ K
          · have hyi : (T : Int) + fr ≤ K := by omega
            go_wp2_with fail
            refine (frame_any _ _ _ _ _ s1 hq).mono ?_
            rintro e w6 ⟨g6, c6, rfl, _, hE6⟩
            rw [HFR.out]
            go_wp2
            go_roundw
            case rel => exact ⟨k + 1, k + 1, T + fr, T + fr, by omega, by go_num, by go_num, by go_num, by go_num, by rw [HCC.out, HTT.out], by rw [HCC.out, HTT.out], HWW.out.yes (by rw [HCC.out, ← HTT.out]; exact hyes), hE.trans hE6, hE4.trans hE6⟩
            case measure => simp [intOf]; omega
          · have hyi : ¬ (T : Int) + fr ≤ K := by omega
            go_wp2_with fail
            refine (frame_any _ _ _ _ _ s1 hq).mono ?_
            rintro e w6 ⟨g6, c6, rfl, _, hE6⟩
            rw [HFR.out]
            go_wp2
            go_roundw
            case rel => exact ⟨k + 1, j, B, T + fr, by omega, by go_num, rfl, rfl, by go_num, HBB.out, by rw [HCC.out, HTT.out], HWW.out.no (by rw [HCC.out, ← HTT.out]; omega), hE.trans hE6, hE4.trans hE6⟩
            case measure => simp [intOf]; omega
        · obtain rfl : k = n1 := by omega
          have hcut := HCUT.out K j HWW.out hKL
          rw [← HBB.out] at hcut
          have HCT := Lib.hid hcut
          have hsK := s4'.take (m := K) (by omega)
          have hKc : (K : Int) ≤ c4 := by omega
          have hjc : (j : Int) ≤ c1 := by omega
          have hxj := hx.take (m := j) (by omega)
          have HJL := Lib.hid hxj.hlen
          clear hcut
          go_wp2_with fail
          refine (frames_any _ _ _ (FX.take K) _ hsK (by omega)).mono ?_
          intro e w8 hp
          rw [show lframes (FX.take K).length (FX.take K) = _ from HCT.out] at hp
          obtain ⟨a8, c8, rfl, s8, hE8⟩ := hp
          simp only at s8 ⊢
          replace s8 := s8.sll
          rw [HJL.out] at s8 ⊢
          replace hx := hx.ext hE8
          replace hxj := hxj.ext hE8
          replace s4' := s4'.ext hE8
          replace hE := hE.trans hE8
          clear hE8 hsK hE4 hE02
          go_wp2_with fail
          refine (frames_any _ _ _ FX _ s4' (by omega)).mono ?_
          intro e w9 hp
          rw [show lframes FX.length FX = _ from HALL.out] at hp
          obtain ⟨a9, c9, rfl, s9, hE9⟩ := hp
          simp only at s9 ⊢
          replace s9 := s9.sll
          rw [HLX.out] at s9 ⊢
          replace s8 := s8.ext hE9
          replace hx := hx.ext hE9
          replace hxj := hxj.ext hE9
          replace hE := hE.trans hE9
          clear hE9 s4'
          generalize xs.take j = XJ at *
          go_wp2_with fail
          refine (lists_any _ _ _ _ _ _ XJ XJ _ s8 hxj).mono ?_
          rintro e w10 ⟨he, hE10⟩
          rw [show (XJ == XJ) = true from by simp] at he
          subst he
          replace hx := hx.ext hE10
          replace s9 := s9.ext hE10
          replace hE := hE.trans hE10
          clear hE10 s8 hxj
          go_wp2_with fail
          refine (lists_any _ _ _ _ _ _ xs xs _ s9 hx).mono ?_
          rintro e w11 ⟨he, hE11⟩
          rw [show (xs == xs) = true from by simp] at he
          subst he
          go_wp2
          go_ret
          exact ⟨rfl, hE.trans hE11⟩
  · have hsb : decide (tot xs ≤ 200) = false := by simpa using hs
    have HT := Lib.hid ht
    clear ht hs
    go_enter Try.func6, Try.ntmps6
    go_wp2_with fail
    refine (head_any _).mono ?_
    rintro e w1 ⟨rfl, hE1⟩
    have hx := h1.ext hE1
    clear h1
    go_wp2_with fail
    refine (small_any _ _ _ xs _ hx HT.out).mono ?_
    rintro e w3 ⟨rfl, rfl⟩
    rw [hsb]
    go_wp2
    go_ret
    exact ⟨rfl, hE1⟩

end Go.Proofs.Ythjldbefjkbniaa
