import Derived.Test.YthjldbefjkbniaaW17
namespace Go.Proofs.Ythjldbefjkbniaa
open Go.RowKit Go.Sort Go.Shelf
set_option linter.unusedSimpArgs false
set_option linter.unusedVariables false
set_option maxRecDepth 100000

theorem beg_eq {xs ys : List Int} (h : beg xs ys = true) : xs = ys ++ xs.drop ys.length := by
  unfold beg at h
  have h1 := of_decide_eq_true (p := _) (by simpa using h : decide (xs.take ys.length = ys) = true)
  conv => lhs; rw [← List.take_append_drop ys.length xs, h1]

theorem cutK (cut : Int) {L : Nat} (hL : 0 < L) : -(L : Int) < cut.tmod L ∧ cut.tmod L < L := by
  have h2 := Int.emod_lt_of_pos cut (b := (L : Int)) (by omega)
  have h3 := Int.emod_nonneg cut (b := (L : Int)) (by omega)
  rcases Int.lt_or_le cut 0 with hc | hc
  · have h4 := Int.neg_tmod (-cut) (L : Int)
    rw [Int.neg_neg] at h4
    have h5 := Int.tmod_lt_of_pos (-cut) (b := (L : Int)) (by omega)
    have h6 := Int.tmod_nonneg (a := -cut) (L : Int) (by omega)
    omega
  · exact ⟨by have := Int.tmod_nonneg (a := cut) (L : Int) hc; omega, Int.tmod_lt_of_pos cut (by omega)⟩

set_option maxHeartbeats 1000000 in
theorem beginnings_any (a1 : Option Addr) (n1 c1 : Nat) (xs : List Int) (a2 : Option Addr) (n2 c2 : Nat) (ys : List Int) (cut : Int) (w : World) (h1 : Sl .i64 w a1 n1 c1 xs) (h2 : Sl .i64 w a2 n2 c2 ys) (hcw : (Lit.int .i64 cut).wf = true) :
    Calls Try.prog 5 #[.slice a1 n1 c1, .slice a2 n2 c2, .int .i64 cut] w fun e w' => e = .returned (.bool true) ∧ Ext w w' := by
  have b1 := h1.bd
  have b2 := h2.bd
  have bc := wf_i64 hcw
  clear hcw
  by_cases hs : n1 ≤ 100 ∧ n2 ≤ 100
  · obtain ⟨hs1, hs2⟩ := hs
    have hd1 : decide ((100 : Int) < n1) = false := by simp; omega
    have hd2 : decide ((100 : Int) < n2) = false := by simp; omega
    go_enter Try.func5, Try.ntmps5
    go_wp2_with fail
    refine (head_any _).mono ?_
    rintro e w1 ⟨rfl, hE1⟩
    have hx := h1.ext hE1
    have hy := h2.ext hE1
    have hE02 := hE1
    clear h1 h2 hE1
    have hXl : xs.length ≤ 1000 := by rw [hx.hlen]; omega
    have hYl : ys.length ≤ 1000 := by rw [hy.hlen]; omega
    have HB : Hid (beg (lput ys) (lput xs) = true → xs = ys) := fun h => lput_prefix hXl hYl hx.wf hy.wf (beg_eq h)
    have HC : Hid (∀ k, k < (lput xs).length → lget ((lput xs).take k) = none) := fun k hk => lget_cut hXl hx.wf hk
    have hll := lput_len hx.wf (by omega)
    have hlp : 0 < (lput xs).length := by unfold lput; rw [List.length_append]; have := (digs_len (num xs.length)).1; omega
    have HL := Lib.hid hll
    clear hXl hYl hll
    go_wp2_with fail
    refine (put2_any _ _ _ xs _ hx (by omega)).mono ?_
    rintro e w3 ⟨g3, c3, rfl, s3, hE3⟩
    replace s3 := s3.sl (lput_wf _)
    replace hx := hx.ext hE3
    replace hy := hy.ext hE3
    replace hE02 := hE02.trans hE3
    clear hE3
    go_wp2_with fail
    refine (put2_any _ _ _ ys _ hy (by omega)).mono ?_
    rintro e w4 ⟨g4, c4, rfl, s4, hE4⟩
    replace s4 := s4.sl (lput_wf _)
    replace hx := hx.ext hE4
    replace hy := hy.ext hE4
    replace s3 := s3.ext hE4
    replace hE02 := hE02.trans hE4
    clear hE4
    generalize lput xs = PX at *
    generalize lput ys = PY at *
    have hPX : PX.length ≤ 100000 := by have := HL.out.2; have := hx.hlen; omega
    clear HL
    generalize hPL : PX.length = L at *
    have HPL := Lib.hid hPL
    clear hPL
    have bk := cutK cut hlp
    have hL0 : ((L : Int) == 0) = false := by simp; omega
    have b3 := s3.bd
    have hgo : ∀ (W : World), Sl .u8 W (some ⟨g3, 0, none⟩) L c3 PX → Ext w W → ∀ k : Nat, k < L → Calls Try.prog 16 #[.slice (some ⟨g3, 0, none⟩) k c3] W fun e w' => e = .returned (.tuple #[.slice none 0 0, .int .i64 7]) ∧ Ext w w' := by
      intro W hW hE k hk
      refine (get_any _ _ _ (PX.take k) _ (hW.take (m := k) (by omega)) (by omega)).mono ?_
      intro e w' hp
      rw [HC.out k hk] at hp
      exact ⟨hp.1, hE.trans hp.2⟩
    have HGO := Lib.hid hgo
    clear hgo
    go_wp2_with fail
    refine (begins_any _ _ _ _ _ _ PY PX _ s4 s3).mono ?_
    rintro e w5 ⟨he, hE5⟩
    replace hx := hx.ext hE5
    replace hy := hy.ext hE5
    replace s3 := s3.ext hE5
    replace hE02 := hE02.trans hE5
    clear hE5 s4
    rcases hb : beg PY PX with _ | _
    · rw [hb] at he
      subst he
      clear hb HB HC
      by_cases hneg : cut.tmod (L : Int) < 0
      · go_wp2_with fail
        refine (HGO.out _ s3 hE02 _ (by omega)).mono ?_
        rintro e w6 ⟨rfl, hE6⟩
        go_wp2
        go_ret
        exact ⟨rfl, hE6⟩
      · go_wp2_with fail
        refine (HGO.out _ s3 hE02 _ (by omega)).mono ?_
        rintro e w6 ⟨rfl, hE6⟩
        go_wp2
        go_ret
        exact ⟨rfl, hE6⟩
    · rw [hb] at he
      subst he
      obtain rfl := HB.out hb
      clear hb HB HC
      go_wp2_with fail
      refine (ints_any _ _ _ _ _ _ xs xs _ hx hy).mono ?_
      rintro e w6 ⟨he, hE6⟩
      rw [show (xs == xs) = true from by simp] at he
      subst he
      replace s3 := s3.ext hE6
      replace hE02 := hE02.trans hE6
      clear hE6
      by_cases hneg : cut.tmod (L : Int) < 0
      · go_wp2_with fail
        refine (HGO.out _ s3 hE02 _ (by omega)).mono ?_
        rintro e w7 ⟨rfl, hE7⟩
        go_wp2
        go_ret
        exact ⟨rfl, hE7⟩
      · go_wp2_with fail
        refine (HGO.out _ s3 hE02 _ (by omega)).mono ?_
        rintro e w7 ⟨rfl, hE7⟩
        go_wp2
        go_ret
        exact ⟨rfl, hE7⟩
  · by_cases hs1 : 100 < n1
    · have hd1 : decide ((100 : Int) < n1) = true := by simp; omega
      go_enter Try.func5, Try.ntmps5
      go_wp2_with fail
      refine (head_any _).mono ?_
      rintro e w1 ⟨rfl, hE1⟩
      go_wp2
      go_ret
      exact ⟨rfl, hE1⟩
    · have hd1 : decide ((100 : Int) < n1) = false := by simp; omega
      have hd2 : decide ((100 : Int) < n2) = true := by simp; omega
      go_enter Try.func5, Try.ntmps5
      go_wp2_with fail
      refine (head_any _).mono ?_
      rintro e w1 ⟨rfl, hE1⟩
      go_wp2
      go_ret
      exact ⟨rfl, hE1⟩

end Go.Proofs.Ythjldbefjkbniaa
