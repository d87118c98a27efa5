import Derived.Test.YthjldbefjkbniaaW19
import Derived.Test.YthjldbefjkbniaaLib6
namespace Go.Proofs.Ythjldbefjkbniaa
open Go.RowKit Go.Sort Go.Shelf
set_option linter.unusedSimpArgs false
set_option linter.unusedVariables false
set_option maxRecDepth 100000

theorem len_le_sum {l : List Int} {xs : List (List Int)} (h : l ∈ xs) : l.length ≤ (xs.map List.length).sum := by
  induction xs with
  | nil => cases h
  | cons y ys ih =>
    simp only [List.map_cons, List.sum_cons]
    rcases List.mem_cons.1 h with rfl | h
    · omega
    · have := ih h; omega

theorem Sll.okL {w : World} {a : Option Addr} {n c : Nat} {xs : List (List Int)} (h : Sll .i64 w a n c xs) (ht : tot xs ≤ 1000) : okL xs := by
  intro l hl
  refine ⟨by have := len_le_sum hl; unfold tot at ht; omega, ?_⟩
  obtain ⟨i, hi, rfl⟩ := List.getElem_of_mem hl
  obtain ⟨_, _, _, _, _, _, _, hs⟩ := h.cells i (by rw [← h.hlen]; exact hi)
  have e : nthL xs i = xs[i] := by simp [nthL, List.getD_eq_getElem?_getD, hi]
  rw [e] at hs
  exact hs.wf

theorem frs_len_le : ∀ (xs : List (List Int)), okL xs → (frs xs).length ≤ 21 * tot xs
  | [], _ => by simp [frs]
  | l :: xs, h => by
    have h1 := frs_len_le xs (fun m hm => h m (by simp [hm]))
    obtain ⟨h2, h3⟩ := h l (by simp)
    have h4 := (lput_len h3 (by omega)).2
    have h5 := lframe_len l
    have e : (frs (l :: xs)).length = (lframe l).length + (frs xs).length := by rw [frs_cons, List.length_append]
    have e2 : tot (l :: xs) = 1 + l.length + tot xs := by unfold tot; simp; omega
    omega

set_option maxHeartbeats 2000000 in
theorem behind_any (a1 : Option Addr) (n1 c1 : Nat) (xs : List (List Int)) (a2 : Option Addr) (n2 c2 : Nat) (ys : List Int) (w : World) (h1 : Sll .i64 w a1 n1 c1 xs) (h2 : Sl .u8 w a2 n2 c2 ys) (ht : tot xs ≤ 1000000000) :
    Calls Try.prog 7 #[.slice a1 n1 c1, .slice a2 n2 c2] w fun e w' => e = .returned (.bool true) ∧ Ext w w' := by
  have b1 := h1.bd
  have b2 := h2.bd
  by_cases hs : tot xs ≤ 200
  · have hsb : decide (tot xs ≤ 200) = true := by simpa using hs
    have hok := h1.okL (by omega)
    have hfl := frs_len_le xs hok
    have HK := Lib.hid hok
    have HT := Lib.hid ht
    have n1b : n1 ≤ 200 := by have := h1.hlen; unfold tot at hs; omega
    have hfb : (frs xs).length ≤ 4200 := by omega
    clear hok hfl ht hs
    go_enter Try.func7, Try.ntmps7
    go_wp2_with fail
    refine (head_any _).mono ?_
    rintro e w1 ⟨rfl, hE1⟩
    have hx := h1.ext hE1
    have hy := h2.ext hE1
    clear h1 h2
    go_wp2_with fail
    refine (fewE_any _ _ _ ys _ hy).mono ?_
    rintro e w2 ⟨rfl, hE2⟩
    replace hx := hx.ext hE2
    replace hy := (hy.ext hE2).take (m := min n2 3000) (by omega)
    have hE02 := hE1.trans hE2
    have hm : min n2 3000 ≤ 3000 := by omega
    generalize ys.take (min n2 3000) = YS at *
    generalize min n2 3000 = m at *
    clear hE1 hE2
    go_wp2_with fail
    refine (small_any _ _ _ xs _ hx HT.out).mono ?_
    rintro e w3 ⟨rfl, rfl⟩
    rw [hsb]
    go_wp2_with fail
    refine (framed_any _ _ _ xs _ hx HK.out (by omega)).mono ?_
    rintro e w4 ⟨a4, c4, rfl, s4, hE4⟩
    have s4' := s4.sl (frs_wf xs)
    replace hx := hx.ext hE4
    replace hy := hy.ext hE4
    replace hE02 := hE02.trans hE4
    clear s4 hE4
    have hcv := lfr_conv YS.length YS (Nat.le_refl _) hy.wf
    have hfr := lfr_frs YS xs HK.out
    have HWF : Hid (∀ x ∈ frs xs ++ YS, (Lit.int .u8 x).wf = true) := fun x hx => (List.mem_append.1 hx).elim (frs_wf xs x) (hy.wf x)
    have hyl := hy.hlen
    generalize hP : lfr YS = PQ at *
    obtain ⟨P, q⟩ := PQ
    simp only at hcv hfr
    obtain ⟨kP, qb, fP⟩ := hcv
    have KP := Lib.hid kP
    have FP := Lib.hid fP
    have HFR := Lib.hid hfr
    have HP := Lib.hid hP
    have HYL := Lib.hid hyl
    have hqm : q ≤ m := by omega
    clear kP fP hfr hP hyl qb
    generalize frs xs = FX at *
    have hn0 : OwI .u8 5 w4.heap.size (w4.alloc (.cells #[] 5)) (some ⟨w4.heap.size, 0, none⟩) 0 0 [] := OwI.lit .u8 5 w4 [] (Nat.le_refl _) (by simp [maxLen]) #[] rfl
    have s4e := s4'.ext ((Ext.refl w4).alloc (.cells #[] 5))
    go_wp2_with (at_builtin; refine appA el_u8 rfl _ _ rfl _ w4.heap.size _ 0 0 [] rfl hn0 _ _ _ FX rfl s4e (by simp) (by unfold maxLen; omega) (by omega) ?_; refine hold ?_)
    refine held ?_
    intro g6 c6 w6 ho6 hB6
    have hE6 : Ext w4 w6 := Below.trans ((Ext.refl w4).alloc _) hB6
    have hs6 : w4.heap.size ≤ w6.heap.size := hE6.sz
    have hy6 := hy.ext hE6
    clear hn0 s4e
    go_wp2_with (at_builtin; refine appA el_u8 rfl _ _ rfl _ w4.heap.size _ _ _ _ rfl ho6 _ _ _ YS rfl hy6 (by omega) (by unfold maxLen; omega) (by omega) ?_; refine hold ?_)
    refine held ?_
    intro g7 c7 w7 ho7 hB7
    have hE7 : Ext w4 w7 := Below.trans hE6 hB7
    have hS7 := ho7.sl HWF.out
    clear ho6 ho7 hB6 hB7 hE6 hs6 hy6
    replace hx := hx.ext hE7
    replace hy := hy.ext hE7
    replace s4' := s4'.ext hE7
    replace hE02 := hE02.trans hE7
    try simp only [Nat.zero_add, List.nil_append] at hS7
    go_wp2_with fail
    refine (frames_any _ _ _ (FX ++ YS) _ hS7 (by omega)).mono ?_
    intro e w8 hp
    rw [show lframes (FX ++ YS).length (FX ++ YS) = _ from HFR.out] at hp
    obtain ⟨a8, c8, rfl, s8, hE8⟩ := hp
    simp only at s8 ⊢
    replace s8 := s8.sll
    have hlx := hx.hlen
    have l1 : (xs ++ P).length = n1 + P.length := by rw [List.length_append, hlx]
    rw [l1] at s8 ⊢
    have HLX := Lib.hid hlx
    clear hlx l1
    have hrl : 0 ≤ P.length := Nat.zero_le _
    obtain ⟨r, hr⟩ : ∃ r, P.length = r := ⟨_, rfl⟩
    rw [hr] at s8 ⊢
    have HR := Lib.hid hr
    clear hr hrl
    replace hx := hx.ext hE8
    replace hy := hy.ext hE8
    replace s4' := s4'.ext hE8
    replace hE02 := hE02.trans hE8
    clear hS7 hE7 hE8
    go_wp2_with fail
    refine (frames_any _ _ _ YS _ hy (by omega)).mono ?_
    intro e w9 hp
    rw [show lframes YS.length YS = _ from HP.out] at hp
    obtain ⟨a9, c9, rfl, s9, hE9⟩ := hp
    simp only at s9 ⊢
    replace s9 := s9.sll
    rw [HR.out] at s9 ⊢
    replace hx := hx.ext hE9
    replace hy := hy.ext hE9
    replace s4' := s4'.ext hE9
    replace s8 := s8.ext hE9
    replace hE02 := hE02.trans hE9
    clear hE9
    have b8 := s8.bd
    have b9 := s9.bd
    have s8a := s8.take (m := n1) (by omega)
    have s8b := s8.from (m := n1) (by omega)
    rw [List.take_left' HLX.out] at s8a
    rw [List.drop_left' HLX.out, Nat.add_sub_cancel_left] at s8b
    have hsl := run_from (P := Try.prog) (T := 33) (by kernel_rfl) (fun _ => by kernel_rfl) a8 (n1 + r) c8 n1 (by omega)
    rw [Nat.add_sub_cancel_left] at hsl
    clear s8
    go_wp2_with fail
    refine (lists_any _ _ _ _ _ _ xs xs _ s8a hx).mono ?_
    rintro e w10 ⟨he, hE10⟩
    rw [show (xs == xs) = true from by simp] at he
    subst he
    replace hy := hy.ext hE10
    replace s8b := s8b.ext hE10
    replace s9 := s9.ext hE10
    replace hE02 := hE02.trans hE10
    clear hE10 s8a hx s4'
    go_wp2_with fail
    refine (lists_any _ _ _ _ _ _ P P _ s8b s9).mono ?_
    rintro e w11 ⟨he, hE11⟩
    rw [show (P == P) = true from by simp] at he
    subst he
    replace hy := hy.ext hE11
    replace s9 := s9.ext hE11
    replace hE02 := hE02.trans hE11
    clear hE11 s8b
    have hfp : (frs P).length = q := by rw [FP.out, List.length_take]; have := HYL.out; omega
    go_wp2_with fail
    refine (framed_any _ _ _ P _ s9 KP.out (by omega)).mono ?_
    rintro e w12 ⟨a12, c12, rfl, s12, hE12⟩
    replace s12 := s12.sl (frs_wf P)
    rw [hfp] at s12 ⊢
    rw [FP.out] at s12
    replace hy := (hy.ext hE12).take hqm
    replace hE02 := hE02.trans hE12
    clear hE12 s9 hfp
    have hq2 : (q : Int) ≤ c2 := by have := hy.bd; omega
    have hq3 : (q : Int) ≤ m := by omega
    generalize YS.take q = Z at *
    go_wp2_with fail
    refine (same_any _ _ _ _ _ _ Z Z _ s12 hy).mono ?_
    rintro e w13 ⟨he, hE13⟩
    rw [show (Z == Z) = true from by simp] at he
    subst he
    go_wp2
    go_ret
    exact ⟨rfl, hE02.trans hE13⟩
  · have hsb : decide (tot xs ≤ 200) = false := by simpa using hs
    have HT := Lib.hid ht
    clear ht hs
    go_enter Try.func7, Try.ntmps7
    go_wp2_with fail
    refine (head_any _).mono ?_
    rintro e w1 ⟨rfl, hE1⟩
    have hx := h1.ext hE1
    have hy := h2.ext hE1
    clear h1 h2
    go_wp2_with fail
    refine (fewE_any _ _ _ ys _ hy).mono ?_
    rintro e w2 ⟨rfl, hE2⟩
    replace hx := hx.ext hE2
    have hE02 := hE1.trans hE2
    go_wp2_with fail
    refine (small_any _ _ _ xs _ hx HT.out).mono ?_
    rintro e w3 ⟨rfl, rfl⟩
    rw [hsb]
    go_wp2
    go_ret
    exact ⟨rfl, hE02⟩

end Go.Proofs.Ythjldbefjkbniaa
