import Derived.Test.YthjldbefjkbniaaW16
import Derived.Test.YthjldbefjkbniaaPl
namespace Go.Proofs.Ythjldbefjkbniaa
open Go.RowKit Go.Sort Go.Shelf
set_option linter.unusedSimpArgs false
set_option linter.unusedVariables false
set_option maxRecDepth 100000

set_option maxHeartbeats 1000000 in
theorem inverse_any (a1 : Option Addr) (n1 c1 : Nat) (xs : List Int) (a2 : Option Addr) (n2 c2 : Nat) (ys : List Int) (w : World) (h1 : Sl .i64 w a1 n1 c1 xs) (h2 : Sl .u8 w a2 n2 c2 ys) :
    Calls Try.prog 4 #[.slice a1 n1 c1, .slice a2 n2 c2] w fun e w' => e = .returned (.bool true) ∧ Ext w w' := by
  have b1 := h1.bd
  have b2 := h2.bd
  go_enter Try.func4, Try.ntmps4
  go_wp2_with fail
  refine (head_any _).mono ?_
  rintro e w1 ⟨rfl, hE1⟩
  have hx := h1.ext hE1
  have hy := h2.ext hE1
  obtain ⟨k, hk⟩ : ∃ k, k = min n1 1000 := ⟨_, rfl⟩
  have hk1 : k ≤ n1 := by omega
  have hk2 : k ≤ 1000 := by omega
  have hkc : (k : Int) ≤ c1 := by omega
  have hx' := hx.take hk1
  have hmin : (if (1000 : Int) < (n1 : Int) then (1000 : Int) else (n1 : Int)) = (k : Int) := by split <;> omega
  clear hk
  have k0 : (0 : Int) ≤ (k : Int) := by omega
  go_wp2_with fail
  refine region_ext (by kernel_rfl) (by kernel_rfl) ?_
  repeat (go_big_quiet_step ((go_at_call 10; exact Calls.regrown_of (fewE_any _ _ _ ys _ (hy.ext (ext_grow _ _ _))))))
  refine wpQuiet_nil ?_
  intro w2 hE2
  try simp only [hmin, Int.toNat_natCast]
  replace hx := hx'.ext hE2
  replace hy := (hy.ext hE2).take (m := min n2 3000) (by omega)
  have hE02 := hE1.trans hE2
  generalize xs.take k = XS at *
  generalize ys.take (min n2 3000) = YS at *
  have hm : min n2 3000 ≤ 3000 := by omega
  generalize min n2 3000 = m at *
  clear hx' h1 h2 hE1 hE2 hmin
  have hXl : XS.length ≤ 1000 := by rw [hx.hlen]; exact hk2
  have hgl := lget_lput hx.wf hXl
  have hll := lput_len hx.wf (by omega)
  have HG := Lib.hid hgl
  have HX := Lib.hid hXl
  have HL := Lib.hid hll
  clear hgl hXl hll
  go_wp2_with fail
  refine (put2_any _ _ _ XS _ hx hk2).mono ?_
  rintro e w3 ⟨g3, c3, rfl, s3, hE3⟩
  replace s3 := s3.sl (lput_wf _)
  replace hx := hx.ext hE3
  replace hy := hy.ext hE3
  replace hE02 := hE02.trans hE3
  clear hE3
  generalize hP : lput XS = PX at *
  clear hP
  go_wp2_with fail
  refine (get_any _ _ _ PX _ s3 (by have := HL.out.2; have := HX.out; omega)).mono ?_
  intro e w4 hp
  rw [HG.out] at hp
  obtain ⟨a4, c4, rfl, s4, hE4⟩ := hp
  replace s4 := s4.sl hx.wf
  replace hx := hx.ext hE4
  replace hy := hy.ext hE4
  replace hE02 := hE02.trans hE4
  clear hE4 s3
  go_wp2_with fail
  refine (ints_any _ _ _ _ _ _ XS XS _ hx s4).mono ?_
  rintro e w5 ⟨he, hE5⟩
  rw [show (XS == XS) = true from by simp] at he
  subst he
  replace hy := hy.ext hE5
  replace hE02 := hE02.trans hE5
  clear hE5 s4 hx
  go_wp2_with fail
  refine (get_any _ _ _ YS _ hy (by omega)).mono ?_
  intro e w6 hp
  rcases hr : lget YS with _ | l
  · rw [hr] at hp
    obtain ⟨rfl, hE6⟩ := hp
    replace hE02 := hE02.trans hE6
    clear hE6 hr
    go_wp2
    go_ret
    exact ⟨rfl, hE02⟩
  · rw [hr] at hp
    obtain ⟨a6, c6, rfl, s6, hE6⟩ := hp
    obtain ⟨h3, h4, h5⟩ := lput_lget hy.wf hr
    replace s6 := s6.sl h5
    replace hy := hy.ext hE6
    replace hE02 := hE02.trans hE6
    have H3 := Lib.hid h3
    have H4 := Lib.hid h4
    clear hE6 hr h5 h3 h4
    go_wp2_with fail
    refine (put2_any _ _ _ l _ s6 H4.out).mono ?_
    rintro e w7 ⟨g7, c7, rfl, s7, hE7⟩
    replace s7 := s7.sl (lput_wf _)
    rw [H3.out] at s7 ⊢
    replace hy := hy.ext hE7
    replace hE02 := hE02.trans hE7
    clear hE7 s6
    go_wp2_with fail
    refine (same_any _ _ _ _ _ _ YS YS _ hy s7).mono ?_
    rintro e w8 ⟨he, hE8⟩
    rw [show (YS == YS) = true from by simp] at he
    subst he
    replace hE02 := hE02.trans hE8
    clear hE8 s7 hy
    go_wp2
    go_ret
    exact ⟨rfl, hE02⟩

end Go.Proofs.Ythjldbefjkbniaa
