/-
  The law of nonces, walked; and why they differ.
-/
import Derived.Test.YtfohekfhcolnfaaDoorC22
namespace Go.Proofs.YtfohekfhcolnfaaDoor
open Go.RowKit Go.Sort Go.Shelf
set_option linter.unusedSimpArgs false
set_option linter.unusedVariables false
set_option maxRecDepth 100000

theorem txt_cat (xs ys : List Int) : txt (xs ++ ys) = txt xs ++ txt ys := by simp [txt]
theorem dec_one {a : Int} (h : 1 ≤ a ∧ a ≤ 9) : dec a = [48 + a] := by
  rw [dec_split (by omega), if_pos (by omega)]
  simp
  omega
theorem txt_one {a : Int} (h : 1 ≤ a ∧ a ≤ 9) : txt [a] = [48 + a, 32] := by simp [txt, dec_one h]
theorem nonF_auth (h host round : Int) {a b : Int} (ha : 1 ≤ a ∧ a ≤ 9) (hb : 1 ≤ b ∧ b ≤ 9) (hne : a ≠ b) : nonF h host round a ≠ nonF h host round b := by
  unfold nonF
  rw [show [host, round, a] = [host, round] ++ [a] from rfl, show [host, round, b] = [host, round] ++ [b] from rfl, txt_cat, txt_cat, txt_one ha, txt_one hb, ← List.append_assoc, ← List.append_assoc]
  exact fnv_byte (by omega) (by omega) (by omega)
theorem nonF_round (h host auth : Int) {a b : Int} (ha : 1 ≤ a ∧ a ≤ 9) (hb : 1 ≤ b ∧ b ≤ 9) (hne : a ≠ b) : nonF h host a auth ≠ nonF h host b auth := by
  unfold nonF
  rw [show [host, a, auth] = [host] ++ ([a] ++ [auth]) from rfl, show [host, b, auth] = [host] ++ ([b] ++ [auth]) from rfl, txt_cat, txt_cat, txt_cat, txt_cat, txt_one ha, txt_one hb]
  have := fnv_byte (xs := be8 h.toNat ++ txt [host]) (zs := 32 :: txt [auth]) (x := 48 + a) (y := 48 + b) (by omega) (by omega) (by omega)
  simpa [List.append_assoc] using this
theorem wfi {n : Int} (h1 : -9223372036854775808 ≤ n) (h2 : n ≤ 9223372036854775807) : (Lit.int .i64 n).wf = true := by simp [Lit.wf, IntKind.min, IntKind.max, IntKind.signed, IntKind.bits]; omega

theorem cnonces_law (h host round auth one two : Int) (hh : 0 ≤ h ∧ h ≤ 18446744073709551615) (w1' : (Lit.int .i64 host).wf = true) (w2' : (Lit.int .i64 round).wf = true) (w3' : (Lit.int .i64 auth).wf = true) (ho : 0 ≤ one ∧ one ≤ 255) (ht2 : 0 ≤ two ∧ two ≤ 255) (w : World) (ht : TB w) :
    Calls Tryd.prog 8 #[.int .u64 h, .int .i64 host, .int .i64 round, .int .i64 auth, .int .u8 one, .int .u8 two] w (Yes w) := by
  have HT := Lib.hid ht
  clear ht
  by_cases hab : 1 + one % 9 = 1 + two % 9
  · go_enter Tryd.func8, Tryd.ntmps8
    go_wp2_with fail
    refine (chead_any w HT.out).mono ?_
    rintro e w1 ⟨rfl, hE1⟩
    go_wp2_with fail
    go_ret
    exact ⟨rfl, hE1⟩
  have hq : decide (1 + one % 9 = 1 + two % 9) = false := by simpa using hab
  have q1 := fun a b => nonF_auth h host round (a := 1 + one % 9) (b := 1 + two % 9) a b hab
  have q2 := fun a b => nonF_round h host auth (a := 1 + one % 9) (b := 1 + two % 9) a b hab
  have Q1 := Lib.hid (q1 (by omega) (by omega))
  have Q2 := Lib.hid (q2 (by omega) (by omega))
  have HA := Lib.hid hab
  clear q1 q2
  go_enter Tryd.func8, Tryd.ntmps8
  go_wp2_with fail
  refine (chead_any w HT.out).mono ?_
  rintro e w1 ⟨rfl, hE1⟩
  go_wp2_with fail
  refine (nonce_any h host round (1 + one % 9) hh w1' w2' (wfi (by omega) (by omega)) w1 (TB.ext HT.out hE1)).mono ?_
  rintro e w2 ⟨rfl, hE2⟩
  replace hE2 := hE1.trans hE2
  go_wp2_with fail
  refine (nonce_any h host round (1 + two % 9) hh w1' w2' (wfi (by omega) (by omega)) w2 (TB.ext HT.out hE2)).mono ?_
  rintro e w3 ⟨rfl, hE3⟩
  replace hE3 := hE2.trans hE3
  have b1 : (nonF h host round (1 + one % 9) != nonF h host round (1 + two % 9)) = true := by simpa using Q1.out
  generalize nonF h host round (1 + one % 9) = N1 at b1 ⊢
  generalize nonF h host round (1 + two % 9) = N2 at b1 ⊢
  go_wp2_with fail
  refine (nonce_any h host (1 + one % 9) auth hh w1' (wfi (by omega) (by omega)) w3' w3 (TB.ext HT.out hE3)).mono ?_
  rintro e w4 ⟨rfl, hE4⟩
  replace hE4 := hE3.trans hE4
  go_wp2_with fail
  refine (nonce_any h host (1 + two % 9) auth hh w1' (wfi (by omega) (by omega)) w3' w4 (TB.ext HT.out hE4)).mono ?_
  rintro e w5 ⟨rfl, hE5⟩
  replace hE5 := hE4.trans hE5
  have b2 : (nonF h host (1 + one % 9) auth != nonF h host (1 + two % 9) auth) = true := by simpa using Q2.out
  generalize nonF h host (1 + one % 9) auth = N3 at b2 ⊢
  generalize nonF h host (1 + two % 9) auth = N4 at b2 ⊢
  go_wp2_with fail
  go_ret
  exact ⟨rfl, hE5⟩
end Go.Proofs.YtfohekfhcolnfaaDoor
