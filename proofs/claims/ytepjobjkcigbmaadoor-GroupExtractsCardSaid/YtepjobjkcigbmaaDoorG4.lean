/-
  Challenges and the reference's small functions, walked.
-/
import Derived.Test.YtepjobjkcigbmaaDoorG3
import Derived.Test.YtepjobjkcigbmaaDoorTB
namespace Go.Proofs.YtepjobjkcigbmaaDoor
open Go.RowKit Go.Sort
set_option linter.unusedSimpArgs false
set_option linter.unusedVariables false
set_option maxRecDepth 100000

/-- The challenge of two integers and a message. -/
def chal (b p : Int) (ms : List Int) : Int := fnv (txt (b :: p :: ms)) % 1073741789
theorem chal_lt (b p : Int) (ms : List Int) : 0 ≤ chal b p ms ∧ chal b p ms < 1073741789 := by unfold chal; omega

theorem two_sl {w : World} {a b : Int} (ha : (Lit.int .i64 a).wf = true) (hb : (Lit.int .i64 b).wf = true) {ms : List Int} (hm : ∀ x ∈ ms, (Lit.int .i64 x).wf = true) : ∀ x ∈ [a, b] ++ ms, (Lit.int .i64 x).wf = true := by
  intro x hx
  simp only [List.cons_append, List.nil_append, List.mem_cons] at hx
  rcases hx with rfl | rfl | hx
  · exact ha
  · exact hb
  · exact hm x hx

theorem challenge_any (b p : Int) (hb : (Lit.int .i64 b).wf = true) (hp : (Lit.int .i64 p).wf = true) (a1 : Option Addr) (n1 c1 : Nat) (ms : List Int) (w : World) (h1 : Sl .i64 w a1 n1 c1 ms) (hn : n1 ≤ 500) (ht : TB w) :
    Calls Tryd.prog 32 #[.int .i64 b, .int .i64 p, .slice a1 n1 c1] w fun e w' => e = .returned (.int .i64 (chal b p ms)) ∧ Ext w w' := by
  have b1 := h1.bd
  have HT := Lib.hid ht
  clear ht
  have ho0 := OwI.lit .i64 3 (base := w.heap.size) w [b, p] (Nat.le_refl _) (by unfold maxLen; simp) #[.int .i64 b, .int .i64 p] rfl
  have hE0 : Ext w (w.alloc (.cells #[.int .i64 b, .int .i64 p] 3)) := (Ext.refl w).alloc _
  have k1 := h1.ext hE0
  simp only [List.length_cons, List.length_nil, Nat.zero_add, Nat.reduceAdd] at ho0
  unfold chal
  go_enter Tryd.func32, Tryd.ntmps32
  go_wp2_with (at_builtin; refine appA el_i64 rfl _ _ rfl _ w.heap.size _ _ _ _ rfl ho0 _ _ _ _ rfl k1 (by simp) (by unfold maxLen; omega) (by omega) ?_; intro a2 c2 w2 ho2 hB2; refine hold ?_)
  refine held ?_
  have hE2 : Ext w w2 := Below.trans hE0 hB2
  have hs2 := ho2.sl (two_sl (w := w) hb hp h1.wf)
  clear ho0 hE0 k1 ho2 hB2
  go_wp2_with fail
  refine (dints_any _ _ _ _ w2 hs2 (by omega) (TB.ext HT.out hE2)).mono ?_
  rintro e w3 ⟨rfl, hE3⟩
  have hr := fnv_rng (txt ([b, p] ++ ms))
  simp only [List.cons_append, List.nil_append] at hr ⊢
  generalize hF : fnv (txt (b :: p :: ms)) = F at *
  have HF := Lib.hid hF
  clear hF
  go_wp2_with fail
  go_ret
  exact ⟨ret_int (by rw [HF.out]), hE2.trans hE3⟩

theorem rchallenge_any (b p : Int) (hb : (Lit.int .i64 b).wf = true) (hp : (Lit.int .i64 p).wf = true) (a1 : Option Addr) (n1 c1 : Nat) (ms : List Int) (w : World) (h1 : Sl .i64 w a1 n1 c1 ms) (hn : n1 ≤ 500) :
    Calls Tryd.prog 25 #[.int .i64 b, .int .i64 p, .slice a1 n1 c1] w fun e w' => e = .returned (.int .i64 (chal b p ms)) ∧ Ext w w' := by
  have b1 := h1.bd
  have ho0 := OwI.lit .i64 3 (base := w.heap.size) w [b, p] (Nat.le_refl _) (by unfold maxLen; simp) #[.int .i64 b, .int .i64 p] rfl
  have hE0 : Ext w (w.alloc (.cells #[.int .i64 b, .int .i64 p] 3)) := (Ext.refl w).alloc _
  have k1 := h1.ext hE0
  simp only [List.length_cons, List.length_nil, Nat.zero_add, Nat.reduceAdd] at ho0
  unfold chal
  go_enter Tryd.func25, Tryd.ntmps25
  go_wp2_with (at_builtin; refine appA el_i64 rfl _ _ rfl _ w.heap.size _ _ _ _ rfl ho0 _ _ _ _ rfl k1 (by simp) (by unfold maxLen; omega) (by omega) ?_; intro a2 c2 w2 ho2 hB2; refine hold ?_)
  refine held ?_
  have hE2 : Ext w w2 := Below.trans hE0 hB2
  have hs2 := ho2.sl (two_sl (w := w) hb hp h1.wf)
  clear ho0 hE0 k1 ho2 hB2
  go_wp2_with fail
  refine (rints_any _ _ _ _ w2 hs2 (by omega)).mono ?_
  rintro e w3 ⟨rfl, hE3⟩
  have hr := fnv_rng (txt ([b, p] ++ ms))
  simp only [List.cons_append, List.nil_append] at hr ⊢
  generalize hF : fnv (txt (b :: p :: ms)) = F at *
  have HF := Lib.hid hF
  clear hF
  go_wp2_with fail
  go_ret
  exact ⟨ret_int (by rw [HF.out]), hE2.trans hE3⟩

theorem gfew_any (a1 : Option Addr) (n1 c1 : Nat) (xs : List Int) (w : World) (h1 : Sl .i64 w a1 n1 c1 xs) :
    Calls Tryd.prog 10 #[.slice a1 n1 c1] w fun e w' => e = .returned (.slice a1 (min n1 20) c1) ∧ w = w' := by
  have b1 := h1.bd
  by_cases hn : n1 ≤ 20
  · rw [Nat.min_eq_left hn]
    have hm : (min (n1 : Int) 20).toNat = n1 := by omega
    have HM := Lib.hid hm
    clear hm
    go_enter Tryd.func10, Tryd.ntmps10
    go_wp2
    go_ret
    exact ⟨by show Ending.returned (.slice a1 (min (n1 : Int) 20).toNat c1) = _; rw [HM.out], rfl⟩
  · rw [Nat.min_eq_right (by omega)]
    have hm : (min (n1 : Int) 20).toNat = 20 := by omega
    have HM := Lib.hid hm
    clear hm
    go_enter Tryd.func10, Tryd.ntmps10
    go_wp2
    go_ret
    exact ⟨by show Ending.returned (.slice a1 (min (n1 : Int) 20).toNat c1) = _; rw [HM.out], rfl⟩

theorem rrest_any (n : Int) (hn : -9223372036854775808 ≤ n ∧ n ≤ 9223372036854775807) (w : World) : Calls Tryd.prog 24 #[.int .i64 n] w fun e w' => e = .returned (.int .i64 (n % 1073741789)) ∧ w' = w := by
  have h1 := Int.tmod_lt_of_pos n (show (0 : Int) < 1073741789 by omega)
  have h2 := Int.lt_tmod_of_pos n (show (0 : Int) < 1073741789 by omega)
  have h3 : (n.tmod 1073741789 + 1073741789) % 1073741789 = n % 1073741789 := by
    rw [Int.add_emod_right]
    have := Int.tmod_add_tdiv_mul n 1073741789 |>.symm
    conv => rhs; rw [← Int.tmod_add_mul_tdiv n 1073741789]
    rw [Int.add_mul_emod_self_left]
  have H3 := Lib.hid h3
  clear h3
  have h4 : 0 ≤ n.tmod 1073741789 + 1073741789 := by omega
  go_enter Tryd.func24, Tryd.ntmps24
  go_wp2_with fail
  go_ret
  exact ⟨ret_int H3.out, rfl⟩

theorem rsecret_any (n : Int) (hn : 0 ≤ n ∧ n ≤ 18446744073709551615) (w : World) : Calls Tryd.prog 22 #[.int .u64 n] w fun e w' => e = .returned (.int .i64 (1 + n % 1073741788)) ∧ w' = w := by
  go_enter Tryd.func22, Tryd.ntmps22
  go_wp2_with fail
  go_ret
  exact ⟨rfl, rfl⟩

theorem relement_any (n : Int) (hn : 0 ≤ n ∧ n ≤ 18446744073709551615) (w : World) : Calls Tryd.prog 21 #[.int .u64 n] w fun e w' => e = .returned (.int .i64 (pw 2147483579 4 (n % 1073741789).toNat : Nat)) ∧ w' = w := by
  have hp := fun w => rpower_any 2147483579 4 (n % 1073741789).toNat (by omega) (by omega) (by omega) (by omega) w
  rw [show (((n % 1073741789).toNat : Nat) : Int) = n % 1073741789 by omega] at hp
  generalize pw 2147483579 4 (n % 1073741789).toNat = V at *
  go_enter Tryd.func21, Tryd.ntmps21
  go_wp2_with (go_at_call 30; refine (hp _).mono ?_; rintro e w1 ⟨rfl, rfl⟩)
  go_ret
  exact ⟨rfl, rfl⟩

theorem rpublic_any (x : Nat) (hx : x < 9223372036854775808) (w : World) : Calls Tryd.prog 23 #[.int .i64 x] w fun e w' => e = .returned (.int .i64 (pw 2147483579 4 x : Nat)) ∧ w' = w := by
  have hp := fun w => rpower_any 2147483579 4 x (by omega) (by omega) (by omega) (by omega) w
  generalize pw 2147483579 4 x = V at *
  go_enter Tryd.func23, Tryd.ntmps23
  go_wp2_with (go_at_call 30; refine (hp _).mono ?_; rintro e w1 ⟨rfl, rfl⟩)
  go_ret
  exact ⟨rfl, rfl⟩

theorem pw_lt {m a x : Nat} (hm : 0 < m) : pw m a x < m := by rw [pw_def]; exact Nat.mod_lt _ hm

theorem rover_any (a b : Nat) (ha : a < 1073741789) (hb : b < 1073741789) (w : World) : Calls Tryd.prog 28 #[.int .i64 a, .int .i64 b] w fun e w' => e = .returned (.int .i64 ((a * pw 1073741789 b 1073741787 % 1073741789 : Nat) : Int)) ∧ w' = w := by
  have hp := fun w => rpower_any 1073741789 b 1073741787 (by omega) (by omega) hb (by omega) w
  have hv := pw_lt (m := 1073741789) (a := b) (x := 1073741787) (by omega)
  generalize pw 1073741789 b 1073741787 = V at *
  have h1 : a * V ≤ 1073741789 * 1073741789 := Nat.mul_le_mul (by omega) (by omega)
  have h2 : (a : Int) * V = ((a * V : Nat) : Int) := by push_cast; rfl
  generalize hm : a * V = M at *
  go_enter Tryd.func28, Tryd.ntmps28
  go_wp2_with (go_at_call 30; refine (hp _).mono ?_; rintro e w1 ⟨rfl, rfl⟩)
  go_ret
  exact ⟨rfl, rfl⟩
end Go.Proofs.YtepjobjkcigbmaaDoor
