/-
  The laws DigestPair and DigestOneByte, walked.
-/
import Derived.Test.YtkophednepcbkaaDoorD15
namespace Go.Proofs.YtkophednepcbkaaDoor
open Go.RowKit Go.Sort
set_option linter.unusedSimpArgs false
set_option linter.unusedVariables false
set_option maxRecDepth 100000

theorem tmod8 (at_ : Int) : ∃ k : Nat, (at_.tmod 8 + 8).tmod 8 = (k : Int) ∧ k < 8 ∧ -8 < at_.tmod 8 ∧ at_.tmod 8 < 8 := by
  have h2 := Int.tmod_lt_of_pos at_ (show (0 : Int) < 8 by omega)
  have h3 := Int.lt_tmod_of_pos at_ (show (0 : Int) < 8 by omega)
  have h4 := Int.tmod_nonneg (8 : Int) (show 0 ≤ at_.tmod 8 + 8 by omega)
  have h5 := Int.tmod_lt_of_pos (at_.tmod 8 + 8) (show (0 : Int) < 8 by omega)
  exact ⟨((at_.tmod 8 + 8).tmod 8).toNat, by omega, by omega, by omega, by omega⟩

theorem dpair_law (a b : Int) (ha : 0 ≤ a ∧ a ≤ 18446744073709551615) (hb : 0 ≤ b ∧ b ≤ 18446744073709551615) (at_ wi : Int) (hat : -9223372036854775808 ≤ at_ ∧ at_ ≤ 9223372036854775807) (hwi : 0 ≤ wi ∧ wi ≤ 255) (w : World) (ht : TB w) :
    Calls Tryd.prog 8 #[.int .u64 a, .int .u64 b, .int .i64 at_, .int .u8 wi] w (Yes w) := by
  have HT := Lib.hid ht
  clear ht
  obtain ⟨k, hk, hk8, r1, r2⟩ := tmod8 at_
  generalize hrr : at_.tmod 8 = r at *
  go_enter Tryd.func8, Tryd.ntmps8
  go_wp2_with fail
  refine (head_any w HT.out).mono ?_
  rintro e w1 ⟨rfl, hE1⟩
  go_wp2_with fail
  refine (dpair_any a b ha hb w1).mono ?_
  rintro e w2 ⟨rfl, hE2⟩
  replace hE2 := hE1.trans hE2; clear hE1
  have ho0 := OwI.lit .u8 5 (base := w2.heap.size) w2 [1] (Nat.le_refl _) (by unfold maxLen; simp) #[.int .u8 1] rfl
  have hE0 : Ext w2 (w2.alloc (.cells #[.int .u8 1] 5)) := (Ext.refl w2).alloc _
  go_wp2_with fail
  generalize hW : w2.alloc (.cells #[.int .u8 1] 5) = W at *
  clear hW
  refine (eight_any a ha W).mono ?_
  rintro e w3 ⟨g3, c3, rfl, ho3, hE3⟩
  have ho1 := ho0.ext hE3
  have hsl := ho3.sl (be8_wf _)
  have hz3 := (hE0.trans hE3).sz
  have hE3' := hE0.trans hE3
  clear ho0 ho3 hE0 hE3
  simp only [List.length_cons, List.length_nil, Nat.zero_add] at ho1
  go_wp2_with (at_builtin; refine guarded (by rfl) ?_; refine appS el_u8 rfl _ _ rfl _ w2.heap.size _ _ _ _ rfl ho1 _ _ _ _ rfl hsl (by omega) hz3 (by unfold maxLen; simp) (by simp) ?_; intro g4 c4 w4 ho4 hB4; refine hold ?_)
  refine held ?_
  have hE4 : Ext w2 w4 := Below.trans hE3' hB4
  clear ho1 hsl hz3 hE3' hB4
  go_wp2_with fail
  refine (eight_any b hb w4).mono ?_
  rintro e w5 ⟨g5, c5, rfl, ho5, hE5⟩
  have ho6 := ho4.ext hE5
  have hsl := ho5.sl (be8_wf _)
  have hE5' := hE4.trans hE5
  have hz5 := hE5'.sz
  clear ho4 ho5 hE4 hE5
  go_wp2_with (at_builtin; refine guarded (by rfl) ?_; refine appS el_u8 rfl _ _ rfl _ w2.heap.size _ _ _ _ rfl ho6 _ _ _ _ rfl hsl (by omega) hz5 (by unfold maxLen; simp) (by simp) ?_; intro g6 c6 w6 ho7 hB6; refine hold ?_)
  refine held ?_
  have hE6 : Ext w w6 := hE2.trans (Below.trans hE5' hB6)
  have hsl6 := ho7.sl (fun x hx => (List.mem_append.1 hx).elim (fun hx => (List.mem_append.1 hx).elim (fun hx => by simp only [List.mem_singleton] at hx; subst hx; decide) (be8_wf _ x)) (be8_wf _ x))
  simp only [List.cons_append, List.nil_append] at hsl6
  clear ho6 hsl hz5 hE5' hB6 ho7 hE2
  go_wp2_with fail
  refine (sum_any _ _ _ _ _ hsl6).mono ?_
  rintro e w' ⟨rfl, rfl⟩
  clear hsl6
  simp only [List.cons_append]
  by_cases hw0 : wi = 0
  · have hq : (wi == 0) = true := by simpa using hw0
    have HW := Lib.hid hw0
    clear hw0
    go_wp2_with fail
    go_ret
    exact ⟨rfl, hE6⟩
  · have hq : (wi == 0) = false := by simpa using hw0
    obtain ⟨v1, v2⟩ := change_val (k := k) ha hwi hk8
    obtain ⟨u1, u2⟩ := change_val (k := k) hb hwi hk8
    have hne1 : (fnv (1 :: (be8 (bits .xor .u64 a (IntKind.u64.wrap (wi * 2 ^ (8 * k)))).toNat ++ be8 b.toNat)) != fnv (1 :: (be8 a.toNat ++ be8 b.toNat))) = true := by
      rw [v1]
      simpa using next_change a.toNat wi.toNat k (by omega) (by omega) hk8 [1] (be8 b.toNat)
    have hne2 : (fnv (1 :: (be8 a.toNat ++ be8 (bits .xor .u64 b (IntKind.u64.wrap (wi * 2 ^ (8 * k)))).toNat)) != fnv (1 :: (be8 a.toNat ++ be8 b.toNat))) = true := by
      rw [u1]
      simpa using next_change b.toNat wi.toNat k (by omega) (by omega) hk8 (1 :: be8 a.toNat) []
    clear v1 u1
    generalize hdd : bits .xor .u64 a (IntKind.u64.wrap (wi * 2 ^ (8 * k))) = dd at *
    generalize hff : bits .xor .u64 b (IntKind.u64.wrap (wi * 2 ^ (8 * k))) = ff at *
    have HN1 := Lib.hid hne1
    have HN2 := Lib.hid hne2
    have HW := Lib.hid hw0
    clear hne1 hne2 hw0
    go_wp2_with fail
    refine (dpair_any dd b v2 hb w6).mono ?_
    rintro e w7 ⟨rfl, hE7⟩
    replace hE7 := hE6.trans hE7; clear hE6
    have hne1 := HN1.out
    simp only [List.cons_append]
    go_wp2_with fail
    clear hne1
    refine (dpair_any a ff ha u2 w7).mono ?_
    rintro e w8 ⟨rfl, hE8⟩
    replace hE8 := hE7.trans hE8; clear hE7
    have hne2 := HN2.out
    simp only [List.cons_append]
    go_wp2_with fail
    go_ret
    exact ⟨rfl, hE8⟩
end Go.Proofs.YtkophednepcbkaaDoor
