/-
  The reference's Text, Ints and Next, walked.
-/
import Derived.Test.YtfohekfhcolnfaaDoorD8
namespace Go.Proofs.YtfohekfhcolnfaaDoor
open Go.RowKit Go.Sort
set_option linter.unusedSimpArgs false
set_option linter.unusedVariables false
set_option maxRecDepth 100000

theorem txt_len_le {xs : List Int} (h : ∀ x ∈ xs, (Lit.int .i64 x).wf = true) : (txt xs).length ≤ 22 * xs.length := by
  induction xs with
  | nil => simp [txt]
  | cons x xs ih =>
    have h1 := dec_le (wf_i64 (h x (by simp)))
    have h2 := ih fun y hy => h y (by simp [hy])
    simp only [txt, List.flatMap_cons, List.length_append, List.length_cons, List.length_nil] at h2 ⊢
    omega

theorem rtext_any (a1 : Option Addr) (n1 c1 : Nat) (xs : List Int) (w : World) (h1 : Sl .i64 w a1 n1 c1 xs) (hs : n1 ≤ 1000) :
    Calls Tryd.prog 47 #[.slice a1 n1 c1] w fun e w' => ∃ a' c', e = .returned (.slice a' (txt xs).length c') ∧ OwI .u8 5 w.heap.size w' a' (txt xs).length c' (txt xs) ∧ Ext w w' := by
  have b1 := h1.bd
  have e1 := Lib.hid h1.hlen
  go_enter Tryd.func47, Tryd.ntmps47
  go_wp2_with fail
  go_loopw [3, 4] (fun o i wr => ∃ (k m c : Nat) (a : Option Addr) (ys : List Int), k ≤ n1 ∧ i = .int .i64 k ∧ o = .slice a m c ∧ m = ys.length ∧ m ≤ 22 * k ∧ ys = txt (xs.take k) ∧ OwI .u8 5 w.heap.size wr a m c ys ∧ Ext w wr) (fun _ i _ => n1 - (intOf i).toNat)
  case atStart => exact ⟨0, 0, 0, none, [], by omega, rfl, rfl, rfl, by omega, by simp [txt], OwI.nil _ _ _ _, Ext.refl w⟩
  case round =>
    obtain ⟨k, m, c, a, ys, hk, rfl, rfl, hm, hm2, hys, ho, hE⟩ := hrel
    have HM := Lib.hid hm
    have HY := Lib.hid hys
    clear hm hys
    have hsz := hE.sz
    by_cases hlt : k < n1
    · obtain ⟨x1, o1, rfl, hc1⟩ := h1.at (by omega)
      have g1 := hE.cell (hc1 k hlt)
      have w1 := wf_i64 (h1.wfAt hlt)
      have hl2 := dec_le w1
      have hl3 := dec_len (nth xs k)
      clear hc1
      go_wp2_with (first | (go_at_call 57; refine (decimal_any _ _ rfl w1.1 w1.2 _).mono ?_; rintro e w2 ⟨rfl, hE2⟩; have ho2 := ho.ext hE2; have hsz2 := hE2.sz) | (at_builtin; refine appSs el_u8 (by kernel_rfl) rfl _ _ rfl _ w.heap.size _ _ _ _ rfl ho2 _ rfl (by omega) (by omega) ?_; intro a3 c3 w3 ho3 hB3; refine hold ?_))
      refine held ?_
      have hsz3 := hB3.size
      go_wp2_with (at_builtin; refine app1 el_u8 rfl _ _ rfl _ w.heap.size _ _ _ _ 32 rfl ho3 rfl (by omega) (by unfold maxLen; omega) (by omega) ?_; intro g4 c4 w4 ho4 hB4)
      go_roundw
      case rel =>
        refine ⟨k + 1, _, c4, _, _, by omega, by go_num, rfl, ?_, by omega, ?_, ho4, Below.trans (Below.trans hE (Below.mono hE2 hsz)) (Below.trans hB3 hB4)⟩
        · rw [List.length_append, List.length_append, HM.out]; simp
        · rw [txt, fm_take_succ (by rw [e1.out]; omega), ← List.append_assoc, HY.out, txt, dec]
      case measure => simp [intOf]; omega
    · go_wp2
      go_ret
      have hx : txt xs = ys := by rw [HY.out, List.take_of_length_le (by have := e1.out; omega)]
      have hy : (txt xs).length = m := by rw [HM.out, ← hx]
      rw [hy, hx]
      exact ⟨a, c, rfl, ho, hE⟩

theorem rints_any (a1 : Option Addr) (n1 c1 : Nat) (xs : List Int) (w : World) (h1 : Sl .i64 w a1 n1 c1 xs) (hs : n1 ≤ 1000) :
    Calls Tryd.prog 36 #[.slice a1 n1 c1] w fun e w' => e = .returned (.int .u64 (fnv (txt xs))) ∧ Ext w w' := by
  have b1 := h1.bd
  go_enter Tryd.func36, Tryd.ntmps36
  go_wp2_with (go_at_call 47; refine (rtext_any a1 n1 c1 xs w h1 hs).mono ?_; rintro e w1 ⟨a', c', rfl, ho, hB⟩; have hsl := ho.sl (txt_wf xs))
  go_at_call 48
  refine (rsum_any _ _ _ _ _ hsl).mono ?_
  rintro e w2 ⟨rfl, rfl⟩
  go_wp2_with fail
  go_ret
  exact ⟨rfl, hB⟩

theorem rnext_any (d : Int) (hd : 0 ≤ d ∧ d ≤ 18446744073709551615) (a1 : Option Addr) (n1 c1 : Nat) (xs : List Int) (w : World) (h1 : Sl .i64 w a1 n1 c1 xs) (hs : n1 ≤ 1000) :
    Calls Tryd.prog 26 #[.int .u64 d, .slice a1 n1 c1] w fun e w' => e = .returned (.int .u64 (fnv (be8 d.toNat ++ txt xs))) ∧ Ext w w' := by
  have b1 := h1.bd
  have ht := txt_len_le h1.wf
  have e1 := h1.hlen
  go_enter Tryd.func26, Tryd.ntmps26
  go_wp2_with (go_at_call 46; refine (eight_any d hd w).mono ?_; rintro e w1 ⟨g0, c0, rfl, ho1, hE1⟩; have h2 := h1.ext hE1; have hz1 := hE1.sz; refine hold ?_)
  refine held ?_
  go_wp2_with (first | (go_at_call 47; refine (rtext_any a1 n1 c1 xs w1 h2 hs).mono ?_; rintro e w2 ⟨a', c', rfl, ho, hB⟩; have hsl := ho.sl (txt_wf xs); have ho3 := ho1.ext hB; have hz2 := hB.size) | (at_builtin; refine appA el_u8 rfl _ _ rfl _ w.heap.size _ _ _ _ rfl ho3 _ _ _ _ rfl hsl (by omega) (by unfold maxLen; omega) (by omega) ?_; intro a4 c4 w3 ho4 hB4; refine hold ?_))
  refine held ?_
  have hsl4 := ho4.sl (fun x hx => (List.mem_append.1 hx).elim (be8_wf _ x) (txt_wf xs x))
  go_wp2_with (go_at_call 48; refine (rsum_any _ _ _ _ _ hsl4).mono ?_; rintro e w4 ⟨rfl, rfl⟩)
  go_ret
  exact ⟨rfl, Below.trans (Ext.trans hE1 hB) hB4⟩

end Go.Proofs.YtfohekfhcolnfaaDoor
