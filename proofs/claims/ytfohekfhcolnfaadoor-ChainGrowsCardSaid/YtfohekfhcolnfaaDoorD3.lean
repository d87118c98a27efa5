/-
  digest.text, walked: the decimal texts of integers behind bytes.
-/
import Derived.Test.YtfohekfhcolnfaaDoorD2
namespace Go.Proofs.YtfohekfhcolnfaaDoor
open Go.RowKit Go.Sort
set_option linter.unusedSimpArgs false
set_option linter.unusedVariables false
set_option maxRecDepth 100000

theorem fm_take_succ {xs : List Int} {k : Nat} (h : k < xs.length) (f : Int → List Int) : (xs.take (k+1)).flatMap f = (xs.take k).flatMap f ++ f (nth xs k) := by
  rw [take_nth_succ h, List.flatMap_append]; simp

def txt (xs : List Int) : List Int := xs.flatMap fun n => dec n ++ [32]

theorem dec_le {n : Int} (h : -9223372036854775808 ≤ n ∧ n ≤ 9223372036854775807) : (dec n).length ≤ 21 := by
  rw [dec_len]; exact Lib.itoa_length_le n h.1 h.2

theorem dtext_any (B : Nat) (a0 : Option Addr) (n0 c0 : Nat) (zs : List Int) (a1 : Option Addr) (n1 c1 : Nat) (xs : List Int) (w : World) (h0 : OwI .u8 5 B w a0 n0 c0 zs) (hB : B ≤ w.heap.size) (hn0 : n0 ≤ 1000000) (h1 : Sl .i64 w a1 n1 c1 xs) (hs : n1 ≤ 1000) (hbl : ∀ b off, a1 = some ⟨b, off, none⟩ → 0 < n1 → b < B)
    (htab : Lib.TabBelow Tryd.prog B w "internal/strconv.uint64pow10" .u64 Lib.pow10Tab) :
    Calls Tryd.prog 45 #[.slice a0 n0 c0, .slice a1 n1 c1] w fun e w' => ∃ a' c', e = .returned (.slice a' (n0 + (txt xs).length) c') ∧ OwI .u8 5 B w' a' (n0 + (txt xs).length) c' (zs ++ txt xs) ∧ Below B w w' := by
  have b1 := h1.bd
  have e1 := Lib.hid h1.hlen
  go_enter Tryd.func45, Tryd.ntmps45
  have HT := Lib.hid htab
  clear htab
  go_wp2_with fail
  go_loopw [0, 9] (fun o i wr => ∃ (k m c : Nat) (a : Option Addr) (ys : List Int), k ≤ n1 ∧ i = .int .i64 k ∧ o = .slice a m c ∧ m = ys.length ∧ m ≤ n0 + 22 * k ∧ ys = zs ++ txt (xs.take k) ∧ OwI .u8 5 B wr a m c ys ∧ Below B w wr) (fun _ i _ => n1 - (intOf i).toNat)
  case atStart => exact ⟨0, n0, c0, a0, zs, by omega, rfl, rfl, h0.hlen.symm, by omega, by simp [txt], h0, Below.refl _ _⟩
  case round =>
    obtain ⟨k, m, c, a, ys, hk, rfl, rfl, hm, hm2, hys, ho, hE⟩ := hrel
    have HM := Lib.hid hm
    have HY := Lib.hid hys
    clear hm hys
    have hBr : B ≤ wr.heap.size := Nat.le_trans hB hE.size
    by_cases hlt : k < n1
    · obtain ⟨x1, o1, rfl, hc1⟩ := h1.at (by omega)
      have g1 := (hE.cell (p := ⟨x1, o1 + k, none⟩) (hbl x1 o1 rfl (by omega))).trans (hc1 k hlt)
      have w1 := wf_i64 (h1.wfAt hlt)
      have hl2 := dec_le w1
      clear hc1
      go_wp2_with (go_at_call 56; refine (appendInt_any B _ w1.1 w1.2 a m c ys wr ho hBr (by omega) (HT.out.on hE)).mono ?_; rintro e w2 ⟨g2, c2, rfl, ho2, hB2⟩; refine hold ?_)
      refine held ?_
      have hB2' : B ≤ w2.heap.size := Nat.le_trans hBr hB2.size
      go_wp2_with (at_builtin; refine app1 el_u8 rfl _ _ rfl _ B _ _ _ _ 32 rfl ho2 rfl hB2' (by unfold maxLen; omega) (by omega) ?_; intro g3 c3 w3 ho3 hB3)
      go_roundw
      case rel => exact ⟨k + 1, _, c3, _, _, by omega, by go_num, rfl, by rw [List.length_append, List.length_append, HM.out]; rfl, by omega, by rw [txt, fm_take_succ (by rw [e1.out]; omega), ← List.append_assoc, ← List.append_assoc, HY.out, txt], ho3, Below.trans hE (Below.trans hB2 hB3)⟩
      case measure => simp [intOf]; omega
    · go_wp2
      go_ret
      have hx : zs ++ txt xs = ys := by rw [HY.out, List.take_of_length_le (by have := e1.out; omega)]
      have hy : n0 + (txt xs).length = m := by rw [HM.out, ← hx, List.length_append, h0.hlen]
      rw [hx, hy]
      exact ⟨a, c, rfl, ho, hE⟩
end Go.Proofs.YtfohekfhcolnfaaDoor
