
import Derived.Test.YtcpojkodidflcaaW7
namespace Go.Proofs.Ytcpojkodidflcaa
open Go.RowKit Go.Sort Go.Shelf
set_option linter.unusedSimpArgs false
set_option linter.unusedVariables false
set_option maxRecDepth 100000

set_option maxHeartbeats 400000 in
theorem put2_any (a1 : Option Addr) (n1 c1 : Nat) (xs : List Int) (w : World) (h1 : Sl .i64 w a1 n1 c1 xs) (hs : n1 ≤ 1000) :
    Calls Try.prog 39 #[.slice a1 n1 c1] w fun e w' => ∃ g c, e = .returned (.tuple #[.slice (some ⟨g, 0, none⟩) (lput xs).length c, .int .i64 0]) ∧
      OwI .u8 5 w.heap.size w' (some ⟨g, 0, none⟩) (lput xs).length c (lput xs) ∧ Ext w w' := by
  have b1 := h1.bd
  have e1 := Lib.hid h1.hlen
  go_enter Try.func39, Try.ntmps39
  go_wp2_with (go_at_call 47; refine (put_any w.heap.size _ _ _ [] n1 _ (by omega) (OwI.nil _ _ _ _) (Nat.le_refl _) (by omega)).mono ?_; rintro e w1 ⟨g, c, rfl, ho1, hB1⟩)
  simp only [Nat.zero_add, List.nil_append] at ho1
  have hl1 := digs_num_len (n := n1) (by omega)
  have hq : Hid (digs (num xs.length) = digs (num n1)) := by have := e1.out; unfold Hid; rw [this]
  generalize digs (num n1) = ds at *
  go_loopw [4, 15] (fun o i wr => ∃ (k m g c : Nat) (ys : List Int), k ≤ n1 ∧ i = .int .i64 k ∧ o = .slice (some ⟨g, 0, none⟩) m c ∧ m = ys.length ∧ m ≤ 10 + 10 * k ∧ ys = ds ++ (xs.take k).flatMap (fun x => digs (num x)) ∧ OwI .u8 5 w.heap.size wr (some ⟨g, 0, none⟩) m c ys ∧ Ext w wr) (fun _ i _ => n1 - (intOf i).toNat)
  case atStart => exact ⟨0, ds.length, g, c, ds, by omega, rfl, rfl, rfl, by omega, by simp, ho1, hB1⟩
  case round =>
    obtain ⟨k, m, g, c, ys, hk, rfl, rfl, hm, hm2, hys, ho, hE⟩ := hrel
    have HM := Lib.hid hm
    have HY := Lib.hid hys
    clear hm hys
    by_cases hlt : k < n1
    · obtain ⟨x1, o1, rfl, hc1⟩ := h1.at (by omega)
      have g1 := hE.cell (hc1 k hlt)
      have w1 := wf_i64 (h1.wfAt hlt)
      have hl2 := digs_num_len w1
      clear hc1
      go_wp2_with (go_at_call 47; refine (put_any w.heap.size _ _ _ ys _ _ w1 ho hE.sz (by omega)).mono ?_; rintro e w2 ⟨g2, c2, rfl, ho2, hB2⟩)
      go_roundw
      case rel => exact ⟨k + 1, _, g2, c2, _, by omega, by go_num, rfl, by rw [List.length_append, HM.out], by omega, by rw [flatMap_take_succ (by rw [e1.out]; omega), ← List.append_assoc, ← HY.out], ho2, Below.trans hE hB2⟩
      case measure => simp [intOf]; omega
    · go_wp2
      go_ret2
      have hx : lput xs = ys := by rw [HY.out, lput, hq.out, List.take_of_length_le (by have := e1.out; omega)]
      rw [hx, ← HM.out]
      exact ⟨g, c, rfl, ho, hE⟩

theorem put2_big (a1 : Option Addr) (n1 c1 : Nat) (xs : List Int) (w : World) (h1 : Sl .i64 w a1 n1 c1 xs) (hs : 1000 < n1) :
    Calls Try.prog 39 #[.slice a1 n1 c1] w fun e w' => e = .returned (.tuple #[.slice none 0 0, .int .i64 2]) ∧ w = w' := by
  have b1 := h1.bd
  go_enter Try.func39, Try.ntmps39
  go_wp2
  go_ret2
  exact ⟨rfl, rfl⟩


end Go.Proofs.Ytcpojkodidflcaa
