import Derived.Test.YthjldbefjkbniaaW16
import Derived.Test.YthjldbefjkbniaaPl2
namespace Go.Proofs.Ythjldbefjkbniaa
open Go.RowKit Go.Sort Go.Shelf
set_option linter.unusedSimpArgs false
set_option linter.unusedVariables false
set_option maxRecDepth 100000

theorem frs_take_succ {xs : List (List Int)} {k : Nat} (h : k < xs.length) : frs (xs.take (k+1)) = frs (xs.take k) ++ lframe (nthL xs k) := by
  rw [take_nthL_succ h]; unfold frs; rw [List.flatMap_append]; simp

theorem frs_take_le (xs : List (List Int)) (k : Nat) : (frs (xs.take k)).length ≤ (frs xs).length := by
  have e : frs xs = frs (xs.take k) ++ frs (xs.drop k) := by unfold frs; rw [← List.flatMap_append, List.take_append_drop]
  rw [e, List.length_append]; omega

def FramedPost (w w' : World) (e : Ending) (bs : List Int) : Prop :=
  ∃ a c, e = .returned (.tuple #[.slice a bs.length c, .bool true]) ∧ OwI .u8 5 w.heap.size w' a bs.length c bs ∧ Ext w w'

set_option maxHeartbeats 400000 in
theorem framed_any (a1 : Option Addr) (n1 c1 : Nat) (xs : List (List Int)) (w : World) (h1 : Sll .i64 w a1 n1 c1 xs) (hok : okL xs) (hb : (frs xs).length ≤ 1000000) :
    Calls Try.prog 24 #[.slice a1 n1 c1] w fun e w' => FramedPost w w' e (frs xs) := by
  have b1 := h1.bd
  have e1 := Lib.hid h1.hlen
  have HK := Lib.hid hok
  have HT := Lib.hid (frs_take_le xs)
  clear hok
  go_enter Try.func24, Try.ntmps24
  go_wp2
  go_loopw [4, 11] (fun o i wr => ∃ (k m c : Nat) (a : Option Addr) (ys : List Int), k ≤ n1 ∧ i = .int .i64 k ∧ o = .slice a m c ∧ m ≤ 1000000 ∧ ys = frs (xs.take k) ∧ OwI .u8 5 w.heap.size wr a m c ys ∧ Ext w wr) (fun _ i _ => n1 - (intOf i).toNat)
  case atStart => exact ⟨0, 0, 0, none, [], by omega, rfl, rfl, by omega, rfl, OwI.nil _ _ _ _, Ext.refl _⟩
  case round =>
    obtain ⟨k, m, c, a, ys, hk, rfl, rfl, hm, hys, ho, hE⟩ := hrel
    have HY := Lib.hid hys
    clear hys
    have hml := Lib.hid ho.hlen
    by_cases hlt : k < n1
    · obtain ⟨x1, o1, rfl, hc1⟩ := h1.at (by omega)
      obtain ⟨p1, q1, r1, g1, s1⟩ := hc1 k hlt
      replace g1 := hE.cell g1
      replace s1 := s1.ext hE
      have hq : q1 ≤ 1000 := by
        have := (HK.out _ (nthL_mem (xs := xs) (i := k) (by rw [e1.out]; exact hlt))).1
        rw [s1.hlen] at this; exact this
      have hfs := frs_take_succ (xs := xs) (k := k) (by rw [e1.out]; exact hlt)
      have hbd : m + (lframe (nthL xs k)).length ≤ 1000000 := by
        have h2 := HT.out (k + 1)
        rw [hfs, List.length_append, ← HY.out, hml.out] at h2
        omega
      have hp : 0 < (lframe (nthL xs k)).length := by rw [lframe_len]; omega
      have HF := Lib.hid hfs
      have hwf := Lib.hid (lframe_wf (nthL xs k))
      clear hc1 hfs
      go_wp2_with fail
      refine (frame_any _ _ _ _ _ s1 hq).mono ?_
      rintro e w2 ⟨g2, c2, rfl, ho2, hE2⟩
      have hs2 := ho2.sl hwf.out
      generalize lframe (nthL xs k) = FR at *
      have ho' := ho.kept hE2
      have hsz : w.heap.size ≤ w2.heap.size := (hE.trans hE2).sz
      clear ho2
      go_wp2_with (at_builtin; refine appS el_u8 rfl _ _ rfl _ w.heap.size _ _ _ _ rfl ho' _ _ _ FR rfl hs2 hp hsz (by unfold maxLen; omega) (by omega) ?_; intro g3 c3 w3 ho3 hB3)
      go_roundw
      case rel => exact ⟨k + 1, _, c3, _, _, by omega, by go_num, rfl, hbd, by rw [HF.out, HY.out], ho3, Below.trans (hE.trans hE2) hB3⟩
      case measure => simp [intOf]; omega
    · go_wp2
      go_ret2
      have hx : frs xs = ys := by rw [HY.out, List.take_of_length_le (by have := e1.out; omega)]
      unfold FramedPost
      rw [hx, hml.out]
      exact ⟨a, c, rfl, ho, hE⟩

end Go.Proofs.Ythjldbefjkbniaa
