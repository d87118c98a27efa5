
import Derived.Test.YtcpojkodidflcaaW1
namespace Go.Proofs.Ytcpojkodidflcaa
open Go.RowKit
set_option linter.unusedSimpArgs false
set_option linter.unusedVariables false
set_option maxRecDepth 100000

/-- The eight bytes of a number, the most significant one first. -/
def be8 (d : Nat) : List Int := [((d / 72057594037927936 % 256 : Nat) : Int), ((d / 281474976710656 % 256 : Nat) : Int), ((d / 1099511627776 % 256 : Nat) : Int), ((d / 4294967296 % 256 : Nat) : Int),
  ((d / 16777216 % 256 : Nat) : Int), ((d / 65536 % 256 : Nat) : Int), ((d / 256 % 256 : Nat) : Int), ((d % 256 : Nat) : Int)]

theorem be8_wf (d : Nat) : ∀ x ∈ be8 d, (Lit.int .u8 x).wf = true := by
  intro x hx
  simp only [be8, List.mem_cons, List.not_mem_nil, or_false] at hx
  rcases hx with rfl | rfl | rfl | rfl | rfl | rfl | rfl | rfl <;> simp [Lit.wf, IntKind.min, IntKind.max, IntKind.bits, IntKind.signed] <;> omega

theorem fnv_wf (xs : List Int) : (Lit.int .u64 (fnv xs)).wf = true := by
  unfold fnv
  rcases List.eq_nil_or_concat xs with rfl | ⟨ys, y, rfl⟩
  · decide
  · rw [List.concat_eq_append, List.foldl_append]; exact wf_wrap _ _
theorem fnv_bd (xs : List Int) : 0 ≤ fnv xs ∧ fnv xs ≤ 18446744073709551615 := wf_u64 (fnv_wf xs)

/-- The bytes of the digest. -/
def dig8 (xs : List Int) : List Int := be8 (fnv xs).toNat

theorem be8_step (d k : Nat) (hk : k < 8) : (be8 d).drop (7 - k) = (((d / 256 ^ k) % 256 : Nat) : Int) :: (be8 d).drop (8 - k) := by
  unfold be8
  rcases k with _ | _ | _ | _ | _ | _ | _ | _ | k <;> simp <;> first | omega | done

theorem set_rep (k : Nat) (hk : k < 8) (t : List Int) (x : Int) : (List.replicate (8 - k) 0 ++ t).set (7 - k) x = List.replicate (7 - k) 0 ++ x :: t := by
  rw [List.set_append, if_pos (by simp; omega)]
  have : 8 - k = (7 - k) + 1 := by omega
  rw [this, List.replicate_succ', List.set_append, if_neg (by simp)]
  simp

/-- The bytes of a list: those of its length, and those of each element. -/
def lput (xs : List Int) : List Int := digs (num xs.length) ++ xs.flatMap fun x => digs (num x)

theorem flatMap_take_succ {xs : List Int} {k : Nat} (h : k < xs.length) (f : Int → List Int) : (xs.take (k+1)).flatMap f = (xs.take k).flatMap f ++ f (nth xs k) := by
  rw [take_nth_succ h, List.flatMap_append]; simp

theorem flatMap_len_le (xs : List Int) (f : Int → List Int) (hf : ∀ x ∈ xs, (f x).length ≤ 10) : (xs.flatMap f).length ≤ 10 * xs.length := by
  induction xs with
  | nil => simp
  | cons x xs ih =>
    have h1 := hf x (by simp)
    have h2 := ih (fun y hy => hf y (by simp [hy]))
    simp only [List.flatMap_cons, List.length_append, List.length_cons]; omega

theorem lput_len {xs : List Int} (hw : ∀ x ∈ xs, (Lit.int .i64 x).wf = true) (hl : xs.length ≤ 1100) : 1 ≤ (lput xs).length ∧ (lput xs).length ≤ 10 + 10 * xs.length := by
  have h1 := digs_num_len (n := xs.length) (by omega)
  have h2 := flatMap_len_le xs (fun x => digs (num x)) fun x hx => (digs_num_len (wf_i64 (hw x hx))).2
  unfold lput
  rw [List.length_append]; omega

theorem lput_wf (xs : List Int) : ∀ x ∈ lput xs, (Lit.int .u8 x).wf = true := by
  intro x hx
  unfold lput at hx
  rcases List.mem_append.1 hx with h | h
  · exact digs_wf _ x h
  · obtain ⟨y, _, h⟩ := List.mem_flatMap.1 h
    exact digs_wf _ x h

set_option maxHeartbeats 400000 in
theorem rput_any (a1 : Option Addr) (n1 c1 : Nat) (xs : List Int) (w : World) (h1 : Sl .i64 w a1 n1 c1 xs) (hs : n1 ≤ 1000) :
    Calls Try.prog 40 #[.slice a1 n1 c1] w fun e w' => ∃ g c, e = .returned (.tuple #[.slice (some ⟨g, 0, none⟩) (lput xs).length c, .int .i64 0]) ∧
      OwI .u8 5 w.heap.size w' (some ⟨g, 0, none⟩) (lput xs).length c (lput xs) ∧ Ext w w' := by
  have b1 := h1.bd
  have e1 := Lib.hid h1.hlen
  go_enter Try.func40, Try.ntmps40
  go_wp2_with (go_at_call 48; refine (one_any w.heap.size _ _ _ [] n1 _ (by omega) (OwI.nil _ _ _ _) (Nat.le_refl _) (by omega)).mono ?_; rintro e w1 ⟨g, c, rfl, ho1, hB1⟩)
  simp only [Nat.zero_add, List.nil_append] at ho1
  have hl1 := digs_num_len (n := n1) (by omega)
  have hq : Hid (digs (num xs.length) = digs (num n1)) := by have := e1.out; unfold Hid; rw [this]
  generalize digs (num n1) = ds at *
  go_loopw [4, 5] (fun o i wr => ∃ (k m g c : Nat) (ys : List Int), k ≤ n1 ∧ i = .int .i64 k ∧ o = .slice (some ⟨g, 0, none⟩) m c ∧ m = ys.length ∧ m ≤ 10 + 10 * k ∧ ys = ds ++ (xs.take k).flatMap (fun x => digs (num x)) ∧ OwI .u8 5 w.heap.size wr (some ⟨g, 0, none⟩) m c ys ∧ Ext w wr) (fun _ i _ => n1 - (intOf i).toNat)
  case atStart => exact ⟨0, ds.length, g, c, ds, by omega, rfl, rfl, rfl, by omega, by simp, ho1, hB1⟩
  case round =>
    obtain ⟨k, m, g, c, ys, hk, rfl, rfl, hm, hm2, hys, ho, hE⟩ := hrel
    have HM := Lib.hid hm
    have HY := Lib.hid hys
    clear hm hys
    by_cases hlt : k < n1
    · obtain ⟨x1, o1, rfl, hc1⟩ := h1.at (by omega)
      have g1 := hE.cell (hc1 k hlt)
      have w1 := wf_i64 (h1.wfAt hlt)
      have hl2 := digs_num_len w1
      clear hc1
      go_wp2_with (go_at_call 48; refine (one_any w.heap.size _ _ _ ys _ _ w1 ho hE.sz (by omega)).mono ?_; rintro e w2 ⟨g2, c2, rfl, ho2, hB2⟩)
      go_roundw
      case rel => exact ⟨k + 1, _, g2, c2, _, by omega, by go_num, rfl, by rw [List.length_append, HM.out], by omega, by rw [flatMap_take_succ (by rw [e1.out]; omega), ← List.append_assoc, ← HY.out], ho2, Below.trans hE hB2⟩
      case measure => simp [intOf]; omega
    · go_wp2
      go_ret2
      have hx : lput xs = ys := by rw [HY.out, lput, hq.out, List.take_of_length_le (by have := e1.out; omega)]
      rw [hx, ← HM.out]
      exact ⟨g, c, rfl, ho, hE⟩

theorem rput_big (a1 : Option Addr) (n1 c1 : Nat) (xs : List Int) (w : World) (h1 : Sl .i64 w a1 n1 c1 xs) (hs : 1000 < n1) :
    Calls Try.prog 40 #[.slice a1 n1 c1] w fun e w' => e = .returned (.tuple #[.slice none 0 0, .int .i64 2]) ∧ w = w' := by
  have b1 := h1.bd
  go_enter Try.func40, Try.ntmps40
  go_wp2
  go_ret2
  exact ⟨rfl, rfl⟩

end Go.Proofs.Ytcpojkodidflcaa
