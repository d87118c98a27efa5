/-
  digit, walked; and what it gives.
-/
import Derived.Test.YtkophednepcbkaaDoorD12
namespace Go.Proofs.YtkophednepcbkaaDoor
open Go.RowKit Go.Sort
set_option linter.unusedSimpArgs false
set_option linter.unusedVariables false
set_option maxRecDepth 100000

/-- ys is xs with another last digit somewhere. -/
def Digit (xs ys : List Int) : Prop := ∃ (k : Nat) (d : Int), k < xs.length ∧ 0 ≤ nth xs k ∧ nth xs k ≤ 4611686018427387904 ∧ 0 ≤ d ∧ d < 10 ∧ nth xs k % 10 ≠ d ∧ ys = xs.set k (nth xs k - nth xs k % 10 + d)

theorem dec_split {x : Int} (h : 0 ≤ x) : dec x = (if x < 10 then [] else dec (x / 10)) ++ [48 + x % 10] := by
  by_cases h1 : x < 10
  · rw [if_pos h1, dec, itoa_one h h1]
    simp only [List.map_cons, List.map_nil, List.nil_append, UInt8.toNat_ofNat']
    congr 1
    omega
  · rw [if_neg h1, dec, itoa_pos (by omega), List.map_append, dec]
    simp only [List.map_cons, List.map_nil, UInt8.toNat_ofNat']
    congr 2
    omega

theorem digit_fnv {xs ys : List Int} (pre : List Int) (h : Digit xs ys) : fnv (pre ++ txt ys) ≠ fnv (pre ++ txt xs) := by
  obtain ⟨k, d, hk, h0, h1, h2, h3, h4, rfl⟩ := h
  have e1 : xs = xs.take k ++ nth xs k :: xs.drop (k + 1) := by
    rw [show nth xs k = xs[k] by simp [nth, List.getD_eq_getElem?_getD, hk]]
    simp
  have e2 : xs.set k (nth xs k - nth xs k % 10 + d) = xs.take k ++ (nth xs k - nth xs k % 10 + d) :: xs.drop (k + 1) := by
    rw [List.set_eq_take_append_cons_drop, if_pos hk]
  have key : ∀ y, txt (xs.take k ++ y :: xs.drop (k + 1)) = txt (xs.take k) ++ (dec y ++ [32] ++ txt (xs.drop (k + 1))) := by
    intro y; simp [txt]
  rw [e2, key]
  conv => rhs; rw [e1, key]
  have hx := dec_split h0
  have hy := dec_split (x := nth xs k - nth xs k % 10 + d) (by omega)
  have hq : (if nth xs k - nth xs k % 10 + d < 10 then [] else dec ((nth xs k - nth xs k % 10 + d) / 10)) = (if nth xs k < 10 then [] else dec (nth xs k / 10)) := by
    have e3 : (nth xs k - nth xs k % 10 + d) / 10 = nth xs k / 10 := by omega
    rw [e3]
    by_cases hx : nth xs k < 10
    · rw [if_pos hx, if_pos (by omega)]
    · rw [if_neg hx, if_neg (by omega)]
  rw [hq] at hy
  rw [hx, hy, show (nth xs k - nth xs k % 10 + d) % 10 = d by omega]
  have := @fnv_byte (pre ++ (txt (xs.take k) ++ (if nth xs k < 10 then [] else dec (nth xs k / 10)))) ([32] ++ txt (xs.drop (k + 1))) (48 + d) (48 + nth xs k % 10) (by omega) (by omega) (by omega)
  simpa [List.append_assoc] using this

theorem digit_ints {xs ys : List Int} (h : Digit xs ys) : fnv (txt ys) ≠ fnv (txt xs) := digit_fnv [] h

def DigPost (w : World) (xs : List Int) (e : Ending) (w' : World) : Prop :=
  ∃ (a : Option Addr) (m c : Nat) (zs : List Int) (b : Bool), e = .returned (.tuple #[.slice a m c, .bool b]) ∧ Sl .i64 w' a m c zs ∧ Ext w w' ∧ (b = true → Digit xs zs ∧ m ≤ 1000)

theorem DigPost.no {w : World} {xs : List Int} : DigPost w xs (.returned (.tuple #[.slice none 0 0, .bool false])) w :=
  ⟨none, 0, 0, [], false, rfl, (OwI.nil .i64 0 0 w).sl (by simp), Ext.refl w, fun h => by cases h⟩

theorem digit_any (a1 : Option Addr) (n1 c1 : Nat) (xs : List Int) (at_ by_ : Int) (ha : -9223372036854775808 ≤ at_ ∧ at_ ≤ 9223372036854775807) (hb : 0 ≤ by_ ∧ by_ ≤ 255) (w : World) (h1 : Sl .i64 w a1 n1 c1 xs) (hs : n1 ≤ 1000) :
    Calls Tryd.prog 19 #[.slice a1 n1 c1, .int .i64 at_, .int .u8 by_] w (DigPost w xs) := by
  have b1 := h1.bd
  have e1 := Lib.hid h1.hlen
  by_cases hn : n1 = 0
  · have hn' : ((n1 : Int) == 0) = true := by simp [hn]
    go_enter Tryd.func19, Tryd.ntmps19
    go_wp2_with fail
    go_ret2
    exact DigPost.no
  · have hn' : ((n1 : Int) == 0) = false := by simp [hn]
    have hr : -(n1 : Int) < at_.tmod n1 ∧ at_.tmod n1 < n1 := by
      have h2 := Int.tmod_lt_of_pos at_ (show (0 : Int) < n1 by omega)
      have h3 := Int.lt_tmod_of_pos at_ (show (0 : Int) < n1 by omega)
      exact ⟨h3, h2⟩
    have hk2 : ∃ k : Nat, (at_.tmod n1 + n1).tmod n1 = (k : Int) ∧ k < n1 := by
      refine ⟨((at_.tmod n1 + n1).tmod n1).toNat, ?_, ?_⟩
      · have := Int.tmod_nonneg (n1 : Int) (show 0 ≤ at_.tmod n1 + n1 by omega)
        omega
      · have := Int.tmod_lt_of_pos (at_.tmod n1 + n1) (show (0 : Int) < n1 by omega)
        omega
    obtain ⟨k, hk, hkn⟩ := hk2
    generalize hrr : at_.tmod n1 = r at *
    obtain ⟨x1, o1, rfl, hc1⟩ := h1.at (by omega)
    have g1 := hc1 k hkn
    have w1 := wf_i64 (h1.wfAt hkn)
    generalize hx : nth xs k = x at *
    by_cases c1' : x < 0
    · go_enter Tryd.func19, Tryd.ntmps19
      go_wp2_with fail
      go_ret2
      exact DigPost.no
    by_cases c2' : 4611686018427387904 < x
    · go_enter Tryd.func19, Tryd.ntmps19
      go_wp2_with fail
      go_ret2
      exact DigPost.no
    by_cases c3' : x % 10 = by_ % 10
    · have c4 : (x % 10 == by_ % 10) = true := by simpa using c3'
      have C3 := Lib.hid c3'
      clear c3'
      go_enter Tryd.func19, Tryd.ntmps19
      go_wp2_with fail
      go_ret2
      exact DigPost.no
    have c4 : (x % 10 == by_ % 10) = false := by simpa using c3'
    have C3 := Lib.hid c3'
    clear c3'
    have ho0 := OwI.lit .i64 3 (base := w.heap.size) w [] (Nat.le_refl _) (by simp) #[] rfl
    have h2 := h1.ext ((Ext.refl w).alloc (.cells #[] 3))
    simp only [List.length_nil] at ho0
    go_enter Tryd.func19, Tryd.ntmps19
    go_wp2_with (at_builtin; refine appS el_i64 rfl _ _ rfl _ w.heap.size _ _ _ _ rfl ho0 _ _ _ _ rfl h2 (by omega) (by simp) (by unfold maxLen; omega) (by omega) ?_; intro g3 c3 w3 ho3 hB3; refine hold ?_)
    refine held ?_
    simp only [Nat.zero_add, List.nil_append] at ho3 ⊢
    have hE3 : Ext w w3 := Below.trans ((Ext.refl w).alloc _) hB3
    have q1 := ho3.frozenAt k
    have q2 := ho3.cellAt hkn
    have q3 := ho3.ge
    have hd : 0 ≤ by_ % 10 ∧ by_ % 10 < 10 := by omega
    have hx10 : 0 ≤ x % 10 ∧ x % 10 < 10 := by omega
    have hle := ho3.sl h1.wf |>.bd
    clear hB3 ho0 h2
    go_wp2_with fail
    go_ret2
    refine ⟨_, _, _, _, true, rfl, (ho3.set k (x - x % 10 + by_ % 10)).sl (fun y hy => ?_), hE3.setCell q3.1 _, fun _ => ⟨⟨k, by_ % 10, by rw [e1.out]; exact hkn, by rw [hx]; omega, by rw [hx]; omega, by omega, by omega, by rw [hx]; exact C3.out, by rw [hx]⟩, by omega⟩⟩
    rcases List.mem_or_eq_of_mem_set hy with h | rfl
    · exact h1.wf y h
    · simp [Lit.wf, IntKind.min, IntKind.max, IntKind.signed, IntKind.bits]; omega
end Go.Proofs.YtkophednepcbkaaDoor
