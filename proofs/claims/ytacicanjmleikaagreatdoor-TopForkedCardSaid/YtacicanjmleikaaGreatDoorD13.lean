/-
  digit, walked; and what it gives.
-/
import Derived.Test.YtacicanjmleikaaGreatDoorD12
namespace Go.Proofs.YtacicanjmleikaaGreatDoor
open Go.RowKit Go.Sort
set_option linter.unusedSimpArgs false
set_option linter.unusedVariables false
set_option maxRecDepth 100000

/-- ys is xs with another last digit somewhere. -/
def Digit (xs ys : List Int) : Prop := ∃ (k : Nat) (d : Int), k < xs.length ∧ 0 ≤ nth xs k ∧ nth xs k ≤ 4611686018427387904 ∧ 0 ≤ d ∧ d < 10 ∧ nth xs k % 10 ≠ d ∧ ys = xs.set k (nth xs k - nth xs k % 10 + d)

theorem dec_split {x : Int} (h : 0 ≤ x) : dec x = (if x < 10 then [] else dec (x / 10)) ++ [48 + x % 10] := by
  by_cases h1 : x < 10
  · rw [if_pos h1, dec, itoa_one h h1]
    simp only [List.map_cons, List.map_nil, List.nil_append, UInt8.toNat_ofNat']
    congr 1
    omega
  · rw [if_neg h1, dec, itoa_pos (by omega), List.map_append, dec]
    simp only [List.map_cons, List.map_nil, UInt8.toNat_ofNat']
    congr 2
    omega

theorem digit_fnv {xs ys : List Int} (pre : List Int) (h : Digit xs ys) : fnv (pre ++ txt ys) ≠ fnv (pre ++ txt xs) := by
  obtain ⟨k, d, hk, h0, h1, h2, h3, h4, rfl⟩ := h
  have e1 : xs = xs.take k ++ nth xs k :: xs.drop (k + 1) := by
    rw [show nth xs k = xs[k] by simp [nth, List.getD_eq_getElem?_getD, hk]]
    simp
  have e2 : xs.set k (nth xs k - nth xs k % 10 + d) = xs.take k ++ (nth xs k - nth xs k % 10 + d) :: xs.drop (k + 1) := by
    rw [List.set_eq_take_append_cons_drop, if_pos hk]
  have key : ∀ y, txt (xs.take k ++ y :: xs.drop (k + 1)) = txt (xs.take k) ++ (dec y ++ [32] ++ txt (xs.drop (k + 1))) := by
    intro y; simp [txt]
  rw [e2, key]
  conv => rhs; rw [e1, key]
  have hx := dec_split h0
  have hy := dec_split (x := nth xs k - nth xs k % 10 + d) (by omega)
  have hq : (if nth xs k - nth xs k % 10 + d < 10 then [] else dec ((nth xs k - nth xs k % 10 + d) / 10)) = (if nth xs k < 10 then [] else dec (nth xs k / 10)) := by
    have e3 : (nth xs k - nth xs k % 10 + d) / 10 = nth xs k / 10 := by omega
    rw [e3]
    by_cases hx : nth xs k < 10
    · rw [if_pos hx, if_pos (by omega)]
    · rw [if_neg hx, if_neg (by omega)]
  rw [hq] at hy
  rw [hx, hy, show (nth xs k - nth xs k % 10 + d) % 10 = d by omega]
  have := @fnv_byte (pre ++ (txt (xs.take k) ++ (if nth xs k < 10 then [] else dec (nth xs k / 10)))) ([32] ++ txt (xs.drop (k + 1))) (48 + d) (48 + nth xs k % 10) (by omega) (by omega) (by omega)
  simpa [List.append_assoc] using this

theorem digit_ints {xs ys : List Int} (h : Digit xs ys) : fnv (txt ys) ≠ fnv (txt xs) := digit_fnv [] h

def DigPost (w : World) (xs : List Int) (e : Ending) (w' : World) : Prop :=
  ∃ (a : Option Addr) (m c : Nat) (zs : List Int) (b : Bool), e = .returned (.tuple #[.slice a m c, .bool b]) ∧ Sl .i64 w' a m c zs ∧ Ext w w' ∧ (b = true → Digit xs zs ∧ m ≤ 1000)

theorem DigPost.no {w : World} {xs : List Int} : DigPost w xs (.returned (.tuple #[.slice none 0 0, .bool false])) w :=
  ⟨none, 0, 0, [], false, rfl, (OwI.nil .i64 0 0 w).sl (by simp), Ext.refl w, fun h => by cases h⟩

end Go.Proofs.YtacicanjmleikaaGreatDoor
