/-
  Strings of digits with signs between them, in plain words.
-/
import Derived.Test.YtchbeheekahhiaaDoorVM
import Derived.Test.YtchbeheekahhiaaDoorLib15
import Derived.Laws.IdiomStrings
namespace Go.Proofs.YtchbeheekahhiaaDoor
open Go.RowKit Go.Sort Go.Shelf
set_option linter.unusedSimpArgs false
set_option linter.unusedVariables false
set_option maxRecDepth 100000

/-- A string, by its bytes. -/
def mkS (l : List UInt8) : ByteArray := ⟨l.toArray⟩
theorem mkS_size (l : List UInt8) : (mkS l).size = l.length := by simp [mkS, ByteArray.size]
theorem mkS_all (S : ByteArray) : S = mkS S.data.toList := by simp [mkS]
theorem mkS_inj {a b : List UInt8} (h : mkS a = mkS b) : a = b := by
  have : (mkS a).data.toList = (mkS b).data.toList := by rw [h]
  simpa [mkS] using this
theorem mkS_extract (l : List UInt8) (a b : Nat) : (mkS l).extract a b = mkS ((l.drop a).take (b - a)) := ByteArray.extract_mk l a b
theorem mkS_toList (l : List UInt8) : (mkS l).toList = l := by rw [ByteArray.toList_eq]; simp [mkS]

/-- A byte of a list, behind a name that simp does not open. -/
def nthB (l : List UInt8) (i : Nat) : Int := ((l.getD i 0).toNat : Int)
theorem nthB_bd (l : List UInt8) (i : Nat) : 0 ≤ nthB l i ∧ nthB l i ≤ 255 := by unfold nthB; have := (l.getD i 0).toNat_lt; omega
def digB (x : Int) : Bool := decide (48 ≤ x ∧ x ≤ 57)
theorem digB_iff {x : Int} : digB x = true ↔ 48 ≤ x ∧ x ≤ 57 := by unfold digB; exact decide_eq_true_iff
/-- The number that the first j bytes of l behind o spell. -/
def numB (l : List UInt8) (o : Nat) : Nat → Int
  | 0 => 0
  | j + 1 => 10 * numB l o j + (nthB l (o + j) - 48)
/-- The first j bytes behind o are digits. -/
def allB (l : List UInt8) (o : Nat) : Nat → Bool
  | 0 => true
  | j + 1 => allB l o j && digB (nthB l (o + j))
theorem allB_at {l : List UInt8} {o : Nat} : ∀ {j : Nat}, allB l o j = true → ∀ i, i < j → digB (nthB l (o + i)) = true
  | 0, _, i, hi => absurd hi (Nat.not_lt_zero _)
  | j + 1, h, i, hi => by
    simp only [allB, Bool.and_eq_true] at h
    rcases Nat.lt_or_ge i j with h1 | h1
    · exact allB_at h.1 i h1
    · obtain rfl : i = j := by omega
      exact h.2
theorem allB_le {l : List UInt8} {o k : Nat} : ∀ {j : Nat}, k ≤ j → allB l o j = true → allB l o k = true
  | 0, hk, h => by obtain rfl : k = 0 := by omega
                   rfl
  | j + 1, hk, h => by
    rcases Nat.lt_or_ge k (j + 1) with h1 | h1
    · simp only [allB, Bool.and_eq_true] at h
      exact allB_le (by omega) h.1
    · obtain rfl : k = j + 1 := by omega
      exact h
theorem allB_not {l : List UInt8} {o k j : Nat} (hj : j < k) (h : digB (nthB l (o + j)) = false) : allB l o k = false := by
  cases e : allB l o k with
  | false => rfl
  | true => rw [allB_at e j hj] at h; cases h
theorem numB_bd {l : List UInt8} {o : Nat} : ∀ {j : Nat}, allB l o j = true → 0 ≤ numB l o j ∧ numB l o j < 10 ^ j
  | 0, _ => by simp [numB]
  | j + 1, h => by
    simp only [allB, Bool.and_eq_true] at h
    have h1 := numB_bd h.1
    have h2 := digB_iff.1 h.2
    simp only [numB]
    have e : (10 : Int) ^ (j + 1) = 10 ^ j * 10 := Int.pow_succ _ _
    rw [e]
    omega

/-- Where the parts begin; the sign behind a part. -/
def off (k : Nat) : Nat := [0, 5, 8, 11, 14, 17, 20].getD k 26
def sgn (k : Nat) : Int := [45, 45, 84, 58, 58, 46].getD k 0
/-- Part k can be read. -/
def okG (l : List UInt8) (k : Nat) : Bool := decide (off k + wid k ≤ l.length) && (allB l (off k) (wid k) && (decide (k = 6) || (decide (off k + wid k < l.length) && decide (nthB l (off k + wid k) = sgn k))))
def okUp (l : List UInt8) : Nat → Bool
  | 0 => true
  | k + 1 => okUp l k && okG l k
theorem okUp_at {l : List UInt8} : ∀ {n : Nat}, okUp l n = true → ∀ k, k < n → okG l k = true
  | 0, _, k, hk => absurd hk (Nat.not_lt_zero _)
  | n + 1, h, k, hk => by
    simp only [okUp, Bool.and_eq_true] at h
    rcases Nat.lt_or_ge k n with h1 | h1
    · exact okUp_at h.1 k h1
    · obtain rfl : k = n := by omega
      exact h.2
theorem okUp_not {l : List UInt8} {n k : Nat} (hk : k < n) (h : okG l k = false) : okUp l n = false := by
  cases e : okUp l n with
  | false => rfl
  | true => rw [okUp_at e k hk] at h; cases h
def fmtB (l : List UInt8) : Bool := okUp l 7 && decide (l.length = 26)
def valB (l : List UInt8) (k : Nat) : Int := numB l (off k) (wid k)
def valsB (l : List UInt8) : Nat → List Int
  | 0 => []
  | k + 1 => valsB l k ++ [valB l k]
theorem nthB_drop (l : List UInt8) (o i : Nat) : nthB (l.drop o) i = nthB l (o + i) := by simp [nthB, List.getD_eq_getElem?_getD]
theorem nthB_take (l : List UInt8) (k i : Nat) (h : i < k) : nthB (l.take k) i = nthB l i := by simp [nthB, List.getD_eq_getElem?_getD, List.getElem?_take, h]

/-- What a string's bytes lie as. -/
theorem bytes_cell (W : World) (E : TypeId) (l : List UInt8) (cap : Nat) (fr : Nat × Nat) (i : Nat) (hi : i < l.length) : (W.alloc (.cells (bytesRow (mkS l) cap) E fr)).cell? ⟨W.heap.size, i, none⟩ = some (.int .u8 (nthB l i)) := by
  rw [World.cell?_alloc_mark, bytesRow_at (mkS l) cap i (by simpa [mkS] using hi)]
  simp [nthB, mkS, List.getD_eq_getElem?_getD, hi]
end Go.Proofs.YtchbeheekahhiaaDoor
