
import Derived.Test.YtacicanjmleikaaGreatDoorGr4
import Derived.Lib.BitFns
import Derived.Deep.DeepCutAuto
/- A part of the proof. -/
namespace Go.Proofs.YtacicanjmleikaaGreatDoor
open Go.RowKit
set_option linter.unusedSimpArgs false
set_option linter.unusedVariables false
def leafV (d : Int) : Int := fnv (be8 d.toNat ++ txt [0])
def pairV (a b : Int) : Int := fnv (1 :: be8 a.toNat ++ be8 b.toNat)
def halfE (n : Nat) : Nat := Nat.log2 (n - 1)
def halfN (n : Nat) : Nat := 2 ^ halfE n
theorem half_spec {n : Nat} (h : 2 ≤ n) : halfN n < n ∧ n ≤ 2 * halfN n ∧ 0 < halfN n := by
 have h1 := Nat.log2_self_le (n := n - 1) (by omega)
 have h2 := Nat.lt_log2_self (n := n - 1)
 have h3 : 0 < 2 ^ Nat.log2 (n - 1) := Nat.two_pow_pos _
 unfold halfN halfE
 rw [Nat.pow_succ] at h2
 omega
theorem half_is {n k : Nat} (h : 2 ≤ n) (h1 : 2 ^ k < n) (h2 : n ≤ 2 ^ (k + 1)) : halfE n = k := by
 obtain ⟨a, b, _⟩ := half_spec h
 unfold halfN at a b
 generalize halfE n = e at *
 rcases Nat.lt_trichotomy e k with h3 | h3 | h3
 ·have : 2 ^ (e + 1) ≤ 2 ^ k := Nat.pow_le_pow_right (by omega) (by omega)
  rw [Nat.pow_succ] at this
  omega
 ·exact h3
 ·have : 2 ^ (k + 1) ≤ 2 ^ e := Nat.pow_le_pow_right (by omega) (by omega)
  omega
theorem half_pow (k : Nat) : halfN (2 ^ (k + 1)) = 2 ^ k := by
 have : 0 < 2 ^ k := Nat.two_pow_pos _
 unfold halfN
 rw [half_is (k := k) (by rw [Nat.pow_succ]; omega) (by rw [Nat.pow_succ]; omega) (Nat.le_refl _)]
theorem bitLen_log : ∀ x : Nat, 0 < x → x < 18446744073709551616 → Lib.bitLen x = Nat.log2 x + 1 := by
 intro x
 induction x using Nat.strongRecOn with
 | _ x ih =>
  intro h0 h1
  rw [Lib.bitLen_half x (by omega) h1]
  rcases Nat.lt_or_ge x 2 with h2 | h2
  ·obtain rfl : x = 1 := by omega
   decide
  ·rw [ih (x / 2) (by omega) (by omega) (by omega), Nat.log2_def x, if_pos h2]
   omega
def rootT (l : List Int) : Int :=
 if h : l.length ≤ 1 then leafV (l.headD 0) else pairV (rootT (l.take (halfN l.length))) (rootT (l.drop (halfN l.length)))
termination_by l.length
decreasing_by
 ·have := half_spec (n := l.length) (by omega); rw [List.length_take]; omega
 ·have := half_spec (n := l.length) (by omega); rw [List.length_drop]; omega
def inclT (l : List Int) (i : Nat) : List Int :=
 if h : l.length ≤ 1 then [] else if i < halfN l.length then inclT (l.take (halfN l.length)) i ++ [rootT (l.drop (halfN l.length))] else inclT (l.drop (halfN l.length)) (i - halfN l.length) ++ [rootT (l.take (halfN l.length))]
termination_by l.length
decreasing_by
 ·have := half_spec (n := l.length) (by omega); rw [List.length_take]; omega
 ·have := half_spec (n := l.length) (by omega); rw [List.length_drop]; omega
def extS (l : List Int) (m : Nat) : List Int :=
 if h : l.length ≤ 1 ∨ l.length ≤ m then [rootT l] else if m ≤ halfN l.length then extS (l.take (halfN l.length)) m ++ [rootT (l.drop (halfN l.length))] else extS (l.drop (halfN l.length)) (m - halfN l.length) ++ [rootT (l.take (halfN l.length))]
termination_by l.length
decreasing_by
 ·have := half_spec (n := l.length) (by omega); rw [List.length_take]; omega
 ·have := half_spec (n := l.length) (by omega); rw [List.length_drop]; omega
def wholeT (l : List Int) (m : Nat) : Bool :=
 if h : l.length ≤ 1 ∨ l.length ≤ m then true else if m ≤ halfN l.length then wholeT (l.take (halfN l.length)) m else false
termination_by l.length
decreasing_by
 have := half_spec (n := l.length) (by omega); rw [List.length_take]; omega
def extT (l : List Int) (m : Nat) : List Int := if wholeT l m then (extS l m).tail else extS l m
theorem rootT_one {l : List Int} (h : l.length = 1) : rootT l = leafV (l.headD 0) := by rw [rootT, dif_pos (by omega)]
theorem rootT_two {l : List Int} (h : 2 ≤ l.length) : rootT l = pairV (rootT (l.take (halfN l.length))) (rootT (l.drop (halfN l.length))) := by rw [rootT, dif_neg (by omega)]
theorem inclT_one {l : List Int} {i : Nat} (h : l.length ≤ 1) : inclT l i = [] := by rw [inclT, dif_pos h]
theorem inclT_left {l : List Int} {i : Nat} (h : 2 ≤ l.length) (hi : i < halfN l.length) : inclT l i = inclT (l.take (halfN l.length)) i ++ [rootT (l.drop (halfN l.length))] := by rw [inclT, dif_neg (by omega), if_pos hi]
theorem inclT_right {l : List Int} {i : Nat} (h : 2 ≤ l.length) (hi : ¬ i < halfN l.length) : inclT l i = inclT (l.drop (halfN l.length)) (i - halfN l.length) ++ [rootT (l.take (halfN l.length))] := by rw [inclT, dif_neg (by omega), if_neg hi]
theorem extS_end {l : List Int} {m : Nat} (h : l.length ≤ m) : extS l m = [rootT l] := by rw [extS, dif_pos (.inr h)]
theorem extS_left {l : List Int} {m : Nat} (h : 2 ≤ l.length) (hm : m < l.length) (hi : m ≤ halfN l.length) : extS l m = extS (l.take (halfN l.length)) m ++ [rootT (l.drop (halfN l.length))] := by rw [extS, dif_neg (by omega), if_pos hi]
theorem extS_right {l : List Int} {m : Nat} (h : 2 ≤ l.length) (hm : m < l.length) (hi : ¬ m ≤ halfN l.length) : extS l m = extS (l.drop (halfN l.length)) (m - halfN l.length) ++ [rootT (l.take (halfN l.length))] := by rw [extS, dif_neg (by omega), if_neg hi]
theorem wholeT_end {l : List Int} {m : Nat} (h : l.length ≤ m) : wholeT l m = true := by rw [wholeT, dif_pos (.inr h)]
theorem wholeT_left {l : List Int} {m : Nat} (h : 2 ≤ l.length) (hm : m < l.length) (hi : m ≤ halfN l.length) : wholeT l m = wholeT (l.take (halfN l.length)) m := by rw [wholeT, dif_neg (by omega), if_pos hi]
theorem wholeT_right {l : List Int} {m : Nat} (h : 2 ≤ l.length) (hm : m < l.length) (hi : ¬ m ≤ halfN l.length) : wholeT l m = false := by rw [wholeT, dif_neg (by omega), if_neg hi]
def lone (at_ last : Nat) : Nat × Nat := if h : at_ % 2 = 0 ∧ at_ ≠ 0 then lone (at_ / 2) (last / 2) else (at_, last)
termination_by at_
decreasing_by omega
theorem lone_no {a b : Nat} (h : ¬ (a % 2 = 0 ∧ a ≠ 0)) : lone a b = (a, b) := by rw [lone, dif_neg h]
theorem lone_yes {a b : Nat} (h : a % 2 = 0 ∧ a ≠ 0) : lone a b = lone (a / 2) (b / 2) := by rw [lone, dif_pos h]
theorem lone_pow {A : Nat} (h : A % 2 = 1) : ∀ j : Nat, lone (A * 2 ^ j) (A * 2 ^ j) = (A, A)
 | 0 => by simp; exact lone_no (by omega)
 | j + 1 => by
  have h0 : 0 < 2 ^ j := Nat.two_pow_pos _
  have h1 : 0 < A * 2 ^ j := Nat.mul_pos (by omega) h0
  have h2 : A * 2 ^ (j + 1) = 2 * (A * 2 ^ j) := by rw [Nat.pow_succ]; rw [Nat.mul_comm (2 ^ j) 2, Nat.mul_left_comm]
  rw [h2, lone_yes (by omega), show 2 * (A * 2 ^ j) / 2 = A * 2 ^ j by omega]
  exact lone_pow h j
def rightW (a b : Nat) : Bool := decide (a % 2 = 1) || decide (a = b)
def walkI (root : Int) : List Int → Int → Nat → Nat → Bool
 | [], d, _, last => decide (last = 0) && decide (d = root)
 | p :: ps, d, a, last => if last = 0 then false else if rightW a last then walkI root ps (pairV p d) ((lone a last).1 / 2) ((lone a last).2 / 2) else walkI root ps (pairV d p) (a / 2) (last / 2)
theorem walkI_right {root : Int} {p : Int} {ps : List Int} {d : Int} {a last a' l' : Nat} (h0 : last ≠ 0) (h : rightW a last = true) (hl : lone a last = (a', l')) : walkI root (p :: ps) d a last = walkI root ps (pairV p d) (a' / 2) (l' / 2) := by
 rw [walkI, if_neg h0, if_pos h, hl]
theorem walkI_left {root : Int} {p : Int} {ps : List Int} {d : Int} {a last : Nat} (h0 : last ≠ 0) (h : rightW a last = false) : walkI root (p :: ps) d a last = walkI root ps (pairV d p) (a / 2) (last / 2) := by
 rw [walkI, if_neg h0, if_neg (by simp [h])]
theorem take_half {l : List Int} {k : Nat} (h : l.length = 2 ^ (k + 1)) : (l.take (2 ^ k)).length = 2 ^ k ∧ (l.drop (2 ^ k)).length = 2 ^ k := by
 rw [List.length_take, List.length_drop, h, Nat.pow_succ]; omega
theorem getD_take {l : List Int} {k i : Nat} (h : i < k) : (l.take k).getD i 0 = l.getD i 0 := by simp [List.getD_eq_getElem?_getD, List.getElem?_take, h]
theorem getD_drop {l : List Int} {k i : Nat} (h : k ≤ i) : (l.drop k).getD (i - k) 0 = l.getD i 0 := by simp [List.getD_eq_getElem?_getD, List.getElem?_drop, show k + (i - k) = i by omega]
theorem div_pow (last k : Nat) : last / 2 ^ k / 2 = last / 2 ^ (k + 1) := by rw [Nat.pow_succ, Nat.div_div_eq_div_mul]
theorem walkI_perf (root : Int) (rest : List Int) : ∀ (k : Nat) (l : List Int) (i A last : Nat), l.length = 2 ^ k → i < 2 ^ k → (A + 1) * 2 ^ k ≤ last →
  walkI root (inclT l i ++ rest) (leafV (l.getD i 0)) (A * 2 ^ k + i) last = walkI root rest (rootT l) A (last / 2 ^ k)
 | 0, l, i, A, last, hl, hi, hA => by
  have hl1 : l.length = 1 := hl
  obtain rfl : i = 0 := by omega
  rw [inclT_one (by omega), rootT_one hl1]
  match l, hl1 with
  | [x], _ => simp
 | k + 1, l, i, A, last, hl, hi, hA => by
  have h0 : 0 < 2 ^ k := Nat.two_pow_pos _
  have hp : 2 ^ (k + 1) = 2 * 2 ^ k := by rw [Nat.pow_succ, Nat.mul_comm]
  have hH : halfN l.length = 2 ^ k := by rw [hl, half_pow]
  obtain ⟨t1, t2⟩ := take_half hl
  have e1 : A * 2 ^ (k + 1) = 2 * A * 2 ^ k := by rw [hp, Nat.mul_comm 2 A, Nat.mul_assoc]
  have e2 : (A + 1) * 2 ^ (k + 1) = (2 * A + 2) * 2 ^ k := by rw [hp, ← Nat.mul_assoc]; congr 1; omega
  rw [e2] at hA
  have hle : (2 * A + 1 + 1) ≤ last / 2 ^ k := (Nat.le_div_iff_mul_le h0).2 hA
  rw [rootT_two (by omega), hH, ← div_pow]
  by_cases hlt : i < 2 ^ k
  ·rw [inclT_left (by omega) (by omega), hH, List.append_assoc, ← getD_take hlt, e1, walkI_perf root _ k _ i (2 * A) last t1 hlt (by rw [show 2 * A + 2 = 2 * A + 1 + 1 from rfl, Nat.add_mul] at hA; omega)]
   rw [List.singleton_append, walkI_left (by omega) (by simp [rightW]; omega), show 2 * A / 2 = A by omega]
  ·rw [inclT_right (by omega) (by omega), hH, List.append_assoc, ← getD_drop (show 2 ^ k ≤ i by omega), show A * 2 ^ (k + 1) + i = (2 * A + 1) * 2 ^ k + (i - 2 ^ k) by rw [e1, Nat.add_mul]; omega,
    walkI_perf root _ k _ (i - 2 ^ k) (2 * A + 1) last t2 (by omega) hA]
   rw [List.singleton_append, walkI_right (by omega) (by simp [rightW]) (lone_no (by omega)), show (2 * A + 1) / 2 = A by omega]
theorem last_div {A K k n : Nat} (h1 : 2 ^ k < n) (h2 : n ≤ 2 ^ (k + 1)) (hk : k + 1 ≤ K) : A * 2 ^ K = A * 2 ^ (K - k) * 2 ^ k ∧ A * 2 ^ (K - k) % 2 = 0 ∧ A * 2 ^ (K - k) / 2 = A * 2 ^ (K - k - 1) ∧ (A * 2 ^ K + n - 1) / 2 ^ k = A * 2 ^ (K - k) + 1 := by
 have h0 : 0 < 2 ^ k := Nat.two_pow_pos _
 have e1 : A * 2 ^ K = A * 2 ^ (K - k) * 2 ^ k := by rw [Nat.mul_assoc, ← Nat.pow_add]; congr 2; omega
 have e2 : A * 2 ^ (K - k) = 2 * (A * 2 ^ (K - k - 1)) := by rw [show K - k = K - k - 1 + 1 by omega, Nat.pow_succ, Nat.add_sub_cancel]; rw [Nat.mul_comm (2 ^ (K - k - 1)) 2, Nat.mul_left_comm]
 refine ⟨e1, by omega, by omega, ?_⟩
 rw [e1, Nat.pow_succ] at *
 generalize A * 2 ^ (K - k) = B
 rw [show B * 2 ^ k + n - 1 = B * 2 ^ k + (2 ^ k + (n - 1 - 2 ^ k)) by omega, Nat.add_comm, Nat.add_mul_div_right _ _ h0, Nat.add_comm (2 ^ k), Nat.add_div_right _ h0, Nat.div_eq_of_lt (by omega)]
 omega
theorem walkI_last (root : Int) (rest : List Int) : ∀ (n : Nat) (l : List Int) (i A K : Nat), l.length = n → i < n → n ≤ 2 ^ K →
  ∃ j, j ≤ K ∧ walkI root (inclT l i ++ rest) (leafV (l.getD i 0)) (A * 2 ^ K + i) (A * 2 ^ K + n - 1) = walkI root rest (rootT l) (A * 2 ^ j) (A * 2 ^ j) := by
 intro n
 induction n using Nat.strongRecOn generalizing rest with
 | _ n ih =>
  intro l i A K hl hi hn
  rcases Nat.lt_or_ge n 2 with h2 | h2
  ·refine ⟨K, Nat.le_refl _, ?_⟩
   obtain rfl : n = 1 := by omega
   obtain rfl : i = 0 := by omega
   rw [inclT_one (by omega), rootT_one hl]
   match l, hl with
   | [x], _ => simp
  ·obtain ⟨a1, a2, a3⟩ := half_spec h2
   unfold halfN at a1 a2 a3
   have hH : halfN l.length = 2 ^ halfE n := by rw [hl]; rfl
   generalize halfE n = k at *
   have hk : k + 1 ≤ K := by
    rcases Nat.lt_or_ge K (k + 1) with h | h
    ·have := Nat.pow_le_pow_right (show 0 < 2 by omega) (show K ≤ k by omega)
     omega
    ·exact h
   obtain ⟨e1, e2, e3, e4⟩ := last_div (A := A) a1 (by rw [Nat.pow_succ]; omega) hk
   refine ⟨K - k - 1, by omega, ?_⟩
   rw [rootT_two (by omega), hH]
   by_cases hlt : i < 2 ^ k
   ·rw [inclT_left (by omega) (by omega), hH, List.append_assoc, ← getD_take hlt]
    rw [show A * 2 ^ K + i = A * 2 ^ (K - k) * 2 ^ k + i by rw [e1], walkI_perf root _ k _ i (A * 2 ^ (K - k)) _ (by rw [List.length_take]; omega) hlt (by rw [e1, Nat.add_mul]; omega), e4]
    rw [List.singleton_append, walkI_left (by omega) (by simp [rightW]; omega), e3, show (A * 2 ^ (K - k) + 1) / 2 = A * 2 ^ (K - k) / 2 by omega, e3]
   ·rw [inclT_right (by omega) (by omega), hH, List.append_assoc, ← getD_drop (show 2 ^ k ≤ i by omega)]
    obtain ⟨j, hj, h3⟩ := ih (n - 2 ^ k) (by omega) ([rootT (l.take (2 ^ k))] ++ rest) (l.drop (2 ^ k)) (i - 2 ^ k) (A * 2 ^ (K - k) + 1) k (by rw [List.length_drop]; omega) (by omega) (by omega)
    rw [show A * 2 ^ K + i = (A * 2 ^ (K - k) + 1) * 2 ^ k + (i - 2 ^ k) by rw [e1, Nat.add_mul]; omega, show A * 2 ^ K + n - 1 = (A * 2 ^ (K - k) + 1) * 2 ^ k + (n - 2 ^ k) - 1 by rw [e1, Nat.add_mul]; omega, h3]
    have hpos : 0 < (A * 2 ^ (K - k) + 1) * 2 ^ j := Nat.mul_pos (by omega) (Nat.two_pow_pos _)
    rw [List.singleton_append, walkI_right (by omega) (by simp [rightW]) (lone_pow (by omega) j), show (A * 2 ^ (K - k) + 1) / 2 = A * 2 ^ (K - k) / 2 by omega, e3]
theorem incl_right {l : List Int} {i : Nat} (hi : i < l.length) (hn : l.length ≤ 4096) : walkI (rootT l) (inclT l i) (leafV (l.getD i 0)) i (l.length - 1) = true := by
 obtain ⟨j, _, h⟩ := walkI_last (rootT l) [] l.length l i 0 12 rfl hi (by simpa using hn)
 simp only [List.append_nil, Nat.zero_mul, Nat.zero_add] at h
 rw [h]
 simp [walkI]
theorem incl_len : ∀ (K : Nat) (l : List Int) (i : Nat), l.length ≤ 2 ^ K → (inclT l i).length ≤ K
 | K, l, i, h => by
  rcases Nat.lt_or_ge l.length 2 with h2 | h2
  ·rw [inclT_one (by omega)]; simp
  ·obtain ⟨a1, a2, a3⟩ := half_spec h2
   match K with
   | 0 => simp at h; omega
   | K + 1 =>
    have hH : halfN l.length ≤ 2 ^ K := by
     unfold halfN at *
     rcases Nat.lt_or_ge K (halfE l.length) with h | h
     ·have := Nat.pow_le_pow_right (show 0 < 2 by omega) (show K + 1 ≤ halfE l.length by omega)
      omega
     ·exact Nat.pow_le_pow_right (by omega) h
    rw [Nat.pow_succ] at h
    by_cases hi : i < halfN l.length
    ·rw [inclT_left h2 hi, List.length_append]
     have := incl_len K (l.take (halfN l.length)) i (by rw [List.length_take]; omega)
     simp; omega
    ·rw [inclT_right h2 hi, List.length_append]
     have := incl_len K (l.drop (halfN l.length)) (i - halfN l.length) (by rw [List.length_drop]; omega)
     simp; omega
def ones (at_ last : Nat) : Nat × Nat := if h : at_ % 2 = 1 then ones (at_ / 2) (last / 2) else (at_, last)
termination_by at_
decreasing_by omega
theorem ones_no {a b : Nat} (h : a % 2 ≠ 1) : ones a b = (a, b) := by rw [ones, dif_neg h]
theorem ones_yes {a b : Nat} (h : a % 2 = 1) : ones a b = ones (a / 2) (b / 2) := by rw [ones, dif_pos h]
theorem ones_pow (B : Nat) : ∀ (t last : Nat), ones (B * 2 ^ t + (2 ^ t - 1)) last = ones B (last / 2 ^ t)
 | 0, last => by simp
 | t + 1, last => by
  have h0 : 0 < 2 ^ t := Nat.two_pow_pos _
  have e : B * 2 ^ (t + 1) + (2 ^ (t + 1) - 1) = 2 * (B * 2 ^ t + (2 ^ t - 1)) + 1 := by
   rw [Nat.pow_succ, Nat.mul_comm (2 ^ t) 2, Nat.mul_left_comm]; omega
  rw [e, ones_yes (by omega), show (2 * (B * 2 ^ t + (2 ^ t - 1)) + 1) / 2 = B * 2 ^ t + (2 ^ t - 1) by omega, ones_pow B t, Nat.div_div_eq_div_mul, Nat.pow_succ, Nat.mul_comm 2]
def walkE (a b : Int) : List Int → Int → Int → Nat → Nat → Bool
 | [], x, y, _, last => decide (last = 0) && (decide (x = a) && decide (y = b))
 | p :: ps, x, y, s, last => if last = 0 then false else if rightW s last then walkE a b ps (pairV p x) (pairV p y) ((lone s last).1 / 2) ((lone s last).2 / 2) else walkE a b ps x (pairV y p) (s / 2) (last / 2)
def startE (a b : Int) (l : List Int) (s last : Nat) : Bool :=
 match l with
 | [] => false
 | x :: ps => walkE a b ps x x (ones s last).1 (ones s last).2
theorem startE_cons {a b x : Int} {ps : List Int} {s last s' l' : Nat} (h : ones s last = (s', l')) : startE a b (x :: ps) s last = walkE a b ps x x s' l' := by simp only [startE, h]
theorem walkE_right {a b p x y : Int} {ps : List Int} {s last s' l' : Nat} (h0 : last ≠ 0) (h : rightW s last = true) (hl : lone s last = (s', l')) : walkE a b (p :: ps) x y s last = walkE a b ps (pairV p x) (pairV p y) (s' / 2) (l' / 2) := by
 rw [walkE, if_neg h0, if_pos h, hl]
theorem walkE_left {a b p x y : Int} {ps : List Int} {s last : Nat} (h0 : last ≠ 0) (h : rightW s last = false) : walkE a b (p :: ps) x y s last = walkE a b ps x (pairV y p) (s / 2) (last / 2) := by
 rw [walkE, if_neg h0, if_neg (by simp [h])]
theorem rootT_take {l : List Int} {m k : Nat} (h1 : 2 ^ k < m) (h2 : m ≤ 2 ^ (k + 1)) (hl : m ≤ l.length) : rootT (l.take m) = pairV (rootT (l.take (2 ^ k))) (rootT ((l.drop (2 ^ k)).take (m - 2 ^ k))) := by
 have h0 : 0 < 2 ^ k := Nat.two_pow_pos _
 have hlen : (l.take m).length = m := by rw [List.length_take]; omega
 have hH : halfN (l.take m).length = 2 ^ k := by rw [hlen]; unfold halfN; rw [half_is (by omega) h1 h2]
 rw [rootT_two (by omega), hH, List.take_take, Nat.min_eq_left (by omega), List.drop_take]
theorem walkE_perf (a b : Int) (rest : List Int) : ∀ (k : Nat) (l : List Int) (m A last : Nat), l.length = 2 ^ k → 1 ≤ m → m < 2 ^ k → (A + 1) * 2 ^ k ≤ last →
  startE a b (extS l m ++ rest) (A * 2 ^ k + (m - 1)) last = walkE a b rest (rootT (l.take m)) (rootT l) A (last / 2 ^ k)
 | 0, l, m, A, last, hl, h1, hm, hA => by omega
 | k + 1, l, m, A, last, hl, h1, hm, hA => by
  have h0 : 0 < 2 ^ k := Nat.two_pow_pos _
  have hp : 2 ^ (k + 1) = 2 * 2 ^ k := by rw [Nat.pow_succ, Nat.mul_comm]
  have hH : halfN l.length = 2 ^ k := by rw [hl, half_pow]
  obtain ⟨t1, t2⟩ := take_half hl
  have e1 : A * 2 ^ (k + 1) = 2 * A * 2 ^ k := by rw [hp, Nat.mul_comm 2 A, Nat.mul_assoc]
  have e2 : (A + 1) * 2 ^ (k + 1) = (2 * A + 2) * 2 ^ k := by rw [hp, ← Nat.mul_assoc]; congr 1; omega
  rw [e2] at hA
  have hle : (2 * A + 1 + 1) ≤ last / 2 ^ k := (Nat.le_div_iff_mul_le h0).2 hA
  have hA2 : (2 * A + 1) * 2 ^ k ≤ last := by rw [show 2 * A + 2 = 2 * A + 1 + 1 from rfl, Nat.add_mul] at hA; omega
  rw [rootT_two (l := l) (by omega), hH, ← div_pow]
  rcases Nat.lt_trichotomy m (2 ^ k) with hlt | rfl | hgt
  ·rw [extS_left (by omega) (by omega) (by omega), hH, List.append_assoc, e1, walkE_perf a b _ k _ m (2 * A) last t1 h1 hlt hA2, List.take_take, Nat.min_eq_left (by omega)]
   rw [List.singleton_append, walkE_left (by omega) (by simp [rightW]; omega), show 2 * A / 2 = A by omega]
  ·rw [extS_left (by omega) (by omega) (by omega), hH, extS_end (by omega), e1, List.append_assoc, List.singleton_append, startE_cons (s' := 2 * A) (l' := last / 2 ^ k) (by rw [ones_pow, ones_no (by omega)])]
   rw [List.singleton_append, walkE_left (by omega) (by simp [rightW]; omega), show 2 * A / 2 = A by omega]
  ·rw [extS_right (by omega) (by omega) (by omega), hH, List.append_assoc, show A * 2 ^ (k + 1) + (m - 1) = (2 * A + 1) * 2 ^ k + (m - 2 ^ k - 1) by rw [e1, Nat.add_mul]; omega,
    walkE_perf a b _ k _ (m - 2 ^ k) (2 * A + 1) last t2 (by omega) (by omega) hA]
   rw [List.singleton_append, walkE_right (by omega) (by simp [rightW]) (lone_no (by omega)), show (2 * A + 1) / 2 = A by omega, ← rootT_take hgt (by omega) (by omega)]
theorem walkE_last (a b : Int) (rest : List Int) : ∀ (n : Nat) (l : List Int) (m A K : Nat), l.length = n → 1 ≤ m → m < n → n ≤ 2 ^ K →
  ∃ j, j ≤ K ∧ startE a b (extS l m ++ rest) (A * 2 ^ K + (m - 1)) (A * 2 ^ K + n - 1) = walkE a b rest (rootT (l.take m)) (rootT l) (A * 2 ^ j) (A * 2 ^ j) := by
 intro n
 induction n using Nat.strongRecOn generalizing rest with
 | _ n ih =>
  intro l m A K hl h1 hm hn
  obtain ⟨a1, a2, a3⟩ := half_spec (show 2 ≤ n by omega)
  unfold halfN at a1 a2 a3
  have hH : halfN l.length = 2 ^ halfE n := by rw [hl]; rfl
  generalize halfE n = k at *
  have hk : k + 1 ≤ K := by
   rcases Nat.lt_or_ge K (k + 1) with h | h
   ·have := Nat.pow_le_pow_right (show 0 < 2 by omega) (show K ≤ k by omega)
    omega
   ·exact h
  obtain ⟨e1, e2, e3, e4⟩ := last_div (A := A) a1 (by rw [Nat.pow_succ]; omega) hk
  have t1 : (l.take (2 ^ k)).length = 2 ^ k := by rw [List.length_take]; omega
  have hA2 : (A * 2 ^ (K - k) + 1) * 2 ^ k ≤ A * 2 ^ K + n - 1 := by rw [e1, Nat.add_mul]; omega
  refine ⟨K - k - 1, by omega, ?_⟩
  rw [rootT_two (l := l) (by omega), hH]
  rcases Nat.lt_trichotomy m (2 ^ k) with hlt | rfl | hgt
  ·rw [extS_left (by omega) (by omega) (by omega), hH, List.append_assoc, show A * 2 ^ K + (m - 1) = A * 2 ^ (K - k) * 2 ^ k + (m - 1) by rw [e1], walkE_perf a b _ k _ m (A * 2 ^ (K - k)) _ t1 h1 hlt hA2, e4, List.take_take, Nat.min_eq_left (by omega)]
   rw [List.singleton_append, walkE_left (by omega) (by simp [rightW]; omega), e3, show (A * 2 ^ (K - k) + 1) / 2 = A * 2 ^ (K - k) / 2 by omega, e3]
  ·rw [extS_left (by omega) (by omega) (by omega), hH, extS_end (by omega), show A * 2 ^ K + (2 ^ k - 1) = A * 2 ^ (K - k) * 2 ^ k + (2 ^ k - 1) by rw [e1], List.append_assoc, List.singleton_append, startE_cons (s' := A * 2 ^ (K - k)) (l' := A * 2 ^ (K - k) + 1) (by rw [ones_pow, e4, ones_no (by omega)])]
   rw [List.singleton_append, walkE_left (by omega) (by simp [rightW]; omega), e3, show (A * 2 ^ (K - k) + 1) / 2 = A * 2 ^ (K - k) / 2 by omega, e3]
  ·rw [extS_right (by omega) (by omega) (by omega), hH, List.append_assoc]
   obtain ⟨j, hj, h3⟩ := ih (n - 2 ^ k) (by omega) ([rootT (l.take (2 ^ k))] ++ rest) (l.drop (2 ^ k)) (m - 2 ^ k) (A * 2 ^ (K - k) + 1) k (by rw [List.length_drop]; omega) (by omega) (by omega) (by omega)
   rw [show A * 2 ^ K + (m - 1) = (A * 2 ^ (K - k) + 1) * 2 ^ k + (m - 2 ^ k - 1) by rw [e1, Nat.add_mul]; omega, show A * 2 ^ K + n - 1 = (A * 2 ^ (K - k) + 1) * 2 ^ k + (n - 2 ^ k) - 1 by rw [e1, Nat.add_mul]; omega, h3]
   have hpos : 0 < (A * 2 ^ (K - k) + 1) * 2 ^ j := Nat.mul_pos (by omega) (Nat.two_pow_pos _)
   rw [List.singleton_append, walkE_right (by omega) (by simp [rightW]) (lone_pow (by omega) j), show (A * 2 ^ (K - k) + 1) / 2 = A * 2 ^ (K - k) / 2 by omega, e3, ← rootT_take hgt (by rw [Nat.pow_succ]; omega) (by omega)]
theorem ext_right {l : List Int} {m : Nat} (h1 : 1 ≤ m) (hm : m < l.length) (hn : l.length ≤ 4096) : startE (rootT (l.take m)) (rootT l) (extS l m) (m - 1) (l.length - 1) = true := by
 obtain ⟨j, _, h⟩ := walkE_last (rootT (l.take m)) (rootT l) [] l.length l m 0 12 rfl h1 hm (by simpa using hn)
 simp only [List.append_nil, Nat.zero_mul, Nat.zero_add] at h
 rw [h]
 simp [walkE]
theorem whole_pow : ∀ (n : Nat) (l : List Int) (m : Nat), l.length = n → 1 ≤ m → m < n → (wholeT l m = true ↔ ∃ k, m = 2 ^ k) := by
 intro n
 induction n using Nat.strongRecOn with
 | _ n ih =>
  intro l m hl h1 hm
  obtain ⟨a1, a2, a3⟩ := half_spec (show 2 ≤ n by omega)
  have hH : halfN l.length = halfN n := by rw [hl]
  by_cases hi : m ≤ halfN n
  ·rw [wholeT_left (by omega) (by omega) (by omega), hH]
   rcases Nat.lt_or_ge m (halfN n) with h | h
   ·exact ih (halfN n) (by omega) _ m (by rw [List.length_take]; omega) h1 h
   ·rw [wholeT_end (by rw [List.length_take]; omega)]
    refine ⟨fun _ => ⟨halfE n, ?_⟩, fun _ => rfl⟩
    unfold halfN at *
    omega
  ·rw [wholeT_right (by omega) (by omega) (by omega)]
   refine ⟨fun h => by simp at h, ?_⟩
   rintro ⟨k, rfl⟩
   unfold halfN at *
   exfalso
   rcases Nat.lt_or_ge (halfE n) k with h | h
   ·have := Nat.pow_le_pow_right (show 0 < 2 by omega) (show halfE n + 1 ≤ k by omega)
    rw [Nat.pow_succ] at this
    omega
   ·have := Nat.pow_le_pow_right (show 0 < 2 by omega) h
    omega
theorem whole_head : ∀ (n : Nat) (l : List Int) (m : Nat), l.length = n → 1 ≤ m → m ≤ n → wholeT l m = true → ∃ ps, extS l m = rootT (l.take m) :: ps := by
 intro n
 induction n using Nat.strongRecOn with
 | _ n ih =>
  intro l m hl h1 hm hw
  rcases Nat.lt_or_ge m n with h | h
  ·obtain ⟨a1, a2, a3⟩ := half_spec (show 2 ≤ n by omega)
   have hH : halfN l.length = halfN n := by rw [hl]
   by_cases hi : m ≤ halfN n
   ·rw [wholeT_left (by omega) (by omega) (by omega), hH] at hw
    obtain ⟨ps, hp⟩ := ih (halfN n) (by omega) (l.take (halfN n)) m (by rw [List.length_take]; omega) h1 hi hw
    rw [extS_left (by omega) (by omega) (by omega), hH, hp, List.take_take, Nat.min_eq_left hi]
    exact ⟨_, rfl⟩
   ·rw [wholeT_right (by omega) (by omega) (by omega)] at hw
    simp at hw
  ·rw [extS_end (by omega), List.take_of_length_le (by omega)]
   exact ⟨_, rfl⟩
theorem extS_len : ∀ (K : Nat) (l : List Int) (m : Nat), l.length ≤ 2 ^ K → (extS l m).length ≤ K + 1
 | K, l, m, h => by
  rcases Nat.lt_or_ge l.length 2 with h2 | h2
  ·rw [extS, dif_pos (.inl (by omega))]; simp
  ·rcases Nat.lt_or_ge m l.length with hm | hm
   ·obtain ⟨a1, a2, a3⟩ := half_spec h2
    match K with
    | 0 => simp at h; omega
    | K + 1 =>
     have hH : halfN l.length ≤ 2 ^ K := by
      unfold halfN at *
      rcases Nat.lt_or_ge K (halfE l.length) with h | h
      ·have := Nat.pow_le_pow_right (show 0 < 2 by omega) (show K + 1 ≤ halfE l.length by omega)
       omega
      ·exact Nat.pow_le_pow_right (by omega) h
     rw [Nat.pow_succ] at h
     by_cases hi : m ≤ halfN l.length
     ·rw [extS_left h2 hm hi, List.length_append]
      have := extS_len K (l.take (halfN l.length)) m (by rw [List.length_take]; omega)
      simp; omega
     ·rw [extS_right h2 hm hi, List.length_append]
      have := extS_len K (l.drop (halfN l.length)) (m - halfN l.length) (by rw [List.length_drop]; omega)
      simp; omega
   ·rw [extS_end hm]; simp
def inB (root leaf : Int) (i n : Int) (path : List Int) : Bool :=
 !(decide (n < 1) || (decide (4096 < n) || (decide (i < 0) || decide (n ≤ i)))) && walkI root path (leafV leaf) i.toNat (n.toNat - 1)
def powB (m : Nat) : Bool := decide (m &&& (m - 1) = 0)
def exB (a b : Int) (m n : Int) (path : List Int) : Bool :=
 !(decide (n < 1) || (decide (4096 < n) || (decide (m < 1) || decide (n < m)))) && (if m = n then decide (path.length = 0) && decide (a = b) else startE a b (if powB m.toNat then a :: path else path) (m.toNat - 1) (n.toNat - 1))
theorem pow_iff : ∀ m : Nat, 1 ≤ m → (powB m = true ↔ ∃ k, m = 2 ^ k) := by
 intro m
 induction m using Nat.strongRecOn with
 | _ m ih =>
  intro h1
  unfold powB
  rw [decide_eq_true_iff]
  have hd := Nat.and_div_two (a := m) (b := m - 1)
  have hm := Nat.and_mod_two_eq_one (a := m) (b := m - 1)
  by_cases hp : m % 2 = 1
  ·rcases Nat.lt_or_ge m 2 with h2 | h2
   ·obtain rfl : m = 1 := by omega
    exact ⟨fun _ => ⟨0, rfl⟩, fun _ => rfl⟩
   ·have e : (m - 1) / 2 = m / 2 := by omega
    rw [e, Nat.and_self] at hd
    refine ⟨fun h => by omega, ?_⟩
    rintro ⟨k, rfl⟩
    match k with
    | 0 => omega
    | k + 1 => rw [Nat.pow_succ] at hp; omega
  ·have e : (m - 1) / 2 = m / 2 - 1 := by omega
   rw [e] at hd
   have h3 := ih (m / 2) (by omega) (by omega)
   unfold powB at h3
   rw [decide_eq_true_iff] at h3
   have h4 : ((m &&& (m - 1)) = 0) ↔ ((m / 2 &&& (m / 2 - 1)) = 0) := by
    rw [← hd]
    omega
   rw [h4, h3]
   constructor
   ·rintro ⟨k, hk⟩
    exact ⟨k + 1, by rw [Nat.pow_succ]; omega⟩
   ·rintro ⟨k, rfl⟩
    match k with
    | 0 => omega
    | k + 1 => exact ⟨k, by rw [Nat.pow_succ]; omega⟩
theorem inB_right {l : List Int} {i : Nat} (hi : i < l.length) (hn : l.length ≤ 4096) : inB (rootT l) (l.getD i 0) i l.length (inclT l i) = true := by
 unfold inB
 rw [decide_eq_false (by omega), decide_eq_false (by omega), decide_eq_false (by omega), decide_eq_false (by omega)]
 simpa using incl_right hi hn
theorem exB_right {l : List Int} {m : Nat} (h1 : 1 ≤ m) (hm : m < l.length) (hn : l.length ≤ 4096) : exB (rootT (l.take m)) (rootT l) m l.length (extT l m) = true := by
 unfold exB
 rw [decide_eq_false (by omega), decide_eq_false (by omega), decide_eq_false (by omega), decide_eq_false (by omega), if_neg (by omega)]
 have h2 := ext_right h1 hm hn
 have h3 := (whole_pow _ l m rfl h1 hm).trans (pow_iff m h1).symm
 have h4 : (if powB m then rootT (l.take m) :: extT l m else extT l m) = extS l m := by
  unfold extT
  cases hw : wholeT l m with
  | true =>
   obtain ⟨ps, hp⟩ := whole_head _ l m rfl h1 (by omega) hw
   rw [if_pos (h3.1 hw), hp]
   simp
  | false =>
   rw [if_neg (fun h => by rw [h3.2 h] at hw; cases hw)]
   simp
 simpa [h4] using h2
theorem exB_same {l : List Int} (h1 : 1 ≤ l.length) (hn : l.length ≤ 4096) : extT l l.length = [] ∧ exB (rootT l) (rootT l) l.length l.length [] = true := by
 constructor
 ·unfold extT
  rw [wholeT_end (Nat.le_refl _), extS_end (Nat.le_refl _)]
  simp
 ·unfold exB
  rw [decide_eq_false (by omega), decide_eq_false (by omega), decide_eq_false (by omega), if_pos rfl]
  simp
theorem extT_len {l : List Int} {m : Nat} (hn : l.length ≤ 4096) : (extT l m).length ≤ 13 := by
 have := extS_len 12 l m (by simpa using hn)
 unfold extT
 split
 ·rw [List.length_tail]; omega
 ·exact this
open Go.RowKit Go.Sort Go.Shelf
set_option maxRecDepth 100000
theorem bLen_any (n : Nat) (hn : 1 ≤ n ∧ n ≤ 9223372036854775807) (w : World) : Calls Tryz.prog 87 #[.int .u64 n] w fun e w' => e = .returned (.int .i64 (halfE (n + 1) + 1 : Nat)) ∧ w' = w := by
 refine (Any.bits_Len laysLen (n : Int) w (by omega) (by omega)).mono ?_
 rintro e w' ⟨rfl, rfl⟩
 refine ⟨?_, rfl⟩
 rw [Int.toNat_natCast, bitLen_log n (by omega) (by omega)]
 rfl
theorem halfE_lt {n : Nat} (h : 2 ≤ n) (hn : n ≤ 1000000) : halfE n < 20 := by
 obtain ⟨a, _, _⟩ := half_spec h
 unfold halfN at a
 rcases Nat.lt_or_ge (halfE n) 20 with h1 | h1
 ·exact h1
 ·have := Nat.pow_le_pow_right (show 0 < 2 by omega) h1
  omega
theorem phalf_any (n : Nat) (h : 2 ≤ n) (hn : n ≤ 1000000) (w : World) : Calls Tryz.prog 86 #[.int .i64 n] w fun e w' => e = .returned (.int .i64 (halfN n : Nat)) ∧ w' = w := by
 have hb := Lib.hid (fun W => bLen_any (n - 1) (by omega) W)
 have e1 : ((n : Int) - 1) = ((n - 1 : Nat) : Int) := by omega
 rw [show n - 1 + 1 = n by omega] at hb
 have e2 : IntKind.i64.wrap ((n - 1 : Nat) : Int) = ((n - 1 : Nat) : Int) := by rw [IntKind.wrap_i64]; omega
 have e3 : IntKind.u64.wrap ((n - 1 : Nat) : Int) = ((n - 1 : Nat) : Int) := by rw [IntKind.wrap_u64]; omega
 have hl := halfE_lt h hn
 go_enter Tryz.func86, Tryz.ntmps86
 go_wp2_with (go_at_call 87; refine (hb.out _).mono ?_; rintro e w' ⟨rfl, rfl⟩)
 go_ret
 refine ⟨?_, rfl⟩
 have h6 : wrap64 (2 ^ halfE n) = ((halfN n : Nat) : Int) := by
  have h7 : 2 ^ halfE n ≤ 2 ^ 19 := Nat.pow_le_pow_right (by omega) (by omega)
  have h8 : ((2 ^ halfE n : Nat) : Int) = (2 : Int) ^ halfE n := by simp
  unfold halfN
  rw [← h8]
  generalize 2 ^ halfE n = p at *
  unfold wrap64
  omega
 exact congrArg (fun z => Ending.returned (.int .i64 z)) h6
theorem parts_any (b off n c : Nat) (xs : List Int) (w : World) (h : Sl .u64 w (some ⟨b, off, none⟩) n c xs) (h2 : 2 ≤ n) (hn : n ≤ 1000000) :
  Calls Tryz.prog 46 #[.slice (some ⟨b, off, none⟩) n c] w fun e w' => e = .returned (.tuple #[.slice (some ⟨b, off, none⟩) (halfN n) (halfN n), .slice (some ⟨b, off + halfN n, none⟩) (n - halfN n) (n - halfN n)]) ∧ Ext w w' := by
 obtain ⟨a1, a2, a3⟩ := half_spec h2
 have hb := Lib.hid (fun W => phalf_any n h2 hn W)
 have bd := h.bd
 generalize halfN n = k at *
 go_enter Tryz.func46, Tryz.ntmps46
 go_wp2_with (go_at_call 86; refine (hb.out _).mono ?_; rintro e w' ⟨rfl, rfl⟩)
 have hg := @grow_cell
 refine region_ext (by kernel_rfl) (by kernel_rfl) ?_
 repeat (go_big_quiet_step (fail))
 refine wpQuiet_nil ?_
 intro w' hE'
 go_wp2_with fail
 go_ret2
 exact ⟨rfl, hE'⟩
theorem tleaf_any (d : Int) (hd : 0 ≤ d ∧ d ≤ 18446744073709551615) (w : World) (ht : TB w) : Calls Tryz.prog 84 #[.int .u64 d] w fun e w' => e = .returned (.int .u64 (leafV d)) ∧ Ext w w' := by
 have HN := Lib.hid (fun (W : World) (hx : Ext w W) a1 c1 (h1 : Sl .i64 W a1 1 c1 [0]) => dnext_any d hd a1 1 c1 [0] W h1 (by omega) (ht.ext hx))
 have hl := litSl .i64 3 w w.heap.size 1 [0] #[.int .i64 0] rfl rfl rfl (by simp [maxLen]) (by simp [Lit.wf, IntKind.min, IntKind.max, IntKind.signed, IntKind.bits])
 go_enter Tryz.func84, Tryz.ntmps84
 go_wp2_with (go_at_call 104; refine (HN.out _ ((Ext.refl w).alloc _) _ _ hl).mono ?_; rintro e w' ⟨rfl, hx⟩)
 go_ret
 exact ⟨rfl, ((Ext.refl w).alloc _).trans hx⟩
theorem root_rng (l : List Int) : 0 ≤ rootT l ∧ rootT l ≤ 18446744073709551615 := by
 unfold rootT
 split
 ·exact fnv_rng _
 ·exact fnv_rng _
theorem Sl.bd0 {k : IntKind} {w : World} {a : Option Addr} {n c : Nat} {xs : List Int} (h : Sl k w a n c xs) (h0 : 0 < n) : ∃ b off, a = some ⟨b, off, none⟩ := let ⟨b, off, e, _⟩ := h.at h0; ⟨b, off, e⟩
theorem Sl.self {k : IntKind} {w : World} {a : Option Addr} {n c : Nat} {xs : List Int} (h : Sl k w a n c xs) (m : Nat) (h1 : n ≤ m) (h2 : m ≤ c) : Sl k w a n m xs := ⟨h.hlen, h1, by have := h.max; omega, h.cells, h.wf⟩
theorem troot_any : ∀ (n : Nat) (b off c : Nat) (xs : List Int) (w : World), 1 ≤ n → n ≤ 5000 → Sl .u64 w (some ⟨b, off, none⟩) n c xs → TB w →
  Calls Tryz.prog 44 #[.slice (some ⟨b, off, none⟩) n c] w fun e w' => e = .returned (.int .u64 (rootT xs)) ∧ Ext w w' := by
 intro n
 induction n using Nat.strongRecOn with
 | _ n ih =>
  intro b off c xs w h1 hn h ht
  have bd := h.bd
  have hlen := h.hlen
  by_cases h2 : n = 1
  ·subst h2
   have hx0 : xs.headD 0 = nth xs 0 := by match xs, hlen with | [x], _ => rfl
   have h0 := h.wfAt (i := 0) (by omega)
   have hd : 0 ≤ nth xs 0 ∧ nth xs 0 ≤ 18446744073709551615 := by simp [Lit.wf, IntKind.min, IntKind.max, IntKind.signed, IntKind.bits] at h0; omega
   obtain ⟨b', o', e', hc⟩ := h.at (by omega)
   obtain ⟨rfl, rfl⟩ : b = b' ∧ off = o' := by simpa using e'
   have d0 := hc 0 (by omega)
   simp only [Nat.add_zero] at d0
   have HL := Lib.hid (fun (W : World) (hx : Ext w W) => tleaf_any (nth xs 0) hd W (ht.ext hx))
   have HR := Lib.hid (rootT_one hlen)
   rw [hx0] at HR
   clear hc h0 hd hx0 h hlen e'
   go_enter Tryz.func44, Tryz.ntmps44
   go_wp2_with (go_at_call 84; refine (HL.out _ (Ext.refl w)).mono ?_; rintro e w' ⟨rfl, hx⟩)
   go_ret
   rw [HR.out]
   exact ⟨rfl, hx⟩
  ·obtain ⟨a1, a2, a3⟩ := half_spec (show 2 ≤ n by omega)
   have HP := Lib.hid (parts_any b off n c xs w h (by omega) (by omega))
   have hl := (h.take (m := halfN n) (by omega)).self (halfN n) (Nat.le_refl _) (by omega)
   have hr := h.drop (m := halfN n) (by omega) (n - halfN n) (Nat.le_refl _) (by omega)
   have HLR := Lib.hid (fun (W : World) (hx : Ext w W) => ih (halfN n) a1 b off (halfN n) _ W (by omega) (by omega) (hl.ext hx) (ht.ext hx))
   have HRR := Lib.hid (fun (W : World) (hx : Ext w W) => ih (n - halfN n) (by omega) b (off + halfN n) (n - halfN n) _ W (by omega) (by omega) (hr.ext hx) (ht.ext hx))
   have HR := Lib.hid (rootT_two (l := xs) (by omega))
   have k1 := root_rng (xs.take (halfN n))
   have k2 := root_rng (xs.drop (halfN n))
   rw [hlen] at HR
   generalize halfN n = k at *
   have HPR := Lib.hid (fun W => dpair_any (rootT (xs.take k)) (rootT (xs.drop k)) k1 k2 W)
   clear hl hr ih k1 k2 h hlen
   have h3 : ¬ ((n : Int) = 1) := by omega
   go_enter Tryz.func44, Tryz.ntmps44
   go_upto_region 3 with fail
   go_wp2_with (go_at_call 46; refine HP.out.mono ?_; rintro e w1 ⟨rfl, hx⟩; refine hold ?_)
   refine held ?_
   go_upto_region 4 with fail
   go_wp2_with (go_at_call 44; refine (HLR.out _ hx).mono ?_; rintro e w2 ⟨rfl, hx2⟩; refine hold ?_)
   refine held ?_
   go_wp2_with (go_at_call 44; refine (HRR.out _ (hx.trans hx2)).mono ?_; rintro e w3 ⟨rfl, hx3⟩; refine hold ?_)
   refine held ?_
   go_wp2_with (go_at_call 63; refine (HPR.out _).mono ?_; rintro e w4 ⟨rfl, hx4⟩)
   go_ret
   rw [HR.out]
   exact ⟨rfl, ((hx.trans hx2).trans hx3).trans hx4⟩
theorem tcheck_any (a : Option Addr) (n c : Nat) (w : World) (hn : n ≤ 9223372036854775807) : Calls Tryz.prog 43 #[.slice a n c] w fun e w' => e = .returned (.int .i64 (if n = 0 then 1 else if 4096 < n then 2 else 0)) ∧ w = w' := by
 by_cases h0 : n = 0
 ·subst h0
  go_enter Tryz.func43, Tryz.ntmps43
  go_wp2_with fail
  go_ret
  exact ⟨rfl, rfl⟩
 ·have h1 : ¬ ((n : Int) = 0) := by omega
  rw [if_neg h0]
  by_cases h2 : 4096 < n
  ·have h3 : (4096 : Int) < n := by omega
   rw [if_pos h2]
   go_enter Tryz.func43, Tryz.ntmps43
   go_wp2_with fail
   go_ret
   exact ⟨rfl, rfl⟩
  ·have h3 : ¬ ((4096 : Int) < n) := by omega
   rw [if_neg h2]
   go_enter Tryz.func43, Tryz.ntmps43
   go_wp2_with fail
   go_ret
   exact ⟨rfl, rfl⟩
theorem tRoot_any (b off n c : Nat) (xs : List Int) (w : World) (h1 : 1 ≤ n) (hn : n ≤ 4096) (h : Sl .u64 w (some ⟨b, off, none⟩) n c xs) (ht : TB w) :
  Calls Tryz.prog 15 #[.slice (some ⟨b, off, none⟩) n c] w fun e w' => e = .returned (.tuple #[.int .u64 (rootT xs), .int .i64 0]) ∧ Ext w w' := by
 have HC := Lib.hid (fun W => tcheck_any (some ⟨b, off, none⟩) n c W (by omega))
 rw [if_neg (by omega), if_neg (by omega)] at HC
 have HR := Lib.hid (troot_any n b off c xs w h1 (by omega) h ht)
 have bd := h.bd
 clear h ht
 go_enter Tryz.func15, Tryz.ntmps15
 go_wp2_with ((first | (go_at_call 43; refine (HC.out _).mono ?_; rintro e w' ⟨rfl, rfl⟩) | (go_at_call 44; refine HR.out.mono ?_; rintro e w' ⟨rfl, hx⟩)))
 go_ret2
 exact ⟨rfl, hx⟩
end Go.Proofs.YtacicanjmleikaaGreatDoor
