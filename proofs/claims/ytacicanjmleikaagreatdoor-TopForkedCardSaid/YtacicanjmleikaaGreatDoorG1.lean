/-
  Powers modulo a number, plain: what an element of the group is, its order, and the small theorem of Fermat for the group's order.
-/
import Derived.Test.YtacicanjmleikaaGreatDoorLibA
namespace Go.Proofs.YtacicanjmleikaaGreatDoor
open Go.RowKit
set_option linter.unusedSimpArgs false
set_option linter.unusedVariables false

/-- A power modulo m. -/
@[irreducible] def pw (m a x : Nat) : Nat := a ^ x % m
theorem pw_def (m a x : Nat) : pw m a x = a ^ x % m := by unfold pw; rfl

/-- By squaring. -/
def pwf : Nat → Nat → Nat → Nat → Nat → Nat
  | 0, _, out, _, _ => out
  | f + 1, m, out, a, x => if x = 0 then out else pwf f m (if x % 2 = 1 then out * a % m else out) (a * a % m) (x / 2)

theorem sq_step (m out a x : Nat) : ((if x % 2 = 1 then out * a % m else out) * (a * a % m) ^ (x / 2)) % m = out * a ^ x % m := by
  have e1 : ((a * a % m) ^ (x / 2)) % m = (a * a) ^ (x / 2) % m := (Nat.pow_mod (a * a) (x / 2) m).symm
  have e2 : a ^ x = (a * a) ^ (x / 2) * a ^ (x % 2) := by
    rw [← Nat.pow_two, ← Nat.pow_mul, ← Nat.pow_add]
    congr 1
    omega
  rw [Nat.mul_mod, e1, ← Nat.mul_mod, e2]
  by_cases h : x % 2 = 1
  · rw [if_pos h, h, Nat.pow_one, Nat.mod_mul_mod, Nat.mul_assoc, Nat.mul_comm a]
  · rw [if_neg h, show x % 2 = 0 by omega, Nat.pow_zero, Nat.mul_one]

theorem pwf_eq : ∀ (f m out a x : Nat), x < 2 ^ f → out < m → pwf f m out a x = out * a ^ x % m
  | 0, m, out, a, x, hx, ho => by
    obtain rfl : x = 0 := by simpa using hx
    simp [pwf, Nat.mod_eq_of_lt ho]
  | f + 1, m, out, a, x, hx, ho => by
    unfold pwf
    by_cases h : x = 0
    · subst h; simp [Nat.mod_eq_of_lt ho]
    · rw [if_neg h, pwf_eq f m _ _ _ (by rw [Nat.pow_succ] at hx; omega) (by split; exact Nat.mod_lt _ (by omega); exact ho), sq_step]
theorem pw_fast {m a x : Nat} (hx : x < 2 ^ 31) (hm : 1 < m) : pw m a x = pwf 31 m 1 a x := by
  rw [pwf_eq 31 m 1 a x hx hm, Nat.one_mul, pw_def]

/-! ### An element of the group -/
def pP : Nat := 2147483579
def pQ : Nat := 1073741789

/-- a is an element: its power Q is 1. -/
structure Elem (a : Nat) : Prop where
  lt : a < pP
  one : a ^ pQ % pP = 1

theorem one_lt_pP : 1 < pP := by decide
theorem Elem.pos {a : Nat} (h : Elem a) : 0 < a := by
  rcases Nat.eq_zero_or_pos a with rfl | h0
  · have := h.one
    rw [Nat.zero_pow (by decide)] at this
    simp at this
  · exact h0
theorem Elem.mul {a b : Nat} (ha : Elem a) (hb : Elem b) : Elem (a * b % pP) := by
  refine ⟨Nat.mod_lt _ (by decide), ?_⟩
  rw [← Nat.pow_mod, Nat.mul_pow, Nat.mul_mod, ha.one, hb.one]
  decide
theorem Elem.pow {a : Nat} (ha : Elem a) (x : Nat) : Elem (a ^ x % pP) := by
  refine ⟨Nat.mod_lt _ (by decide), ?_⟩
  rw [← Nat.pow_mod, ← Nat.pow_mul, Nat.mul_comm, Nat.pow_mul, Nat.pow_mod, ha.one, Nat.one_pow]
  decide
theorem gen_pw : pw pP 4 pQ = 1 := by rw [pw_fast (by decide) (by decide)]; decide +kernel
theorem Elem.gen : Elem 4 := ⟨by decide, by rw [← pw_def]; exact gen_pw⟩

/-- Exponents count modulo Q. -/
theorem Elem.red {a : Nat} (ha : Elem a) (x : Nat) : a ^ x % pP = a ^ (x % pQ) % pP := by
  conv => lhs; rw [← Nat.div_add_mod x pQ]
  rw [Nat.pow_add, Nat.pow_mul, Nat.mul_mod, Nat.pow_mod (a ^ pQ), ha.one, Nat.one_pow]
  simp [Nat.mod_eq_of_lt one_lt_pP]

theorem pow_gcd {a m : Nat} : ∀ (x y : Nat), a ^ x % m = 1 % m → a ^ y % m = 1 % m → a ^ (Nat.gcd x y) % m = 1 % m := by
  intro x y
  induction x, y using Nat.gcd.induction with
  | H0 y => intro _ h; simpa using h
  | H1 x y hx ih =>
    intro h1 h2
    rw [Nat.gcd_rec]
    refine ih ?_ h1
    have : a ^ y % m = a ^ (y % x) % m := by
      conv => lhs; rw [← Nat.div_add_mod y x]
      rw [Nat.pow_add, Nat.pow_mul, Nat.mul_mod, Nat.pow_mod (a ^ x), h1, ← Nat.pow_mod, Nat.one_pow, ← Nat.mul_mod, Nat.one_mul]
    rw [← this]; exact h2

/-! ### Q is prime -/
def chk (n : Nat) : Nat → Nat → Bool
  | 0, lo => n % lo != 0
  | d + 1, lo => chk n d lo && chk n d (lo + 2 ^ d)
theorem chk_spec {n : Nat} : ∀ (d lo : Nat), chk n d lo = true → ∀ k, lo ≤ k → k < lo + 2 ^ d → n % k ≠ 0
  | 0, lo, h, k, h1, h2 => by
    obtain rfl : k = lo := by simp at h2; omega
    simpa [chk] using h
  | d + 1, lo, h, k, h1, h2 => by
    simp only [chk, Bool.and_eq_true] at h
    rw [Nat.pow_succ] at h2
    by_cases hk : k < lo + 2 ^ d
    · exact chk_spec d lo h.1 k h1 hk
    · exact chk_spec d (lo + 2 ^ d) h.2 k (by omega) (by omega)
theorem chk_Q : chk pQ 15 2 = true := by decide +kernel

theorem coprime_Q {d : Nat} (h0 : 0 < d) (h1 : d < pQ) : Nat.gcd d pQ = 1 := by
  have hc : ∀ k, 2 ≤ k → k < 32770 → pQ % k ≠ 0 := fun k hk hk2 => chk_spec 15 2 chk_Q k hk (by omega)
  have hg := Nat.gcd_pos_of_pos_left pQ h0
  have hle := Nat.gcd_le_left pQ h0
  obtain ⟨e, he⟩ := Nat.gcd_dvd_right d pQ
  generalize Nat.gcd d pQ = g at *
  rcases Nat.lt_or_ge g 2 with hlt | hge
  · omega
  · exfalso
    by_cases hs : g < 32770
    · exact hc g hge hs (by rw [he]; exact Nat.mul_mod_right g e)
    · have he2 : e < 32770 := by
        rcases Nat.lt_or_ge e 32770 with h | h
        · exact h
        · have := Nat.mul_le_mul (show 32770 ≤ g by omega) h
          have hq : pQ = 1073741789 := rfl
          omega
      have he3 : 2 ≤ e := by
        rcases e with _ | _ | e
        · rw [Nat.mul_zero] at he; exact absurd he (by decide)
        · omega
        · omega
      exact hc e he3 he2 (by rw [he]; exact Nat.mul_mod_left g e)

/-- Powers of an element other than 1 are equal exactly if the exponents are. -/
theorem Elem.inj {a : Nat} (ha : Elem a) (h1 : a ≠ 1) {r s : Nat} (hr : r < pQ) (hs : s < pQ) (h : a ^ r % pP = a ^ s % pP) : r = s := by
  have key : ∀ r s : Nat, r < s → s < pQ → a ^ r % pP = a ^ s % pP → False := by
    intro r s hrs hs h
    have e1 : a ^ (s - r) % pP = 1 % pP := by
      have h2 : (a ^ (pQ - r) * a ^ r) % pP = 1 := by rw [← Nat.pow_add, show pQ - r + r = pQ by omega]; exact ha.one
      have h3 : (a ^ (pQ - r) * a ^ s) % pP = a ^ (s - r) % pP := by
        rw [← Nat.pow_add, show pQ - r + s = pQ + (s - r) by omega, Nat.pow_add, Nat.mul_mod, ha.one, Nat.one_mul, Nat.mod_mod]
      rw [← h3, Nat.mul_mod, ← h, ← Nat.mul_mod, h2]
      decide
    have e2 : a ^ pQ % pP = 1 % pP := by rw [ha.one]; decide
    have e3 := pow_gcd (s - r) pQ e1 e2
    rw [coprime_Q (by omega) (by omega), Nat.pow_one, Nat.mod_eq_of_lt ha.lt] at e3
    exact h1 (by rw [e3]; decide)
  rcases Nat.lt_trichotomy r s with h2 | h2 | h2
  · exact (key r s h2 hs h).elim
  · exact h2
  · exact (key s r h2 hr h.symm).elim

/-- Products with one factor. -/
theorem Elem.cancel {a b c : Nat} (ha : Elem a) (hb : b < pP) (hc : c < pP) (h : a * b % pP = a * c % pP) : b = c := by
  have key : ∀ x, x < pP → (a ^ (pQ - 1) * (a * x % pP)) % pP = x := by
    intro x hx
    rw [Nat.mul_mod_mod, ← Nat.mul_assoc, ← Nat.pow_succ, show (pQ - 1).succ = pQ from rfl, Nat.mul_mod, ha.one, Nat.one_mul, Nat.mod_mod, Nat.mod_eq_of_lt hx]
  rw [← key b hb, h, key c hc]

/-! ### The small theorem of Fermat -/
def prodL : List Nat → Nat
  | [] => 1
  | x :: l => x * prodL l
theorem prodL_erase {x : Nat} : ∀ {l : List Nat}, x ∈ l → prodL l = x * prodL (l.erase x)
  | y :: l, h => by
    by_cases hy : y = x
    · subst hy; simp [prodL]
    · have hx : x ∈ l := by
        rcases List.mem_cons.1 h with h | h
        · exact absurd h.symm hy
        · exact h
      rw [List.erase_cons_tail (by simpa using hy), prodL, prodL, prodL_erase hx, Nat.mul_left_comm]
theorem prodL_perm : ∀ (l m : List Nat), l.Nodup → (∀ x ∈ l, x ∈ m) → l.length = m.length → prodL l = prodL m
  | [], m, _, _, h => by
    obtain rfl : m = [] := List.eq_nil_of_length_eq_zero (by simpa using h.symm)
    rfl
  | x :: l, m, hn, hs, h => by
    have hx := hs x (by simp)
    obtain ⟨hn1, hn2⟩ := List.nodup_cons.1 hn
    have e1 : prodL l = prodL (m.erase x) := prodL_perm l (m.erase x) hn2
      (fun y hy => (List.mem_erase_of_ne (fun e => hn1 (by rw [← e]; exact hy))).2 (hs y (by simp [hy])))
      (by rw [List.length_erase_of_mem hx, ← h]; simp)
    rw [prodL_erase hx, prodL, e1]
theorem prodL_map (y p : Nat) : ∀ l : List Nat, prodL (l.map fun i => y * i % p) % p = y ^ l.length * prodL l % p
  | [] => by simp [prodL]
  | x :: l => by
    simp only [List.map_cons, prodL, List.length_cons]
    rw [Nat.mod_mul_mod, Nat.mul_mod, prodL_map y p l, ← Nat.mul_mod, Nat.pow_succ]
    congr 1
    rw [Nat.mul_comm (y ^ l.length) y]
    simp only [Nat.mul_assoc, Nat.mul_left_comm, Nat.mul_comm]
theorem prodL_coprime {p : Nat} : ∀ l : List Nat, (∀ x ∈ l, Nat.Coprime x p) → Nat.Coprime (prodL l) p
  | [], _ => Nat.coprime_one_left p
  | x :: l, h => Nat.Coprime.mul_left (h x (by simp)) (prodL_coprime l fun y hy => h y (by simp [hy]))

theorem fermat {p y : Nat} (hp : 1 < p) (hc : ∀ d, 0 < d → d < p → Nat.Coprime d p) (h0 : 0 < y) (h1 : y < p) : y ^ (p - 1) % p = 1 := by
  have hy := hc y h0 h1
  have hm : ∀ i, i ∈ List.range' 1 (p - 1) ↔ 0 < i ∧ i < p := fun i => by rw [List.mem_range'_1]; omega
  have hnz : ∀ i, 0 < i → i < p → y * i % p ≠ 0 := fun i h2 h3 h4 => by
    have := (hy.mul_left (hc i h2 h3))
    have hd := Nat.dvd_of_mod_eq_zero h4
    have h5 := Nat.Coprime.eq_one_of_dvd (Nat.Coprime.symm this) hd
    omega
  have e1 : prodL ((List.range' 1 (p - 1)).map fun i => y * i % p) = prodL (List.range' 1 (p - 1)) := by
    refine prodL_perm _ _ ?_ (fun x hx => ?_) (by simp)
    · rw [List.Nodup, List.pairwise_map]
      refine List.Pairwise.imp_of_mem (fun {a b} ha hb hab => ?_) (List.pairwise_lt_range' (s := 1) (n := p - 1))
      intro he
      have h2 := (hm a).1 ha
      have h3 := (hm b).1 hb
      have h4 := Nat.sub_mod_eq_zero_of_mod_eq he.symm
      rw [← Nat.mul_sub] at h4
      exact hnz (b - a) (by omega) (by omega) h4
    · simp only [List.mem_map] at hx
      obtain ⟨i, hi, rfl⟩ := hx
      have h2 := (hm i).1 hi
      refine (hm _).2 ⟨?_, Nat.mod_lt _ (by omega)⟩
      have := hnz i h2.1 h2.2
      omega
  have e2 := prodL_map y p (List.range' 1 (p - 1))
  rw [e1, List.length_range'] at e2
  have hF : Nat.Coprime (prodL (List.range' 1 (p - 1))) p := prodL_coprime _ fun x hx => hc x ((hm x).1 hx).1 ((hm x).1 hx).2
  generalize prodL (List.range' 1 (p - 1)) = F at *
  have hpos : 1 ≤ y ^ (p - 1) := Nat.pow_pos h0
  have h4 := Nat.sub_mod_eq_zero_of_mod_eq e2.symm
  rw [show y ^ (p - 1) * F - F = (y ^ (p - 1) - 1) * F by rw [Nat.sub_mul, Nat.one_mul]] at h4
  have h5 := Nat.Coprime.dvd_of_dvd_mul_right (Nat.Coprime.symm hF) (Nat.dvd_of_mod_eq_zero h4)
  obtain ⟨k, hk⟩ := h5
  have h6 : y ^ (p - 1) = 1 + p * k := by omega
  rw [h6, Nat.add_mul_mod_self_left, Nat.mod_eq_of_lt hp]
end Go.Proofs.YtacicanjmleikaaGreatDoor
