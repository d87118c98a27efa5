
import Derived.Test.YtacicanjmleikaaGreatDoorLibA
import Derived.Lib.Zigzag
import Derived.Shelf.Abstract
import Derived.StillTailTactics
namespace Go.Proofs.YtacicanjmleikaaGreatDoor
open Go.RowKit
set_option linter.unusedSimpArgs false
set_option linter.unusedVariables false
set_option maxRecDepth 100000

theorem all_eq_of_nth (xs ys : List Int) (h : xs.length = ys.length) (hn : ∀ i, i < xs.length → nth xs i = nth ys i) : xs = ys := by
  apply List.ext_getElem h
  intro i h1 h2
  have := hn i h1
  simp [nth, List.getD_eq_getElem?_getD, h1, h2] at this
  exact this

/-- FNV-1a, one byte. -/
def fnv1 (h x : Int) : Int := IntKind.u64.wrap (bits .xor .u64 h x * 1099511628211)
/-- FNV-1a. -/
def fnv (xs : List Int) : Int := xs.foldl fnv1 14695981039346656037


theorem fnv_succ {xs : List Int} {k : Nat} (h : k < xs.length) : fnv (xs.take (k+1)) = fnv1 (fnv (xs.take k)) (nth xs k) := by
  unfold fnv; rw [take_nth_succ h, List.foldl_append]; rfl

set_option maxHeartbeats 400000 in
theorem sum_any (a1 : Option Addr) (n1 c1 : Nat) (xs : List Int) (w : World) (h1 : Sl .u8 w a1 n1 c1 xs) :
    Calls Tryz.prog 97 #[.slice a1 n1 c1] w fun e w' => e = .returned (.int .u64 (fnv xs)) ∧ w = w' := by
  have b1 := h1.bd
  have e1 := Lib.hid h1.hlen
  go_enter Tryz.func97, Tryz.ntmps97
  go_wp2
  go_loop [3, 8] (fun h i => ∃ k : Nat, k ≤ n1 ∧ i = .int .i64 k ∧ h = .int .u64 (fnv (xs.take k))) (fun _ i => n1 - (intOf i).toNat)
  case atStart => exact ⟨0, by omega, rfl, rfl⟩
  case round =>
    obtain ⟨k, hk, rfl, rfl⟩ := hrel
    by_cases hlt : k < n1
    · obtain ⟨x1, o1, rfl, hc1⟩ := h1.at (by omega)
      have g1 := hc1 k hlt
      have w1 := wf_u8 (h1.wfAt hlt)
      clear hc1
      go_wp2
      go_round
      case rel => exact ⟨k+1, by omega, by go_num, by rw [fnv_succ (by rw [e1.out]; omega)]; rfl⟩
      case measure => simp [intOf]; omega
    · go_wp2
      go_ret
      exact ⟨ret_int (by rw [List.take_of_length_le (by have := e1.out; omega)]), rfl⟩

set_option maxHeartbeats 400000 in
theorem rsum_any (a1 : Option Addr) (n1 c1 : Nat) (xs : List Int) (w : World) (h1 : Sl .u8 w a1 n1 c1 xs) :
    Calls Tryz.prog 107 #[.slice a1 n1 c1] w fun e w' => e = .returned (.int .u64 (fnv xs)) ∧ w = w' := by
  have b1 := h1.bd
  have e1 := Lib.hid h1.hlen
  go_enter Tryz.func107, Tryz.ntmps107
  go_wp2
  go_loop [3, 4] (fun h i => ∃ k : Nat, k ≤ n1 ∧ i = .int .i64 k ∧ h = .int .u64 (fnv (xs.take k))) (fun _ i => n1 - (intOf i).toNat)
  case atStart => exact ⟨0, by omega, rfl, rfl⟩
  case round =>
    obtain ⟨k, hk, rfl, rfl⟩ := hrel
    by_cases hlt : k < n1
    · obtain ⟨x1, o1, rfl, hc1⟩ := h1.at (by omega)
      have g1 := hc1 k hlt
      have w1 := wf_u8 (h1.wfAt hlt)
      clear hc1
      go_wp2
      go_round
      case rel => exact ⟨k+1, by omega, by go_num, by rw [fnv_succ (by rw [e1.out]; omega)]; rfl⟩
      case measure => simp [intOf]; omega
    · go_wp2
      go_ret
      exact ⟨ret_int (by rw [List.take_of_length_le (by have := e1.out; omega)]), rfl⟩

/-! ### one: the bytes of an integer -/
theorem el_u8 : ElT Tryz.prog 157 5 (.int .u8 0) 1 1 := ⟨by kernel_rfl, by kernel_rfl⟩
theorem el_i64 : ElT Tryz.prog 55 3 (.int .i64 0) 1 8 := ⟨by kernel_rfl, by kernel_rfl⟩

/-- The number of an integer. -/
def num (n : Int) : Nat := if n < 0 then (2 * (-1 - n) + 1).toNat else (2 * n).toNat
/-- Its digits with the base 128. -/
def digs (u : Nat) : List Int := if h : u < 128 then [(u : Int)] else ((u % 128 + 128 : Nat) : Int) :: digs (u / 128)
termination_by u

theorem digs_small {u : Nat} (h : u < 128) : digs u = [(u : Int)] := by rw [digs]; simp [h]
theorem digs_big {u : Nat} (h : ¬ u < 128) : digs u = ((u % 128 + 128 : Nat) : Int) :: digs (u / 128) := by rw [digs]; simp [h]

theorem digs_wf (u : Nat) : ∀ x ∈ digs u, (Lit.int .u8 x).wf = true := by
  induction u using Nat.strongRecOn with
  | _ u ih =>
    by_cases h : u < 128
    · rw [digs_small h]; intro x hx; simp at hx; subst hx; simp [Lit.wf, IntKind.min, IntKind.max, IntKind.bits, IntKind.signed]; omega
    · rw [digs_big h]; intro x hx
      rcases List.mem_cons.1 hx with rfl | hx
      · simp [Lit.wf, IntKind.min, IntKind.max, IntKind.bits, IntKind.signed]; omega
      · exact ih _ (by omega) x hx

theorem digs_len (u : Nat) : 1 ≤ (digs u).length ∧ ∀ m, u < 128 ^ m → (digs u).length ≤ max m 1 := by
  induction u using Nat.strongRecOn with
  | _ u ih =>
    by_cases h : u < 128
    · rw [digs_small h]; exact ⟨by simp, fun m _ => by simp; omega⟩
    · rw [digs_big h]
      refine ⟨by simp, fun m hm => ?_⟩
      rcases m with _ | m
      · simp at hm; omega
      · have := (ih (u / 128) (by omega)).2 m (by rw [Nat.pow_succ] at hm; omega)
        rcases m with _ | m
        · simp at hm; omega
        · simp; omega

theorem num_lt {n : Int} (h : -9223372036854775808 ≤ n ∧ n ≤ 9223372036854775807) : num n < 18446744073709551616 := by unfold num; split <;> omega
theorem digs_num_len {n : Int} (h : -9223372036854775808 ≤ n ∧ n ≤ 9223372036854775807) : 1 ≤ (digs (num n)).length ∧ (digs (num n)).length ≤ 10 := by
  refine ⟨(digs_len _).1, ?_⟩
  have := (digs_len (num n)).2 10 (by have := num_lt h; omega)
  simpa using this

theorem num_neg {n : Int} (h : n < 0) : (num n : Int) = 2 * (-1 - n) + 1 := by unfold num; rw [if_pos h]; omega
theorem num_pos {n : Int} (h : ¬ n < 0) : (num n : Int) = 2 * n := by unfold num; rw [if_neg h]; omega

end Go.Proofs.YtacicanjmleikaaGreatDoor

namespace Go.Proofs.YtacicanjmleikaaGreatDoor
open Go.RowKit
set_option linter.unusedSimpArgs false
set_option linter.unusedVariables false
set_option maxRecDepth 100000

/-- The eight bytes of a number, the most significant one first. -/
def be8 (d : Nat) : List Int := [((d / 72057594037927936 % 256 : Nat) : Int), ((d / 281474976710656 % 256 : Nat) : Int), ((d / 1099511627776 % 256 : Nat) : Int), ((d / 4294967296 % 256 : Nat) : Int),
  ((d / 16777216 % 256 : Nat) : Int), ((d / 65536 % 256 : Nat) : Int), ((d / 256 % 256 : Nat) : Int), ((d % 256 : Nat) : Int)]

theorem be8_wf (d : Nat) : ∀ x ∈ be8 d, (Lit.int .u8 x).wf = true := by
  intro x hx
  simp only [be8, List.mem_cons, List.not_mem_nil, or_false] at hx
  rcases hx with rfl | rfl | rfl | rfl | rfl | rfl | rfl | rfl <;> simp [Lit.wf, IntKind.min, IntKind.max, IntKind.bits, IntKind.signed] <;> omega

theorem fnv_wf (xs : List Int) : (Lit.int .u64 (fnv xs)).wf = true := by
  unfold fnv
  rcases List.eq_nil_or_concat xs with rfl | ⟨ys, y, rfl⟩
  · decide
  · rw [List.concat_eq_append, List.foldl_append]; exact wf_wrap _ _
theorem fnv_bd (xs : List Int) : 0 ≤ fnv xs ∧ fnv xs ≤ 18446744073709551615 := wf_u64 (fnv_wf xs)

/-- The bytes of the digest. -/
def dig8 (xs : List Int) : List Int := be8 (fnv xs).toNat

theorem be8_step (d k : Nat) (hk : k < 8) : (be8 d).drop (7 - k) = (((d / 256 ^ k) % 256 : Nat) : Int) :: (be8 d).drop (8 - k) := by
  unfold be8
  rcases k with _ | _ | _ | _ | _ | _ | _ | _ | k <;> simp <;> first | omega | done

theorem set_rep (k : Nat) (hk : k < 8) (t : List Int) (x : Int) : (List.replicate (8 - k) 0 ++ t).set (7 - k) x = List.replicate (7 - k) 0 ++ x :: t := by
  rw [List.set_append, if_pos (by simp; omega)]
  have : 8 - k = (7 - k) + 1 := by omega
  rw [this, List.replicate_succ', List.set_append, if_neg (by simp)]
  simp

/-- The bytes of a list: those of its length, and those of each element. -/
def lput (xs : List Int) : List Int := digs (num xs.length) ++ xs.flatMap fun x => digs (num x)

theorem flatMap_take_succ {xs : List Int} {k : Nat} (h : k < xs.length) (f : Int → List Int) : (xs.take (k+1)).flatMap f = (xs.take k).flatMap f ++ f (nth xs k) := by
  rw [take_nth_succ h, List.flatMap_append]; simp

theorem flatMap_len_le (xs : List Int) (f : Int → List Int) (hf : ∀ x ∈ xs, (f x).length ≤ 10) : (xs.flatMap f).length ≤ 10 * xs.length := by
  induction xs with
  | nil => simp
  | cons x xs ih =>
    have h1 := hf x (by simp)
    have h2 := ih (fun y hy => hf y (by simp [hy]))
    simp only [List.flatMap_cons, List.length_append, List.length_cons]; omega

theorem lput_len {xs : List Int} (hw : ∀ x ∈ xs, (Lit.int .i64 x).wf = true) (hl : xs.length ≤ 1100) : 1 ≤ (lput xs).length ∧ (lput xs).length ≤ 10 + 10 * xs.length := by
  have h1 := digs_num_len (n := xs.length) (by omega)
  have h2 := flatMap_len_le xs (fun x => digs (num x)) fun x hx => (digs_num_len (wf_i64 (hw x hx))).2
  unfold lput
  rw [List.length_append]; omega

theorem lput_wf (xs : List Int) : ∀ x ∈ lput xs, (Lit.int .u8 x).wf = true := by
  intro x hx
  unfold lput at hx
  rcases List.mem_append.1 hx with h | h
  · exact digs_wf _ x h
  · obtain ⟨y, _, h⟩ := List.mem_flatMap.1 h
    exact digs_wf _ x h

end Go.Proofs.YtacicanjmleikaaGreatDoor

namespace Go.Proofs.YtacicanjmleikaaGreatDoor
open Go.RowKit
set_option linter.unusedSimpArgs false
set_option linter.unusedVariables false
set_option maxRecDepth 100000

/-- The number whose digits a list begins with, and how many digits it has; k have been read before. -/
def rdL (k : Nat) : List Int → Option (Nat × Nat)
  | [] => none
  | c :: rest => if 10 ≤ k ∨ (k = 9 ∧ 1 < c) ∨ (0 < k ∧ c = 0) then none else if c < 128 then some (c.toNat, 1) else (rdL (k + 1) rest).map fun (v, m) => ((c - 128).toNat + 128 * v, m + 1)

/-- The integer of a number. -/
def unnum (v : Nat) : Int := if v % 2 = 1 then -1 - (v / 2 : Nat) else (v / 2 : Nat)

/-- What Read returns. -/
def rdAt (xs : List Int) (at_ : Nat) : Option (Int × Nat) := (rdL 0 (xs.drop at_)).map fun (v, m) => (unnum v, at_ + m)

theorem rdL_bd : ∀ (xs : List Int) (k : Nat) (v m : Nat), (∀ x ∈ xs, (Lit.int .u8 x).wf = true) → rdL k xs = some (v, m) → k + m ≤ 10 ∧ 1 ≤ m ∧ m ≤ xs.length ∧ v * 128 ^ k < 18446744073709551616
  | [], k, v, m, _, h => by simp [rdL] at h
  | c :: rest, k, v, m, hw, h => by
    have hc := wf_u8 (hw c (by simp))
    unfold rdL at h
    split at h
    · cases h
    · rename_i hk
      split at h
      · rename_i hlt
        simp only [Option.some.injEq, Prod.mk.injEq] at h
        obtain ⟨rfl, rfl⟩ := h
        refine ⟨by omega, by omega, by simp, ?_⟩
        have hk9 : k ≤ 9 := by omega
        rcases Nat.lt_or_ge k 9 with h9 | h9
        · have hp : 128 ^ k ≤ 128 ^ 8 := Nat.pow_le_pow_right (by omega) (by omega)
          have : c.toNat * 128 ^ k ≤ 127 * 128 ^ 8 := Nat.mul_le_mul (by omega) hp
          omega
        · obtain rfl : k = 9 := by omega
          have : c.toNat ≤ 1 := by omega
          have h2 : c.toNat * 128 ^ 9 ≤ 1 * 128 ^ 9 := Nat.mul_le_mul_right _ this
          omega
      · rename_i hlt
        simp only [Option.map_eq_some_iff, Prod.mk.injEq, Prod.exists] at h
        obtain ⟨v', m', h1, rfl, rfl⟩ := h
        obtain ⟨i1, i2, i3, i4⟩ := rdL_bd rest (k + 1) v' m' (fun x hx => hw x (by simp [hx])) h1
        refine ⟨by omega, by omega, by simp; omega, ?_⟩
        have hk8 : k ≤ 8 := by omega
        have hv : v' * 128 ^ k < 144115188075855872 := by rw [Nat.pow_succ, ← Nat.mul_assoc] at i4; omega
        have hp : 128 ^ k ≤ 128 ^ 8 := Nat.pow_le_pow_right (by omega) (by omega)
        have hlow : ((c - 128).toNat + 1) * 128 ^ k ≤ 128 * 128 ^ k := Nat.mul_le_mul_right _ (by omega)
        have e1 : ((c - 128).toNat + 128 * v') * 128 ^ k = (c - 128).toNat * 128 ^ k + 128 * (v' * 128 ^ k) := by rw [Nat.add_mul, Nat.mul_assoc]
        rw [e1]
        have hd : 128 ^ k ∣ 18446744073709551616 := ⟨2 ^ (64 - 7 * k), by rw [show (128 : Nat) = 2 ^ 7 by rfl, ← Nat.pow_mul, ← Nat.pow_add, show 7 * k + (64 - 7 * k) = 64 by omega]⟩
        rw [Nat.pow_succ] at i4
        obtain ⟨q, hq⟩ := hd
        have hpos : 0 < 128 ^ k := Nat.pow_pos (by omega)
        have i5 : v' * 128 < q := by
          have : (v' * 128) * 128 ^ k < q * 128 ^ k := by rw [Nat.mul_assoc, Nat.mul_comm 128, Nat.mul_comm q, ← hq]; exact i4
          exact Nat.lt_of_mul_lt_mul_right this
        have hq128 : q % 128 = 0 := by
          have hq2 : q = 2 ^ (64 - 7 * k) := by
            have : 128 ^ k * q = 128 ^ k * 2 ^ (64 - 7 * k) := by rw [← hq, show (128 : Nat) = 2 ^ 7 by rfl, ← Nat.pow_mul, ← Nat.pow_add, show 7 * k + (64 - 7 * k) = 64 by omega]
            exact Nat.eq_of_mul_eq_mul_left hpos this
          rw [hq2, show 64 - 7 * k = 7 + (57 - 7 * k) by omega, Nat.pow_add]; omega
        have i6 : (c - 128).toNat + 128 * v' < q := by omega
        have : ((c - 128).toNat + 128 * v') * 128 ^ k < q * 128 ^ k := Nat.mul_lt_mul_of_pos_right i6 hpos
        rw [e1] at this
        rw [hq, Nat.mul_comm (128 ^ k) q]; exact this

/-- What Read returns, as values. -/
def rdV (r : Option (Int × Nat)) : Value := match r with | some (n, m) => .tuple #[.int .i64 n, .int .i64 m, .bool true] | none => .tuple #[.int .i64 0, .int .i64 0, .bool false]

theorem drop_nth {xs : List Int} {i : Nat} (h : i < xs.length) : xs.drop i = nth xs i :: xs.drop (i + 1) := by
  rw [List.drop_eq_getElem_cons h]
  simp [nth, List.getD_eq_getElem?_getD, h]

theorem pow128 (k : Nat) (hk : k ≤ 8) : 128 ^ k ≤ 72057594037927936 := by
  have : 128 ^ k ≤ 128 ^ 8 := Nat.pow_le_pow_right (by omega) hk
  omega

/-- What one byte makes of the number that has been read so far. -/
theorem vfacts {k U S : Nat} {c : Int} (hS : k < 10 → S = 128 ^ k) (hk : k < 10) (hU : U < S) (hc : 0 ≤ c ∧ c ≤ 255) (h9 : 9 ≤ k → c ≤ 1) :
    ∃ V : Nat, IntKind.u64.wrap ((U : Int) + IntKind.u64.wrap (c % 128 * (S : Int))) = (V : Int) ∧ V < 18446744073709551616 ∧ V = U + S * (c % 128).toNat ∧ V < S * 128 := by
  have hS' := hS hk
  obtain ⟨d, hd⟩ : ∃ d : Nat, c % 128 = (d : Int) := ⟨(c % 128).toNat, by omega⟩
  have hd2 : d ≤ 127 := by omega
  have hm : S * d ≤ S * 127 := Nat.mul_le_mul_left _ hd2
  have hlt : U + S * d < 18446744073709551616 := by
    rcases Nat.lt_or_ge k 9 with h | h
    · have := pow128 k (by omega); rw [← hS'] at this; omega
    · obtain rfl : k = 9 := by omega
      have : d ≤ 1 := by have := h9 (by omega); omega
      have h2 : S * d ≤ S * 1 := Nat.mul_le_mul_left _ this
      have h3 : S = 9223372036854775808 := by rw [hS']
      omega
  have e1 : (d : Int) * (S : Int) = ((S * d : Nat) : Int) := by rw [Int.natCast_mul, Int.mul_comm]
  refine ⟨U + S * d, ?_, hlt, by simp [hd], by omega⟩
  rw [hd, e1, IntWalk.u64_in ((S * d : Nat) : Int) ⟨by omega, by omega⟩, IntWalk.u64_in _ ⟨by omega, by omega⟩]
  omega

theorem rd_end {xs : List Int} {at_ k U S V : Nat} {c : Int} {t : List Int} (hR : rdL 0 (xs.drop at_) = (rdL k (xs.drop (at_ + k))).map fun (v, m) => (U + S * v, m + k)) (hd : xs.drop (at_ + k) = c :: t)
    (hc : 0 ≤ c ∧ c < 128) (hg : ¬ (10 ≤ k ∨ (k = 9 ∧ 1 < c) ∨ (0 < k ∧ c = 0))) (hV : V = U + S * (c % 128).toNat) : rdAt xs at_ = some (unnum V, at_ + k + 1) := by
  unfold rdAt
  rw [hR, hd]
  unfold rdL
  rw [if_neg hg, if_pos hc.2]
  rw [show c % 128 = c by omega] at hV
  simp [hV]
  omega

theorem rd_bad {xs : List Int} {at_ k U S : Nat} {c : Int} {t : List Int} (hR : rdL 0 (xs.drop at_) = (rdL k (xs.drop (at_ + k))).map fun (v, m) => (U + S * v, m + k)) (hd : xs.drop (at_ + k) = c :: t)
    (hg : (10 ≤ k ∨ (k = 9 ∧ 1 < c) ∨ (0 < k ∧ c = 0))) : rdAt xs at_ = none := by
  unfold rdAt
  rw [hR, hd]
  unfold rdL
  rw [if_pos hg]
  rfl

theorem rd_out {xs : List Int} {at_ k U S : Nat} (hR : rdL 0 (xs.drop at_) = (rdL k (xs.drop (at_ + k))).map fun (v, m) => (U + S * v, m + k)) (hd : xs.length ≤ at_ + k) : rdAt xs at_ = none := by
  unfold rdAt
  rw [hR, List.drop_eq_nil_of_le hd]
  rfl

theorem rd_next {xs : List Int} {at_ k U S V : Nat} {c : Int} {t : List Int} (hR : rdL 0 (xs.drop at_) = (rdL k (xs.drop (at_ + k))).map fun (v, m) => (U + S * v, m + k)) (hd : xs.drop (at_ + k) = c :: t) (ht : xs.drop (at_ + (k + 1)) = t)
    (hc : 128 ≤ c ∧ c ≤ 255) (hg : ¬ (10 ≤ k ∨ (k = 9 ∧ 1 < c) ∨ (0 < k ∧ c = 0))) (hV : V = U + S * (c % 128).toNat) :
    rdL 0 (xs.drop at_) = (rdL (k + 1) (xs.drop (at_ + (k + 1)))).map fun (v, m) => (V + (S * 128) * v, m + (k + 1)) := by
  rw [hR, hd, ht]
  conv => lhs; unfold rdL
  rw [if_neg hg, if_neg (by omega)]
  rw [show c % 128 = c - 128 by omega] at hV
  rw [Option.map_map]
  congr 1
  funext ⟨v, m⟩
  simp only [Function.comp, Prod.mk.injEq, hV]
  refine ⟨?_, by omega⟩
  rw [Nat.mul_add, Nat.mul_assoc]; omega

theorem unnum_odd {V : Nat} (h : (V : Int) % 2 = 1) : unnum V = -1 - (V : Int) / 2 := by unfold unnum; rw [if_pos (by omega)]; omega
theorem unnum_even {V : Nat} (h : ¬ (V : Int) % 2 = 1) : unnum V = (V : Int) / 2 := by unfold unnum; rw [if_neg (by omega)]; omega

theorem rdV_some (n : Int) (m : Nat) : rdV (some (n, m)) = .tuple #[.int .i64 n, .int .i64 m, .bool true] := rfl
theorem ret3 {a b c d : Int} {t : Bool} (h1 : a = b) (h2 : c = d) : Ending.returned (.tuple #[.int .i64 a, .int .i64 c, .bool t]) = .returned (.tuple #[.int .i64 b, .int .i64 d, .bool t]) := by rw [h1, h2]

end Go.Proofs.YtacicanjmleikaaGreatDoor

namespace Go.Proofs.YtacicanjmleikaaGreatDoor
open Go.RowKit
set_option linter.unusedSimpArgs false
set_option linter.unusedVariables false
set_option maxRecDepth 100000

/-- n integers, one behind the other, from a place on, and the place behind them. -/
def rdMany (xs : List Int) : Nat → Nat → Option (List Int × Nat)
  | 0, at_ => some ([], at_)
  | n + 1, at_ => match rdAt xs at_ with
    | none => none
    | some (x, next) => (rdMany xs n next).map fun (l, e) => (x :: l, e)

/-- The list whose bytes they are. -/
def lget (xs : List Int) : Option (List Int) :=
  match rdAt xs 0 with
  | none => none
  | some (m, at_) => if m < 0 ∨ 1000 < m then none else
    match rdMany xs m.toNat at_ with
    | none => none
    | some (l, e) => if e = xs.length then some l else none

theorem rdAt_bd {xs : List Int} {at_ next : Nat} {n : Int} (hw : ∀ x ∈ xs, (Lit.int .u8 x).wf = true) (h : rdAt xs at_ = some (n, next)) :
    at_ < next ∧ next ≤ at_ + 10 ∧ next ≤ xs.length ∧ -9223372036854775808 ≤ n ∧ n ≤ 9223372036854775807 := by
  unfold rdAt at h
  simp only [Option.map_eq_some_iff, Prod.mk.injEq, Prod.exists] at h
  obtain ⟨v, m, h1, rfl, rfl⟩ := h
  have := rdL_bd _ 0 v m (fun x hx => hw x (List.mem_of_mem_drop hx)) h1
  rw [List.length_drop] at this
  have hv : v < 18446744073709551616 := by simpa using this.2.2.2
  refine ⟨by omega, by omega, by omega, ?_, ?_⟩ <;> unfold unnum <;> split <;> omega

theorem rdMany_wf {xs : List Int} (hw : ∀ x ∈ xs, (Lit.int .u8 x).wf = true) : ∀ (n at_ e : Nat) (l : List Int), rdMany xs n at_ = some (l, e) → l.length = n ∧ ∀ x ∈ l, (Lit.int .i64 x).wf = true
  | 0, at_, e, l, h => by simp [rdMany] at h; obtain ⟨rfl, rfl⟩ := h; simp
  | n + 1, at_, e, l, h => by
    unfold rdMany at h
    split at h
    · cases h
    · rename_i x next hx
      simp only [Option.map_eq_some_iff, Prod.mk.injEq, Prod.exists] at h
      obtain ⟨l', e', h1, rfl, rfl⟩ := h
      obtain ⟨i1, i2⟩ := rdMany_wf hw n next e' l' h1
      refine ⟨by simp [i1], fun y hy => ?_⟩
      rcases List.mem_cons.1 hy with rfl | hy
      · have := rdAt_bd hw hx
        simp [Lit.wf, IntKind.min, IntKind.max, IntKind.bits, IntKind.signed]; omega
      · exact i2 y hy

/-- What Get leaves. -/
def GetPost (w w' : World) (e : Ending) (r : Option (List Int)) : Prop :=
  match r with
  | none => e = .returned (.tuple #[.slice none 0 0, .int .i64 7]) ∧ Ext w w'
  | some l => ∃ a c, e = .returned (.tuple #[.slice a l.length c, .int .i64 0]) ∧ OwI .i64 3 w.heap.size w' a l.length c l ∧ Ext w w'

theorem getPost_none {w w' : World} {e : Ending} {r : Option (List Int)} (hr : r = none) (h : e = .returned (.tuple #[.slice none 0 0, .int .i64 7])) (hE : Ext w w') : GetPost w w' e r := by
  subst hr; exact ⟨h, hE⟩

/-- The three bytes of a length. -/
def len3 (n : Nat) : List Int := [((n / 65536 % 256 : Nat) : Int), ((n / 256 % 256 : Nat) : Int), ((n % 256 : Nat) : Int)]
/-- The frame of a list. -/
def lframe (xs : List Int) : List Int := len3 (lput xs).length ++ lput xs ++ dig8 (len3 (lput xs).length ++ lput xs)

theorem len3_wf (n : Nat) : ∀ x ∈ len3 n, (Lit.int .u8 x).wf = true := by
  intro x hx
  simp only [len3, List.mem_cons, List.not_mem_nil, or_false] at hx
  rcases hx with rfl | rfl | rfl <;> simp [Lit.wf, IntKind.min, IntKind.max, IntKind.bits, IntKind.signed] <;> omega
theorem app_wf {k : IntKind} {xs ys : List Int} (h1 : ∀ x ∈ xs, (Lit.int k x).wf = true) (h2 : ∀ x ∈ ys, (Lit.int k x).wf = true) : ∀ x ∈ xs ++ ys, (Lit.int k x).wf = true := by
  intro x hx; rcases List.mem_append.1 hx with h | h
  · exact h1 x h
  · exact h2 x h
theorem dig8_len (xs : List Int) : (dig8 xs).length = 8 := rfl
theorem lframe_wf (xs : List Int) : ∀ x ∈ lframe xs, (Lit.int .u8 x).wf = true := app_wf (app_wf (len3_wf _) (lput_wf _)) (be8_wf _)
theorem lframe_len (xs : List Int) : (lframe xs).length = (lput xs).length + 11 := by
  simp only [lframe, List.length_append, dig8_len]; simp [len3]; omega

end Go.Proofs.YtacicanjmleikaaGreatDoor

namespace Go.Proofs.YtacicanjmleikaaGreatDoor
open Go.RowKit Go.Sort
set_option linter.unusedSimpArgs false
set_option linter.unusedVariables false
set_option maxRecDepth 100000

theorem all_eq_of_nthL (xs ys : List (List Int)) (h : xs.length = ys.length) (hn : ∀ i, i < xs.length → nthL xs i = nthL ys i) : xs = ys := by
  apply List.ext_getElem h
  intro i h1 h2
  have := hn i h1
  simp [nthL, List.getD_eq_getElem?_getD, h1, h2] at this
  exact this

def beg (xs ys : List Int) : Bool := xs.take ys.length == ys

/-- The length that three bytes say. -/
def n3 (xs : List Int) : Nat := (nth xs 0 * 65536 + nth xs 1 * 256 + nth xs 2).toNat

/-- The list of the frame with which bytes begin, and the frame's length. -/
def lnext (xs : List Int) : Option (List Int × Nat) :=
  if xs.length < 3 then none else
  if xs.length < n3 xs + 11 then none else
  if dig8 (xs.take (n3 xs + 3)) = (xs.drop (n3 xs + 3)).take 8 then (lget ((xs.drop 3).take (n3 xs))).map fun l => (l, n3 xs + 11) else none

def NextPost (w w' : World) (e : Ending) (r : Option (List Int × Nat)) : Prop :=
  match r with
  | none => ∃ a n c m, e = .returned (.tuple #[.slice a n c, .int .i64 m, .bool false]) ∧ Ext w w'
  | some (l, n) => ∃ a c, e = .returned (.tuple #[.slice a l.length c, .int .i64 n, .bool true]) ∧ OwI .i64 3 w.heap.size w' a l.length c l ∧ (∀ x ∈ l, (Lit.int .i64 x).wf = true) ∧ Ext w w'

theorem nextPost_none {w w' : World} {e : Ending} {r : Option (List Int × Nat)} (hr : r = none) (a : Option Addr) (n c : Nat) (m : Int) (h : e = .returned (.tuple #[.slice a n c, .int .i64 m, .bool false])) (hE : Ext w w') : NextPost w w' e r := by
  subst hr; exact ⟨a, n, c, m, h, hE⟩
theorem nextPost_some {w w' : World} {e : Ending} {r : Option (List Int × Nat)} {l : List Int} {n : Nat} (hr : r = some (l, n)) (a : Option Addr) (c : Nat) (h : e = .returned (.tuple #[.slice a l.length c, .int .i64 n, .bool true])) (hs : OwI .i64 3 w.heap.size w' a l.length c l) (hw : ∀ x ∈ l, (Lit.int .i64 x).wf = true) (hE : Ext w w') : NextPost w w' e r := by
  subst hr; exact ⟨a, c, h, hs, hw, hE⟩

theorem lget_wf {xs l : List Int} (hw : ∀ x ∈ xs, (Lit.int .u8 x).wf = true) {i j : Nat} (h : lget ((xs.drop i).take j) = some l) : ∀ x ∈ l, (Lit.int .i64 x).wf = true := by
  unfold lget at h
  split at h
  · cases h
  · split at h
    · cases h
    · split at h
      · cases h
      · rename_i l' e hm
        split at h
        · cases h
          exact (rdMany_wf (fun x hx => hw x (List.mem_of_mem_drop (List.mem_of_mem_take hx))) _ _ _ _ hm).2
        · cases h

end Go.Proofs.YtacicanjmleikaaGreatDoor

namespace Go.Proofs.YtacicanjmleikaaGreatDoor
open Go.RowKit Go.Sort
set_option linter.unusedSimpArgs false
set_option linter.unusedVariables false
set_option maxRecDepth 100000

theorem el_l : ElT Tryz.prog 65 55 (.slice none 0 0) 1 24 := ⟨by kernel_rfl, by kernel_rfl⟩

/-- The lists of the frames with which bytes begin, and how many bytes these have. -/
def lframes : Nat → List Int → List (List Int) × Nat
  | 0, _ => ([], 0)
  | f + 1, xs => match lnext xs with
    | none => ([], 0)
    | some (l, n) => (l :: (lframes f (xs.drop n)).1, n + (lframes f (xs.drop n)).2)

theorem lnext_bd {xs l : List Int} {n : Nat} (h : lnext xs = some (l, n)) : 11 ≤ n ∧ n ≤ xs.length := by
  unfold lnext at h
  split at h
  · cases h
  · split at h
    · cases h
    · split at h
      · simp only [Option.map_eq_some_iff, Prod.mk.injEq] at h
        obtain ⟨_, _, _, rfl⟩ := h
        omega
      · cases h

theorem lframes_nil (f : Nat) : lframes f [] = ([], 0) := by cases f <;> rfl
theorem lframes_step {f : Nat} {xs : List Int} (h : xs.length ≤ f) (hx : lnext xs = none) : lframes f xs = ([], 0) := by
  cases f with
  | zero => rfl
  | succ f => unfold lframes; rw [hx]
theorem lframes_more {f : Nat} {xs l : List Int} {n : Nat} (h : xs.length ≤ f) (hx : lnext xs = some (l, n)) : ∃ f', f = f' + 1 ∧ lframes f xs = (l :: (lframes f' (xs.drop n)).1, n + (lframes f' (xs.drop n)).2) := by
  have := lnext_bd hx
  cases f with
  | zero => omega
  | succ f => exact ⟨f, rfl, by rw [lframes, hx]⟩

def FramesPost (w w' : World) (e : Ending) (r : List (List Int) × Nat) : Prop :=
  ∃ a c, e = .returned (.tuple #[.slice a r.1.length c, .int .i64 r.2, .int .i64 0]) ∧ OwL .i64 55 w.heap.size w' a r.1.length c r.1 ∧ Ext w w'

end Go.Proofs.YtacicanjmleikaaGreatDoor

namespace Go.Proofs.YtacicanjmleikaaGreatDoor
open Go.RowKit Go.Sort Go.Shelf
set_option linter.unusedSimpArgs false
set_option linter.unusedVariables false
set_option maxRecDepth 100000
attribute [local go_sem] Oper.semAt_some

theorem bit7 {x : Int} (h : 0 ≤ x ∧ x ≤ 255) : bits .or .u8 x 128 = x % 128 + 128 := by
  obtain ⟨n, rfl⟩ : ∃ n : Nat, x = (n : Int) := ⟨x.toNat, by omega⟩
  have : n < 256 := by omega
  have key : ∀ n, n < 256 → bits .or .u8 ((n : Nat) : Int) 128 = ((n : Nat) : Int) % 128 + 128 := by decide
  exact key n this

theorem zig {n : Int} (h : -9223372036854775808 ≤ n ∧ n ≤ 9223372036854775807) :
    bits .xor .u64 (IntKind.u64.wrap (IntKind.u64.wrap n * 2)) (IntKind.u64.wrap (n / 9223372036854775808)) = (num n : Int) := by
  by_cases hn : n < 0
  · have e1 : IntKind.u64.wrap n = n + 18446744073709551616 := by rw [IntKind.wrap_u64]; omega
    have e2 : IntKind.u64.wrap ((n + 18446744073709551616) * 2) = ((2 * n + 18446744073709551616).toNat : Int) := by rw [IntKind.wrap_u64]; omega
    have e3 : IntKind.u64.wrap (n / 9223372036854775808) = ((2 ^ 64 - 1 : Nat) : Int) := by rw [IntKind.wrap_u64]; omega
    rw [e1, e2, e3, u64_xor_nat _ _ (by omega) (by omega), Nat.xor_comm, Lib.xor_ones64 _ (by omega)]
    have := num_neg hn
    omega
  · have e1 : IntKind.u64.wrap n = n := by rw [IntKind.wrap_u64]; omega
    have e2 : IntKind.u64.wrap (n * 2) = ((2 * n).toNat : Int) := by rw [IntKind.wrap_u64]; omega
    have e3 : IntKind.u64.wrap (n / 9223372036854775808) = ((0 : Nat) : Int) := by rw [IntKind.wrap_u64]; omega
    rw [e1, e2, e3, u64_xor_nat _ _ (by omega) (by omega), Nat.xor_zero]
    have := num_pos hn
    omega

theorem owi_kept_other {k : IntKind} {E : TypeId} {base : Nat} {W W' : World} {row : Option Nat} {a : Option Addr} {n c : Nat} {xs : List Int} (h : OwI k E base W a n c xs) (hg : W.grownBy W' row)
    (hne : ∀ r, row = some r → ∃ o : Obj, W.heap[r]? = some o ∧ o.isCells = false) : OwI k E base W' a n c xs := by
  refine World.ownsRow.kept h hg ?_
  rcases h.2 with ⟨hv, _⟩ | ⟨g, cap, cur, hv, _, hb, _⟩
  · left; rw [hv]; rfl
  · right
    rw [hv]
    intro e
    obtain ⟨o, ho, hn⟩ := hne g e.symm
    rw [hb] at ho; cases ho; cases hn

/-- The byte behind 'put'. -/
theorem holds_put (E T : TypeId) (hTE : T ≠ E) (base B0 B : Nat) (w0 : World) (n1 : Nat) (xs : List Int) (hB : base ≤ B) :
    OwnFrom B (fun (pre : List Int) W => ∃ a c, Boxed W B0 T (.slice a (n1 + pre.length) c) ∧ OwI .u8 E base W a (n1 + pre.length) c (xs ++ pre) ∧ Below base w0 W ∧ base ≤ W.heap.size) := by
  rintro pre W W' row ⟨a, c, h1, h2, h3, hb⟩ hg hr
  have hne : ∀ r, row = some r → ∃ o : Obj, W.heap[r]? = some o ∧ o.isCells = false := fun r e => (hr r e).2
  refine ⟨a, c, h1.kept hg ?_, ?_, h3.grown hg hb ?_, Nat.le_trans hb hg.size⟩
  · intro e
    obtain ⟨o, ho, hn⟩ := hne B0 e.symm
    have h1' : W.heap[B0]? = some (.cells #[_] T (0, 0)) := h1
    rw [ho] at h1'; cases h1'; cases hn
  · exact owi_kept_other h2 hg hne
  · intro k e; have := (hr k e).1; omega

end Go.Proofs.YtacicanjmleikaaGreatDoor

namespace Go.Proofs.YtacicanjmleikaaGreatDoor
open Go.RowKit Go.Sort Go.Shelf
set_option linter.unusedSimpArgs false
set_option linter.unusedVariables false
set_option maxRecDepth 100000

def Boxed8 (wr : World) (b : Nat) : Prop := OwI .u8 155 b wr (some ⟨b, 0, none⟩) 8 8 (List.replicate 8 0)

end Go.Proofs.YtacicanjmleikaaGreatDoor

namespace Go.Proofs.YtacicanjmleikaaGreatDoor
open Go.RowKit Go.Sort Go.Shelf
set_option linter.unusedSimpArgs false
set_option linter.unusedVariables false
set_option maxRecDepth 100000

/-- The panic that a reader's need ends in. -/
def formPanic : List PanicEntry := [{ v := .iface 35 (.int .i64 7), recovered := false }]

theorem grown_ext {w wr w' : World} {row : Option Nat} (hg : w.grownBy wr row) (he : Ext wr w') : w.grownBy w' row :=
  ⟨he.os.trans hg.os, he.tape.trans hg.tape, he.output.trans hg.output, Nat.le_trans hg.size he.size, fun k hk hne => (he.block k (Nat.lt_of_lt_of_le hk hg.size)).trans (hg.block k hk hne)⟩
theorem grown_set {w w' : World} {R : Nat} (hg : w.grownBy w' (some R)) (j : Nat) (v : Value) : w.grownBy (w'.setCell ⟨R, j, none⟩ v) (some R) :=
  ⟨hg.os, hg.tape, hg.output, by simpa [World.setCell] using hg.size, fun k hk hne => (Below.heap_setCell _ _ _ k (fun e => hne (by rw [e]))).trans (hg.block k hk hne)⟩

theorem and127 {c : Int} (h : 0 ≤ c ∧ c ≤ 255) : bits .and .u8 c 127 = c % 128 := by
  obtain ⟨n, rfl⟩ : ∃ n : Nat, c = (n : Int) := ⟨c.toNat, by omega⟩
  have : n < 256 := by omega
  have key : ∀ n, n < 256 → bits .and .u8 ((n : Nat) : Int) 127 = ((n : Nat) : Int) % 128 := by decide
  exact key n this

theorem vfacts2 {k U S : Nat} {c : Int} (hS : k < 10 → S = 128 ^ k) (hk : k < 10) (hU : U < S) (hc : 0 ≤ c ∧ c ≤ 255) (h9 : 9 ≤ k → c ≤ 1) :
    ∃ V : Nat, bits .or .u64 (U : Int) (IntKind.u64.wrap (IntKind.u64.wrap (bits .and .u8 c 127) * 2 ^ (7 * k))) = (V : Int) ∧ V < 18446744073709551616 ∧ V = U + S * (c % 128).toNat ∧ V < S * 128 := by
  obtain ⟨V, _, hVb, hV, hV3⟩ := vfacts hS hk hU hc h9
  refine ⟨V, ?_, hVb, hV, hV3⟩
  have hS' := hS hk
  have e2 : S = 2 ^ (7 * k) := by rw [hS', show (128 : Nat) = 2 ^ 7 by rfl, ← Nat.pow_mul]
  rw [and127 hc]
  obtain ⟨d, hd⟩ : ∃ d : Nat, c % 128 = (d : Int) := ⟨(c % 128).toNat, by omega⟩
  rw [hd] at hV ⊢
  simp only [Int.toNat_natCast] at hV
  rw [IntWalk.u64_in (d : Int) ⟨by omega, by omega⟩]
  have e1 : (d : Int) * 2 ^ (7 * k) = ((S * d : Nat) : Int) := by rw [e2, Int.natCast_mul, Int.mul_comm]; simp
  rw [e1, IntWalk.u64_in _ ⟨by omega, by omega⟩, u64_or_nat _ _ (by omega) (by omega)]
  have := Nat.two_pow_add_eq_or_of_lt (i := 7 * k) (b := U) (by rw [← e2]; exact hU) d
  rw [← e2] at this
  rw [Nat.or_comm, ← this, hV]
  omega

theorem unnum_bits {V : Nat} (h : V < 18446744073709551616) : bits .xor .i64 ((V : Int) / 2) (-((V : Int) % 2)) = unnum V := by
  have e0 : (V : Int) / 2 = ((V / 2 : Nat) : Int) := by omega
  have h2 : (BitVec.ofInt 64 ((V / 2 : Nat) : Int)).toNat = V / 2 := by
    rw [BitVec.ofInt_natCast, BitVec.toNat_ofNat]; exact Nat.mod_eq_of_lt (by omega)
  by_cases hodd : (V : Int) % 2 = 1
  · rw [unnum_odd hodd, hodd, e0]
    show IntKind.i64.wrap ((BitVec.ofInt 64 ((V / 2 : Nat) : Int) ^^^ BitVec.ofInt 64 (-1)).toNat : Int) = _
    have h1 : (BitVec.ofInt 64 (-1)).toNat = 2 ^ 64 - 1 := by decide
    rw [BitVec.toNat_xor, h1, h2, Nat.xor_comm, Lib.xor_ones64 _ (by omega), IntKind.wrap_i64]
    omega
  · have h0 : (V : Int) % 2 = 0 := by omega
    rw [unnum_even hodd, h0, e0]
    show IntKind.i64.wrap ((BitVec.ofInt 64 ((V / 2 : Nat) : Int) ^^^ BitVec.ofInt 64 (-0)).toNat : Int) = _
    have h1 : (BitVec.ofInt 64 (-0)).toNat = 0 := by decide
    rw [BitVec.toNat_xor, h1, h2, Nat.xor_zero, IntKind.wrap_i64]
    omega

end Go.Proofs.YtacicanjmleikaaGreatDoor

namespace Go.Proofs.YtacicanjmleikaaGreatDoor
open Go.RowKit Go.Sort Go.Shelf
set_option linter.unusedSimpArgs false
set_option linter.unusedVariables false
set_option maxRecDepth 100000

/-- The two named results of Get have been laid by the closure. -/
def Caught (base L E : Nat) (w w' : World) : Prop := w'.cell? ⟨L, 0, none⟩ = some (.slice none 0 0) ∧ w'.cell? ⟨E, 0, none⟩ = some (.int .i64 7) ∧ Below base w w'

end Go.Proofs.YtacicanjmleikaaGreatDoor

namespace Go.Proofs.YtacicanjmleikaaGreatDoor
open Go.RowKit Go.Sort Go.Shelf
set_option linter.unusedSimpArgs false
set_option linter.unusedVariables false
set_option maxRecDepth 100000

theorem grown_draw {w w' : World} {row : Option Nat} (hg : w.drew.grownBy w' row) : w.grownBy w' row := ⟨hg.os, hg.tape, hg.output, hg.size, hg.block⟩

end Go.Proofs.YtacicanjmleikaaGreatDoor

/-
  The plain laws of the lists' bytes: what is put is got, what is got was put, no bytes begin others. No program in sight.
-/
namespace Go.Proofs.YtacicanjmleikaaGreatDoor
set_option linter.unusedSimpArgs false
set_option linter.unusedVariables false
set_option maxRecDepth 100000

theorem pow128_le {a b : Nat} (h : a ≤ b) : 128 ^ a ≤ 128 ^ b := Nat.pow_le_pow_right (by omega) h

theorem rdL_digs (t : List Int) : ∀ (u k : Nat), u * 128 ^ k < 18446744073709551616 → (0 < k → u ≠ 0) → rdL k (digs u ++ t) = some (u, (digs u).length) := by
  intro u
  induction u using Nat.strongRecOn with
  | _ u ih =>
    intro k hu hk
    have hk9 : k ≤ 9 := by
      rcases Nat.lt_or_ge 9 k with h | h
      · have h1 := hk (by omega)
        have h2 : 128 ^ 10 ≤ 128 ^ k := pow128_le h
        have h3 : 1 * 128 ^ k ≤ u * 128 ^ k := Nat.mul_le_mul_right _ (by omega)
        have h4 : (128 : Nat) ^ 10 = 1180591620717411303424 := by decide
        omega
      · exact h
    by_cases hs : u < 128
    · rw [digs_small hs]
      have h9 : k = 9 → u ≤ 1 := by
        intro h
        subst h
        have h4 : (128 : Nat) ^ 9 = 9223372036854775808 := by decide
        rw [h4] at hu
        omega
      show rdL k ((u : Int) :: ([] ++ t)) = _
      unfold rdL
      rw [if_neg (by
        rintro (h | ⟨h, h'⟩ | ⟨h, h'⟩)
        · omega
        · have := h9 h; omega
        · have := hk h; omega), if_pos (by omega)]
      simp
    · rw [digs_big hs]
      have hk8 : k ≤ 8 := by
        rcases Nat.lt_or_ge 8 k with h | h
        · have h2 : 128 ^ 9 ≤ 128 ^ k := pow128_le h
          have h3 : 128 * 128 ^ k ≤ u * 128 ^ k := Nat.mul_le_mul_right _ (by omega)
          have h4 : (128 : Nat) ^ 9 = 9223372036854775808 := by decide
          omega
        · exact h
      have hr := ih (u / 128) (by omega) (k + 1) (by
        have h1 : u / 128 * 128 ^ (k + 1) ≤ u * 128 ^ k := by
          rw [Nat.pow_succ, ← Nat.mul_assoc, Nat.mul_right_comm]
          exact Nat.mul_le_mul_right _ (Nat.div_mul_le_self _ _)
        omega) (fun _ => by omega)
      show rdL k (((u % 128 + 128 : Nat) : Int) :: (digs (u / 128) ++ t)) = _
      unfold rdL
      rw [if_neg (by
        rintro (h | ⟨h, h'⟩ | ⟨h, h'⟩)
        · omega
        · omega
        · omega), if_neg (by omega), hr]
      simp
      omega

theorem unnum_num (n : Int) : unnum (num n) = n := by
  unfold unnum num
  split <;> split <;> omega
theorem num_unnum (v : Nat) : num (unnum v) = v := by
  unfold unnum num
  split <;> split <;> omega

theorem rdAt_digs (p t : List Int) {n : Int} (h : -9223372036854775808 ≤ n ∧ n ≤ 9223372036854775807) : rdAt (p ++ (digs (num n) ++ t)) p.length = some (n, p.length + (digs (num n)).length) := by
  unfold rdAt
  rw [List.drop_left, rdL_digs t (num n) 0 (by have := num_lt h; omega) (by omega)]
  simp [unnum_num]

theorem rdMany_put (t : List Int) : ∀ (l p : List Int), (∀ x ∈ l, (Lit.int .i64 x).wf = true) → rdMany (p ++ ((l.flatMap fun x => digs (num x)) ++ t)) l.length p.length = some (l, p.length + (l.flatMap fun x => digs (num x)).length)
  | [], p, _ => by simp [rdMany]
  | x :: l, p, hw => by
    have h1 := rdAt_digs p ((l.flatMap fun x => digs (num x)) ++ t) (wf_i64 (hw x (by simp)))
    have h2 := rdMany_put t l (p ++ digs (num x)) (fun y hy => hw y (by simp [hy]))
    simp only [List.flatMap_cons, List.length_cons, List.append_assoc] at h1 h2 ⊢
    unfold rdMany
    rw [h1]
    simp only [List.length_append] at h2 ⊢
    rw [h2]
    simp [Nat.add_assoc]

/-- What is put is got, and no further. -/
theorem lget_more {l : List Int} (hw : ∀ x ∈ l, (Lit.int .i64 x).wf = true) (hl : l.length ≤ 1000) (t : List Int) : lget (lput l ++ t) = if t = [] then some l else none := by
  have h1 := rdAt_digs [] ((l.flatMap fun x => digs (num x)) ++ t) (n := (l.length : Int)) (by omega)
  have h2 := rdMany_put t l (digs (num l.length)) hw
  unfold lget
  rw [show lput l ++ t = digs (num l.length) ++ ((l.flatMap fun x => digs (num x)) ++ t) from by simp [lput]]
  simp only [List.nil_append, List.length_nil, Nat.zero_add] at h1
  rw [h1]
  simp only
  rw [if_neg (by omega), show ((l.length : Int)).toNat = l.length from by simp, h2]
  simp only [List.length_append]
  by_cases ht : t = []
  · subst ht; simp
  · rw [if_neg ht, if_neg]
    have : 0 < t.length := List.length_pos_iff.2 ht
    omega

theorem lget_lput {l : List Int} (hw : ∀ x ∈ l, (Lit.int .i64 x).wf = true) (hl : l.length ≤ 1000) : lget (lput l) = some l := by
  have := lget_more hw hl []
  simpa using this

theorem rdL_conv : ∀ (xs : List Int) (k v m : Nat), (∀ x ∈ xs, (Lit.int .u8 x).wf = true) → rdL k xs = some (v, m) → xs.take m = digs v ∧ (0 < k → v ≠ 0)
  | [], k, v, m, _, h => by simp [rdL] at h
  | c :: rest, k, v, m, hw, h => by
    have hc := wf_u8 (hw c (by simp))
    unfold rdL at h
    split at h
    · cases h
    · rename_i hk
      split at h
      · rename_i hlt
        simp at h
        obtain ⟨rfl, rfl⟩ := h
        rw [digs_small (by omega)]
        refine ⟨by simp; omega, fun h0 => ?_⟩
        intro hz
        exact hk (.inr (.inr ⟨h0, by omega⟩))
      · rename_i hge
        rcases hr : rdL (k + 1) rest with _ | ⟨v', m'⟩
        · rw [hr] at h; cases h
        · rw [hr] at h
          simp at h
          obtain ⟨rfl, rfl⟩ := h
          obtain ⟨h1, h2⟩ := rdL_conv rest (k + 1) v' m' (fun x hx => hw x (by simp [hx])) hr
          have hv := h2 (by omega)
          refine ⟨?_, fun _ => by omega⟩
          rw [digs_big (by omega), List.take_succ_cons, h1]
          congr 1
          · omega
          · congr 1; omega

theorem rdAt_conv {xs : List Int} {a next : Nat} {x : Int} (hw : ∀ x ∈ xs, (Lit.int .u8 x).wf = true) (h : rdAt xs a = some (x, next)) : a ≤ next ∧ (xs.drop a).take (next - a) = digs (num x) := by
  unfold rdAt at h
  rcases hr : rdL 0 (xs.drop a) with _ | ⟨v, m⟩
  · rw [hr] at h; cases h
  · rw [hr] at h
    simp at h
    obtain ⟨rfl, rfl⟩ := h
    obtain ⟨h1, _⟩ := rdL_conv _ _ _ _ (fun x hx => hw x (List.mem_of_mem_drop hx)) hr
    refine ⟨by omega, ?_⟩
    rw [num_unnum, show a + m - a = m from by omega, h1]

theorem take_split (xs : List Int) {a b c : Nat} (h1 : a ≤ b) (h2 : b ≤ c) : (xs.drop a).take (c - a) = (xs.drop a).take (b - a) ++ (xs.drop b).take (c - b) := by
  have h3 : c - a = (b - a) + (c - b) := by omega
  rw [h3, List.take_add, List.drop_drop]
  congr 3
  omega

theorem rdMany_conv {xs : List Int} (hw : ∀ x ∈ xs, (Lit.int .u8 x).wf = true) : ∀ (n a e : Nat) (l : List Int), rdMany xs n a = some (l, e) → a ≤ e ∧ (xs.drop a).take (e - a) = l.flatMap fun x => digs (num x)
  | 0, a, e, l, h => by
    simp [rdMany] at h
    obtain ⟨rfl, rfl⟩ := h
    simp
  | n + 1, a, e, l, h => by
    unfold rdMany at h
    rcases hr : rdAt xs a with _ | ⟨x, next⟩
    · rw [hr] at h; cases h
    · rw [hr] at h
      simp only at h
      rcases hm : rdMany xs n next with _ | ⟨l', e'⟩
      · rw [hm] at h; cases h
      · rw [hm] at h
        simp at h
        obtain ⟨rfl, rfl⟩ := h
        obtain ⟨h1, h2⟩ := rdAt_conv hw hr
        obtain ⟨h3, h4⟩ := rdMany_conv hw n next e' l' hm
        refine ⟨by omega, ?_⟩
        rw [take_split xs h1 h3, h2, h4, List.flatMap_cons]

/-- What is got was put. -/
theorem lput_lget {xs l : List Int} (hw : ∀ x ∈ xs, (Lit.int .u8 x).wf = true) (h : lget xs = some l) : lput l = xs ∧ l.length ≤ 1000 ∧ ∀ x ∈ l, (Lit.int .i64 x).wf = true := by
  unfold lget at h
  rcases hr : rdAt xs 0 with _ | ⟨m, a⟩
  · rw [hr] at h; cases h
  · rw [hr] at h
    simp only at h
    split at h
    · cases h
    · rename_i hm
      rcases hq : rdMany xs m.toNat a with _ | ⟨l', e⟩
      · rw [hq] at h; cases h
      · rw [hq] at h
        simp only at h
        split at h
        · rename_i he
          cases h
          obtain ⟨h1, h2⟩ := rdAt_conv hw hr
          obtain ⟨h3, h4⟩ := rdMany_conv hw _ _ _ _ hq
          obtain ⟨h5, h6⟩ := rdMany_wf hw _ _ _ _ hq
          refine ⟨?_, by omega, h6⟩
          unfold lput
          rw [← h4, show (l.length : Int) = m from by omega, ← h2]
          have := take_split xs (a := 0) (b := a) (c := e) (by omega) h3
          rw [← this, he]
          simp
        · cases h

/-- No bytes of a list begin those of another one. -/
theorem lput_prefix {l m t : List Int} (hl : l.length ≤ 1000) (hm : m.length ≤ 1000) (wl : ∀ x ∈ l, (Lit.int .i64 x).wf = true) (wm : ∀ x ∈ m, (Lit.int .i64 x).wf = true) (h : lput m = lput l ++ t) : l = m := by
  have h1 := lget_more wl hl t
  rw [← h, lget_lput wm hm] at h1
  split at h1
  · simpa using h1.symm
  · cases h1

/-- No proper beginning of the bytes of a list is accepted. -/
theorem lget_cut {l : List Int} (hl : l.length ≤ 1000) (wl : ∀ x ∈ l, (Lit.int .i64 x).wf = true) {k : Nat} (hk : k < (lput l).length) : lget ((lput l).take k) = none := by
  rcases h : lget ((lput l).take k) with _ | m
  · rfl
  · obtain ⟨h1, h2, h3⟩ := lput_lget (fun x hx => lput_wf l x (List.mem_of_mem_take hx)) h
    have h4 := lget_more h3 h2 ((lput l).drop k)
    rw [h1, List.take_append_drop, lget_lput wl hl, if_neg (by
      intro hd
      have := congrArg List.length hd
      simp at this
      omega)] at h4
    cases h4

/-- The bytes of a greater number are no fewer. -/
theorem digs_mono : ∀ (v u : Nat), u ≤ v → (digs u).length ≤ (digs v).length := by
  intro v
  induction v using Nat.strongRecOn with
  | _ v ih =>
    intro u hu
    by_cases h1 : u < 128
    · rw [digs_small h1]
      have := (digs_len v).1
      simpa using this
    · rw [digs_big h1, digs_big (u := v) (by omega)]
      have := ih (v / 128) (by omega) (u / 128) (by omega)
      simpa using this

end Go.Proofs.YtacicanjmleikaaGreatDoor
