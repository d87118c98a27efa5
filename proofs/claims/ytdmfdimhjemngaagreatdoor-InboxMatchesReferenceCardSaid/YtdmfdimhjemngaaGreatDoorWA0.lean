
import Derived.Test.YtdmfdimhjemngaaGreatDoorLibA
namespace Go.Proofs.YtdmfdimhjemngaaGreatDoor
open Go.RowKit
set_option linter.unusedSimpArgs false
set_option linter.unusedVariables false
set_option maxRecDepth 100000

theorem all_eq_of_nth (xs ys : List Int) (h : xs.length = ys.length) (hn : ∀ i, i < xs.length → nth xs i = nth ys i) : xs = ys := by
  apply List.ext_getElem h
  intro i h1 h2
  have := hn i h1
  simp [nth, List.getD_eq_getElem?_getD, h1, h2] at this
  exact this

/-- FNV-1a, one byte. -/
def fnv1 (h x : Int) : Int := IntKind.u64.wrap (bits .xor .u64 h x * 1099511628211)
/-- FNV-1a. -/
def fnv (xs : List Int) : Int := xs.foldl fnv1 14695981039346656037


theorem fnv_succ {xs : List Int} {k : Nat} (h : k < xs.length) : fnv (xs.take (k+1)) = fnv1 (fnv (xs.take k)) (nth xs k) := by
  unfold fnv; rw [take_nth_succ h, List.foldl_append]; rfl

set_option maxHeartbeats 400000 in
theorem sum_any (a1 : Option Addr) (n1 c1 : Nat) (xs : List Int) (w : World) (h1 : Sl .u8 w a1 n1 c1 xs) :
    Calls Tryz.prog 88 #[.slice a1 n1 c1] w fun e w' => e = .returned (.int .u64 (fnv xs)) ∧ w = w' := by
  have b1 := h1.bd
  have e1 := Lib.hid h1.hlen
  go_enter Tryz.func88, Tryz.ntmps88
  go_wp2
  go_loop [3, 8] (fun h i => ∃ k : Nat, k ≤ n1 ∧ i = .int .i64 k ∧ h = .int .u64 (fnv (xs.take k))) (fun _ i => n1 - (intOf i).toNat)
  case atStart => exact ⟨0, by omega, rfl, rfl⟩
  case round =>
    obtain ⟨k, hk, rfl, rfl⟩ := hrel
    by_cases hlt : k < n1
    · obtain ⟨x1, o1, rfl, hc1⟩ := h1.at (by omega)
      have g1 := hc1 k hlt
      have w1 := wf_u8 (h1.wfAt hlt)
      clear hc1
      go_wp2
      go_round
      case rel => exact ⟨k+1, by omega, by go_num, by rw [fnv_succ (by rw [e1.out]; omega)]; rfl⟩
      case measure => simp [intOf]; omega
    · go_wp2
      go_ret
      exact ⟨ret_int (by rw [List.take_of_length_le (by have := e1.out; omega)]), rfl⟩

set_option maxHeartbeats 400000 in
theorem rsum_any (a1 : Option Addr) (n1 c1 : Nat) (xs : List Int) (w : World) (h1 : Sl .u8 w a1 n1 c1 xs) :
    Calls Tryz.prog 59 #[.slice a1 n1 c1] w fun e w' => e = .returned (.int .u64 (fnv xs)) ∧ w = w' := by
  have b1 := h1.bd
  have e1 := Lib.hid h1.hlen
  go_enter Tryz.func59, Tryz.ntmps59
  go_wp2
  go_loop [3, 4] (fun h i => ∃ k : Nat, k ≤ n1 ∧ i = .int .i64 k ∧ h = .int .u64 (fnv (xs.take k))) (fun _ i => n1 - (intOf i).toNat)
  case atStart => exact ⟨0, by omega, rfl, rfl⟩
  case round =>
    obtain ⟨k, hk, rfl, rfl⟩ := hrel
    by_cases hlt : k < n1
    · obtain ⟨x1, o1, rfl, hc1⟩ := h1.at (by omega)
      have g1 := hc1 k hlt
      have w1 := wf_u8 (h1.wfAt hlt)
      clear hc1
      go_wp2
      go_round
      case rel => exact ⟨k+1, by omega, by go_num, by rw [fnv_succ (by rw [e1.out]; omega)]; rfl⟩
      case measure => simp [intOf]; omega
    · go_wp2
      go_ret
      exact ⟨ret_int (by rw [List.take_of_length_le (by have := e1.out; omega)]), rfl⟩

/-! ### one: the bytes of an integer -/
theorem el_u8 : ElT Tryz.prog 30 5 (.int .u8 0) 1 1 := ⟨by kernel_rfl, by kernel_rfl⟩
theorem el_i64 : ElT Tryz.prog 25 3 (.int .i64 0) 1 8 := ⟨by kernel_rfl, by kernel_rfl⟩

/-- The number of an integer. -/
def num (n : Int) : Nat := if n < 0 then (2 * (-1 - n) + 1).toNat else (2 * n).toNat
/-- Its digits with the base 128. -/
def digs (u : Nat) : List Int := if h : u < 128 then [(u : Int)] else ((u % 128 + 128 : Nat) : Int) :: digs (u / 128)
termination_by u

theorem digs_small {u : Nat} (h : u < 128) : digs u = [(u : Int)] := by rw [digs]; simp [h]
theorem digs_big {u : Nat} (h : ¬ u < 128) : digs u = ((u % 128 + 128 : Nat) : Int) :: digs (u / 128) := by rw [digs]; simp [h]

theorem digs_wf (u : Nat) : ∀ x ∈ digs u, (Lit.int .u8 x).wf = true := by
  induction u using Nat.strongRecOn with
  | _ u ih =>
    by_cases h : u < 128
    · rw [digs_small h]; intro x hx; simp at hx; subst hx; simp [Lit.wf, IntKind.min, IntKind.max, IntKind.bits, IntKind.signed]; omega
    · rw [digs_big h]; intro x hx
      rcases List.mem_cons.1 hx with rfl | hx
      · simp [Lit.wf, IntKind.min, IntKind.max, IntKind.bits, IntKind.signed]; omega
      · exact ih _ (by omega) x hx

theorem digs_len (u : Nat) : 1 ≤ (digs u).length ∧ ∀ m, u < 128 ^ m → (digs u).length ≤ max m 1 := by
  induction u using Nat.strongRecOn with
  | _ u ih =>
    by_cases h : u < 128
    · rw [digs_small h]; exact ⟨by simp, fun m _ => by simp; omega⟩
    · rw [digs_big h]
      refine ⟨by simp, fun m hm => ?_⟩
      rcases m with _ | m
      · simp at hm; omega
      · have := (ih (u / 128) (by omega)).2 m (by rw [Nat.pow_succ] at hm; omega)
        rcases m with _ | m
        · simp at hm; omega
        · simp; omega

theorem num_lt {n : Int} (h : -9223372036854775808 ≤ n ∧ n ≤ 9223372036854775807) : num n < 18446744073709551616 := by unfold num; split <;> omega
theorem digs_num_len {n : Int} (h : -9223372036854775808 ≤ n ∧ n ≤ 9223372036854775807) : 1 ≤ (digs (num n)).length ∧ (digs (num n)).length ≤ 10 := by
  refine ⟨(digs_len _).1, ?_⟩
  have := (digs_len (num n)).2 10 (by have := num_lt h; omega)
  simpa using this

theorem num_neg {n : Int} (h : n < 0) : (num n : Int) = 2 * (-1 - n) + 1 := by unfold num; rw [if_pos h]; omega
theorem num_pos {n : Int} (h : ¬ n < 0) : (num n : Int) = 2 * n := by unfold num; rw [if_neg h]; omega

end Go.Proofs.YtdmfdimhjemngaaGreatDoor

namespace Go.Proofs.YtdmfdimhjemngaaGreatDoor
open Go.RowKit
set_option linter.unusedSimpArgs false
set_option linter.unusedVariables false
set_option maxRecDepth 100000

/-- The eight bytes of a number, the most significant one first. -/
def be8 (d : Nat) : List Int := [((d / 72057594037927936 % 256 : Nat) : Int), ((d / 281474976710656 % 256 : Nat) : Int), ((d / 1099511627776 % 256 : Nat) : Int), ((d / 4294967296 % 256 : Nat) : Int),
  ((d / 16777216 % 256 : Nat) : Int), ((d / 65536 % 256 : Nat) : Int), ((d / 256 % 256 : Nat) : Int), ((d % 256 : Nat) : Int)]

theorem be8_wf (d : Nat) : ∀ x ∈ be8 d, (Lit.int .u8 x).wf = true := by
  intro x hx
  simp only [be8, List.mem_cons, List.not_mem_nil, or_false] at hx
  rcases hx with rfl | rfl | rfl | rfl | rfl | rfl | rfl | rfl <;> simp [Lit.wf, IntKind.min, IntKind.max, IntKind.bits, IntKind.signed] <;> omega

theorem fnv_wf (xs : List Int) : (Lit.int .u64 (fnv xs)).wf = true := by
  unfold fnv
  rcases List.eq_nil_or_concat xs with rfl | ⟨ys, y, rfl⟩
  · decide
  · rw [List.concat_eq_append, List.foldl_append]; exact wf_wrap _ _
theorem fnv_bd (xs : List Int) : 0 ≤ fnv xs ∧ fnv xs ≤ 18446744073709551615 := wf_u64 (fnv_wf xs)

/-- The bytes of the digest. -/
def dig8 (xs : List Int) : List Int := be8 (fnv xs).toNat

theorem be8_step (d k : Nat) (hk : k < 8) : (be8 d).drop (7 - k) = (((d / 256 ^ k) % 256 : Nat) : Int) :: (be8 d).drop (8 - k) := by
  unfold be8
  rcases k with _ | _ | _ | _ | _ | _ | _ | _ | k <;> simp <;> first | omega | done

theorem set_rep (k : Nat) (hk : k < 8) (t : List Int) (x : Int) : (List.replicate (8 - k) 0 ++ t).set (7 - k) x = List.replicate (7 - k) 0 ++ x :: t := by
  rw [List.set_append, if_pos (by simp; omega)]
  have : 8 - k = (7 - k) + 1 := by omega
  rw [this, List.replicate_succ', List.set_append, if_neg (by simp)]
  simp

/-- The bytes of a list: those of its length, and those of each element. -/
def lput (xs : List Int) : List Int := digs (num xs.length) ++ xs.flatMap fun x => digs (num x)

theorem flatMap_take_succ {xs : List Int} {k : Nat} (h : k < xs.length) (f : Int → List Int) : (xs.take (k+1)).flatMap f = (xs.take k).flatMap f ++ f (nth xs k) := by
  rw [take_nth_succ h, List.flatMap_append]; simp

theorem flatMap_len_le (xs : List Int) (f : Int → List Int) (hf : ∀ x ∈ xs, (f x).length ≤ 10) : (xs.flatMap f).length ≤ 10 * xs.length := by
  induction xs with
  | nil => simp
  | cons x xs ih =>
    have h1 := hf x (by simp)
    have h2 := ih (fun y hy => hf y (by simp [hy]))
    simp only [List.flatMap_cons, List.length_append, List.length_cons]; omega

theorem lput_len {xs : List Int} (hw : ∀ x ∈ xs, (Lit.int .i64 x).wf = true) (hl : xs.length ≤ 1100) : 1 ≤ (lput xs).length ∧ (lput xs).length ≤ 10 + 10 * xs.length := by
  have h1 := digs_num_len (n := xs.length) (by omega)
  have h2 := flatMap_len_le xs (fun x => digs (num x)) fun x hx => (digs_num_len (wf_i64 (hw x hx))).2
  unfold lput
  rw [List.length_append]; omega

theorem lput_wf (xs : List Int) : ∀ x ∈ lput xs, (Lit.int .u8 x).wf = true := by
  intro x hx
  unfold lput at hx
  rcases List.mem_append.1 hx with h | h
  · exact digs_wf _ x h
  · obtain ⟨y, _, h⟩ := List.mem_flatMap.1 h
    exact digs_wf _ x h

end Go.Proofs.YtdmfdimhjemngaaGreatDoor

namespace Go.Proofs.YtdmfdimhjemngaaGreatDoor
open Go.RowKit
set_option linter.unusedSimpArgs false
set_option linter.unusedVariables false
set_option maxRecDepth 100000

/-- The number whose digits a list begins with, and how many digits it has; k have been read before. -/
def rdL (k : Nat) : List Int → Option (Nat × Nat)
  | [] => none
  | c :: rest => if 10 ≤ k ∨ (k = 9 ∧ 1 < c) ∨ (0 < k ∧ c = 0) then none else if c < 128 then some (c.toNat, 1) else (rdL (k + 1) rest).map fun (v, m) => ((c - 128).toNat + 128 * v, m + 1)

/-- The integer of a number. -/
def unnum (v : Nat) : Int := if v % 2 = 1 then -1 - (v / 2 : Nat) else (v / 2 : Nat)

/-- What Read returns. -/
def rdAt (xs : List Int) (at_ : Nat) : Option (Int × Nat) := (rdL 0 (xs.drop at_)).map fun (v, m) => (unnum v, at_ + m)

theorem rdL_bd : ∀ (xs : List Int) (k : Nat) (v m : Nat), (∀ x ∈ xs, (Lit.int .u8 x).wf = true) → rdL k xs = some (v, m) → k + m ≤ 10 ∧ 1 ≤ m ∧ m ≤ xs.length ∧ v * 128 ^ k < 18446744073709551616
  | [], k, v, m, _, h => by simp [rdL] at h
  | c :: rest, k, v, m, hw, h => by
    have hc := wf_u8 (hw c (by simp))
    unfold rdL at h
    split at h
    · cases h
    · rename_i hk
      split at h
      · rename_i hlt
        simp only [Option.some.injEq, Prod.mk.injEq] at h
        obtain ⟨rfl, rfl⟩ := h
        refine ⟨by omega, by omega, by simp, ?_⟩
        have hk9 : k ≤ 9 := by omega
        rcases Nat.lt_or_ge k 9 with h9 | h9
        · have hp : 128 ^ k ≤ 128 ^ 8 := Nat.pow_le_pow_right (by omega) (by omega)
          have : c.toNat * 128 ^ k ≤ 127 * 128 ^ 8 := Nat.mul_le_mul (by omega) hp
          omega
        · obtain rfl : k = 9 := by omega
          have : c.toNat ≤ 1 := by omega
          have h2 : c.toNat * 128 ^ 9 ≤ 1 * 128 ^ 9 := Nat.mul_le_mul_right _ this
          omega
      · rename_i hlt
        simp only [Option.map_eq_some_iff, Prod.mk.injEq, Prod.exists] at h
        obtain ⟨v', m', h1, rfl, rfl⟩ := h
        obtain ⟨i1, i2, i3, i4⟩ := rdL_bd rest (k + 1) v' m' (fun x hx => hw x (by simp [hx])) h1
        refine ⟨by omega, by omega, by simp; omega, ?_⟩
        have hk8 : k ≤ 8 := by omega
        have hv : v' * 128 ^ k < 144115188075855872 := by rw [Nat.pow_succ, ← Nat.mul_assoc] at i4; omega
        have hp : 128 ^ k ≤ 128 ^ 8 := Nat.pow_le_pow_right (by omega) (by omega)
        have hlow : ((c - 128).toNat + 1) * 128 ^ k ≤ 128 * 128 ^ k := Nat.mul_le_mul_right _ (by omega)
        have e1 : ((c - 128).toNat + 128 * v') * 128 ^ k = (c - 128).toNat * 128 ^ k + 128 * (v' * 128 ^ k) := by rw [Nat.add_mul, Nat.mul_assoc]
        rw [e1]
        have hd : 128 ^ k ∣ 18446744073709551616 := ⟨2 ^ (64 - 7 * k), by rw [show (128 : Nat) = 2 ^ 7 by rfl, ← Nat.pow_mul, ← Nat.pow_add, show 7 * k + (64 - 7 * k) = 64 by omega]⟩
        rw [Nat.pow_succ] at i4
        obtain ⟨q, hq⟩ := hd
        have hpos : 0 < 128 ^ k := Nat.pow_pos (by omega)
        have i5 : v' * 128 < q := by
          have : (v' * 128) * 128 ^ k < q * 128 ^ k := by rw [Nat.mul_assoc, Nat.mul_comm 128, Nat.mul_comm q, ← hq]; exact i4
          exact Nat.lt_of_mul_lt_mul_right this
        have hq128 : q % 128 = 0 := by
          have hq2 : q = 2 ^ (64 - 7 * k) := by
            have : 128 ^ k * q = 128 ^ k * 2 ^ (64 - 7 * k) := by rw [← hq, show (128 : Nat) = 2 ^ 7 by rfl, ← Nat.pow_mul, ← Nat.pow_add, show 7 * k + (64 - 7 * k) = 64 by omega]
            exact Nat.eq_of_mul_eq_mul_left hpos this
          rw [hq2, show 64 - 7 * k = 7 + (57 - 7 * k) by omega, Nat.pow_add]; omega
        have i6 : (c - 128).toNat + 128 * v' < q := by omega
        have : ((c - 128).toNat + 128 * v') * 128 ^ k < q * 128 ^ k := Nat.mul_lt_mul_of_pos_right i6 hpos
        rw [e1] at this
        rw [hq, Nat.mul_comm (128 ^ k) q]; exact this

/-- What Read returns, as values. -/
def rdV (r : Option (Int × Nat)) : Value := match r with | some (n, m) => .tuple #[.int .i64 n, .int .i64 m, .bool true] | none => .tuple #[.int .i64 0, .int .i64 0, .bool false]

theorem drop_nth {xs : List Int} {i : Nat} (h : i < xs.length) : xs.drop i = nth xs i :: xs.drop (i + 1) := by
  rw [List.drop_eq_getElem_cons h]
  simp [nth, List.getD_eq_getElem?_getD, h]

theorem pow128 (k : Nat) (hk : k ≤ 8) : 128 ^ k ≤ 72057594037927936 := by
  have : 128 ^ k ≤ 128 ^ 8 := Nat.pow_le_pow_right (by omega) hk
  omega

/-- What one byte makes of the number that has been read so far. -/
theorem vfacts {k U S : Nat} {c : Int} (hS : k < 10 → S = 128 ^ k) (hk : k < 10) (hU : U < S) (hc : 0 ≤ c ∧ c ≤ 255) (h9 : 9 ≤ k → c ≤ 1) :
    ∃ V : Nat, IntKind.u64.wrap ((U : Int) + IntKind.u64.wrap (c % 128 * (S : Int))) = (V : Int) ∧ V < 18446744073709551616 ∧ V = U + S * (c % 128).toNat ∧ V < S * 128 := by
  have hS' := hS hk
  obtain ⟨d, hd⟩ : ∃ d : Nat, c % 128 = (d : Int) := ⟨(c % 128).toNat, by omega⟩
  have hd2 : d ≤ 127 := by omega
  have hm : S * d ≤ S * 127 := Nat.mul_le_mul_left _ hd2
  have hlt : U + S * d < 18446744073709551616 := by
    rcases Nat.lt_or_ge k 9 with h | h
    · have := pow128 k (by omega); rw [← hS'] at this; omega
    · obtain rfl : k = 9 := by omega
      have : d ≤ 1 := by have := h9 (by omega); omega
      have h2 : S * d ≤ S * 1 := Nat.mul_le_mul_left _ this
      have h3 : S = 9223372036854775808 := by rw [hS']
      omega
  have e1 : (d : Int) * (S : Int) = ((S * d : Nat) : Int) := by rw [Int.natCast_mul, Int.mul_comm]
  refine ⟨U + S * d, ?_, hlt, by simp [hd], by omega⟩
  rw [hd, e1, IntWalk.u64_in ((S * d : Nat) : Int) ⟨by omega, by omega⟩, IntWalk.u64_in _ ⟨by omega, by omega⟩]
  omega

theorem rd_end {xs : List Int} {at_ k U S V : Nat} {c : Int} {t : List Int} (hR : rdL 0 (xs.drop at_) = (rdL k (xs.drop (at_ + k))).map fun (v, m) => (U + S * v, m + k)) (hd : xs.drop (at_ + k) = c :: t)
    (hc : 0 ≤ c ∧ c < 128) (hg : ¬ (10 ≤ k ∨ (k = 9 ∧ 1 < c) ∨ (0 < k ∧ c = 0))) (hV : V = U + S * (c % 128).toNat) : rdAt xs at_ = some (unnum V, at_ + k + 1) := by
  unfold rdAt
  rw [hR, hd]
  unfold rdL
  rw [if_neg hg, if_pos hc.2]
  rw [show c % 128 = c by omega] at hV
  simp [hV]
  omega

theorem rd_bad {xs : List Int} {at_ k U S : Nat} {c : Int} {t : List Int} (hR : rdL 0 (xs.drop at_) = (rdL k (xs.drop (at_ + k))).map fun (v, m) => (U + S * v, m + k)) (hd : xs.drop (at_ + k) = c :: t)
    (hg : (10 ≤ k ∨ (k = 9 ∧ 1 < c) ∨ (0 < k ∧ c = 0))) : rdAt xs at_ = none := by
  unfold rdAt
  rw [hR, hd]
  unfold rdL
  rw [if_pos hg]
  rfl

theorem rd_out {xs : List Int} {at_ k U S : Nat} (hR : rdL 0 (xs.drop at_) = (rdL k (xs.drop (at_ + k))).map fun (v, m) => (U + S * v, m + k)) (hd : xs.length ≤ at_ + k) : rdAt xs at_ = none := by
  unfold rdAt
  rw [hR, List.drop_eq_nil_of_le hd]
  rfl

theorem rd_next {xs : List Int} {at_ k U S V : Nat} {c : Int} {t : List Int} (hR : rdL 0 (xs.drop at_) = (rdL k (xs.drop (at_ + k))).map fun (v, m) => (U + S * v, m + k)) (hd : xs.drop (at_ + k) = c :: t) (ht : xs.drop (at_ + (k + 1)) = t)
    (hc : 128 ≤ c ∧ c ≤ 255) (hg : ¬ (10 ≤ k ∨ (k = 9 ∧ 1 < c) ∨ (0 < k ∧ c = 0))) (hV : V = U + S * (c % 128).toNat) :
    rdL 0 (xs.drop at_) = (rdL (k + 1) (xs.drop (at_ + (k + 1)))).map fun (v, m) => (V + (S * 128) * v, m + (k + 1)) := by
  rw [hR, hd, ht]
  conv => lhs; unfold rdL
  rw [if_neg hg, if_neg (by omega)]
  rw [show c % 128 = c - 128 by omega] at hV
  rw [Option.map_map]
  congr 1
  funext ⟨v, m⟩
  simp only [Function.comp, Prod.mk.injEq, hV]
  refine ⟨?_, by omega⟩
  rw [Nat.mul_add, Nat.mul_assoc]; omega

theorem unnum_odd {V : Nat} (h : (V : Int) % 2 = 1) : unnum V = -1 - (V : Int) / 2 := by unfold unnum; rw [if_pos (by omega)]; omega
theorem unnum_even {V : Nat} (h : ¬ (V : Int) % 2 = 1) : unnum V = (V : Int) / 2 := by unfold unnum; rw [if_neg (by omega)]; omega

theorem rdV_some (n : Int) (m : Nat) : rdV (some (n, m)) = .tuple #[.int .i64 n, .int .i64 m, .bool true] := rfl
theorem ret3 {a b c d : Int} {t : Bool} (h1 : a = b) (h2 : c = d) : Ending.returned (.tuple #[.int .i64 a, .int .i64 c, .bool t]) = .returned (.tuple #[.int .i64 b, .int .i64 d, .bool t]) := by rw [h1, h2]

set_option maxHeartbeats 400000 in
theorem rread_any (a1 : Option Addr) (n1 c1 : Nat) (xs : List Int) (at_ : Nat) (w : World) (h1 : Sl .u8 w a1 n1 c1 xs) (hat : at_ ≤ 1000000000) :
    Calls Tryz.prog 95 #[.slice a1 n1 c1, .int .i64 at_] w fun e w' => e = .returned (rdV (rdAt xs at_)) ∧ w = w' := by
  have b1 := h1.bd
  have e1 := Lib.hid h1.hlen
  go_enter Tryz.func95, Tryz.ntmps95
  go_wp2
  go_loop [7, 8, 9] (fun u s i => ∃ k U S : Nat, k < 10 ∧ i = .int .i64 k ∧ u = .int .u64 U ∧ s = .int .u64 S ∧ (k < 10 → S = 128 ^ k) ∧ U < S ∧ (k < 9 → S ≤ 72057594037927936) ∧
    rdL 0 (xs.drop at_) = (rdL k (xs.drop (at_ + k))).map fun (v, m) => (U + S * v, m + k)) (fun _ _ i => 10 - (intOf i).toNat)
  case atStart => exact ⟨0, 0, 1, by omega, rfl, rfl, rfl, fun _ => rfl, by omega, fun _ => by omega, by simp⟩
  case round =>
    obtain ⟨k, U, S, hk, rfl, rfl, rfl, hSk, hUS, hS8, hrd⟩ := hrel
    have HS := Lib.hid hSk
    have HR := Lib.hid hrd
    clear hSk hrd
    have hlt : k < 10 := hk
    · by_cases hlt2 : at_ + k < n1
      · obtain ⟨x1, o1, rfl, hc1⟩ := h1.at (by omega)
        have g1 := hc1 (at_ + k) hlt2
        have w1 := wf_u8 (h1.wfAt hlt2)
        clear hc1
        have hdr := Lib.hid (drop_nth (xs := xs) (i := at_ + k) (by rw [e1.out]; exact hlt2))
        generalize nth xs (at_ + k) = c at *
        have bF9 : k < 9 → ((k : Int) == 9) = false := by intro h; simp; omega
        have bT9 : 9 ≤ k → ((k : Int) == 9) = true := by intro h; simp; omega
        have bF0 : 0 < c → (c == 0) = false := by intro h; simp; omega
        have bT0 : c ≤ 0 → (c == 0) = true := by intro h; simp; omega
        rcases Nat.lt_or_ge k 9 with hk9 | hk9
        · replace bF9 := bF9 hk9; clear bT9
          replace hS8 := hS8 hk9
          obtain ⟨V, hV, hVb, hV2, hV3⟩ := vfacts HS.out hlt hUS w1 (fun h => absurd h (by omega))
          have HV := Lib.hid hV2
          clear hV2
          rcases Nat.eq_zero_or_pos k with hk0 | hk0
          · replace hk0 : k ≤ 0 := by omega
            clear bF0 bT0
            by_cases hsm : c < 128
            · have hend := Lib.hid (rd_end HR.out hdr.out ⟨w1.1, hsm⟩ (by omega) HV.out)
              by_cases hodd : (V : Int) % 2 = 1
              · go_wp2
                go_ret3
                exact ⟨by rw [hend.out, rdV_some, unnum_odd hodd]; exact ret3 rfl (by simp), rfl⟩
              · have hodd' : (V : Int) % 2 = 0 := by omega
                go_wp2
                go_ret3
                exact ⟨by rw [hend.out, rdV_some, unnum_even hodd]; exact ret3 rfl (by simp), rfl⟩
            · have hnx := Lib.hid (rd_next HR.out hdr.out rfl ⟨by omega, w1.2⟩ (by omega) HV.out)
              go_wp2
              go_round
              case rel => exact ⟨k + 1, V, S * 128, by omega, by go_num, rfl, by simp, fun _ => by rw [HS.out hlt, Nat.pow_succ], hV3, fun h => by have := pow128 (k + 1) (by omega); rw [Nat.pow_succ, ← HS.out hlt] at this; exact this, hnx.out⟩
              case measure => simp [intOf]; omega
          · rcases Int.lt_or_le 0 c with hc0 | hc0
            · replace bF0 := bF0 hc0; clear bT0
              by_cases hsm : c < 128
              · have hend := Lib.hid (rd_end HR.out hdr.out ⟨w1.1, hsm⟩ (by omega) HV.out)
                by_cases hodd : (V : Int) % 2 = 1
                · go_wp2
                  go_ret3
                  exact ⟨by rw [hend.out, rdV_some, unnum_odd hodd]; exact ret3 rfl (by simp), rfl⟩
                · have hodd' : (V : Int) % 2 = 0 := by omega
                  go_wp2
                  go_ret3
                  exact ⟨by rw [hend.out, rdV_some, unnum_even hodd]; exact ret3 rfl (by simp), rfl⟩
              · have hnx := Lib.hid (rd_next HR.out hdr.out rfl ⟨by omega, w1.2⟩ (by omega) HV.out)
                go_wp2
                go_round
                case rel => exact ⟨k + 1, V, S * 128, by omega, by go_num, rfl, by simp, fun _ => by rw [HS.out hlt, Nat.pow_succ], hV3, fun h => by have := pow128 (k + 1) (by omega); rw [Nat.pow_succ, ← HS.out hlt] at this; exact this, hnx.out⟩
                case measure => simp [intOf]; omega
            · replace bT0 := bT0 hc0; clear bF0
              go_wp2
              go_ret3
              exact ⟨by rw [rd_bad HR.out hdr.out (by omega)]; rfl, rfl⟩
        · replace bT9 := bT9 hk9; clear bF9 hS8
          rcases Int.lt_or_le 1 c with hc1 | hc1
          · clear bF0 bT0
            go_wp2
            all_goals
              first | (go_ret3; exact ⟨by rw [rd_bad HR.out hdr.out (by omega)]; rfl, rfl⟩) | (exfalso; omega)
          · obtain ⟨V, hV, hVb, hV2, hV3⟩ := vfacts HS.out hlt hUS w1 (fun _ => hc1)
            have HV := Lib.hid hV2
            clear hV2
            rcases Int.lt_or_le 0 c with hc0 | hc0
            · replace bF0 := bF0 hc0; clear bT0
              have hend := Lib.hid (rd_end HR.out hdr.out ⟨w1.1, by omega⟩ (by omega) HV.out)
              by_cases hodd : (V : Int) % 2 = 1
              · go_wp2
                all_goals
                  first | (go_ret3; exact ⟨by rw [hend.out, rdV_some, unnum_odd hodd]; exact ret3 rfl (by first | rfl | simp | (simp; omega)), rfl⟩) | (exfalso; omega)
              · have hodd' : (V : Int) % 2 = 0 := by omega
                go_wp2
                all_goals
                  first | (go_ret3; exact ⟨by rw [hend.out, rdV_some, unnum_even hodd]; exact ret3 rfl (by first | rfl | simp | (simp; omega)), rfl⟩) | (exfalso; omega)
            · replace bT0 := bT0 hc0; clear bF0
              go_wp2
              all_goals
                first | (go_ret3; exact ⟨by rw [rd_bad HR.out hdr.out (by omega)]; rfl, rfl⟩) | (exfalso; omega)
      · go_wp2
        go_ret3
        exact ⟨by rw [rd_out HR.out (by rw [e1.out]; omega)]; rfl, rfl⟩

end Go.Proofs.YtdmfdimhjemngaaGreatDoor

namespace Go.Proofs.YtdmfdimhjemngaaGreatDoor
open Go.RowKit
set_option linter.unusedSimpArgs false
set_option linter.unusedVariables false
set_option maxRecDepth 100000

/-- n integers, one behind the other, from a place on, and the place behind them. -/
def rdMany (xs : List Int) : Nat → Nat → Option (List Int × Nat)
  | 0, at_ => some ([], at_)
  | n + 1, at_ => match rdAt xs at_ with
    | none => none
    | some (x, next) => (rdMany xs n next).map fun (l, e) => (x :: l, e)

/-- The list whose bytes they are. -/
def lget (xs : List Int) : Option (List Int) :=
  match rdAt xs 0 with
  | none => none
  | some (m, at_) => if m < 0 ∨ 1000 < m then none else
    match rdMany xs m.toNat at_ with
    | none => none
    | some (l, e) => if e = xs.length then some l else none

theorem rdAt_bd {xs : List Int} {at_ next : Nat} {n : Int} (hw : ∀ x ∈ xs, (Lit.int .u8 x).wf = true) (h : rdAt xs at_ = some (n, next)) :
    at_ < next ∧ next ≤ at_ + 10 ∧ next ≤ xs.length ∧ -9223372036854775808 ≤ n ∧ n ≤ 9223372036854775807 := by
  unfold rdAt at h
  simp only [Option.map_eq_some_iff, Prod.mk.injEq, Prod.exists] at h
  obtain ⟨v, m, h1, rfl, rfl⟩ := h
  have := rdL_bd _ 0 v m (fun x hx => hw x (List.mem_of_mem_drop hx)) h1
  rw [List.length_drop] at this
  have hv : v < 18446744073709551616 := by simpa using this.2.2.2
  refine ⟨by omega, by omega, by omega, ?_, ?_⟩ <;> unfold unnum <;> split <;> omega

theorem rdMany_wf {xs : List Int} (hw : ∀ x ∈ xs, (Lit.int .u8 x).wf = true) : ∀ (n at_ e : Nat) (l : List Int), rdMany xs n at_ = some (l, e) → l.length = n ∧ ∀ x ∈ l, (Lit.int .i64 x).wf = true
  | 0, at_, e, l, h => by simp [rdMany] at h; obtain ⟨rfl, rfl⟩ := h; simp
  | n + 1, at_, e, l, h => by
    unfold rdMany at h
    split at h
    · cases h
    · rename_i x next hx
      simp only [Option.map_eq_some_iff, Prod.mk.injEq, Prod.exists] at h
      obtain ⟨l', e', h1, rfl, rfl⟩ := h
      obtain ⟨i1, i2⟩ := rdMany_wf hw n next e' l' h1
      refine ⟨by simp [i1], fun y hy => ?_⟩
      rcases List.mem_cons.1 hy with rfl | hy
      · have := rdAt_bd hw hx
        simp [Lit.wf, IntKind.min, IntKind.max, IntKind.bits, IntKind.signed]; omega
      · exact i2 y hy

/-- What Get leaves. -/
def GetPost (w w' : World) (e : Ending) (r : Option (List Int)) : Prop :=
  match r with
  | none => e = .returned (.tuple #[.slice none 0 0, .int .i64 7]) ∧ Ext w w'
  | some l => ∃ a c, e = .returned (.tuple #[.slice a l.length c, .int .i64 0]) ∧ OwI .i64 3 w.heap.size w' a l.length c l ∧ Ext w w'

theorem getPost_none {w w' : World} {e : Ending} {r : Option (List Int)} (hr : r = none) (h : e = .returned (.tuple #[.slice none 0 0, .int .i64 7])) (hE : Ext w w') : GetPost w w' e r := by
  subst hr; exact ⟨h, hE⟩

set_option maxHeartbeats 400000 in
theorem rget_any (a1 : Option Addr) (n1 c1 : Nat) (xs : List Int) (w : World) (h1 : Sl .u8 w a1 n1 c1 xs) :
    Calls Tryz.prog 79 #[.slice a1 n1 c1] w fun e w' => GetPost w w' e (lget xs) := by
  have b1 := h1.bd
  have e1 := Lib.hid h1.hlen
  have H0 := Lib.hid h1.wf
  rcases hr0 : rdAt xs 0 with _ | ⟨m, at0⟩
  · have R0 := Lib.hid hr0
    clear hr0
    go_enter Tryz.func79, Tryz.ntmps79
    go_wp2_with (go_at_call 95; refine (rread_any _ _ _ xs 0 _ h1 (by omega)).mono ?_; rintro e w' ⟨rfl, rfl⟩; rw [R0.out]; unfold rdV)
    go_ret2
    exact getPost_none (by unfold lget; rw [R0.out]) rfl (Ext.refl _)
  · have R0 := Lib.hid hr0
    have bd0 := rdAt_bd h1.wf hr0
    clear hr0
    by_cases hm : m < 0 ∨ 1000 < m
    · have hbad : lget xs = none := by unfold lget; rw [R0.out]; simp only [hm, if_true]
      rcases hm with hm | hm
      all_goals
        go_enter Tryz.func79, Tryz.ntmps79
        go_wp2_with (go_at_call 95; refine (rread_any _ _ _ xs 0 _ h1 (by omega)).mono ?_; rintro e w' ⟨rfl, rfl⟩; rw [R0.out]; unfold rdV)
        go_ret2
        first | exact getPost_none hbad rfl (Ext.refl _) | exact getPost_none rfl rfl (Ext.refl _)
    · obtain ⟨M, rfl⟩ : ∃ M : Nat, m = (M : Int) := ⟨m.toNat, by omega⟩
      have hM : M ≤ 1000 := by omega
      have hgo : Hid (lget xs = match rdMany xs M at0 with | none => none | some (l, e) => if e = xs.length then some l else none) := by
        unfold Hid lget; rw [R0.out]; simp only [hm, if_false]; rfl
      clear hm
      go_enter Tryz.func79, Tryz.ntmps79
      go_wp2_with (go_at_call 95; refine (rread_any _ _ _ xs 0 _ h1 (by omega)).mono ?_; rintro e w' ⟨rfl, rfl⟩; rw [R0.out]; unfold rdV)
      go_loopw [5, 7, 8] (fun p o i wr => ∃ (k q c : Nat) (a : Option Addr) (ys : List Int), k ≤ M ∧ i = .int .i64 k ∧ p = .int .i64 q ∧ q ≤ 10 + 10 * k ∧ o = .slice a k c ∧ OwI .i64 3 w.heap.size wr a k c ys ∧ Ext w wr ∧
        (∀ x ∈ ys, (Lit.int .i64 x).wf = true) ∧ rdMany xs M at0 = (rdMany xs (M - k) q).map fun (l, e) => (ys ++ l, e)) (fun _ _ i _ => M - (intOf i).toNat)
      case atStart => exact ⟨0, at0, 0, none, [], by omega, rfl, rfl, by omega, rfl, OwI.nil _ _ _ _, Ext.refl _, by simp, by simp⟩
      case round =>
        obtain ⟨k, q, c, a, ys, hk, rfl, rfl, hq, rfl, ho, hE, hyw, hrm⟩ := hrel
        have HR := Lib.hid hrm
        have HY := Lib.hid hyw
        clear hrm hyw
        have h1' := h1.ext hE
        have hsz := hE.sz
        by_cases hlt : k < M
        · have hMk : M - k = (M - (k + 1)) + 1 := by omega
          have HMk := Lib.hid hMk
          clear hMk
          rcases hr1 : rdAt xs q with _ | ⟨x, next⟩
          · have R1 := Lib.hid hr1
            clear hr1
            go_wp2_with (go_at_call 95; refine (rread_any _ _ _ xs q _ h1' (by omega)).mono ?_; rintro e w' ⟨rfl, rfl⟩; rw [R1.out]; unfold rdV)
            go_ret2
            refine getPost_none ?_ rfl hE
            rw [hgo.out, HR.out, HMk.out]
            simp only [rdMany, R1.out]; rfl
          · have R1 := Lib.hid hr1
            have bd1 := rdAt_bd H0.out hr1
            clear hr1
            go_wp2_with (first | (go_at_call 95; refine (rread_any _ _ _ xs q _ h1' (by omega)).mono ?_; rintro e w' ⟨rfl, rfl⟩; rw [R1.out]; unfold rdV) | (at_builtin; refine app1 el_i64 rfl _ _ rfl _ w.heap.size _ _ _ _ _ rfl ho rfl (by omega) (by unfold maxLen; omega) (by omega) ?_; intro g c2 w2 hown2 hB2))
            go_roundw
            case rel =>
              refine ⟨k + 1, next, c2, _, _, by omega, by go_num, rfl, by omega, rfl, hown2, Below.trans hE hB2, ?_, ?_⟩
              · intro y hy
                rcases List.mem_append.1 hy with h | h
                · exact HY.out y h
                · simp only [List.mem_singleton] at h; subst h
                  simp [Lit.wf, IntKind.min, IntKind.max, IntKind.bits, IntKind.signed]; omega
              · rw [HR.out, HMk.out]
                simp only [rdMany, R1.out, Option.map_map]
                congr 1
                funext ⟨l, e⟩
                simp
            case measure => simp [intOf]; omega
        · obtain rfl : k = M := by omega
          have hfin : lget xs = if q = n1 then some ys else none := by
            rw [hgo.out, HR.out, Nat.sub_self]
            simp only [rdMany, Option.map_some, List.append_nil]
            rw [e1.out]
          have HF := Lib.hid hfin
          clear hfin
          by_cases hend : q = n1
          · have HE := Lib.hid hend
            have hq1 : ((q : Int) != n1) = false := by simp [hend]
            clear hend
            go_wp2
            go_ret2
            rw [HF.out, if_pos HE.out]
            have hl := ho.hlen
            subst hl
            exact ⟨a, c, rfl, ho, hE⟩
          · have HE := Lib.hid hend
            have hq1 : ((q : Int) != n1) = true := by simp; omega
            clear hend
            go_wp2
            go_ret2
            exact getPost_none (by rw [HF.out, if_neg HE.out]) rfl hE


/-- The three bytes of a length. -/
def len3 (n : Nat) : List Int := [((n / 65536 % 256 : Nat) : Int), ((n / 256 % 256 : Nat) : Int), ((n % 256 : Nat) : Int)]
/-- The frame of a list. -/
def lframe (xs : List Int) : List Int := len3 (lput xs).length ++ lput xs ++ dig8 (len3 (lput xs).length ++ lput xs)

theorem len3_wf (n : Nat) : ∀ x ∈ len3 n, (Lit.int .u8 x).wf = true := by
  intro x hx
  simp only [len3, List.mem_cons, List.not_mem_nil, or_false] at hx
  rcases hx with rfl | rfl | rfl <;> simp [Lit.wf, IntKind.min, IntKind.max, IntKind.bits, IntKind.signed] <;> omega
theorem app_wf {k : IntKind} {xs ys : List Int} (h1 : ∀ x ∈ xs, (Lit.int k x).wf = true) (h2 : ∀ x ∈ ys, (Lit.int k x).wf = true) : ∀ x ∈ xs ++ ys, (Lit.int k x).wf = true := by
  intro x hx; rcases List.mem_append.1 hx with h | h
  · exact h1 x h
  · exact h2 x h
theorem dig8_len (xs : List Int) : (dig8 xs).length = 8 := rfl
theorem lframe_wf (xs : List Int) : ∀ x ∈ lframe xs, (Lit.int .u8 x).wf = true := app_wf (app_wf (len3_wf _) (lput_wf _)) (be8_wf _)
theorem lframe_len (xs : List Int) : (lframe xs).length = (lput xs).length + 11 := by
  simp only [lframe, List.length_append, dig8_len]; simp [len3]; omega

end Go.Proofs.YtdmfdimhjemngaaGreatDoor

namespace Go.Proofs.YtdmfdimhjemngaaGreatDoor
open Go.RowKit Go.Sort
set_option linter.unusedSimpArgs false
set_option linter.unusedVariables false
set_option maxRecDepth 100000

theorem all_eq_of_nthL (xs ys : List (List Int)) (h : xs.length = ys.length) (hn : ∀ i, i < xs.length → nthL xs i = nthL ys i) : xs = ys := by
  apply List.ext_getElem h
  intro i h1 h2
  have := hn i h1
  simp [nthL, List.getD_eq_getElem?_getD, h1, h2] at this
  exact this

def beg (xs ys : List Int) : Bool := xs.take ys.length == ys

/-- The length that three bytes say. -/
def n3 (xs : List Int) : Nat := (nth xs 0 * 65536 + nth xs 1 * 256 + nth xs 2).toNat

/-- The list of the frame with which bytes begin, and the frame's length. -/
def lnext (xs : List Int) : Option (List Int × Nat) :=
  if xs.length < 3 then none else
  if xs.length < n3 xs + 11 then none else
  if dig8 (xs.take (n3 xs + 3)) = (xs.drop (n3 xs + 3)).take 8 then (lget ((xs.drop 3).take (n3 xs))).map fun l => (l, n3 xs + 11) else none

def NextPost (w w' : World) (e : Ending) (r : Option (List Int × Nat)) : Prop :=
  match r with
  | none => ∃ a n c m, e = .returned (.tuple #[.slice a n c, .int .i64 m, .bool false]) ∧ Ext w w'
  | some (l, n) => ∃ a c, e = .returned (.tuple #[.slice a l.length c, .int .i64 n, .bool true]) ∧ OwI .i64 3 w.heap.size w' a l.length c l ∧ (∀ x ∈ l, (Lit.int .i64 x).wf = true) ∧ Ext w w'

theorem nextPost_none {w w' : World} {e : Ending} {r : Option (List Int × Nat)} (hr : r = none) (a : Option Addr) (n c : Nat) (m : Int) (h : e = .returned (.tuple #[.slice a n c, .int .i64 m, .bool false])) (hE : Ext w w') : NextPost w w' e r := by
  subst hr; exact ⟨a, n, c, m, h, hE⟩
theorem nextPost_some {w w' : World} {e : Ending} {r : Option (List Int × Nat)} {l : List Int} {n : Nat} (hr : r = some (l, n)) (a : Option Addr) (c : Nat) (h : e = .returned (.tuple #[.slice a l.length c, .int .i64 n, .bool true])) (hs : OwI .i64 3 w.heap.size w' a l.length c l) (hw : ∀ x ∈ l, (Lit.int .i64 x).wf = true) (hE : Ext w w') : NextPost w w' e r := by
  subst hr; exact ⟨a, c, h, hs, hw, hE⟩

theorem lget_wf {xs l : List Int} (hw : ∀ x ∈ xs, (Lit.int .u8 x).wf = true) {i j : Nat} (h : lget ((xs.drop i).take j) = some l) : ∀ x ∈ l, (Lit.int .i64 x).wf = true := by
  unfold lget at h
  split at h
  · cases h
  · split at h
    · cases h
    · split at h
      · cases h
      · rename_i l' e hm
        split at h
        · cases h
          exact (rdMany_wf (fun x hx => hw x (List.mem_of_mem_drop (List.mem_of_mem_take hx))) _ _ _ _ hm).2
        · cases h

end Go.Proofs.YtdmfdimhjemngaaGreatDoor

namespace Go.Proofs.YtdmfdimhjemngaaGreatDoor
open Go.RowKit Go.Sort
set_option linter.unusedSimpArgs false
set_option linter.unusedVariables false
set_option maxRecDepth 100000

/-- The lists of the frames with which bytes begin, and how many bytes these have. -/
def lframes : Nat → List Int → List (List Int) × Nat
  | 0, _ => ([], 0)
  | f + 1, xs => match lnext xs with
    | none => ([], 0)
    | some (l, n) => (l :: (lframes f (xs.drop n)).1, n + (lframes f (xs.drop n)).2)

theorem lnext_bd {xs l : List Int} {n : Nat} (h : lnext xs = some (l, n)) : 11 ≤ n ∧ n ≤ xs.length := by
  unfold lnext at h
  split at h
  · cases h
  · split at h
    · cases h
    · split at h
      · simp only [Option.map_eq_some_iff, Prod.mk.injEq] at h
        obtain ⟨_, _, _, rfl⟩ := h
        omega
      · cases h

theorem lframes_nil (f : Nat) : lframes f [] = ([], 0) := by cases f <;> rfl
theorem lframes_step {f : Nat} {xs : List Int} (h : xs.length ≤ f) (hx : lnext xs = none) : lframes f xs = ([], 0) := by
  cases f with
  | zero => rfl
  | succ f => unfold lframes; rw [hx]
theorem lframes_more {f : Nat} {xs l : List Int} {n : Nat} (h : xs.length ≤ f) (hx : lnext xs = some (l, n)) : ∃ f', f = f' + 1 ∧ lframes f xs = (l :: (lframes f' (xs.drop n)).1, n + (lframes f' (xs.drop n)).2) := by
  have := lnext_bd hx
  cases f with
  | zero => omega
  | succ f => exact ⟨f, rfl, by rw [lframes, hx]⟩

def FramesPost (w w' : World) (e : Ending) (r : List (List Int) × Nat) : Prop :=
  ∃ a c, e = .returned (.tuple #[.slice a r.1.length c, .int .i64 r.2, .int .i64 0]) ∧ OwL .i64 25 w.heap.size w' a r.1.length c r.1 ∧ Ext w w'

end Go.Proofs.YtdmfdimhjemngaaGreatDoor
