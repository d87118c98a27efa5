
import Derived.Test.YtcohdojfbnijpaaDoorLibA
namespace Go.Proofs.YtcohdojfbnijpaaDoor
open Go.RowKit
set_option linter.unusedSimpArgs false
set_option linter.unusedVariables false
set_option maxRecDepth 100000

theorem all_eq_of_nth (xs ys : List Int) (h : xs.length = ys.length) (hn : ∀ i, i < xs.length → nth xs i = nth ys i) : xs = ys := by
  apply List.ext_getElem h
  intro i h1 h2
  have := hn i h1
  simp [nth, List.getD_eq_getElem?_getD, h1, h2] at this
  exact this

/-- FNV-1a, one byte. -/
def fnv1 (h x : Int) : Int := IntKind.u64.wrap (bits .xor .u64 h x * 1099511628211)
/-- FNV-1a. -/
def fnv (xs : List Int) : Int := xs.foldl fnv1 14695981039346656037


theorem fnv_succ {xs : List Int} {k : Nat} (h : k < xs.length) : fnv (xs.take (k+1)) = fnv1 (fnv (xs.take k)) (nth xs k) := by
  unfold fnv; rw [take_nth_succ h, List.foldl_append]; rfl

set_option maxHeartbeats 400000 in
theorem sum_any (a1 : Option Addr) (n1 c1 : Nat) (xs : List Int) (w : World) (h1 : Sl .u8 w a1 n1 c1 xs) :
    Calls Tryd.prog 91 #[.slice a1 n1 c1] w fun e w' => e = .returned (.int .u64 (fnv xs)) ∧ w = w' := by
  have b1 := h1.bd
  have e1 := Lib.hid h1.hlen
  go_enter Tryd.func91, Tryd.ntmps91
  go_wp2
  go_loop [3, 8] (fun h i => ∃ k : Nat, k ≤ n1 ∧ i = .int .i64 k ∧ h = .int .u64 (fnv (xs.take k))) (fun _ i => n1 - (intOf i).toNat)
  case atStart => exact ⟨0, by omega, rfl, rfl⟩
  case round =>
    obtain ⟨k, hk, rfl, rfl⟩ := hrel
    by_cases hlt : k < n1
    · obtain ⟨x1, o1, rfl, hc1⟩ := h1.at (by omega)
      have g1 := hc1 k hlt
      have w1 := wf_u8 (h1.wfAt hlt)
      clear hc1
      go_wp2
      go_round
      case rel => exact ⟨k+1, by omega, by go_num, by rw [fnv_succ (by rw [e1.out]; omega)]; rfl⟩
      case measure => simp [intOf]; omega
    · go_wp2
      go_ret
      exact ⟨ret_int (by rw [List.take_of_length_le (by have := e1.out; omega)]), rfl⟩

set_option maxHeartbeats 400000 in
theorem rsum_any (a1 : Option Addr) (n1 c1 : Nat) (xs : List Int) (w : World) (h1 : Sl .u8 w a1 n1 c1 xs) :
    Calls Tryd.prog 82 #[.slice a1 n1 c1] w fun e w' => e = .returned (.int .u64 (fnv xs)) ∧ w = w' := by
  have b1 := h1.bd
  have e1 := Lib.hid h1.hlen
  go_enter Tryd.func82, Tryd.ntmps82
  go_wp2
  go_loop [3, 4] (fun h i => ∃ k : Nat, k ≤ n1 ∧ i = .int .i64 k ∧ h = .int .u64 (fnv (xs.take k))) (fun _ i => n1 - (intOf i).toNat)
  case atStart => exact ⟨0, by omega, rfl, rfl⟩
  case round =>
    obtain ⟨k, hk, rfl, rfl⟩ := hrel
    by_cases hlt : k < n1
    · obtain ⟨x1, o1, rfl, hc1⟩ := h1.at (by omega)
      have g1 := hc1 k hlt
      have w1 := wf_u8 (h1.wfAt hlt)
      clear hc1
      go_wp2
      go_round
      case rel => exact ⟨k+1, by omega, by go_num, by rw [fnv_succ (by rw [e1.out]; omega)]; rfl⟩
      case measure => simp [intOf]; omega
    · go_wp2
      go_ret
      exact ⟨ret_int (by rw [List.take_of_length_le (by have := e1.out; omega)]), rfl⟩

/-! ### one: the bytes of an integer -/
theorem el_u8 : ElT Tryd.prog 97 5 (.int .u8 0) 1 1 := ⟨by kernel_rfl, by kernel_rfl⟩
theorem el_i64 : ElT Tryd.prog 55 3 (.int .i64 0) 1 8 := ⟨by kernel_rfl, by kernel_rfl⟩

/-- The number of an integer. -/
def num (n : Int) : Nat := if n < 0 then (2 * (-1 - n) + 1).toNat else (2 * n).toNat
/-- Its digits with the base 128. -/
def digs (u : Nat) : List Int := if h : u < 128 then [(u : Int)] else ((u % 128 + 128 : Nat) : Int) :: digs (u / 128)
termination_by u

theorem digs_small {u : Nat} (h : u < 128) : digs u = [(u : Int)] := by rw [digs]; simp [h]
theorem digs_big {u : Nat} (h : ¬ u < 128) : digs u = ((u % 128 + 128 : Nat) : Int) :: digs (u / 128) := by rw [digs]; simp [h]

theorem digs_wf (u : Nat) : ∀ x ∈ digs u, (Lit.int .u8 x).wf = true := by
  induction u using Nat.strongRecOn with
  | _ u ih =>
    by_cases h : u < 128
    · rw [digs_small h]; intro x hx; simp at hx; subst hx; simp [Lit.wf, IntKind.min, IntKind.max, IntKind.bits, IntKind.signed]; omega
    · rw [digs_big h]; intro x hx
      rcases List.mem_cons.1 hx with rfl | hx
      · simp [Lit.wf, IntKind.min, IntKind.max, IntKind.bits, IntKind.signed]; omega
      · exact ih _ (by omega) x hx

theorem digs_len (u : Nat) : 1 ≤ (digs u).length ∧ ∀ m, u < 128 ^ m → (digs u).length ≤ max m 1 := by
  induction u using Nat.strongRecOn with
  | _ u ih =>
    by_cases h : u < 128
    · rw [digs_small h]; exact ⟨by simp, fun m _ => by simp; omega⟩
    · rw [digs_big h]
      refine ⟨by simp, fun m hm => ?_⟩
      rcases m with _ | m
      · simp at hm; omega
      · have := (ih (u / 128) (by omega)).2 m (by rw [Nat.pow_succ] at hm; omega)
        rcases m with _ | m
        · simp at hm; omega
        · simp; omega

theorem num_lt {n : Int} (h : -9223372036854775808 ≤ n ∧ n ≤ 9223372036854775807) : num n < 18446744073709551616 := by unfold num; split <;> omega
theorem digs_num_len {n : Int} (h : -9223372036854775808 ≤ n ∧ n ≤ 9223372036854775807) : 1 ≤ (digs (num n)).length ∧ (digs (num n)).length ≤ 10 := by
  refine ⟨(digs_len _).1, ?_⟩
  have := (digs_len (num n)).2 10 (by have := num_lt h; omega)
  simpa using this

theorem num_neg {n : Int} (h : n < 0) : (num n : Int) = 2 * (-1 - n) + 1 := by unfold num; rw [if_pos h]; omega
theorem num_pos {n : Int} (h : ¬ n < 0) : (num n : Int) = 2 * n := by unfold num; rw [if_neg h]; omega

end Go.Proofs.YtcohdojfbnijpaaDoor
