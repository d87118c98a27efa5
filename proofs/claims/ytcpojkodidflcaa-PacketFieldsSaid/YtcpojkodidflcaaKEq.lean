/-
  What '==' says of two requests and of two replies.
-/
import Derived.Test.YtcpojkodidflcaaKP
import Derived.Laws.StructEq
import Derived.Laws.Tables
import Derived.Laws.Cover2
namespace Go.Proofs.Ytcpojkodidflcaa
open Go.RowKit Go.Sort Go.Shelf
set_option linter.unusedSimpArgs false
set_option linter.unusedVariables false
set_option maxRecDepth 100000

theorem eqReq (h a r n h' a' r' n' : Int) (w : World) : (Op.equalIn 10000 24 (.agg #[.int .i64 h, .int .i64 a, .int .i64 r, .int .u64 n]) (.agg #[.int .i64 h', .int .i64 a', .int .i64 r', .int .u64 n'])).run Try.prog w = .ok (decide (h = h' ∧ a = a' ∧ r = r' ∧ n = n')) w := by
  have u3 := Try.underlying3
  have a3 := Try.isAgg3
  have z3 := Try.sizeOf3
  have u4 := Try.underlying22
  have a4 := Try.isAgg22
  have z4 := Try.sizeOf22
  have hS : Try.prog.underlying 24 = some (.struct (Try.prog.fieldsOf 24)) := by kernel_rfl
  have hp : Try.prog.stoodInHeld 24 = false := by kernel_rfl
  rw [show (10000 : Nat) = 9999 + 1 from rfl, run_equalIn_agg w 9999 24 _ _ hS hp]
  simp only [Program.fieldsOf, Try.underlying24]
  go_simp
  by_cases h1 : h = h' <;> by_cases h2 : a = a' <;> by_cases h3 : r = r' <;> by_cases h4 : n = n' <;> simp [h1, h2, h3, h4]

theorem eqRep (a h r n lo hi k t c s a' h' r' n' lo' hi' k' t' c' s' : Int) (w : World) : (Op.equalIn 10000 30 (.agg #[.int .i64 a, .int .i64 h, .int .i64 r, .int .u64 n, .int .i64 lo, .int .i64 hi, .int .i64 k, .int .i64 t, .int .i64 c, .int .i64 s]) (.agg #[.int .i64 a', .int .i64 h', .int .i64 r', .int .u64 n', .int .i64 lo', .int .i64 hi', .int .i64 k', .int .i64 t', .int .i64 c', .int .i64 s'])).run Try.prog w = .ok (decide ((⟨a, h, r, n, lo, hi, k, t, c, s⟩ : Rep) = ⟨a', h', r', n', lo', hi', k', t', c', s'⟩)) w := by
  have u3 := Try.underlying3
  have a3 := Try.isAgg3
  have z3 := Try.sizeOf3
  have u4 := Try.underlying22
  have a4 := Try.isAgg22
  have z4 := Try.sizeOf22
  have u5 := Try.isAgg26
  have z5 := Try.sizeOf26
  have u6 := Try.isAgg28
  have z6 := Try.sizeOf28
  have hS : Try.prog.underlying 30 = some (.struct (Try.prog.fieldsOf 30)) := by kernel_rfl
  have hp : Try.prog.stoodInHeld 30 = false := by kernel_rfl
  have hS5 : Try.prog.underlying 26 = some (.struct (Try.prog.fieldsOf 26)) := by kernel_rfl
  have hp5 : Try.prog.stoodInHeld 26 = false := by kernel_rfl
  have hS6 : Try.prog.underlying 28 = some (.struct (Try.prog.fieldsOf 28)) := by kernel_rfl
  have hp6 : Try.prog.stoodInHeld 28 = false := by kernel_rfl
  have e5 : ∀ (x y x' y' : Int) (w : World), (Op.equalIn 9999 26 (.agg #[.int .i64 x, .int .i64 y]) (.agg #[.int .i64 x', .int .i64 y'])).run Try.prog w = .ok (decide (x = x' ∧ y = y')) w := by
    intro x y x' y' w
    rw [show (9999 : Nat) = 9998 + 1 from rfl, run_equalIn_agg w 9998 26 _ _ hS5 hp5]
    simp only [Program.fieldsOf, Try.underlying26]
    go_simp
    by_cases h1 : x = x' <;> by_cases h2 : y = y' <;> simp [h1, h2]
  have e6 : ∀ (x y x' y' : Int) (w : World), (Op.equalIn 9999 28 (.agg #[.int .i64 x, .int .i64 y]) (.agg #[.int .i64 x', .int .i64 y'])).run Try.prog w = .ok (decide (x = x' ∧ y = y')) w := by
    intro x y x' y' w
    rw [show (9999 : Nat) = 9998 + 1 from rfl, run_equalIn_agg w 9998 28 _ _ hS6 hp6]
    simp only [Program.fieldsOf, Try.underlying28]
    go_simp
    by_cases h1 : x = x' <;> by_cases h2 : y = y' <;> simp [h1, h2]
  rw [show (10000 : Nat) = 9999 + 1 from rfl, run_equalIn_agg w 9999 30 _ _ hS hp]
  simp only [Program.fieldsOf, Try.underlying30]
  go_simp
  by_cases h0 : a = a'
  · by_cases h1 : h = h'
    · by_cases h2 : r = r'
      · by_cases h3 : n = n'
        · by_cases h4 : lo = lo'
          · by_cases h5 : hi = hi'
            · by_cases h6 : k = k'
              · by_cases h7 : t = t'
                · by_cases h8 : c = c'
                  · by_cases h9 : s = s'
                    · simp [h0, h1, h2, h3, h4, h5, h6, h7, h8, h9, e5, e6]
                    · simp [h0, h1, h2, h3, h4, h5, h6, h7, h8, h9, e5, e6]
                  · simp [h0, h1, h2, h3, h4, h5, h6, h7, h8, e5, e6]
                · simp [h0, h1, h2, h3, h4, h5, h6, h7, e5, e6]
              · simp [h0, h1, h2, h3, h4, h5, h6, e5, e6]
            · simp [h0, h1, h2, h3, h4, h5, e5, e6]
          · simp [h0, h1, h2, h3, h4, e5, e6]
        · simp [h0, h1, h2, h3, e5, e6]
      · simp [h0, h1, h2, e5, e6]
    · simp [h0, h1, e5, e6]
  · simp [h0, e5, e6]
end Go.Proofs.Ytcpojkodidflcaa
