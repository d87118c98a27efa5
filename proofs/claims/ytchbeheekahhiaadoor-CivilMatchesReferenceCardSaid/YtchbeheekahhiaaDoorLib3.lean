/-
  's[m:]' of a slice of one-cell elements, under one name.
-/
import Derived.Test.YtchbeheekahhiaaDoorLib2
namespace Go.Proofs.YtchbeheekahhiaaDoor
open Go.RowKit Go.Sort
set_option linter.unusedSimpArgs false
set_option linter.unusedVariables false

/-- Where 's[m:]' lies. -/
def subA (a : Option Addr) (c m : Nat) : Option Addr := if c = m then a else a.map (·.add m)

theorem run_from {P : Program} {T : TypeId} (ht : P.underlying T = some (.slice (P.elem T))) (hs : ∀ w, (sizeOf (P.elem T)).run P w = .ok 1 w) (a : Option Addr) (n c m : Nat) (hm : m ≤ n) (w : World) :
    (Instr.slice T (.slice a n c) (some (.int .i64 (m : Int))) none none).run P w = .ok (.slice (subA a c m) (n - m) (c - m)) w := by
  rw [run_slice_l w T a n c ht .i64 (m : Int) (by omega) (by omega), hs]
  simp [Result.andThen, sliced, subA]

theorem Sl.from {k : IntKind} {w : World} {a : Option Addr} {n c : Nat} {xs : List Int} (h : Sl k w a n c xs) {m : Nat} (hm : m ≤ n) : Sl k w (subA a c m) (n - m) (c - m) (xs.drop m) := by
  have hle := h.le
  rcases Nat.eq_or_lt_of_le hm with rfl | hlt
  · refine ⟨by rw [List.length_drop, h.hlen], by omega, by have := h.max; omega, fun i hi => absurd hi (by omega), fun x hx => h.wf x (List.mem_of_mem_drop hx)⟩
  · obtain ⟨b, off, rfl, hc⟩ := h.at (by omega)
    have hs : subA (some ⟨b, off, none⟩) c m = some ⟨b, off + m, none⟩ := by
      unfold subA; rw [if_neg (by omega)]
      by_cases h0 : m = 0
      · subst h0; simp [Addr.add]
      · simp [Addr.add, h0]
    rw [hs]
    exact h.drop (by omega) (c - m) (by omega) (by omega)

end Go.Proofs.YtchbeheekahhiaaDoor
