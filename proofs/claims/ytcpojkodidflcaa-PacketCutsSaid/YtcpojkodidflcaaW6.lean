
import Derived.Test.YtcpojkodidflcaaW5
import Derived.Test.YtcpojkodidflcaaLib3
namespace Go.Proofs.Ytcpojkodidflcaa
open Go.RowKit Go.Sort
set_option linter.unusedSimpArgs false
set_option linter.unusedVariables false
set_option maxRecDepth 100000

/-- The lists of the frames with which bytes begin, and how many bytes these have. -/
def lframes : Nat → List Int → List (List Int) × Nat
  | 0, _ => ([], 0)
  | f + 1, xs => match lnext xs with
    | none => ([], 0)
    | some (l, n) => (l :: (lframes f (xs.drop n)).1, n + (lframes f (xs.drop n)).2)

theorem lnext_bd {xs l : List Int} {n : Nat} (h : lnext xs = some (l, n)) : 11 ≤ n ∧ n ≤ xs.length := by
  unfold lnext at h
  split at h
  · cases h
  · split at h
    · cases h
    · split at h
      · simp only [Option.map_eq_some_iff, Prod.mk.injEq] at h
        obtain ⟨_, _, _, rfl⟩ := h
        omega
      · cases h

theorem lframes_nil (f : Nat) : lframes f [] = ([], 0) := by cases f <;> rfl
theorem lframes_step {f : Nat} {xs : List Int} (h : xs.length ≤ f) (hx : lnext xs = none) : lframes f xs = ([], 0) := by
  cases f with
  | zero => rfl
  | succ f => unfold lframes; rw [hx]
theorem lframes_more {f : Nat} {xs l : List Int} {n : Nat} (h : xs.length ≤ f) (hx : lnext xs = some (l, n)) : ∃ f', f = f' + 1 ∧ lframes f xs = (l :: (lframes f' (xs.drop n)).1, n + (lframes f' (xs.drop n)).2) := by
  have := lnext_bd hx
  cases f with
  | zero => omega
  | succ f => exact ⟨f, rfl, by rw [lframes, hx]⟩

def FramesPost (w w' : World) (e : Ending) (r : List (List Int) × Nat) : Prop :=
  ∃ a c, e = .returned (.tuple #[.slice a r.1.length c, .int .i64 r.2, .int .i64 0]) ∧ OwL .i64 57 w.heap.size w' a r.1.length c r.1 ∧ Ext w w'

end Go.Proofs.Ytcpojkodidflcaa
