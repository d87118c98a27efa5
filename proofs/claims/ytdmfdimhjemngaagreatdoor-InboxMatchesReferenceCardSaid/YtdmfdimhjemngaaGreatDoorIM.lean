/-
  The map of the nonces, plain.
-/
import Derived.Test.YtdmfdimhjemngaaGreatDoorIB
import Derived.Maps.OwnSet
namespace Go.Proofs.YtdmfdimhjemngaaGreatDoor
open Go.RowKit Go.Sort Go.Shelf Go.Maps
set_option linter.unusedSimpArgs false
set_option linter.unusedVariables false

def stepD (b : Bx) (D : DataW Unit) (a : Int) : DataW Unit := D.put (.int .i64 a) (.lit (.int .u64 (nonF b.head b.host b.round a)))
/-- The map after k rounds. -/
def nonD (b : Bx) (k : Nat) : DataW Unit := (b.asked.take k).foldl (stepD b) (.map [])
theorem key_ne {a x : Int} (h : a ≠ x) : Lit.int .i64 a ≠ Lit.int .i64 x := fun e => h (by injection e)
theorem stepD_map {b : Bx} {D : DataW Unit} (h : IsMap D) (a : Int) : IsMap (stepD b D a) := h.put _ _
theorem nonL_has (b : Bx) (a : Int) : ∀ (l : List Int) (D : DataW Unit), IsMap D → Maps.has (l.foldl (stepD b) D) (.int .i64 a) = (decide (a ∈ l) || Maps.has D (.int .i64 a))
  | [], D, _ => by simp
  | x :: l, D, h => by
    rw [List.foldl_cons, nonL_has b a l _ (stepD_map h x)]
    by_cases e : a = x
    · subst e
      unfold stepD
      rw [has_put_same h (by simp [WideAt.IsKeyLit])]
      simp
    · unfold stepD
      rw [has_put_other (key_ne e)]
      simp [e]
theorem nonL_at (b : Bx) (a : Int) : ∀ (l : List Int) (D : DataW Unit), IsMap D → (a ∈ l ∨ ∀ z, D.atKey (.int .i64 a) z = .lit (.int .u64 (nonF b.head b.host b.round a))) → ∀ z, (l.foldl (stepD b) D).atKey (.int .i64 a) z = .lit (.int .u64 (nonF b.head b.host b.round a))
  | [], D, _, h, z => by
    rcases h with h | h
    · cases h
    · exact h z
  | x :: l, D, hD, h, z => by
    rw [List.foldl_cons]
    refine nonL_at b a l _ (stepD_map hD x) ?_ z
    by_cases e : a = x
    · subst e
      exact .inr fun z => by unfold stepD; rw [atKey_put_same hD (by simp [WideAt.IsKeyLit])]
    · rcases h with h | h
      · rcases List.mem_cons.1 h with h | h
        · exact absurd h e
        · exact .inl h
      · exact .inr fun z => by unfold stepD; rw [atKey_put_other (key_ne e)]; exact h z
theorem nonD_succ {b : Bx} {k : Nat} (h : k < b.asked.length) : nonD b (k + 1) = (nonD b k).put (.int .i64 (nth b.asked k)) (.lit (.int .u64 (nonF b.head b.host b.round (nth b.asked k)))) := by
  unfold nonD
  rw [List.take_succ_eq_append_getElem h, List.foldl_append]
  rw [show nth b.asked k = b.asked[k] by simp [nth, List.getD_eq_getElem?_getD, h]]
  rfl
theorem nonD_zero (b : Bx) : nonD b 0 = .map [] := rfl
theorem nonD_has (b : Bx) (a : Int) : Maps.has (nonD b b.asked.length) (.int .i64 a) = decide (a ∈ b.asked) := by
  unfold nonD
  rw [List.take_length, nonL_has b a _ _ isMap_empty]
  simp [Maps.has]
theorem nonD_at (b : Bx) (a : Int) (h : a ∈ b.asked) (z : DataW Unit) : (nonD b b.asked.length).atKey (.int .i64 a) z = .lit (.int .u64 (nonF b.head b.host b.round a)) := by
  unfold nonD
  rw [List.take_length]
  exact nonL_at b a _ _ isMap_empty (.inl h) z
end Go.Proofs.YtdmfdimhjemngaaGreatDoor
