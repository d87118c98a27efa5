/-
  strconv.AppendInt at base 10, laid at this seat.
-/
import Derived.Test.YtfohekfhcolnfaaDoorD1
import Derived.Test.YtfohekfhcolnfaaDoorSh
import Derived.Test.YtfohekfhcolnfaaDoorRow
import Derived.Lib.ItoaLen
namespace Go.Proofs.YtfohekfhcolnfaaDoor
open Go.RowKit Go.Sort
set_option linter.unusedSimpArgs false
set_option linter.unusedVariables false

/-- The decimal text of an integer, as integers. -/
def dec (n : Int) : List Int := (Lib.itoa n).map fun b => (b.toNat : Int)

theorem byteCells_dec (n : Int) : Lib.byteCells (Lib.itoa n) = (dec n).map (Value.int .u8) := by
  simp [Lib.byteCells, dec, List.map_map, Function.comp_def]

theorem dec_len (n : Int) : (dec n).length = (Lib.itoa n).length := by simp [dec]

theorem appendInt_any (B : Nat) (i : Int) (h0 : -9223372036854775808 ≤ i) (h1 : i ≤ 9223372036854775807) (a : Option Addr) (n c : Nat) (xs : List Int) (w : World) (hown : OwI .u8 5 B w a n c xs) (hBw : B ≤ w.heap.size) (hlim : n + 21 ≤ 140737488355328)
    (htab : Lib.TabBelow Tryd.prog B w "internal/strconv.uint64pow10" .u64 Lib.pow10Tab) :
    Calls Tryd.prog 56 #[.slice a n c, .int .i64 i, .int .i64 10] w fun e w' => ∃ a' c', e = .returned (.slice a' (n + (dec i).length) c') ∧ OwI .u8 5 B w' a' (n + (dec i).length) c' (xs ++ dec i) ∧ Below B w w' := by
  refine (Any.strconv_AppendInt_10 laysAI B n i h0 h1 (.slice a n c) _ w hown hBw hlim htab).mono ?_
  rintro e w' ⟨v', rfl, ho, hB, _⟩
  rw [byteCells_dec, ← dec_len] at ho
  have hv : ∃ a' c', v' = .slice a' (n + (dec i).length) c' := by
    rcases ho.2 with ⟨hv, h0⟩ | ⟨g, cap, cur, hv, _⟩
    · exact ⟨none, 0, by rw [hv]; congr 1; omega⟩
    · exact ⟨_, _, hv⟩
  obtain ⟨a', c', rfl⟩ := hv
  exact ⟨a', c', rfl, by unfold OwI; rw [List.map_append]; exact ho, hB⟩
end Go.Proofs.YtfohekfhcolnfaaDoor
