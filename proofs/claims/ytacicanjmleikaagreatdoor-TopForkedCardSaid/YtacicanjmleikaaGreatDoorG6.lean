/-
  Verifying, by both implementations, walked.
-/
import Derived.Test.YtacicanjmleikaaGreatDoorG5
import Derived.Deep.RegionWith
namespace Go.Proofs.YtacicanjmleikaaGreatDoor
open Go.RowKit Go.Sort Go.Shelf
set_option linter.unusedSimpArgs false
set_option linter.unusedVariables false
set_option maxRecDepth 100000

/-- What a pair begins with. -/
def backN (pub C S : Nat) : Nat := pw 2147483579 4 S * pw 2147483579 pub ((1073741789 - C) % 1073741789) % 2147483579
theorem backN_lt (pub C S : Nat) : backN pub C S < 2147483579 := Nat.mod_lt _ (by omega)

theorem mulN (a b : Nat) (ha : a < 2147483579) (hb : b < 2147483579) : (a : Int) * b = ((a * b : Nat) : Int) ∧ a * b ≤ 4611686000000000000 := by
  have h1 : a * b ≤ 2147483578 * 2147483578 := Nat.mul_le_mul (by omega) (by omega)
  exact ⟨by push_cast; rfl, by omega⟩

theorem toExt {P : Program} {f : FuncId} {args : Array Value} {w : World} {v : Value} (h : Calls P f args w fun e w' => e = .returned v ∧ w' = w) : Calls P f args w fun e w' => e = .returned v ∧ Ext w w' :=
  h.mono fun e w' ⟨h1, h2⟩ => ⟨h1, by rw [h2]; exact Ext.refl w⟩

end Go.Proofs.YtacicanjmleikaaGreatDoor
