/-
  The head of the laws of digests.
-/
import Derived.Test.YtacicanjmleikaaGreatDoorD11
import Derived.Lib.SmallJoins
import Derived.Lib.SlBytesConst
namespace Go.Proofs.YtacicanjmleikaaGreatDoor
open Go.RowKit Go.Sort
set_option linter.unusedSimpArgs false
set_option linter.unusedVariables false
set_option maxRecDepth 100000

theorem litSl (k : IntKind) (E : TypeId) (w : World) (b n : Nat) (xs : List Int) (cs : Array Value) (hb : w.heap.size = b) (hn : xs.length = n) (hcs : cs.toList = xs.map (Value.int k)) (hm : xs.length ≤ maxLen) (hw : ∀ x ∈ xs, (Lit.int k x).wf = true) :
    Sl k (w.alloc (.cells cs E)) (some ⟨b, 0, none⟩) n n xs := by
  subst hb hn
  exact (OwI.lit k E (base := w.heap.size) w xs (Nat.le_refl _) hm cs hcs).sl hw

theorem sum_is (a1 : Option Addr) (n1 c1 : Nat) (xs : List Int) (v : Int) (hv : fnv xs = v) (w : World) (h1 : Sl .u8 w a1 n1 c1 xs) :
    Calls Tryz.prog 97 #[.slice a1 n1 c1] w fun e w' => e = .returned (.int .u64 v) ∧ w = w' := by
  subst hv; exact sum_any a1 n1 c1 xs w h1

theorem fnv_nil : fnv [] = 14695981039346656037 := rfl
theorem fnv_a : fnv [97] = 12638187200555641996 := by decide
theorem fnv_foobar : fnv [102, 111, 111, 98, 97, 114] = 9625390261332436968 := by decide
theorem txt_12 : txt [12, -3] = [49, 50, 32, 45, 51, 32] := by
  have h1 : Lib.itoa 12 = [49, 50] := by rw [show (12 : Int) = ((12 : Nat) : Int) from rfl, Lib.itoa_nonneg, Lib.decDigits]; simp; rw [Lib.decDigits]; decide
  have h2 : Lib.itoa (-3) = [45, 51] := by rw [show (-3 : Int) = -((3 : Nat) : Int) from rfl, Lib.itoa_neg 3 (by omega), Lib.decDigits]; decide
  simp [txt, dec, h1, h2]
theorem txt_5 : txt [5] = [53, 32] := by
  have h1 : Lib.itoa 5 = [53] := by rw [show (5 : Int) = ((5 : Nat) : Int) from rfl, Lib.itoa_nonneg, Lib.decDigits]; decide
  simp [txt, dec, h1]
theorem be8_97 : be8 97 = [0, 0, 0, 0, 0, 0, 0, 97] := by decide
theorem be8_1 : be8 1 = [0, 0, 0, 0, 0, 0, 0, 1] := by decide
theorem be8_256 : be8 256 = [0, 0, 0, 0, 0, 0, 1, 0] := by decide

theorem sum_lit (E : TypeId) (W : World) (b n : Nat) (xs : List Int) (v : Int) (hv : fnv xs = v) (cs : Array Value) (hb : W.heap.size = b) (hn : xs.length = n) (hcs : cs.toList = xs.map (Value.int .u8)) (hm : xs.length ≤ maxLen) (hw : ∀ x ∈ xs, (Lit.int .u8 x).wf = true) :
    Calls Tryz.prog 97 #[.slice (some ⟨b, 0, none⟩) n n] (W.alloc (.cells cs E)) fun e w' => e = .returned (.int .u64 v) ∧ W.alloc (.cells cs E) = w' :=
  sum_is _ _ _ xs v hv _ (litSl .u8 E W b n xs cs hb hn hcs hm hw)

theorem markSl (k : IntKind) (E : TypeId) (fr : Nat × Nat) (w : World) (b n : Nat) (xs : List Int) (cs : Array Value) (hb : w.heap.size = b) (hn : xs.length = n) (hcs : cs.toList = xs.map (Value.int k)) (hm : xs.length ≤ maxLen) (hw : ∀ x ∈ xs, (Lit.int k x).wf = true) :
    Sl k (w.alloc (.cells cs E fr)) (some ⟨b, 0, none⟩) n n xs := by
  subst hb hn
  refine ⟨rfl, Nat.le_refl _, hm, fun i hi => ⟨_, _, rfl, ?_⟩, hw⟩
  rw [World.cell?_alloc_mark, ← Array.getElem?_toList, hcs, List.getElem?_map, Nat.zero_add, List.getElem?_eq_getElem hi]
  simp [nth, List.getD_eq_getElem?_getD, hi]

theorem sum_mark (E : TypeId) (fr : Nat × Nat) (W : World) (b n : Nat) (xs : List Int) (v : Int) (hv : fnv xs = v) (cs : Array Value) (hb : W.heap.size = b) (hn : xs.length = n) (hcs : cs.toList = xs.map (Value.int .u8)) (hm : xs.length ≤ maxLen) (hw : ∀ x ∈ xs, (Lit.int .u8 x).wf = true) :
    Calls Tryz.prog 97 #[.slice (some ⟨b, 0, none⟩) n n] (W.alloc (.cells cs E fr)) fun e w' => e = .returned (.int .u64 v) ∧ W.alloc (.cells cs E fr) = w' :=
  sum_is _ _ _ xs v hv _ (markSl .u8 E fr W b n xs cs hb hn hcs hm hw)

end Go.Proofs.YtacicanjmleikaaGreatDoor
