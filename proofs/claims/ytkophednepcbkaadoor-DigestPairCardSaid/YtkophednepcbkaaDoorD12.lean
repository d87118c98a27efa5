/-
  The head of the laws of digests.
-/
import Derived.Test.YtkophednepcbkaaDoorD11
import Derived.Lib.SmallJoins
import Derived.Lib.SlBytesConst
namespace Go.Proofs.YtkophednepcbkaaDoor
open Go.RowKit Go.Sort
set_option linter.unusedSimpArgs false
set_option linter.unusedVariables false
set_option maxRecDepth 100000

theorem litSl (k : IntKind) (E : TypeId) (w : World) (b n : Nat) (xs : List Int) (cs : Array Value) (hb : w.heap.size = b) (hn : xs.length = n) (hcs : cs.toList = xs.map (Value.int k)) (hm : xs.length ≤ maxLen) (hw : ∀ x ∈ xs, (Lit.int k x).wf = true) :
    Sl k (w.alloc (.cells cs E)) (some ⟨b, 0, none⟩) n n xs := by
  subst hb hn
  exact (OwI.lit k E (base := w.heap.size) w xs (Nat.le_refl _) hm cs hcs).sl hw

theorem sum_is (a1 : Option Addr) (n1 c1 : Nat) (xs : List Int) (v : Int) (hv : fnv xs = v) (w : World) (h1 : Sl .u8 w a1 n1 c1 xs) :
    Calls Tryd.prog 10 #[.slice a1 n1 c1] w fun e w' => e = .returned (.int .u64 v) ∧ w = w' := by
  subst hv; exact sum_any a1 n1 c1 xs w h1

theorem fnv_nil : fnv [] = 14695981039346656037 := rfl
theorem fnv_a : fnv [97] = 12638187200555641996 := by decide
theorem fnv_foobar : fnv [102, 111, 111, 98, 97, 114] = 9625390261332436968 := by decide
theorem txt_12 : txt [12, -3] = [49, 50, 32, 45, 51, 32] := by
  have h1 : Lib.itoa 12 = [49, 50] := by rw [show (12 : Int) = ((12 : Nat) : Int) from rfl, Lib.itoa_nonneg, Lib.decDigits]; simp; rw [Lib.decDigits]; decide
  have h2 : Lib.itoa (-3) = [45, 51] := by rw [show (-3 : Int) = -((3 : Nat) : Int) from rfl, Lib.itoa_neg 3 (by omega), Lib.decDigits]; decide
  simp [txt, dec, h1, h2]
theorem txt_5 : txt [5] = [53, 32] := by
  have h1 : Lib.itoa 5 = [53] := by rw [show (5 : Int) = ((5 : Nat) : Int) from rfl, Lib.itoa_nonneg, Lib.decDigits]; decide
  simp [txt, dec, h1]
theorem be8_97 : be8 97 = [0, 0, 0, 0, 0, 0, 0, 97] := by decide
theorem be8_1 : be8 1 = [0, 0, 0, 0, 0, 0, 0, 1] := by decide
theorem be8_256 : be8 256 = [0, 0, 0, 0, 0, 0, 1, 0] := by decide

def digHead : Prop := ∀ w : World, Lib.TabBelow Tryd.prog w.heap.size w "internal/strconv.uint64pow10" .u64 Lib.pow10Tab →
    Calls Tryd.prog 9 #[] w fun e w' => e = .returned (.bool true) ∧ Ext w w'

theorem sum_lit (E : TypeId) (W : World) (b n : Nat) (xs : List Int) (v : Int) (hv : fnv xs = v) (cs : Array Value) (hb : W.heap.size = b) (hn : xs.length = n) (hcs : cs.toList = xs.map (Value.int .u8)) (hm : xs.length ≤ maxLen) (hw : ∀ x ∈ xs, (Lit.int .u8 x).wf = true) :
    Calls Tryd.prog 10 #[.slice (some ⟨b, 0, none⟩) n n] (W.alloc (.cells cs E)) fun e w' => e = .returned (.int .u64 v) ∧ W.alloc (.cells cs E) = w' :=
  sum_is _ _ _ xs v hv _ (litSl .u8 E W b n xs cs hb hn hcs hm hw)

theorem markSl (k : IntKind) (E : TypeId) (fr : Nat × Nat) (w : World) (b n : Nat) (xs : List Int) (cs : Array Value) (hb : w.heap.size = b) (hn : xs.length = n) (hcs : cs.toList = xs.map (Value.int k)) (hm : xs.length ≤ maxLen) (hw : ∀ x ∈ xs, (Lit.int k x).wf = true) :
    Sl k (w.alloc (.cells cs E fr)) (some ⟨b, 0, none⟩) n n xs := by
  subst hb hn
  refine ⟨rfl, Nat.le_refl _, hm, fun i hi => ⟨_, _, rfl, ?_⟩, hw⟩
  rw [World.cell?_alloc_mark, ← Array.getElem?_toList, hcs, List.getElem?_map, Nat.zero_add, List.getElem?_eq_getElem hi]
  simp [nth, List.getD_eq_getElem?_getD, hi]

theorem sum_mark (E : TypeId) (fr : Nat × Nat) (W : World) (b n : Nat) (xs : List Int) (v : Int) (hv : fnv xs = v) (cs : Array Value) (hb : W.heap.size = b) (hn : xs.length = n) (hcs : cs.toList = xs.map (Value.int .u8)) (hm : xs.length ≤ maxLen) (hw : ∀ x ∈ xs, (Lit.int .u8 x).wf = true) :
    Calls Tryd.prog 10 #[.slice (some ⟨b, 0, none⟩) n n] (W.alloc (.cells cs E fr)) fun e w' => e = .returned (.int .u64 v) ∧ W.alloc (.cells cs E fr) = w' :=
  sum_is _ _ _ xs v hv _ (markSl .u8 E fr W b n xs cs hb hn hcs hm hw)

set_option maxHeartbeats 1000000 in
theorem head_any : digHead := by
  intro w htab
  have HT := Lib.hid htab
  clear htab
  have kc := fun (w : World) (C : Array Value) (n c : Nat) => Lib.run_convert_bytes_const (P := Tryd.prog) w 22 5 C n c Tryd.underlying22 Tryd.underlying5
  go_enter Tryd.func9, Tryd.ntmps9
  go_wp2_with fail
  refine (sum_is none 0 0 [] _ fnv_nil w ((OwI.nil .u8 0 0 w).sl (by simp))).mono ?_
  rintro e w1 ⟨rfl, rfl⟩
  go_wp2_with fail
  refine (sum_mark 5 (1, 2) w _ 1 [97] _ fnv_a #[.int .u8 97] rfl rfl rfl (by simp [maxLen]) (by decide)).mono ?_
  rintro e w' ⟨rfl, rfl⟩
  have hE_w1 : Ext w (w.alloc (.cells #[.int .u8 97] 5 (1, 2))) := (Ext.refl w).alloc _
  generalize w.alloc (.cells #[.int .u8 97] 5 (1, 2)) = w1 at hE_w1 ⊢
  go_wp2_with fail
  refine (sum_mark 5 (6, 7) w1 _ 6 [102, 111, 111, 98, 97, 114] _ fnv_foobar #[.int .u8 102, .int .u8 111, .int .u8 111, .int .u8 98, .int .u8 97, .int .u8 114] rfl rfl rfl (by simp [maxLen]) (by decide)).mono ?_
  rintro e w' ⟨rfl, rfl⟩
  have hE_w2 : Ext w (w1.alloc (.cells #[.int .u8 102, .int .u8 111, .int .u8 111, .int .u8 98, .int .u8 97, .int .u8 114] 5 (6, 7))) := (hE_w1).alloc _
  generalize w1.alloc (.cells #[.int .u8 102, .int .u8 111, .int .u8 111, .int .u8 98, .int .u8 97, .int .u8 114] 5 (6, 7)) = w2 at hE_w2 ⊢
  go_wp2_with fail
  refine (dints_any _ 2 2 [12, -3] _ (litSl .i64 3 w2 _ 2 [12, -3] #[.int .i64 12, .int .i64 (-3)] rfl rfl rfl (by simp [maxLen]) (by decide)) (by omega) (fun W h => HT.out W (Below.trans (hE_w2.alloc _) (Below.mono h (by have := hE_w2.sz; simp; omega))))).mono ?_
  rintro e w3 ⟨rfl, hE3⟩
  have hE_w3 : Ext w w3 := (hE_w2.alloc _).trans hE3
  rw [txt_12]
  clear hE3
  generalize hv1 : fnv [49, 50, 32, 45, 51, 32] = v1
  go_wp2_with fail
  refine (sum_mark 5 (6, 7) w3 _ 6 [49, 50, 32, 45, 51, 32] _ hv1 #[.int .u8 49, .int .u8 50, .int .u8 32, .int .u8 45, .int .u8 51, .int .u8 32] rfl rfl rfl (by simp [maxLen]) (by decide)).mono ?_
  rintro e w' ⟨rfl, rfl⟩
  have hE_w4 : Ext w (w3.alloc (.cells #[.int .u8 49, .int .u8 50, .int .u8 32, .int .u8 45, .int .u8 51, .int .u8 32] 5 (6, 7))) := (hE_w3).alloc _
  generalize w3.alloc (.cells #[.int .u8 49, .int .u8 50, .int .u8 32, .int .u8 45, .int .u8 51, .int .u8 32] 5 (6, 7)) = w4 at hE_w4 ⊢
  go_wp2_with fail
  refine (dnext_any 97 (by omega) _ 1 1 [5] _ (litSl .i64 3 w4 _ 1 [5] #[.int .i64 5] rfl rfl rfl (by simp [maxLen]) (by decide)) (by omega) (fun W h => HT.out W (Below.trans (hE_w4.alloc _) (Below.mono h (by have := hE_w4.sz; simp; omega))))).mono ?_
  rintro e w5 ⟨rfl, hE5⟩
  have hE_w5 : Ext w w5 := (hE_w4.alloc _).trans hE5
  rw [txt_5, show be8 (97 : Int).toNat = [0, 0, 0, 0, 0, 0, 0, 97] from be8_97]
  clear hE5
  simp only [List.cons_append, List.nil_append]
  generalize hv2 : fnv [0, 0, 0, 0, 0, 0, 0, 97, 53, 32] = v2
  go_wp2_with fail
  refine (sum_lit 5 w5 _ 10 [0, 0, 0, 0, 0, 0, 0, 97, 53, 32] _ hv2 #[.int .u8 0, .int .u8 0, .int .u8 0, .int .u8 0, .int .u8 0, .int .u8 0, .int .u8 0, .int .u8 97, .int .u8 53, .int .u8 32] rfl rfl rfl (by simp [maxLen]) (by decide)).mono ?_
  rintro e w' ⟨rfl, rfl⟩
  have hE_w6 : Ext w (w5.alloc (.cells #[.int .u8 0, .int .u8 0, .int .u8 0, .int .u8 0, .int .u8 0, .int .u8 0, .int .u8 0, .int .u8 97, .int .u8 53, .int .u8 32] 5)) := (hE_w5).alloc _
  generalize w5.alloc (.cells #[.int .u8 0, .int .u8 0, .int .u8 0, .int .u8 0, .int .u8 0, .int .u8 0, .int .u8 0, .int .u8 97, .int .u8 53, .int .u8 32] 5) = w6 at hE_w6 ⊢
  go_wp2_with fail
  refine (dpair_any 1 256 (by omega) (by omega) _).mono ?_
  rintro e w7 ⟨rfl, hE7⟩
  have hE_w7 : Ext w w7 := hE_w6.trans hE7
  rw [show be8 (1 : Int).toNat = [0, 0, 0, 0, 0, 0, 0, 1] from be8_1, show be8 (256 : Int).toNat = [0, 0, 0, 0, 0, 0, 1, 0] from be8_256]
  clear hE7
  simp only [List.cons_append, List.nil_append]
  generalize hv3 : fnv [1, 0, 0, 0, 0, 0, 0, 0, 1, 0, 0, 0, 0, 0, 0, 1, 0] = v3
  go_wp2_with fail
  refine (sum_lit 5 w7 _ 17 [1, 0, 0, 0, 0, 0, 0, 0, 1, 0, 0, 0, 0, 0, 0, 1, 0] _ hv3 #[.int .u8 1, .int .u8 0, .int .u8 0, .int .u8 0, .int .u8 0, .int .u8 0, .int .u8 0, .int .u8 0, .int .u8 1, .int .u8 0, .int .u8 0, .int .u8 0, .int .u8 0, .int .u8 0, .int .u8 0, .int .u8 1, .int .u8 0] rfl rfl rfl (by simp [maxLen]) (by decide)).mono ?_
  rintro e w' ⟨rfl, rfl⟩
  have hE_w8 : Ext w (w7.alloc (.cells #[.int .u8 1, .int .u8 0, .int .u8 0, .int .u8 0, .int .u8 0, .int .u8 0, .int .u8 0, .int .u8 0, .int .u8 1, .int .u8 0, .int .u8 0, .int .u8 0, .int .u8 0, .int .u8 0, .int .u8 0, .int .u8 1, .int .u8 0] 5)) := (hE_w7).alloc _
  generalize w7.alloc (.cells #[.int .u8 1, .int .u8 0, .int .u8 0, .int .u8 0, .int .u8 0, .int .u8 0, .int .u8 0, .int .u8 0, .int .u8 1, .int .u8 0, .int .u8 0, .int .u8 0, .int .u8 0, .int .u8 0, .int .u8 0, .int .u8 1, .int .u8 0] 5) = w8 at hE_w8 ⊢
  go_wp2_with fail
  go_ret
  exact ⟨rfl, hE_w8⟩
end Go.Proofs.YtkophednepcbkaaDoor
