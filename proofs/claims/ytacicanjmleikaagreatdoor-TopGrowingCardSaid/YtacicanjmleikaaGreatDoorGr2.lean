
import Derived.Test.YtacicanjmleikaaGreatDoorGr1
import Derived.Lib.Zigzag
import Derived.Shelf.Abstract
import Derived.StillTailTactics
import Derived.OpenShut
import Derived.Below
/- A part of the proof. -/
namespace Go.Proofs.YtacicanjmleikaaGreatDoor
open Go.RowKit
set_option linter.unusedSimpArgs false
set_option linter.unusedVariables false
set_option maxRecDepth 100000
def fnv1 (h x : Int) : Int := IntKind.u64.wrap (bits .xor .u64 h x * 1099511628211)
def fnv (xs : List Int) : Int := xs.foldl fnv1 14695981039346656037
theorem fnv_succ {xs : List Int} {k : Nat} (h : k < xs.length) : fnv (xs.take (k+1)) = fnv1 (fnv (xs.take k)) (nth xs k) := by
 unfold fnv; rw [take_nth_succ h, List.foldl_append]; rfl
set_option maxHeartbeats 400000 in
theorem sum_any (a1 : Option Addr) (n1 c1 : Nat) (xs : List Int) (w : World) (h1 : Sl .u8 w a1 n1 c1 xs) :
  Calls Tryz.prog 97 #[.slice a1 n1 c1] w fun e w' => e = .returned (.int .u64 (fnv xs)) ∧ w = w' := by
 have b1 := h1.bd
 have e1 := Lib.hid h1.hlen
 go_enter Tryz.func97, Tryz.ntmps97
 go_wp2
 go_loop [3, 8] (fun h i => ∃ k : Nat, k ≤ n1 ∧ i = .int .i64 k ∧ h = .int .u64 (fnv (xs.take k))) (fun _ i => n1 - (intOf i).toNat)
 case atStart => exact ⟨0, by omega, rfl, rfl⟩
 case round =>
  obtain ⟨k, hk, rfl, rfl⟩ := hrel
  by_cases hlt : k < n1
  ·obtain ⟨x1, o1, rfl, hc1⟩ := h1.at (by omega)
   have g1 := hc1 k hlt
   have w1 := wf_u8 (h1.wfAt hlt)
   clear hc1
   go_wp2
   go_round
   case rel => exact ⟨k+1, by omega, by go_num, by rw [fnv_succ (by rw [e1.out]; omega)]; rfl⟩
   case measure => simp [intOf]; omega
  ·go_wp2
   go_ret
   exact ⟨ret_int (by rw [List.take_of_length_le (by have := e1.out; omega)]), rfl⟩
set_option maxHeartbeats 400000 in
theorem rsum_any (a1 : Option Addr) (n1 c1 : Nat) (xs : List Int) (w : World) (h1 : Sl .u8 w a1 n1 c1 xs) :
  Calls Tryz.prog 107 #[.slice a1 n1 c1] w fun e w' => e = .returned (.int .u64 (fnv xs)) ∧ w = w' := by
 have b1 := h1.bd
 have e1 := Lib.hid h1.hlen
 go_enter Tryz.func107, Tryz.ntmps107
 go_wp2
 go_loop [3, 4] (fun h i => ∃ k : Nat, k ≤ n1 ∧ i = .int .i64 k ∧ h = .int .u64 (fnv (xs.take k))) (fun _ i => n1 - (intOf i).toNat)
 case atStart => exact ⟨0, by omega, rfl, rfl⟩
 case round =>
  obtain ⟨k, hk, rfl, rfl⟩ := hrel
  by_cases hlt : k < n1
  ·obtain ⟨x1, o1, rfl, hc1⟩ := h1.at (by omega)
   have g1 := hc1 k hlt
   have w1 := wf_u8 (h1.wfAt hlt)
   clear hc1
   go_wp2
   go_round
   case rel => exact ⟨k+1, by omega, by go_num, by rw [fnv_succ (by rw [e1.out]; omega)]; rfl⟩
   case measure => simp [intOf]; omega
  ·go_wp2
   go_ret
   exact ⟨ret_int (by rw [List.take_of_length_le (by have := e1.out; omega)]), rfl⟩
theorem el_u8 : ElT Tryz.prog 157 5 (.int .u8 0) 1 1 := ⟨by kernel_rfl, by kernel_rfl⟩
theorem el_i64 : ElT Tryz.prog 55 3 (.int .i64 0) 1 8 := ⟨by kernel_rfl, by kernel_rfl⟩
def num (n : Int) : Nat := if n < 0 then (2 * (-1 - n) + 1).toNat else (2 * n).toNat
open Go.RowKit
def be8 (d : Nat) : List Int := [((d / 72057594037927936 % 256 : Nat) : Int), ((d / 281474976710656 % 256 : Nat) : Int), ((d / 1099511627776 % 256 : Nat) : Int), ((d / 4294967296 % 256 : Nat) : Int),
 ((d / 16777216 % 256 : Nat) : Int), ((d / 65536 % 256 : Nat) : Int), ((d / 256 % 256 : Nat) : Int), ((d % 256 : Nat) : Int)]
theorem be8_wf (d : Nat) : ∀ x ∈ be8 d, (Lit.int .u8 x).wf = true := by
 intro x hx
 simp only [be8, List.mem_cons, List.not_mem_nil, or_false] at hx
 rcases hx with rfl | rfl | rfl | rfl | rfl | rfl | rfl | rfl <;> simp [Lit.wf, IntKind.min, IntKind.max, IntKind.bits, IntKind.signed] <;> omega
open Go.RowKit
open Go.RowKit
open Go.RowKit Go.Sort
open Go.RowKit Go.Sort
open Go.RowKit Go.Sort Go.Shelf
attribute [local go_sem] Oper.semAt_some
open Go.RowKit Go.Sort Go.Shelf
open Go.RowKit Go.Sort Go.Shelf
open Go.RowKit Go.Sort Go.Shelf
open Go.RowKit Go.Sort Go.Shelf
open Go.RowKit Go.ChangeShapes Go.WideShapes
theorem Sl.none_nil (k : IntKind) (w : World) : Sl k w none 0 0 [] := (OwI.nil k 0 0 w).sl (by simp)
inductive Kd where
 | int (k : IntKind) | bool
 deriving DecidableEq
def Kd.ok : Kd → Value → Prop
 | .int k, v => ∃ n, v = .int k n ∧ (Lit.int k n).wf = true
 | .bool, v => ∃ b, v = .bool b
def flatB (P : Program) : Nat → TypeId → List Kd → Bool
 | 0, _, _ => false
 | n + 1, t, ks =>
  (ks.length == P.cellsOf t) &&
  match P.underlying t with
  | some (.int k) => ks == [.int k]
  | some .bool => ks == [.bool]
  | some (.struct fs) =>
   (fs.toList.all fun f => flatB P n f.type ((ks.drop f.offset).take (P.cellsOf f.type))) &&
   ((List.range ks.length).all fun i => fs.toList.any fun f => decide (f.offset ≤ i ∧ i < f.offset + P.cellsOf f.type))
  | some (.array m e) =>
   ((List.range m).all fun i => flatB P n e ((ks.drop (i * P.cellsOf e)).take (P.cellsOf e))) &&
   ((List.range ks.length).all fun i => (List.range m).any fun j => decide (j * P.cellsOf e ≤ i ∧ i < j * P.cellsOf e + P.cellsOf e))
  | _ => false
section
variable {H : Type} {enc : TypeId × Value → H} {P : Program} {w : World} {base : Nat} {spare : Nat → Bool} {held : Bool}
theorem flat_trod : ∀ (n : Nat) (t : TypeId) (ks : List Kd) (fuel : Nat) (cs : List Value) (x : DataW H × List MemPlace), flatB P n t ks = true → DataW.trod enc P w base spare held fuel t cs = some x →
  cs.length = ks.length ∧ x.2 = [] ∧ ∀ (i : Nat) k v, ks[i]? = some k → cs[i]? = some v → k.ok v
 | 0, _, _, _, _, _, h, _ => by simp [flatB] at h
 | n + 1, t, ks, fuel, cs, x, h, ht => by
  unfold flatB at h
  simp only [Bool.and_eq_true, beq_iff_eq] at h
  obtain ⟨hl, h⟩ := h
  split at h
  ·rename_i k hu
   obtain ⟨z, rfl, rfl, hw⟩ := DataW.trod_int hu ht
   have e := LawfulBEq.eq_of_beq h
   subst e
   refine ⟨rfl, rfl, fun i k v hk hv => ?_⟩
   rcases i with _ | i
   ·simp at hk hv; subst hk hv; exact ⟨z, rfl, hw⟩
   ·simp at hk
  ·rename_i hu
   obtain ⟨z, rfl, rfl⟩ := DataW.trod_bool hu ht
   have e := LawfulBEq.eq_of_beq h
   subst e
   refine ⟨rfl, rfl, fun i k v hk hv => ?_⟩
   rcases i with _ | i
   ·simp at hk hv; subst hk hv; exact ⟨z, rfl⟩
   ·simp at hk
  ·rename_i fs hu
   obtain ⟨xs, m, rfl, rfl, hcl, hxl, hf⟩ := DataW.trod_struct hu ht
   simp only [Bool.and_eq_true, List.all_eq_true, List.any_eq_true, List.mem_range, decide_eq_true_eq] at h
   obtain ⟨hall, hcov⟩ := h
   have key : ∀ (j : Nat) f, fs[j]? = some f → ∃ y, xs[j]? = some y ∧ y.2 = [] ∧ ∀ (i : Nat) k v, ((ks.drop f.offset).take (P.cellsOf f.type))[i]? = some k → ((cs.drop f.offset).take (P.cellsOf f.type))[i]? = some v → k.ok v := by
    intro j f hj
    have hlt : j < fs.size := by
     rcases Nat.lt_or_ge j fs.size with h | h
     ·exact h
     ·rw [Array.getElem?_eq_none h] at hj; cases hj
    have h1 := hf j f hj
    have hx : xs[j]? = some (xs[j]'(by omega)) := List.getElem?_eq_getElem (by omega)
    rw [hx] at h1
    have hm : f ∈ fs.toList := by
     rw [Array.getElem?_eq_getElem hlt] at hj
     cases hj
     simp
    obtain ⟨_, e2, e3⟩ := flat_trod n _ _ _ _ _ (hall f hm) h1
    exact ⟨_, hx, e2, e3⟩
   refine ⟨by omega, ?_, fun i k v hk hv => ?_⟩
   ·show xs.flatMap (·.2) = []
    rw [List.flatMap_eq_nil_iff]
    intro y hy
    obtain ⟨j, hj, rfl⟩ := List.mem_iff_getElem.mp hy
    obtain ⟨y', h1, h2, _⟩ := key j (fs[j]'(by omega)) (Array.getElem?_eq_getElem (by omega))
    rw [List.getElem?_eq_getElem hj] at h1
    cases h1
    exact h2
   ·have hi : i < ks.length := by
     rcases Nat.lt_or_ge i ks.length with h | h
     ·exact h
     ·rw [List.getElem?_eq_none h] at hk; cases hk
    obtain ⟨f, hm, h1, h2⟩ := hcov i hi
    obtain ⟨j, hj, rfl⟩ := List.mem_iff_getElem.mp hm
    have hj2 : j < fs.size := by simpa using hj
    have hj3 : fs[j]? = some (fs.toList[j]'hj) := by simp [Array.getElem?_eq_getElem hj2]
    generalize fs.toList[j]'hj = f at *
    obtain ⟨y', _, _, h3⟩ := key j _ hj3
    refine h3 (i - f.offset) k v ?_ ?_
    ·rw [List.getElem?_take, if_pos (by omega), List.getElem?_drop, Nat.add_sub_cancel' h1]; exact hk
    ·rw [List.getElem?_take, if_pos (by omega), List.getElem?_drop, Nat.add_sub_cancel' h1]; exact hv
  ·rename_i m e hu
   obtain ⟨xs, m', rfl, rfl, hcl, hxl, hf⟩ := DataW.trod_array hu ht
   simp only [Bool.and_eq_true, List.all_eq_true, List.any_eq_true, List.mem_range, decide_eq_true_eq] at h
   obtain ⟨hall, hcov⟩ := h
   have key : ∀ (j : Nat), j < m → ∃ y, xs[j]? = some y ∧ y.2 = [] ∧ ∀ (i : Nat) k v, ((ks.drop (j * P.cellsOf e)).take (P.cellsOf e))[i]? = some k → ((cs.drop (j * P.cellsOf e)).take (P.cellsOf e))[i]? = some v → k.ok v := by
    intro j hj
    have h1 := hf j hj
    have hx : xs[j]? = some (xs[j]'(by omega)) := List.getElem?_eq_getElem (by omega)
    rw [hx] at h1
    obtain ⟨_, e2, e3⟩ := flat_trod n _ _ _ _ _ (hall j hj) h1
    exact ⟨_, hx, e2, e3⟩
   refine ⟨by omega, ?_, fun i k v hk hv => ?_⟩
   ·show xs.flatMap (·.2) = []
    rw [List.flatMap_eq_nil_iff]
    intro y hy
    obtain ⟨j, hj, rfl⟩ := List.mem_iff_getElem.mp hy
    obtain ⟨y', h1, h2, _⟩ := key j (by omega)
    rw [List.getElem?_eq_getElem hj] at h1
    cases h1
    exact h2
   ·have hi : i < ks.length := by
     rcases Nat.lt_or_ge i ks.length with h | h
     ·exact h
     ·rw [List.getElem?_eq_none h] at hk; cases hk
    obtain ⟨j, hm, h1, h2⟩ := hcov i hi
    obtain ⟨y', _, _, h3⟩ := key j hm
    refine h3 (i - j * P.cellsOf e) k v ?_ ?_
    ·rw [List.getElem?_take, if_pos (by omega), List.getElem?_drop, Nat.add_sub_cancel' h1]; exact hk
    ·rw [List.getElem?_take, if_pos (by omega), List.getElem?_drop, Nat.add_sub_cancel' h1]; exact hv
  ·simp at h
def Leaves : List Kd → List Value → Prop
 | [], cs => cs = []
 | k :: ks, cs => ∃ v vs, cs = v :: vs ∧ k.ok v ∧ Leaves ks vs
theorem Leaves.of : ∀ {ks : List Kd} {cs : List Value}, cs.length = ks.length → (∀ (i : Nat) k v, ks[i]? = some k → cs[i]? = some v → k.ok v) → Leaves ks cs
 | [], [], _, _ => rfl
 | [], _ :: _, h, _ => by simp at h
 | _ :: _, [], h, _ => by simp at h
 | k :: ks, v :: vs, h, hk => ⟨v, vs, rfl, hk 0 k v rfl rfl, Leaves.of (by simpa using h) (fun i k' v' h1 h2 => hk (i + 1) k' v' (by simpa using h1) (by simpa using h2))⟩
theorem Leaves.int {k : IntKind} {ks : List Kd} {cs : List Value} (h : Leaves (.int k :: ks) cs) : ∃ n vs, cs = .int k n :: vs ∧ (Lit.int k n).wf = true ∧ Leaves ks vs := by
 obtain ⟨v, vs, rfl, ⟨n, rfl, hn⟩, h⟩ := h
 exact ⟨n, vs, rfl, hn, h⟩
theorem Leaves.nil {cs : List Value} (h : Leaves [] cs) : cs = [] := h
end
end Go.Proofs.YtacicanjmleikaaGreatDoor
