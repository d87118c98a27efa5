/-
  Powers, by both implementations, walked.
-/
import Derived.Test.YtacicanjmleikaaGreatDoorG1
import Derived.Test.YtacicanjmleikaaGreatDoorDA
namespace Go.Proofs.YtacicanjmleikaaGreatDoor
open Go.RowKit Go.Sort
set_option linter.unusedSimpArgs false
set_option linter.unusedVariables false
set_option maxRecDepth 100000

theorem times_any (b o : Nat) (n by_ : Nat) (hn : n < 2147483579) (hb : by_ < 2147483579) (w : World) (hc : w.cell? ⟨b, o, none⟩ = some (.int .i64 n)) (hf : w.frozen? ⟨b, o, none⟩ = false) :
    Calls Tryz.prog 98 #[.pointer (some ⟨b, o, none⟩), .int .i64 by_] w fun e w' => e = .returned (.tuple #[]) ∧ w' = w.setCell ⟨b, o, none⟩ (.int .i64 ((n * by_ % 2147483579 : Nat) : Int)) := by
  have h1 : n * by_ ≤ 2147483579 * 2147483579 := Nat.mul_le_mul (by omega) (by omega)
  have h2 : (n : Int) * by_ = ((n * by_ : Nat) : Int) := by push_cast; rfl
  have h3 : ((n * by_ : Nat) : Int).tmod 2147483579 = ((n * by_ % 2147483579 : Nat) : Int) := rfl
  generalize hm : n * by_ = m at *
  go_enter Tryz.func98, Tryz.ntmps98
  go_wp2_with fail
  go_end0
  exact ⟨rfl, rfl⟩

theorem rpower_any (m a x : Nat) (hm1 : 1 < m) (hm : m ≤ 2147483579) (ha : a < m) (hx : x < 9223372036854775808) (w : World) :
    Calls Tryz.prog 37 #[.int .i64 a, .int .i64 x, .int .i64 m] w fun e w' => e = .returned (.int .i64 (pw m a x : Nat)) ∧ w' = w := by
  go_enter Tryz.func37, Tryz.ntmps37
  go_wp2_with fail
  go_loop [0, 1, 7] (fun va vx vo => ∃ (a' k o : Nat), va = .int .i64 a' ∧ vx = .int .i64 k ∧ vo = .int .i64 o ∧ a' < m ∧ k < 9223372036854775808 ∧ o < m ∧ o * a' ^ k % m = pw m a x) (fun _ vx _ => (intOf vx).toNat)
  case atStart => exact ⟨a, x, 1, rfl, rfl, rfl, ha, hx, hm1, by rw [Nat.one_mul, pw_def]⟩
  case round =>
    obtain ⟨a', k, o, rfl, rfl, rfl, h1, h2, h3, h4⟩ := hrel
    have H4 := Lib.hid h4
    clear h4
    have hmm : m * m ≤ 2147483579 * 2147483579 := Nat.mul_le_mul hm hm
    have p1 : o * a' ≤ m * m := Nat.mul_le_mul (by omega) (by omega)
    have p2 : a' * a' ≤ m * m := Nat.mul_le_mul (by omega) (by omega)
    have e1 : (o : Int) * a' = ((o * a' : Nat) : Int) := by push_cast; rfl
    have e2 : (a' : Int) * a' = ((a' * a' : Nat) : Int) := by push_cast; rfl
    have m1 : ((o * a' : Nat) : Int).tmod (m : Int) = ((o * a' % m : Nat) : Int) := rfl
    have m2 : ((a' * a' : Nat) : Int).tmod (m : Int) = ((a' * a' % m : Nat) : Int) := rfl
    have st := sq_step m o a' k
    have l1 : o * a' % m < m := Nat.mod_lt _ (by omega)
    have l2 : a' * a' % m < m := Nat.mod_lt _ (by omega)
    generalize hA : o * a' = A at *
    generalize hB : a' * a' = B at *
    have ST := Lib.hid st
    clear st
    by_cases hk : k = 0
    · subst hk
      go_wp2
      go_ret
      exact ⟨ret_int (by rw [← H4.out, Nat.pow_zero, Nat.mul_one, Nat.mod_eq_of_lt h3]), rfl⟩
    · have hk0 : decide ((0 : Int) < (k : Int)) = true := by simp; omega
      by_cases h2' : k % 2 = 1
      · have g1 : (((k : Int) % 2) == 1) = true := by simp; omega
        go_wp2_with fail
        refine ⟨⟨B % m, k / 2, A % m, by simp, by simp, by simp, l2, by omega, l1, ?_⟩, by simp [intOf]; omega⟩
        have := ST.out
        rw [if_pos h2'] at this
        rw [this]; exact H4.out
      · have g1 : (((k : Int) % 2) == 1) = false := by simp; omega
        go_wp2_with fail
        refine ⟨⟨B % m, k / 2, o, by simp, by simp, rfl, l2, by omega, h3, ?_⟩, by simp [intOf]; omega⟩
        have := ST.out
        rw [if_neg h2'] at this
        rw [this]; exact H4.out

theorem and_one {k : Int} (h : 0 ≤ k ∧ k ≤ 9223372036854775807) : bits .and .i64 k 1 = k % 2 := by
  show IntKind.i64.wrap ((BitVec.ofInt 64 k &&& BitVec.ofInt 64 1).toNat : Int) = _
  rw [BitVec.toNat_and, BitVec.toNat_ofInt, show (BitVec.ofInt 64 1).toNat = 1 from rfl, Nat.and_one_is_mod, IntKind.wrap_i64]
  have : (k % ((2 ^ 64 : Nat) : Int)).toNat = k.toNat := by omega
  rw [this]
  omega

theorem power_any (a x : Nat) (ha : a < 2147483579) (hx : x < 9223372036854775808) (w : World) :
    Calls Tryz.prog 66 #[.int .i64 a, .int .i64 x] w fun e w' => e = .returned (.int .i64 (pw 2147483579 a x : Nat)) ∧ Ext w w' := by
  have hx0 := Lib.hid hx
  go_enter Tryz.func66, Tryz.ntmps66
  go_wp2_with fail
  go_loopw [1] (fun vx wr => ∃ (a' k o : Nat), vx = .int .i64 k ∧ a' < 2147483579 ∧ k < 9223372036854775808 ∧ o < 2147483579 ∧ o * a' ^ k % 2147483579 = pw 2147483579 a x ∧
    wr.cell? ⟨w.heap.size, 0, none⟩ = some (.int .i64 a') ∧ wr.frozen? ⟨w.heap.size, 0, none⟩ = false ∧ wr.cell? ⟨w.heap.size + 1, 0, none⟩ = some (.int .i64 o) ∧ wr.frozen? ⟨w.heap.size + 1, 0, none⟩ = false ∧ Ext w wr) (fun vx _ => (intOf vx).toNat)
  case atStart =>
    refine ⟨a, x, 1, rfl, ha, hx, by omega, by rw [Nat.one_mul, pw_def], ?_, ?_, ?_, ?_, ?_⟩
    · exact cell_of_block (((((Ext.refl _).alloc _).block _ (by simp)).trans (World.alloc_heap_new w _))) 0 _ rfl
    · exact free_of_block (((((Ext.refl _).alloc _).block _ (by simp)).trans (World.alloc_heap_new w _))) 0
    · exact cell_of_block (by simpa using World.alloc_heap_new (w.alloc (.cells #[.int .i64 (a : Int)] 3)) (.cells #[.int .i64 1] 3)) 0 _ rfl
    · exact free_of_block (by simpa using World.alloc_heap_new (w.alloc (.cells #[.int .i64 (a : Int)] 3)) (.cells #[.int .i64 1] 3)) 0
    · exact ((Ext.refl w).alloc _).alloc _
  case round =>
    obtain ⟨a', k, o, rfl, h1, h2, h3, h4, ca, fa, co, fo, hE⟩ := hrel
    have H4 := Lib.hid h4
    clear h4
    have st := sq_step 2147483579 o a' k
    have l1 : o * a' % 2147483579 < 2147483579 := Nat.mod_lt _ (by omega)
    have l2 : a' * a' % 2147483579 < 2147483579 := Nat.mod_lt _ (by omega)
    have ST := Lib.hid st
    clear st
    by_cases hk : k = 0
    · subst hk
      go_wp2
      go_ret
      exact ⟨ret_int (by rw [← H4.out, Nat.pow_zero, Nat.mul_one, Nat.mod_eq_of_lt h3]), hE⟩
    · have hk0 : decide ((0 : Int) < (k : Int)) = true := by simp; omega
      have hkI : (0 : Int) < (k : Int) := by omega
      have hsq : ∀ (W : World) (r : Nat), r < 2147483579 → W.cell? ⟨w.heap.size, 0, none⟩ = some (.int .i64 a') → W.frozen? ⟨w.heap.size, 0, none⟩ = false → W.cell? ⟨w.heap.size + 1, 0, none⟩ = some (.int .i64 r) → W.frozen? ⟨w.heap.size + 1, 0, none⟩ = false → Ext w W →
          ∀ W', W' = W.setCell ⟨w.heap.size, 0, none⟩ (.int .i64 ((a' * a' % 2147483579 : Nat) : Int)) → W'.cell? ⟨w.heap.size, 0, none⟩ = some (.int .i64 ((a' * a' % 2147483579 : Nat) : Int)) ∧ W'.frozen? ⟨w.heap.size, 0, none⟩ = false ∧ W'.cell? ⟨w.heap.size + 1, 0, none⟩ = some (.int .i64 r) ∧ W'.frozen? ⟨w.heap.size + 1, 0, none⟩ = false ∧ Ext w W' := by
        rintro W r hr e1 e2 e3 e4 e5 W' rfl
        refine ⟨World.cell?_setCell_same _ _ _ e1, by rw [World.frozen?_setCell]; exact e2, ?_, by rw [World.frozen?_setCell]; exact e4, e5.setCell (Nat.le_refl _) _⟩
        rw [World.cell?_setCell_other _ _ _ _ (by simp)]; exact e3
      by_cases h2' : k % 2 = 1
      · have g0 : bits .and .i64 (k : Int) 1 = 1 := by rw [and_one (by omega)]; omega
        go_wp2_with (go_at_call 98; refine (times_any _ _ o a' h3 h1 _ co fo).mono ?_; rintro e w2 ⟨rfl, hw2⟩; have HW2 := Lib.hid hw2; clear hw2; refine hold ?_)
        refine held ?_
        have hw2 := HW2.out
        clear HW2
        have d1 : w2.cell? ⟨w.heap.size, 0, none⟩ = some (.int .i64 a') := by rw [hw2, World.cell?_setCell_other _ _ _ _ (by simp)]; exact ca
        have d2 : w2.frozen? ⟨w.heap.size, 0, none⟩ = false := by rw [hw2, World.frozen?_setCell]; exact fa
        have d3 : w2.cell? ⟨w.heap.size + 1, 0, none⟩ = some (.int .i64 ((o * a' % 2147483579 : Nat) : Int)) := by rw [hw2]; exact World.cell?_setCell_same _ _ _ co
        have d4 : w2.frozen? ⟨w.heap.size + 1, 0, none⟩ = false := by rw [hw2, World.frozen?_setCell]; exact fo
        have d5 : Ext w w2 := by rw [hw2]; exact hE.setCell (by simp) _
        clear hw2 ca fa co fo hE
        go_wp2_with (go_at_call 98; refine (times_any _ _ a' a' h1 h1 _ d1 d2).mono ?_; rintro e w3 ⟨rfl, hw3⟩; have HW3 := Lib.hid hw3; clear hw3; refine hold ?_)
        refine held ?_
        have hw3 := HW3.out
        clear HW3
        obtain ⟨f1, f2, f3, f4, f5⟩ := hsq w2 _ l1 d1 d2 d3 d4 d5 w3 hw3
        clear hw3 hsq d1 d2 d3 d4 d5
        go_wp2_with fail
        refine ⟨⟨a' * a' % 2147483579, k / 2, o * a' % 2147483579, by simp, l2, by omega, l1, ?_, f1, f2, f3, f4, f5⟩, by simp [intOf]; omega⟩
        have := ST.out
        rw [if_pos h2'] at this
        rw [this]; exact H4.out
      · have g0 : bits .and .i64 (k : Int) 1 = 0 := by rw [and_one (by omega)]; omega
        go_wp2_with (go_at_call 98; refine (times_any _ _ a' a' h1 h1 _ ca fa).mono ?_; rintro e w3 ⟨rfl, hw3⟩; have HW3 := Lib.hid hw3; clear hw3; refine hold ?_)
        refine held ?_
        have hw3 := HW3.out
        clear HW3
        obtain ⟨f1, f2, f3, f4, f5⟩ := hsq wr _ h3 ca fa co fo hE w3 hw3
        clear hw3 hsq ca fa co fo hE
        go_wp2_with fail
        refine ⟨⟨a' * a' % 2147483579, k / 2, o, by simp, l2, by omega, h3, ?_, f1, f2, f3, f4, f5⟩, by simp [intOf]; omega⟩
        have := ST.out
        rw [if_neg h2'] at this
        rw [this]; exact H4.out
end Go.Proofs.YtacicanjmleikaaGreatDoor
