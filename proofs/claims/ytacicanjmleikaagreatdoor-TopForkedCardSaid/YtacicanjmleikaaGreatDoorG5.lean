/-
  Signing, by both implementations, walked.
-/
import Derived.Test.YtacicanjmleikaaGreatDoorG4
import Derived.Laws.StructEq
import Derived.Laws.Tables
import Derived.Laws.Cover2
namespace Go.Proofs.YtacicanjmleikaaGreatDoor
open Go.RowKit Go.Sort Go.Shelf
set_option linter.unusedSimpArgs false
set_option linter.unusedVariables false
set_option maxRecDepth 100000

theorem eqSig (a b c d : Int) (w : World) : (Op.equalIn 10000 32 (.agg #[.int .i64 a, .int .i64 b]) (.agg #[.int .i64 c, .int .i64 d])).run Tryz.prog w = .ok (decide (a = c ∧ b = d)) w := by
  have u3 := Tryz.underlying3
  have a3 := Tryz.isAgg3
  have z3 := Tryz.sizeOf3
  have hS : Tryz.prog.underlying 32 = some (.struct (Tryz.prog.fieldsOf 32)) := by kernel_rfl
  have hp : Tryz.prog.stoodInHeld 32 = false := by kernel_rfl
  rw [show (10000 : Nat) = 9999 + 1 from rfl, run_equalIn_agg w 9999 32 _ _ hS hp]
  simp only [Program.fieldsOf, Tryz.underlying32]
  go_simp
  by_cases h1 : a = c <;> by_cases h2 : b = d <;> simp [h1, h2]

def sgOk (key once : Int) : Bool := inQ key 1 && inQ once 1
def sgC (key once : Int) (ms : List Int) : Int := if sgOk key once then chal (pw 2147483579 4 once.toNat : Nat) (pw 2147483579 4 key.toNat : Nat) ms else 0
def sgS (key once : Int) (ms : List Int) : Int := if sgOk key once then (once + sgC key once ms * key) % 1073741789 else 0
def sgE (key once : Int) : Int := if sgOk key once then 0 else 1

theorem res_sign (W : World) (b : Nat) (x y z : Int) (tmps : Array Value) (h6 : tmps[6]?.getD undef = .pointer (some ⟨b, 0, none⟩)) (h7 : tmps[7]?.getD undef = .int .i64 z)
    (c0 : W.cell? ⟨b, 0, none⟩ = some (.int .i64 x)) (c1 : W.cell? ⟨b, 1, none⟩ = some (.int .i64 y)) :
    (results Tryz.f29 tmps).run Tryz.prog W = .ok (.tuple #[.agg #[.int .i64 x, .int .i64 y], .int .i64 z]) W := by
  simp [results, Tryz.results29, go_sem, h6, h7, c0, c1]
theorem lin_mod (o c k : Int) (ho : 1 ≤ o ∧ o < 1073741789) (hc : 0 ≤ c ∧ c < 1073741789) (hk : 1 ≤ k ∧ k < 1073741789) : 0 ≤ c * k ∧ c * k ≤ 2000000000000000000 ∧ 0 ≤ o + c * k ∧ o + c * k ≤ 3000000000000000000 := by
  obtain ⟨n, rfl⟩ : ∃ n : Nat, c = n := ⟨c.toNat, by omega⟩
  obtain ⟨m, rfl⟩ : ∃ m : Nat, k = m := ⟨k.toNat, by omega⟩
  have h1 : n * m ≤ 1073741789 * 1073741789 := Nat.mul_le_mul (by omega) (by omega)
  have e : (n : Int) * m = ((n * m : Nat) : Int) := by push_cast; rfl
  rw [e]
  omega

theorem sign_any (key once : Int) (a1 : Option Addr) (n1 c1 : Nat) (ms : List Int) (w : World) (h1 : Sl .i64 w a1 n1 c1 ms) (hn : n1 ≤ 500) (ht : TB w) :
    Calls Tryz.prog 29 #[.int .i64 key, .int .i64 once, .slice a1 n1 c1] w fun e w' => e = .returned (.tuple #[.agg #[.int .i64 (sgC key once ms), .int .i64 (sgS key once ms)], .int .i64 (sgE key once)]) ∧ Ext w w' := by
  have b1 := h1.bd
  have HT := Lib.hid ht
  clear ht
  have hkk := fun w => within_any key 1 w
  have hoo := fun w => within_any once 1 w
  have HK := Lib.hid hkk
  have HO := Lib.hid hoo
  have lk := @inQ_lt key 1
  have lo := @inQ_lt once 1
  clear hkk hoo
  unfold sgS sgC sgE sgOk
  generalize inQ key 1 = A at *
  generalize inQ once 1 = B at *
  cases A
  · go_enter Tryz.func29, Tryz.ntmps29
    go_wp2_with fail
    refine (HK.out _).mono ?_
    rintro e w' ⟨rfl, rfl⟩
    go_wp2_with fail
    try simp only [Exit.inBlock, Exit.then]
    exact bodyPost_ret (res_sign _ w.heap.size 0 0 1 _ (by rfl) (by rfl) (cell_of_block (World.alloc_heap_new w _) 0 _ rfl) (cell_of_block (World.alloc_heap_new w _) 1 _ rfl)) rfl ⟨rfl, (Ext.refl w).alloc _⟩
  · cases B
    · go_enter Tryz.func29, Tryz.ntmps29
      go_wp2_with fail
      refine (HK.out _).mono ?_
      rintro e w' ⟨rfl, rfl⟩
      go_wp2_with fail
      refine (HO.out _).mono ?_
      rintro e w' ⟨rfl, rfl⟩
      go_wp2_with fail
      try simp only [Exit.inBlock, Exit.then]
      exact bodyPost_ret (res_sign _ w.heap.size 0 0 1 _ (by rfl) (by rfl) (cell_of_block (World.alloc_heap_new w _) 0 _ rfl) (cell_of_block (World.alloc_heap_new w _) 1 _ rfl)) rfl ⟨rfl, (Ext.refl w).alloc _⟩
    · have l1 := lk rfl
      have l2 := lo rfl
      clear lk lo
      simp only [Bool.and_self, if_true]
      have hp1 := fun w => power_any 4 once.toNat (by omega) (by omega) w
      have hp2 := fun w => power_any 4 key.toNat (by omega) (by omega) w
      rw [show ((once.toNat : Nat) : Int) = once by omega] at hp1
      rw [show ((key.toNat : Nat) : Int) = key by omega] at hp2
      have v1 := pw_lt (m := 2147483579) (a := 4) (x := once.toNat) (by omega)
      have v2 := pw_lt (m := 2147483579) (a := 4) (x := key.toNat) (by omega)
      generalize pw 2147483579 4 once.toNat = V1 at *
      generalize pw 2147483579 4 key.toNat = V2 at *
      have hch := fun w => challenge_any (V1 : Int) (V2 : Int) (by simp [Lit.wf, IntKind.min, IntKind.max, IntKind.signed, IntKind.bits]; omega) (by simp [Lit.wf, IntKind.min, IntKind.max, IntKind.signed, IntKind.bits]; omega) a1 n1 c1 ms w
      have hc := chal_lt (V1 : Int) (V2 : Int) ms
      have hl := lin_mod once _ key l2 hc l1
      generalize chal (V1 : Int) (V2 : Int) ms = C at *
      generalize hCK : C * key = CK at *
      have HP1 := Lib.hid hp1
      have HP2 := Lib.hid hp2
      have HC := Lib.hid hch
      clear hp1 hp2 hch
      go_enter Tryz.func29, Tryz.ntmps29
      go_wp2_with fail
      refine (HK.out _).mono ?_
      rintro e w' ⟨rfl, rfl⟩
      go_wp2_with fail
      refine (HO.out _).mono ?_
      rintro e w' ⟨rfl, rfl⟩
      go_wp2_with fail
      refine (HP1.out _).mono ?_
      have hE0 : Ext w (w.alloc (.cells #[.int .i64 0, .int .i64 0] 32)) := (Ext.refl w).alloc _
      rintro e w2 ⟨rfl, hE2⟩
      go_wp2_with fail
      refine (HP2.out _).mono ?_
      rintro e w3 ⟨rfl, hE3⟩
      have hE3' := hE2.trans hE3
      have hB3 := (hE3'.block _ (by simp)).trans (World.alloc_heap_new w _)
      have hE3w := hE0.trans hE3'
      clear hE0 hE3'
      go_wp2_with fail
      refine (HC.out w3 (h1.ext hE3w) hn (TB.ext HT.out hE3w)).mono ?_
      rintro e w4 ⟨rfl, hE4⟩
      have hB4 := (hE4.block _ (lt_of_block hB3)).trans hB3
      have d0 := cell_of_block hB4 0 _ rfl
      have d1 := cell_of_block hB4 1 _ rfl
      have d2 := free_of_block hB4
      have hE4w := hE3w.trans hE4
      clear hE4 hB3 hE3w
      go_wp2_with fail
      try simp only [Exit.inBlock, Exit.then]
      exact bodyPost_ret (res_sign _ w.heap.size C ((once + CK) % 1073741789) 0 _ (by rfl) (by rfl)
        (by rw [World.cell?_setCell_other _ _ _ _ (by simp)]; exact World.cell?_setCell_same _ _ _ d0)
        (World.cell?_setCell_same _ _ _ (by rw [World.cell?_setCell_other _ _ _ _ (by simp)]; exact d1))) rfl
        ⟨rfl, (hE4w.setCell (Nat.le_refl _) _).setCell (Nat.le_refl _) _⟩

end Go.Proofs.YtacicanjmleikaaGreatDoor
