/-
  Verifying, by both implementations, walked.
-/
import Derived.Test.YtcohdojfbnijpaaDoorG5
import Derived.Deep.RegionWith
namespace Go.Proofs.YtcohdojfbnijpaaDoor
open Go.RowKit Go.Sort Go.Shelf
set_option linter.unusedSimpArgs false
set_option linter.unusedVariables false
set_option maxRecDepth 100000

/-- What a pair begins with. -/
def backN (pub C S : Nat) : Nat := pw 2147483579 4 S * pw 2147483579 pub ((1073741789 - C) % 1073741789) % 2147483579
theorem backN_lt (pub C S : Nat) : backN pub C S < 2147483579 := Nat.mod_lt _ (by omega)

theorem mulN (a b : Nat) (ha : a < 2147483579) (hb : b < 2147483579) : (a : Int) * b = ((a * b : Nat) : Int) ∧ a * b ≤ 4611686000000000000 := by
  have h1 : a * b ≤ 2147483578 * 2147483578 := Nat.mul_le_mul (by omega) (by omega)
  exact ⟨by push_cast; rfl, by omega⟩

theorem toExt {P : Program} {f : FuncId} {args : Array Value} {w : World} {v : Value} (h : Calls P f args w fun e w' => e = .returned v ∧ w' = w) : Calls P f args w fun e w' => e = .returned v ∧ Ext w w' :=
  h.mono fun e w' ⟨h1, h2⟩ => ⟨h1, by rw [h2]; exact Ext.refl w⟩

set_option maxHeartbeats 400000 in
theorem rback_any (pub C S : Nat) (hp : pub < 2147483579) (hC : C < 1073741789) (hS : S < 1073741789) (w : World) :
    Calls Tryd.prog 30 #[.int .i64 pub, .agg #[.int .i64 C, .int .i64 S]] w fun e w' => e = .returned (.int .i64 (backN pub C S : Nat)) ∧ Ext w w' := by
  unfold backN
  have hq : (1073741789 - (C : Int)) % 1073741789 = (((1073741789 - C) % 1073741789 : Nat) : Int) ∧ (1073741789 - C) % 1073741789 < 1073741789 := by omega
  generalize hN : (1073741789 - C) % 1073741789 = N at *
  clear hN
  obtain ⟨hq, hN⟩ := hq
  have hp1 := fun w => toExt (rpower_any 2147483579 4 S (by omega) (by omega) (by omega) (by omega) w)
  have hp2 := fun w => toExt (rpower_any 2147483579 pub N (by omega) (by omega) hp (by omega) w)
  have v1 := pw_lt (m := 2147483579) (a := 4) (x := S) (by omega)
  have v2 := pw_lt (m := 2147483579) (a := pub) (x := N) (by omega)
  generalize pw 2147483579 4 S = V1 at *
  generalize pw 2147483579 pub N = V2 at *
  obtain ⟨m1, m2⟩ := mulN V1 V2 v1 v2
  generalize hM : V1 * V2 = M at *
  have HQ := Lib.hid hq
  clear hq
  have HP1 := Lib.hid hp1
  have HP2 := Lib.hid hp2
  clear hp1 hp2
  go_enter Tryd.func30, Tryd.ntmps30
  go_wp2_with fail
  have hB0 := World.alloc_heap_new w (.cells #[.int .i64 (C : Int), .int .i64 (S : Int)] 25)
  have hE0 : Ext w (w.alloc (.cells #[.int .i64 (C : Int), .int .i64 (S : Int)] 25)) := (Ext.refl w).alloc _
  generalize w.alloc (.cells #[.int .i64 (C : Int), .int .i64 (S : Int)] 25) = W at *
  have d0 := cell_of_block hB0 0 _ rfl
  have d1 := cell_of_block hB0 1 _ rfl
  refine region_rely (S := Ext) (fun W' => Ext W W') [some 5, some 6, some 7, some 8, some 9, some 10, some 11, some 12, some 13, some 14, some 15, some 4] [[], [0], [0, 1], [], [], [4], [4, 5], [4, 5, 6], [0, 1, 2, 3, 4, 5, 6, 7], [0, 1, 2, 3, 4, 5, 6, 7, 8], [0, 1, 2, 3, 4, 5, 6, 7, 8, 9], [0, 1, 2, 3, 4, 5, 6, 7, 8, 9, 10]] [[], [], [], [], [], [], [], [], [], [], [], []] [.one (.pointer (some ⟨w.heap.size, 1, none⟩)), .one (.int .i64 S), .one (.int .i64 V1), .one (.int .i64 pub), .one (.pointer (some ⟨w.heap.size, 0, none⟩)), .one (.int .i64 C), .one (.int .i64 (1073741789 - (C : Int))), .one (.int .i64 N), .one (.int .i64 V2), .one (.int .i64 M), .one (.int .i64 ((M : Int) % 2147483579)), .one (.int .i64 ((M : Int) % 2147483579))] (by kernel_rfl) (by kernel_rfl) (Ext.refl W).drew ?_ ?_
  · refine stepsR_cons ?_ (stepsR_cons ?_ (stepsR_cons ?_ (stepsR_cons ?_ (stepsR_cons ?_ (stepsR_cons ?_ (stepsR_cons ?_ (stepsR_cons ?_ (stepsR_cons ?_ (stepsR_cons ?_ (stepsR_cons ?_ (stepsR_cons ?_ (trivial))))))))))))
    · intro vs W' hl hI hd ho
      obtain ⟨x0, v0, rfl, l0⟩ := len_cons hl; obtain ⟨x1, v1, rfl, l1⟩ := len_cons l0; obtain ⟨x2, v2, rfl, l2⟩ := len_cons l1; obtain ⟨x3, v3, rfl, l3⟩ := len_cons l2; obtain ⟨x4, v4, rfl, l4⟩ := len_cons l3; obtain ⟨x5, v5, rfl, l5⟩ := len_cons l4; obtain ⟨x6, v6, rfl, l6⟩ := len_cons l5; obtain ⟨x7, v7, rfl, l7⟩ := len_cons l6; obtain ⟨x8, v8, rfl, l8⟩ := len_cons l7; obtain ⟨x9, v9, rfl, l9⟩ := len_cons l8; obtain ⟨x10, v10, rfl, l10⟩ := len_cons l9; obtain ⟨x11, v11, rfl, l11⟩ := len_cons l10; obtain rfl := len_nil l11; clear hl l0 l1 l2 l3 l4 l5 l6 l7 l8 l9 l10 l11
      simp only [putAll, Act.put, List.setIfInBounds_toArray, List.set_cons_succ, List.set_cons_zero]
      go_wp2_with fail
      exact rely_done _ rfl rfl (Ext.refl _) hI
    · intro vs W' hl hI hd ho
      obtain ⟨x0, v0, rfl, l0⟩ := len_cons hl; obtain ⟨x1, v1, rfl, l1⟩ := len_cons l0; obtain ⟨x2, v2, rfl, l2⟩ := len_cons l1; obtain ⟨x3, v3, rfl, l3⟩ := len_cons l2; obtain ⟨x4, v4, rfl, l4⟩ := len_cons l3; obtain ⟨x5, v5, rfl, l5⟩ := len_cons l4; obtain ⟨x6, v6, rfl, l6⟩ := len_cons l5; obtain ⟨x7, v7, rfl, l7⟩ := len_cons l6; obtain ⟨x8, v8, rfl, l8⟩ := len_cons l7; obtain ⟨x9, v9, rfl, l9⟩ := len_cons l8; obtain ⟨x10, v10, rfl, l10⟩ := len_cons l9; obtain ⟨x11, v11, rfl, l11⟩ := len_cons l10; obtain rfl := len_nil l11; clear hl l0 l1 l2 l3 l4 l5 l6 l7 l8 l9 l10 l11
      simp only [factsR, atR, List.getElem?_cons_succ, List.getElem?_cons_zero, Rel.one, Rel.blk] at hd
      obtain ⟨rfl, -⟩ := hd
      simp only [putAll, Act.put, List.setIfInBounds_toArray, List.set_cons_succ, List.set_cons_zero]
      have e1 := hI.cell d1
      go_wp2_with fail
      exact rely_done _ rfl rfl (Ext.refl _) hI
    · intro vs W' hl hI hd ho
      obtain ⟨x0, v0, rfl, l0⟩ := len_cons hl; obtain ⟨x1, v1, rfl, l1⟩ := len_cons l0; obtain ⟨x2, v2, rfl, l2⟩ := len_cons l1; obtain ⟨x3, v3, rfl, l3⟩ := len_cons l2; obtain ⟨x4, v4, rfl, l4⟩ := len_cons l3; obtain ⟨x5, v5, rfl, l5⟩ := len_cons l4; obtain ⟨x6, v6, rfl, l6⟩ := len_cons l5; obtain ⟨x7, v7, rfl, l7⟩ := len_cons l6; obtain ⟨x8, v8, rfl, l8⟩ := len_cons l7; obtain ⟨x9, v9, rfl, l9⟩ := len_cons l8; obtain ⟨x10, v10, rfl, l10⟩ := len_cons l9; obtain ⟨x11, v11, rfl, l11⟩ := len_cons l10; obtain rfl := len_nil l11; clear hl l0 l1 l2 l3 l4 l5 l6 l7 l8 l9 l10 l11
      simp only [factsR, atR, List.getElem?_cons_succ, List.getElem?_cons_zero, Rel.one, Rel.blk] at hd
      obtain ⟨rfl, rfl, -⟩ := hd
      simp only [putAll, Act.put, List.setIfInBounds_toArray, List.set_cons_succ, List.set_cons_zero]
      go_wp2_with fail
      refine (HP1.out _).mono ?_
      rintro e w2 ⟨rfl, hE2⟩
      go_wp2_with fail
      exact rely_done _ rfl rfl hE2 (hI.trans hE2)
    · intro vs W' hl hI hd ho
      obtain ⟨x0, v0, rfl, l0⟩ := len_cons hl; obtain ⟨x1, v1, rfl, l1⟩ := len_cons l0; obtain ⟨x2, v2, rfl, l2⟩ := len_cons l1; obtain ⟨x3, v3, rfl, l3⟩ := len_cons l2; obtain ⟨x4, v4, rfl, l4⟩ := len_cons l3; obtain ⟨x5, v5, rfl, l5⟩ := len_cons l4; obtain ⟨x6, v6, rfl, l6⟩ := len_cons l5; obtain ⟨x7, v7, rfl, l7⟩ := len_cons l6; obtain ⟨x8, v8, rfl, l8⟩ := len_cons l7; obtain ⟨x9, v9, rfl, l9⟩ := len_cons l8; obtain ⟨x10, v10, rfl, l10⟩ := len_cons l9; obtain ⟨x11, v11, rfl, l11⟩ := len_cons l10; obtain rfl := len_nil l11; clear hl l0 l1 l2 l3 l4 l5 l6 l7 l8 l9 l10 l11
      simp only [putAll, Act.put, List.setIfInBounds_toArray, List.set_cons_succ, List.set_cons_zero]
      go_wp2_with fail
      exact rely_done _ rfl rfl (Ext.refl _) hI
    · intro vs W' hl hI hd ho
      obtain ⟨x0, v0, rfl, l0⟩ := len_cons hl; obtain ⟨x1, v1, rfl, l1⟩ := len_cons l0; obtain ⟨x2, v2, rfl, l2⟩ := len_cons l1; obtain ⟨x3, v3, rfl, l3⟩ := len_cons l2; obtain ⟨x4, v4, rfl, l4⟩ := len_cons l3; obtain ⟨x5, v5, rfl, l5⟩ := len_cons l4; obtain ⟨x6, v6, rfl, l6⟩ := len_cons l5; obtain ⟨x7, v7, rfl, l7⟩ := len_cons l6; obtain ⟨x8, v8, rfl, l8⟩ := len_cons l7; obtain ⟨x9, v9, rfl, l9⟩ := len_cons l8; obtain ⟨x10, v10, rfl, l10⟩ := len_cons l9; obtain ⟨x11, v11, rfl, l11⟩ := len_cons l10; obtain rfl := len_nil l11; clear hl l0 l1 l2 l3 l4 l5 l6 l7 l8 l9 l10 l11
      simp only [putAll, Act.put, List.setIfInBounds_toArray, List.set_cons_succ, List.set_cons_zero]
      go_wp2_with fail
      exact rely_done _ rfl rfl (Ext.refl _) hI
    · intro vs W' hl hI hd ho
      obtain ⟨x0, v0, rfl, l0⟩ := len_cons hl; obtain ⟨x1, v1, rfl, l1⟩ := len_cons l0; obtain ⟨x2, v2, rfl, l2⟩ := len_cons l1; obtain ⟨x3, v3, rfl, l3⟩ := len_cons l2; obtain ⟨x4, v4, rfl, l4⟩ := len_cons l3; obtain ⟨x5, v5, rfl, l5⟩ := len_cons l4; obtain ⟨x6, v6, rfl, l6⟩ := len_cons l5; obtain ⟨x7, v7, rfl, l7⟩ := len_cons l6; obtain ⟨x8, v8, rfl, l8⟩ := len_cons l7; obtain ⟨x9, v9, rfl, l9⟩ := len_cons l8; obtain ⟨x10, v10, rfl, l10⟩ := len_cons l9; obtain ⟨x11, v11, rfl, l11⟩ := len_cons l10; obtain rfl := len_nil l11; clear hl l0 l1 l2 l3 l4 l5 l6 l7 l8 l9 l10 l11
      simp only [factsR, atR, List.getElem?_cons_succ, List.getElem?_cons_zero, Rel.one, Rel.blk] at hd
      obtain ⟨rfl, -⟩ := hd
      simp only [putAll, Act.put, List.setIfInBounds_toArray, List.set_cons_succ, List.set_cons_zero]
      have e0 := hI.cell d0
      go_wp2_with fail
      exact rely_done _ rfl rfl (Ext.refl _) hI
    · intro vs W' hl hI hd ho
      obtain ⟨x0, v0, rfl, l0⟩ := len_cons hl; obtain ⟨x1, v1, rfl, l1⟩ := len_cons l0; obtain ⟨x2, v2, rfl, l2⟩ := len_cons l1; obtain ⟨x3, v3, rfl, l3⟩ := len_cons l2; obtain ⟨x4, v4, rfl, l4⟩ := len_cons l3; obtain ⟨x5, v5, rfl, l5⟩ := len_cons l4; obtain ⟨x6, v6, rfl, l6⟩ := len_cons l5; obtain ⟨x7, v7, rfl, l7⟩ := len_cons l6; obtain ⟨x8, v8, rfl, l8⟩ := len_cons l7; obtain ⟨x9, v9, rfl, l9⟩ := len_cons l8; obtain ⟨x10, v10, rfl, l10⟩ := len_cons l9; obtain ⟨x11, v11, rfl, l11⟩ := len_cons l10; obtain rfl := len_nil l11; clear hl l0 l1 l2 l3 l4 l5 l6 l7 l8 l9 l10 l11
      simp only [factsR, atR, List.getElem?_cons_succ, List.getElem?_cons_zero, Rel.one, Rel.blk] at hd
      obtain ⟨rfl, rfl, -⟩ := hd
      simp only [putAll, Act.put, List.setIfInBounds_toArray, List.set_cons_succ, List.set_cons_zero]
      go_wp2_with fail
      exact rely_done _ rfl rfl (Ext.refl _) hI
    · intro vs W' hl hI hd ho
      obtain ⟨x0, v0, rfl, l0⟩ := len_cons hl; obtain ⟨x1, v1, rfl, l1⟩ := len_cons l0; obtain ⟨x2, v2, rfl, l2⟩ := len_cons l1; obtain ⟨x3, v3, rfl, l3⟩ := len_cons l2; obtain ⟨x4, v4, rfl, l4⟩ := len_cons l3; obtain ⟨x5, v5, rfl, l5⟩ := len_cons l4; obtain ⟨x6, v6, rfl, l6⟩ := len_cons l5; obtain ⟨x7, v7, rfl, l7⟩ := len_cons l6; obtain ⟨x8, v8, rfl, l8⟩ := len_cons l7; obtain ⟨x9, v9, rfl, l9⟩ := len_cons l8; obtain ⟨x10, v10, rfl, l10⟩ := len_cons l9; obtain ⟨x11, v11, rfl, l11⟩ := len_cons l10; obtain rfl := len_nil l11; clear hl l0 l1 l2 l3 l4 l5 l6 l7 l8 l9 l10 l11
      simp only [factsR, atR, List.getElem?_cons_succ, List.getElem?_cons_zero, Rel.one, Rel.blk] at hd
      obtain ⟨rfl, rfl, rfl, -⟩ := hd
      simp only [putAll, Act.put, List.setIfInBounds_toArray, List.set_cons_succ, List.set_cons_zero]
      go_wp2_with fail
      exact rely_done _ rfl (by show Value.int .i64 _ = Value.int .i64 _; exact congrArg _ HQ.out) (Ext.refl _) hI
    · intro vs W' hl hI hd ho
      obtain ⟨x0, v0, rfl, l0⟩ := len_cons hl; obtain ⟨x1, v1, rfl, l1⟩ := len_cons l0; obtain ⟨x2, v2, rfl, l2⟩ := len_cons l1; obtain ⟨x3, v3, rfl, l3⟩ := len_cons l2; obtain ⟨x4, v4, rfl, l4⟩ := len_cons l3; obtain ⟨x5, v5, rfl, l5⟩ := len_cons l4; obtain ⟨x6, v6, rfl, l6⟩ := len_cons l5; obtain ⟨x7, v7, rfl, l7⟩ := len_cons l6; obtain ⟨x8, v8, rfl, l8⟩ := len_cons l7; obtain ⟨x9, v9, rfl, l9⟩ := len_cons l8; obtain ⟨x10, v10, rfl, l10⟩ := len_cons l9; obtain ⟨x11, v11, rfl, l11⟩ := len_cons l10; obtain rfl := len_nil l11; clear hl l0 l1 l2 l3 l4 l5 l6 l7 l8 l9 l10 l11
      simp only [factsR, atR, List.getElem?_cons_succ, List.getElem?_cons_zero, Rel.one, Rel.blk] at hd
      obtain ⟨rfl, rfl, rfl, rfl, rfl, rfl, rfl, rfl, -⟩ := hd
      simp only [putAll, Act.put, List.setIfInBounds_toArray, List.set_cons_succ, List.set_cons_zero]
      go_wp2_with fail
      refine (HP2.out _).mono ?_
      rintro e w2 ⟨rfl, hE2⟩
      go_wp2_with fail
      exact rely_done _ rfl rfl hE2 (hI.trans hE2)
    · intro vs W' hl hI hd ho
      obtain ⟨x0, v0, rfl, l0⟩ := len_cons hl; obtain ⟨x1, v1, rfl, l1⟩ := len_cons l0; obtain ⟨x2, v2, rfl, l2⟩ := len_cons l1; obtain ⟨x3, v3, rfl, l3⟩ := len_cons l2; obtain ⟨x4, v4, rfl, l4⟩ := len_cons l3; obtain ⟨x5, v5, rfl, l5⟩ := len_cons l4; obtain ⟨x6, v6, rfl, l6⟩ := len_cons l5; obtain ⟨x7, v7, rfl, l7⟩ := len_cons l6; obtain ⟨x8, v8, rfl, l8⟩ := len_cons l7; obtain ⟨x9, v9, rfl, l9⟩ := len_cons l8; obtain ⟨x10, v10, rfl, l10⟩ := len_cons l9; obtain ⟨x11, v11, rfl, l11⟩ := len_cons l10; obtain rfl := len_nil l11; clear hl l0 l1 l2 l3 l4 l5 l6 l7 l8 l9 l10 l11
      simp only [factsR, atR, List.getElem?_cons_succ, List.getElem?_cons_zero, Rel.one, Rel.blk] at hd
      obtain ⟨rfl, rfl, rfl, rfl, rfl, rfl, rfl, rfl, rfl, -⟩ := hd
      simp only [putAll, Act.put, List.setIfInBounds_toArray, List.set_cons_succ, List.set_cons_zero]
      go_wp2_with fail
      exact rely_done _ rfl rfl (Ext.refl _) hI
    · intro vs W' hl hI hd ho
      obtain ⟨x0, v0, rfl, l0⟩ := len_cons hl; obtain ⟨x1, v1, rfl, l1⟩ := len_cons l0; obtain ⟨x2, v2, rfl, l2⟩ := len_cons l1; obtain ⟨x3, v3, rfl, l3⟩ := len_cons l2; obtain ⟨x4, v4, rfl, l4⟩ := len_cons l3; obtain ⟨x5, v5, rfl, l5⟩ := len_cons l4; obtain ⟨x6, v6, rfl, l6⟩ := len_cons l5; obtain ⟨x7, v7, rfl, l7⟩ := len_cons l6; obtain ⟨x8, v8, rfl, l8⟩ := len_cons l7; obtain ⟨x9, v9, rfl, l9⟩ := len_cons l8; obtain ⟨x10, v10, rfl, l10⟩ := len_cons l9; obtain ⟨x11, v11, rfl, l11⟩ := len_cons l10; obtain rfl := len_nil l11; clear hl l0 l1 l2 l3 l4 l5 l6 l7 l8 l9 l10 l11
      simp only [factsR, atR, List.getElem?_cons_succ, List.getElem?_cons_zero, Rel.one, Rel.blk] at hd
      obtain ⟨rfl, rfl, rfl, rfl, rfl, rfl, rfl, rfl, rfl, rfl, -⟩ := hd
      simp only [putAll, Act.put, List.setIfInBounds_toArray, List.set_cons_succ, List.set_cons_zero]
      go_wp2_with fail
      exact rely_done _ rfl rfl (Ext.refl _) hI
    · intro vs W' hl hI hd ho
      obtain ⟨x0, v0, rfl, l0⟩ := len_cons hl; obtain ⟨x1, v1, rfl, l1⟩ := len_cons l0; obtain ⟨x2, v2, rfl, l2⟩ := len_cons l1; obtain ⟨x3, v3, rfl, l3⟩ := len_cons l2; obtain ⟨x4, v4, rfl, l4⟩ := len_cons l3; obtain ⟨x5, v5, rfl, l5⟩ := len_cons l4; obtain ⟨x6, v6, rfl, l6⟩ := len_cons l5; obtain ⟨x7, v7, rfl, l7⟩ := len_cons l6; obtain ⟨x8, v8, rfl, l8⟩ := len_cons l7; obtain ⟨x9, v9, rfl, l9⟩ := len_cons l8; obtain ⟨x10, v10, rfl, l10⟩ := len_cons l9; obtain ⟨x11, v11, rfl, l11⟩ := len_cons l10; obtain rfl := len_nil l11; clear hl l0 l1 l2 l3 l4 l5 l6 l7 l8 l9 l10 l11
      simp only [factsR, atR, List.getElem?_cons_succ, List.getElem?_cons_zero, Rel.one, Rel.blk] at hd
      obtain ⟨rfl, rfl, rfl, rfl, rfl, rfl, rfl, rfl, rfl, rfl, rfl, -⟩ := hd
      simp only [putAll, Act.put, List.setIfInBounds_toArray, List.set_cons_succ, List.set_cons_zero]
      go_wp2_with fail
      exact rely_done _ rfl rfl (Ext.refl _) hI
  · intro vs W' hl hI hd
    obtain ⟨x0, v0, rfl, l0⟩ := len_cons hl; obtain ⟨x1, v1, rfl, l1⟩ := len_cons l0; obtain ⟨x2, v2, rfl, l2⟩ := len_cons l1; obtain ⟨x3, v3, rfl, l3⟩ := len_cons l2; obtain ⟨x4, v4, rfl, l4⟩ := len_cons l3; obtain ⟨x5, v5, rfl, l5⟩ := len_cons l4; obtain ⟨x6, v6, rfl, l6⟩ := len_cons l5; obtain ⟨x7, v7, rfl, l7⟩ := len_cons l6; obtain ⟨x8, v8, rfl, l8⟩ := len_cons l7; obtain ⟨x9, v9, rfl, l9⟩ := len_cons l8; obtain ⟨x10, v10, rfl, l10⟩ := len_cons l9; obtain ⟨x11, v11, rfl, l11⟩ := len_cons l10; obtain rfl := len_nil l11; clear hl l0 l1 l2 l3 l4 l5 l6 l7 l8 l9 l10 l11
    simp only [List.length_cons, List.length_nil, List.range, List.range.loop, Nat.zero_add, Nat.reduceAdd, factsR, atR, List.getElem?_cons_succ, List.getElem?_cons_zero, Rel.one, Rel.blk] at hd
    obtain ⟨rfl, rfl, rfl, rfl, rfl, rfl, rfl, rfl, rfl, rfl, rfl, rfl, -⟩ := hd
    simp only [putAll, Act.put, List.setIfInBounds_toArray, List.set_cons_succ, List.set_cons_zero]
    go_wp2_with fail
    go_ret
    exact ⟨rfl, hE0.trans hI⟩
end Go.Proofs.YtcohdojfbnijpaaDoor
