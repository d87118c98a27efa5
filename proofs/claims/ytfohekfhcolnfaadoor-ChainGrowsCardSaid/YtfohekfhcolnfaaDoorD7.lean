/-
  The reference's Decimal, walked.
-/
import Derived.Test.YtfohekfhcolnfaaDoorD6
import Derived.Laws.IdiomStrings
import Derived.Lib.ItoaLen
import Derived.Test.YtfohekfhcolnfaaDoorLib11
namespace Go.Proofs.YtfohekfhcolnfaaDoor
open Go.RowKit Go.Sort
set_option linter.unusedSimpArgs false
set_option linter.unusedVariables false
set_option maxRecDepth 100000

/-- 'string([]byte{u})'. -/
theorem conv_one (W : World) (b : UInt8) (x : Int) (hx : x = (b.toNat : Int)) : (convert 76 9 (.slice (some ⟨W.heap.size, 0, none⟩) 1 1)).run Tryd.prog (W.alloc (.cells #[.int .u8 x] 5)) = .ok (.string ⟨#[b]⟩) (W.alloc (.cells #[.int .u8 x] 5)) := by
  subst hx
  exact run_convert_bytes_back _ _ _ 5 _ 1 [b] Tryd.underlying76 Tryd.underlying5 Tryd.underlying9 (fun j hj => by
    have : j = 0 := by simpa using hj
    subst this
    exact World.cell?_alloc_new W _ _ 0)

theorem conv_at (W : World) (g : Nat) (b : UInt8) (x : Int) (hx : x = (b.toNat : Int)) (hb : W.heap[g]? = some (.cells #[.int .u8 x] 5 (0, 0))) : (convert 76 9 (.slice (some ⟨g, 0, none⟩) 1 1)).run Tryd.prog W = .ok (.string ⟨#[b]⟩) W := by
  subst hx
  exact run_convert_bytes_back _ _ _ 5 _ 1 [b] Tryd.underlying76 Tryd.underlying5 Tryd.underlying9 (fun j hj => by
    have : j = 0 := by simpa using hj
    subst this
    exact cell_of_block hb 0 _ rfl)

theorem itoa_neg_one {n : Int} (h0 : n < 0) (h1 : -10 < n) : Lib.itoa n = [45, UInt8.ofNat (48 - n).toNat] := by
  unfold Lib.itoa
  rw [if_pos h0, Lib.decDigits_one (by omega)]
  congr 3
  omega
theorem itoa_neg {n : Int} (h1 : n ≤ -10) : Lib.itoa n = Lib.itoa (n.tdiv 10) ++ [UInt8.ofNat (48 - n.tmod 10).toNat] := by
  obtain ⟨u, rfl⟩ : ∃ u : Nat, n = -(u : Int) := ⟨n.natAbs, by omega⟩
  have hd : (-(u : Int)).tdiv 10 = -((u / 10 : Nat) : Int) := by rw [Int.neg_tdiv]; rfl
  have hm : (-(u : Int)).tmod 10 = -((u % 10 : Nat) : Int) := by rw [Int.neg_tmod]; rfl
  rw [hd, hm]
  unfold Lib.itoa
  rw [if_pos (by omega), if_pos (by omega)]
  simp only [Int.natAbs_neg, Int.natAbs_natCast]
  rw [Lib.decDigits, dif_neg (by omega), List.cons_append]
  congr 4
  omega
theorem itoa_pos {n : Int} (h1 : 10 ≤ n) : Lib.itoa n = Lib.itoa (n / 10) ++ [UInt8.ofNat (48 + n % 10).toNat] := by
  obtain ⟨u, rfl⟩ : ∃ u : Nat, n = (u : Int) := ⟨n.natAbs, by omega⟩
  unfold Lib.itoa
  rw [if_neg (by omega), if_neg (by omega), Lib.decDigits, dif_neg (by omega)]
  congr 3
theorem itoa_one {n : Int} (h0 : 0 ≤ n) (h1 : n < 10) : Lib.itoa n = [UInt8.ofNat (48 + n).toNat] := by
  unfold Lib.itoa
  rw [if_neg (by omega), Lib.decDigits_one (by omega)]
  congr 2
  omega

theorem ba_app (a b : List UInt8) : (⟨a.toArray⟩ ++ ⟨b.toArray⟩ : ByteArray) = ⟨(a ++ b).toArray⟩ := by
  apply ByteArray.ext
  simp

set_option maxHeartbeats 4000000 in
theorem decimal_any : ∀ (m : Nat) (n : Int), n.natAbs = m → -9223372036854775808 ≤ n → n ≤ 9223372036854775807 → ∀ w : World,
    Calls Tryd.prog 57 #[.int .i64 n] w fun e w' => e = .returned (.string ⟨(Lib.itoa n).toArray⟩) ∧ Ext w w' := by
  intro m
  induction m using Nat.strongRecOn with
  | _ m ih =>
    intro n hm h0 h1 w
    by_cases hneg : n < 0
    · by_cases hs : -10 < n
      · have hq : n.tdiv 10 = 0 := by
          obtain ⟨u, rfl⟩ : ∃ u : Nat, n = -(u : Int) := ⟨n.natAbs, by omega⟩
          rw [Int.neg_tdiv, show (u : Int).tdiv 10 = ((u / 10 : Nat) : Int) from rfl]; omega
        have hcv := conv_one w (UInt8.ofNat (48 - n).toNat) (48 - n) (by rw [UInt8.toNat_ofNat']; omega)
        rw [itoa_neg_one hneg hs]
        clear ih hm
        go_enter Tryd.func57, Tryd.ntmps57
        go_wp2_with fail
        go_ret
        exact ⟨by rw [show (⟨#[45]⟩ ++ ⟨#[UInt8.ofNat (48 - n).toNat]⟩ : ByteArray) = _ from ba_app [45] [UInt8.ofNat (48 - n).toNat]]; rfl, (Ext.refl w).alloc _⟩
      · have hb : -9 ≤ n.tmod 10 ∧ n.tmod 10 ≤ 0 ∧ n.tdiv 10 < 0 ∧ n < n.tdiv 10 ∧ (n.tdiv 10).natAbs < m := by
          obtain ⟨u, rfl⟩ : ∃ u : Nat, n = -(u : Int) := ⟨n.natAbs, by omega⟩
          rw [Int.neg_tdiv, Int.neg_tmod, show (u : Int).tdiv 10 = ((u / 10 : Nat) : Int) from rfl, show (u : Int).tmod 10 = ((u % 10 : Nat) : Int) from rfl]; omega
        obtain ⟨b1, b2, b3, b4, b5⟩ := hb
        have hcv := fun W => conv_one W (UInt8.ofNat (48 - n.tmod 10).toNat) (48 - n.tmod 10) (by rw [UInt8.toNat_ofNat']; omega)
        have hih := fun W => ih _ b5 (n.tdiv 10) rfl (by omega) (by omega) W
        rw [itoa_neg (by omega)]
        have HIH := Lib.hid hih
        clear ih hm b5 hih
        generalize hq : n.tdiv 10 = q at *
        generalize hr : n.tmod 10 = r at *
        have hq0 : (q == 0) = false := by simp; omega
        have hlen := Lib.itoa_length_le q (by omega) (by omega)
        go_enter Tryd.func57, Tryd.ntmps57
        go_wp2_with fail
        refine region_rely (S := Ext) (fun W => Ext w W) [some 14, some 15, some 16, some 17, some 18, some 19, some 20, some 21, some 22, some 23, some 2] [[], [0], [0, 1], [], [3], [3, 4], [3, 4, 5], [3, 4, 5, 6], [3, 4, 5, 6, 7], [0, 1, 2, 3, 4, 5, 6, 7, 8], [0, 1, 2, 3, 4, 5, 6, 7, 8, 9]] [[], [], [], [], [], [], [], [], [], [], []] [.one (.int .i64 n), .one (.int .i64 q), .one (.string ⟨(Lib.itoa q).toArray⟩), .one (.int .i64 n), .one (.int .i64 r), .one (.int .i64 (48 - r)), .one (.int .u8 (48 - r)), .blk #[.int .u8 (48 - r)] 5 (fun b => .slice (some ⟨b, 0, none⟩) 1 1), .one (.string ⟨#[UInt8.ofNat (48 - r).toNat]⟩), .one (.string (⟨(Lib.itoa q).toArray⟩ ++ ⟨#[UInt8.ofNat (48 - r).toNat]⟩)), .one (.string (⟨(Lib.itoa q).toArray⟩ ++ ⟨#[UInt8.ofNat (48 - r).toNat]⟩))] (by kernel_rfl) (by kernel_rfl) (Ext.refl w).drew ?_ ?_
        · refine stepsR_cons ?_ (stepsR_cons ?_ (stepsR_cons ?_ (stepsR_cons ?_ (stepsR_cons ?_ (stepsR_cons ?_ (stepsR_cons ?_ (stepsR_cons ?_ (stepsR_cons ?_ (stepsR_cons ?_ (stepsR_cons ?_ (trivial)))))))))))
          · intro vs W hl hI hd ho
            obtain ⟨x0, v0, rfl, l0⟩ := len_cons hl; obtain ⟨x1, v1, rfl, l1⟩ := len_cons l0; obtain ⟨x2, v2, rfl, l2⟩ := len_cons l1; obtain ⟨x3, v3, rfl, l3⟩ := len_cons l2; obtain ⟨x4, v4, rfl, l4⟩ := len_cons l3; obtain ⟨x5, v5, rfl, l5⟩ := len_cons l4; obtain ⟨x6, v6, rfl, l6⟩ := len_cons l5; obtain ⟨x7, v7, rfl, l7⟩ := len_cons l6; obtain ⟨x8, v8, rfl, l8⟩ := len_cons l7; obtain ⟨x9, v9, rfl, l9⟩ := len_cons l8; obtain ⟨x10, v10, rfl, l10⟩ := len_cons l9; obtain rfl := len_nil l10; clear hl l0 l1 l2 l3 l4 l5 l6 l7 l8 l9 l10
            simp only [factsR, atR, List.getElem?_cons_succ, List.getElem?_cons_zero, Rel.one, Rel.blk] at hd
            obtain ⟨-⟩ := hd
            simp only [putAll, Act.put, List.setIfInBounds_toArray, List.set_cons_succ, List.set_cons_zero]
            go_wp2_with fail
            exact rely_done _ rfl rfl (Ext.refl _) hI
          · intro vs W hl hI hd ho
            obtain ⟨x0, v0, rfl, l0⟩ := len_cons hl; obtain ⟨x1, v1, rfl, l1⟩ := len_cons l0; obtain ⟨x2, v2, rfl, l2⟩ := len_cons l1; obtain ⟨x3, v3, rfl, l3⟩ := len_cons l2; obtain ⟨x4, v4, rfl, l4⟩ := len_cons l3; obtain ⟨x5, v5, rfl, l5⟩ := len_cons l4; obtain ⟨x6, v6, rfl, l6⟩ := len_cons l5; obtain ⟨x7, v7, rfl, l7⟩ := len_cons l6; obtain ⟨x8, v8, rfl, l8⟩ := len_cons l7; obtain ⟨x9, v9, rfl, l9⟩ := len_cons l8; obtain ⟨x10, v10, rfl, l10⟩ := len_cons l9; obtain rfl := len_nil l10; clear hl l0 l1 l2 l3 l4 l5 l6 l7 l8 l9 l10
            simp only [factsR, atR, List.getElem?_cons_succ, List.getElem?_cons_zero, Rel.one, Rel.blk] at hd
            obtain ⟨rfl, -⟩ := hd
            simp only [putAll, Act.put, List.setIfInBounds_toArray, List.set_cons_succ, List.set_cons_zero]
            go_wp2_with fail
            exact rely_done _ rfl rfl (Ext.refl _) hI
          · intro vs W hl hI hd ho
            obtain ⟨x0, v0, rfl, l0⟩ := len_cons hl; obtain ⟨x1, v1, rfl, l1⟩ := len_cons l0; obtain ⟨x2, v2, rfl, l2⟩ := len_cons l1; obtain ⟨x3, v3, rfl, l3⟩ := len_cons l2; obtain ⟨x4, v4, rfl, l4⟩ := len_cons l3; obtain ⟨x5, v5, rfl, l5⟩ := len_cons l4; obtain ⟨x6, v6, rfl, l6⟩ := len_cons l5; obtain ⟨x7, v7, rfl, l7⟩ := len_cons l6; obtain ⟨x8, v8, rfl, l8⟩ := len_cons l7; obtain ⟨x9, v9, rfl, l9⟩ := len_cons l8; obtain ⟨x10, v10, rfl, l10⟩ := len_cons l9; obtain rfl := len_nil l10; clear hl l0 l1 l2 l3 l4 l5 l6 l7 l8 l9 l10
            simp only [factsR, atR, List.getElem?_cons_succ, List.getElem?_cons_zero, Rel.one, Rel.blk] at hd
            obtain ⟨rfl, rfl, -⟩ := hd
            simp only [putAll, Act.put, List.setIfInBounds_toArray, List.set_cons_succ, List.set_cons_zero]
            go_wp2_with (go_at_call 57; refine (HIH.out _).mono ?_; rintro e w1 ⟨rfl, hE1⟩)
            exact rely_done _ rfl rfl hE1 (hI.trans hE1)
          · intro vs W hl hI hd ho
            obtain ⟨x0, v0, rfl, l0⟩ := len_cons hl; obtain ⟨x1, v1, rfl, l1⟩ := len_cons l0; obtain ⟨x2, v2, rfl, l2⟩ := len_cons l1; obtain ⟨x3, v3, rfl, l3⟩ := len_cons l2; obtain ⟨x4, v4, rfl, l4⟩ := len_cons l3; obtain ⟨x5, v5, rfl, l5⟩ := len_cons l4; obtain ⟨x6, v6, rfl, l6⟩ := len_cons l5; obtain ⟨x7, v7, rfl, l7⟩ := len_cons l6; obtain ⟨x8, v8, rfl, l8⟩ := len_cons l7; obtain ⟨x9, v9, rfl, l9⟩ := len_cons l8; obtain ⟨x10, v10, rfl, l10⟩ := len_cons l9; obtain rfl := len_nil l10; clear hl l0 l1 l2 l3 l4 l5 l6 l7 l8 l9 l10
            simp only [factsR, atR, List.getElem?_cons_succ, List.getElem?_cons_zero, Rel.one, Rel.blk] at hd
            obtain ⟨-⟩ := hd
            simp only [putAll, Act.put, List.setIfInBounds_toArray, List.set_cons_succ, List.set_cons_zero]
            go_wp2_with fail
            exact rely_done _ rfl rfl (Ext.refl _) hI
          · intro vs W hl hI hd ho
            obtain ⟨x0, v0, rfl, l0⟩ := len_cons hl; obtain ⟨x1, v1, rfl, l1⟩ := len_cons l0; obtain ⟨x2, v2, rfl, l2⟩ := len_cons l1; obtain ⟨x3, v3, rfl, l3⟩ := len_cons l2; obtain ⟨x4, v4, rfl, l4⟩ := len_cons l3; obtain ⟨x5, v5, rfl, l5⟩ := len_cons l4; obtain ⟨x6, v6, rfl, l6⟩ := len_cons l5; obtain ⟨x7, v7, rfl, l7⟩ := len_cons l6; obtain ⟨x8, v8, rfl, l8⟩ := len_cons l7; obtain ⟨x9, v9, rfl, l9⟩ := len_cons l8; obtain ⟨x10, v10, rfl, l10⟩ := len_cons l9; obtain rfl := len_nil l10; clear hl l0 l1 l2 l3 l4 l5 l6 l7 l8 l9 l10
            simp only [factsR, atR, List.getElem?_cons_succ, List.getElem?_cons_zero, Rel.one, Rel.blk] at hd
            obtain ⟨rfl, -⟩ := hd
            simp only [putAll, Act.put, List.setIfInBounds_toArray, List.set_cons_succ, List.set_cons_zero]
            go_wp2_with fail
            exact rely_done _ rfl rfl (Ext.refl _) hI
          · intro vs W hl hI hd ho
            obtain ⟨x0, v0, rfl, l0⟩ := len_cons hl; obtain ⟨x1, v1, rfl, l1⟩ := len_cons l0; obtain ⟨x2, v2, rfl, l2⟩ := len_cons l1; obtain ⟨x3, v3, rfl, l3⟩ := len_cons l2; obtain ⟨x4, v4, rfl, l4⟩ := len_cons l3; obtain ⟨x5, v5, rfl, l5⟩ := len_cons l4; obtain ⟨x6, v6, rfl, l6⟩ := len_cons l5; obtain ⟨x7, v7, rfl, l7⟩ := len_cons l6; obtain ⟨x8, v8, rfl, l8⟩ := len_cons l7; obtain ⟨x9, v9, rfl, l9⟩ := len_cons l8; obtain ⟨x10, v10, rfl, l10⟩ := len_cons l9; obtain rfl := len_nil l10; clear hl l0 l1 l2 l3 l4 l5 l6 l7 l8 l9 l10
            simp only [factsR, atR, List.getElem?_cons_succ, List.getElem?_cons_zero, Rel.one, Rel.blk] at hd
            obtain ⟨rfl, rfl, -⟩ := hd
            simp only [putAll, Act.put, List.setIfInBounds_toArray, List.set_cons_succ, List.set_cons_zero]
            go_wp2_with fail
            exact rely_done _ rfl rfl (Ext.refl _) hI
          · intro vs W hl hI hd ho
            obtain ⟨x0, v0, rfl, l0⟩ := len_cons hl; obtain ⟨x1, v1, rfl, l1⟩ := len_cons l0; obtain ⟨x2, v2, rfl, l2⟩ := len_cons l1; obtain ⟨x3, v3, rfl, l3⟩ := len_cons l2; obtain ⟨x4, v4, rfl, l4⟩ := len_cons l3; obtain ⟨x5, v5, rfl, l5⟩ := len_cons l4; obtain ⟨x6, v6, rfl, l6⟩ := len_cons l5; obtain ⟨x7, v7, rfl, l7⟩ := len_cons l6; obtain ⟨x8, v8, rfl, l8⟩ := len_cons l7; obtain ⟨x9, v9, rfl, l9⟩ := len_cons l8; obtain ⟨x10, v10, rfl, l10⟩ := len_cons l9; obtain rfl := len_nil l10; clear hl l0 l1 l2 l3 l4 l5 l6 l7 l8 l9 l10
            simp only [factsR, atR, List.getElem?_cons_succ, List.getElem?_cons_zero, Rel.one, Rel.blk] at hd
            obtain ⟨rfl, rfl, rfl, -⟩ := hd
            simp only [putAll, Act.put, List.setIfInBounds_toArray, List.set_cons_succ, List.set_cons_zero]
            go_wp2_with fail
            exact rely_done _ rfl rfl (Ext.refl _) hI
          · intro vs W hl hI hd ho
            obtain ⟨x0, v0, rfl, l0⟩ := len_cons hl; obtain ⟨x1, v1, rfl, l1⟩ := len_cons l0; obtain ⟨x2, v2, rfl, l2⟩ := len_cons l1; obtain ⟨x3, v3, rfl, l3⟩ := len_cons l2; obtain ⟨x4, v4, rfl, l4⟩ := len_cons l3; obtain ⟨x5, v5, rfl, l5⟩ := len_cons l4; obtain ⟨x6, v6, rfl, l6⟩ := len_cons l5; obtain ⟨x7, v7, rfl, l7⟩ := len_cons l6; obtain ⟨x8, v8, rfl, l8⟩ := len_cons l7; obtain ⟨x9, v9, rfl, l9⟩ := len_cons l8; obtain ⟨x10, v10, rfl, l10⟩ := len_cons l9; obtain rfl := len_nil l10; clear hl l0 l1 l2 l3 l4 l5 l6 l7 l8 l9 l10
            simp only [factsR, atR, List.getElem?_cons_succ, List.getElem?_cons_zero, Rel.one, Rel.blk] at hd
            obtain ⟨rfl, rfl, rfl, rfl, -⟩ := hd
            simp only [putAll, Act.put, List.setIfInBounds_toArray, List.set_cons_succ, List.set_cons_zero]
            go_wp2_with fail
            exact rely_done _ rfl ⟨_, rfl, World.alloc_heap_new W _⟩ ((Ext.refl W).alloc _) (hI.alloc _)
          · intro vs W hl hI hd ho
            obtain ⟨x0, v0, rfl, l0⟩ := len_cons hl; obtain ⟨x1, v1, rfl, l1⟩ := len_cons l0; obtain ⟨x2, v2, rfl, l2⟩ := len_cons l1; obtain ⟨x3, v3, rfl, l3⟩ := len_cons l2; obtain ⟨x4, v4, rfl, l4⟩ := len_cons l3; obtain ⟨x5, v5, rfl, l5⟩ := len_cons l4; obtain ⟨x6, v6, rfl, l6⟩ := len_cons l5; obtain ⟨x7, v7, rfl, l7⟩ := len_cons l6; obtain ⟨x8, v8, rfl, l8⟩ := len_cons l7; obtain ⟨x9, v9, rfl, l9⟩ := len_cons l8; obtain ⟨x10, v10, rfl, l10⟩ := len_cons l9; obtain rfl := len_nil l10; clear hl l0 l1 l2 l3 l4 l5 l6 l7 l8 l9 l10
            simp only [factsR, atR, List.getElem?_cons_succ, List.getElem?_cons_zero, Rel.one, Rel.blk] at hd
            obtain ⟨rfl, rfl, rfl, rfl, ⟨b, rfl, hb⟩, -⟩ := hd
            simp only [putAll, Act.put, List.setIfInBounds_toArray, List.set_cons_succ, List.set_cons_zero]
            have hcvb := conv_at W b (UInt8.ofNat (48 - r).toNat) (48 - r) (by rw [UInt8.toNat_ofNat']; omega) hb; go_wp2_with fail
            exact rely_done _ rfl rfl (Ext.refl _) hI
          · intro vs W hl hI hd ho
            obtain ⟨x0, v0, rfl, l0⟩ := len_cons hl; obtain ⟨x1, v1, rfl, l1⟩ := len_cons l0; obtain ⟨x2, v2, rfl, l2⟩ := len_cons l1; obtain ⟨x3, v3, rfl, l3⟩ := len_cons l2; obtain ⟨x4, v4, rfl, l4⟩ := len_cons l3; obtain ⟨x5, v5, rfl, l5⟩ := len_cons l4; obtain ⟨x6, v6, rfl, l6⟩ := len_cons l5; obtain ⟨x7, v7, rfl, l7⟩ := len_cons l6; obtain ⟨x8, v8, rfl, l8⟩ := len_cons l7; obtain ⟨x9, v9, rfl, l9⟩ := len_cons l8; obtain ⟨x10, v10, rfl, l10⟩ := len_cons l9; obtain rfl := len_nil l10; clear hl l0 l1 l2 l3 l4 l5 l6 l7 l8 l9 l10
            simp only [factsR, atR, List.getElem?_cons_succ, List.getElem?_cons_zero, Rel.one, Rel.blk] at hd
            obtain ⟨rfl, rfl, rfl, rfl, rfl, rfl, rfl, ⟨b, rfl, hb⟩, rfl, -⟩ := hd
            simp only [putAll, Act.put, List.setIfInBounds_toArray, List.set_cons_succ, List.set_cons_zero]
            have hl9 : ¬ (9223372036854775807 < (Lib.itoa q).length + 1) := by omega
            go_wp2_with fail
            exact rely_done _ rfl rfl (Ext.refl _) hI
          · intro vs W hl hI hd ho
            obtain ⟨x0, v0, rfl, l0⟩ := len_cons hl; obtain ⟨x1, v1, rfl, l1⟩ := len_cons l0; obtain ⟨x2, v2, rfl, l2⟩ := len_cons l1; obtain ⟨x3, v3, rfl, l3⟩ := len_cons l2; obtain ⟨x4, v4, rfl, l4⟩ := len_cons l3; obtain ⟨x5, v5, rfl, l5⟩ := len_cons l4; obtain ⟨x6, v6, rfl, l6⟩ := len_cons l5; obtain ⟨x7, v7, rfl, l7⟩ := len_cons l6; obtain ⟨x8, v8, rfl, l8⟩ := len_cons l7; obtain ⟨x9, v9, rfl, l9⟩ := len_cons l8; obtain ⟨x10, v10, rfl, l10⟩ := len_cons l9; obtain rfl := len_nil l10; clear hl l0 l1 l2 l3 l4 l5 l6 l7 l8 l9 l10
            simp only [factsR, atR, List.getElem?_cons_succ, List.getElem?_cons_zero, Rel.one, Rel.blk] at hd
            obtain ⟨rfl, rfl, rfl, rfl, rfl, rfl, rfl, ⟨b, rfl, hb⟩, rfl, rfl, -⟩ := hd
            simp only [putAll, Act.put, List.setIfInBounds_toArray, List.set_cons_succ, List.set_cons_zero]
            go_wp2_with fail
            exact rely_done _ rfl rfl (Ext.refl _) hI
        · intro vs W hl hI hd
          obtain ⟨x0, v0, rfl, l0⟩ := len_cons hl; obtain ⟨x1, v1, rfl, l1⟩ := len_cons l0; obtain ⟨x2, v2, rfl, l2⟩ := len_cons l1; obtain ⟨x3, v3, rfl, l3⟩ := len_cons l2; obtain ⟨x4, v4, rfl, l4⟩ := len_cons l3; obtain ⟨x5, v5, rfl, l5⟩ := len_cons l4; obtain ⟨x6, v6, rfl, l6⟩ := len_cons l5; obtain ⟨x7, v7, rfl, l7⟩ := len_cons l6; obtain ⟨x8, v8, rfl, l8⟩ := len_cons l7; obtain ⟨x9, v9, rfl, l9⟩ := len_cons l8; obtain ⟨x10, v10, rfl, l10⟩ := len_cons l9; obtain rfl := len_nil l10; clear hl l0 l1 l2 l3 l4 l5 l6 l7 l8 l9 l10
          simp only [List.length_cons, List.length_nil, List.range, List.range.loop, Nat.zero_add, Nat.reduceAdd, factsR, atR, List.getElem?_cons_succ, List.getElem?_cons_zero, Rel.one, Rel.blk] at hd
          obtain ⟨rfl, rfl, rfl, rfl, rfl, rfl, rfl, ⟨b, rfl, hb⟩, rfl, rfl, rfl, -⟩ := hd
          simp only [putAll, Act.put, List.setIfInBounds_toArray, List.set_cons_succ, List.set_cons_zero]
          go_wp2_with fail
          go_ret
          exact ⟨by rw [ba_app]; rfl, hI⟩
    · by_cases hs : n < 10
      · have hcv := conv_one w (UInt8.ofNat (48 + n).toNat) (48 + n) (by rw [UInt8.toNat_ofNat']; omega)
        rw [itoa_one (by omega) hs]
        clear ih hm
        go_enter Tryd.func57, Tryd.ntmps57
        go_wp2_with fail
        go_ret
        exact ⟨rfl, (Ext.refl w).alloc _⟩
      · have hb : n.tdiv 10 = n / 10 ∧ n.tmod 10 = n % 10 ∧ (n / 10).natAbs < m := by
          obtain ⟨u, rfl⟩ : ∃ u : Nat, n = (u : Int) := ⟨n.natAbs, by omega⟩
          rw [show (u : Int).tdiv 10 = ((u / 10 : Nat) : Int) from rfl, show (u : Int).tmod 10 = ((u % 10 : Nat) : Int) from rfl]; omega
        obtain ⟨b1, b2, b5⟩ := hb
        have hcv := fun W => conv_one W (UInt8.ofNat (48 + n % 10).toNat) (48 + n % 10) (by rw [UInt8.toNat_ofNat']; omega)
        have hih := fun W => ih _ b5 (n / 10) rfl (by omega) (by omega) W
        rw [itoa_pos (by omega)]
        have HIH := Lib.hid hih
        have b6 : 0 ≤ n % 10 ∧ n % 10 < 10 ∧ 0 ≤ n / 10 ∧ n / 10 ≤ n := by omega
        clear ih hm b5 hih
        generalize hq : n / 10 = q at *
        generalize hr : n % 10 = r at *
        have hlen := Lib.itoa_length_le q (by omega) (by omega)
        obtain ⟨c1, c2, c3, c4⟩ := b6
        go_enter Tryd.func57, Tryd.ntmps57
        go_wp2_with fail
        refine region_rely (S := Ext) (fun W => Ext w W) [some 31, some 32, some 33, some 34, some 35, some 36, some 37, some 38, some 39, some 40, some 2] [[], [0], [0, 1], [], [3], [3, 4], [3, 4, 5], [3, 4, 5, 6], [3, 4, 5, 6, 7], [0, 1, 2, 3, 4, 5, 6, 7, 8], [0, 1, 2, 3, 4, 5, 6, 7, 8, 9]] [[], [], [], [], [], [], [], [], [], [], []] [.one (.int .i64 n), .one (.int .i64 q), .one (.string ⟨(Lib.itoa q).toArray⟩), .one (.int .i64 n), .one (.int .i64 r), .one (.int .i64 (48 + r)), .one (.int .u8 (48 + r)), .blk #[.int .u8 (48 + r)] 5 (fun b => .slice (some ⟨b, 0, none⟩) 1 1), .one (.string ⟨#[UInt8.ofNat (48 + r).toNat]⟩), .one (.string (⟨(Lib.itoa q).toArray⟩ ++ ⟨#[UInt8.ofNat (48 + r).toNat]⟩)), .one (.string (⟨(Lib.itoa q).toArray⟩ ++ ⟨#[UInt8.ofNat (48 + r).toNat]⟩))] (by kernel_rfl) (by kernel_rfl) (Ext.refl w).drew ?_ ?_
        · refine stepsR_cons ?_ (stepsR_cons ?_ (stepsR_cons ?_ (stepsR_cons ?_ (stepsR_cons ?_ (stepsR_cons ?_ (stepsR_cons ?_ (stepsR_cons ?_ (stepsR_cons ?_ (stepsR_cons ?_ (stepsR_cons ?_ (trivial)))))))))))
          · intro vs W hl hI hd ho
            obtain ⟨x0, v0, rfl, l0⟩ := len_cons hl; obtain ⟨x1, v1, rfl, l1⟩ := len_cons l0; obtain ⟨x2, v2, rfl, l2⟩ := len_cons l1; obtain ⟨x3, v3, rfl, l3⟩ := len_cons l2; obtain ⟨x4, v4, rfl, l4⟩ := len_cons l3; obtain ⟨x5, v5, rfl, l5⟩ := len_cons l4; obtain ⟨x6, v6, rfl, l6⟩ := len_cons l5; obtain ⟨x7, v7, rfl, l7⟩ := len_cons l6; obtain ⟨x8, v8, rfl, l8⟩ := len_cons l7; obtain ⟨x9, v9, rfl, l9⟩ := len_cons l8; obtain ⟨x10, v10, rfl, l10⟩ := len_cons l9; obtain rfl := len_nil l10; clear hl l0 l1 l2 l3 l4 l5 l6 l7 l8 l9 l10
            simp only [factsR, atR, List.getElem?_cons_succ, List.getElem?_cons_zero, Rel.one, Rel.blk] at hd
            obtain ⟨-⟩ := hd
            simp only [putAll, Act.put, List.setIfInBounds_toArray, List.set_cons_succ, List.set_cons_zero]
            go_wp2_with fail
            exact rely_done _ rfl rfl (Ext.refl _) hI
          · intro vs W hl hI hd ho
            obtain ⟨x0, v0, rfl, l0⟩ := len_cons hl; obtain ⟨x1, v1, rfl, l1⟩ := len_cons l0; obtain ⟨x2, v2, rfl, l2⟩ := len_cons l1; obtain ⟨x3, v3, rfl, l3⟩ := len_cons l2; obtain ⟨x4, v4, rfl, l4⟩ := len_cons l3; obtain ⟨x5, v5, rfl, l5⟩ := len_cons l4; obtain ⟨x6, v6, rfl, l6⟩ := len_cons l5; obtain ⟨x7, v7, rfl, l7⟩ := len_cons l6; obtain ⟨x8, v8, rfl, l8⟩ := len_cons l7; obtain ⟨x9, v9, rfl, l9⟩ := len_cons l8; obtain ⟨x10, v10, rfl, l10⟩ := len_cons l9; obtain rfl := len_nil l10; clear hl l0 l1 l2 l3 l4 l5 l6 l7 l8 l9 l10
            simp only [factsR, atR, List.getElem?_cons_succ, List.getElem?_cons_zero, Rel.one, Rel.blk] at hd
            obtain ⟨rfl, -⟩ := hd
            simp only [putAll, Act.put, List.setIfInBounds_toArray, List.set_cons_succ, List.set_cons_zero]
            go_wp2_with fail
            exact rely_done _ rfl rfl (Ext.refl _) hI
          · intro vs W hl hI hd ho
            obtain ⟨x0, v0, rfl, l0⟩ := len_cons hl; obtain ⟨x1, v1, rfl, l1⟩ := len_cons l0; obtain ⟨x2, v2, rfl, l2⟩ := len_cons l1; obtain ⟨x3, v3, rfl, l3⟩ := len_cons l2; obtain ⟨x4, v4, rfl, l4⟩ := len_cons l3; obtain ⟨x5, v5, rfl, l5⟩ := len_cons l4; obtain ⟨x6, v6, rfl, l6⟩ := len_cons l5; obtain ⟨x7, v7, rfl, l7⟩ := len_cons l6; obtain ⟨x8, v8, rfl, l8⟩ := len_cons l7; obtain ⟨x9, v9, rfl, l9⟩ := len_cons l8; obtain ⟨x10, v10, rfl, l10⟩ := len_cons l9; obtain rfl := len_nil l10; clear hl l0 l1 l2 l3 l4 l5 l6 l7 l8 l9 l10
            simp only [factsR, atR, List.getElem?_cons_succ, List.getElem?_cons_zero, Rel.one, Rel.blk] at hd
            obtain ⟨rfl, rfl, -⟩ := hd
            simp only [putAll, Act.put, List.setIfInBounds_toArray, List.set_cons_succ, List.set_cons_zero]
            go_wp2_with (go_at_call 57; refine (HIH.out _).mono ?_; rintro e w1 ⟨rfl, hE1⟩)
            exact rely_done _ rfl rfl hE1 (hI.trans hE1)
          · intro vs W hl hI hd ho
            obtain ⟨x0, v0, rfl, l0⟩ := len_cons hl; obtain ⟨x1, v1, rfl, l1⟩ := len_cons l0; obtain ⟨x2, v2, rfl, l2⟩ := len_cons l1; obtain ⟨x3, v3, rfl, l3⟩ := len_cons l2; obtain ⟨x4, v4, rfl, l4⟩ := len_cons l3; obtain ⟨x5, v5, rfl, l5⟩ := len_cons l4; obtain ⟨x6, v6, rfl, l6⟩ := len_cons l5; obtain ⟨x7, v7, rfl, l7⟩ := len_cons l6; obtain ⟨x8, v8, rfl, l8⟩ := len_cons l7; obtain ⟨x9, v9, rfl, l9⟩ := len_cons l8; obtain ⟨x10, v10, rfl, l10⟩ := len_cons l9; obtain rfl := len_nil l10; clear hl l0 l1 l2 l3 l4 l5 l6 l7 l8 l9 l10
            simp only [factsR, atR, List.getElem?_cons_succ, List.getElem?_cons_zero, Rel.one, Rel.blk] at hd
            obtain ⟨-⟩ := hd
            simp only [putAll, Act.put, List.setIfInBounds_toArray, List.set_cons_succ, List.set_cons_zero]
            go_wp2_with fail
            exact rely_done _ rfl rfl (Ext.refl _) hI
          · intro vs W hl hI hd ho
            obtain ⟨x0, v0, rfl, l0⟩ := len_cons hl; obtain ⟨x1, v1, rfl, l1⟩ := len_cons l0; obtain ⟨x2, v2, rfl, l2⟩ := len_cons l1; obtain ⟨x3, v3, rfl, l3⟩ := len_cons l2; obtain ⟨x4, v4, rfl, l4⟩ := len_cons l3; obtain ⟨x5, v5, rfl, l5⟩ := len_cons l4; obtain ⟨x6, v6, rfl, l6⟩ := len_cons l5; obtain ⟨x7, v7, rfl, l7⟩ := len_cons l6; obtain ⟨x8, v8, rfl, l8⟩ := len_cons l7; obtain ⟨x9, v9, rfl, l9⟩ := len_cons l8; obtain ⟨x10, v10, rfl, l10⟩ := len_cons l9; obtain rfl := len_nil l10; clear hl l0 l1 l2 l3 l4 l5 l6 l7 l8 l9 l10
            simp only [factsR, atR, List.getElem?_cons_succ, List.getElem?_cons_zero, Rel.one, Rel.blk] at hd
            obtain ⟨rfl, -⟩ := hd
            simp only [putAll, Act.put, List.setIfInBounds_toArray, List.set_cons_succ, List.set_cons_zero]
            go_wp2_with fail
            exact rely_done _ rfl rfl (Ext.refl _) hI
          · intro vs W hl hI hd ho
            obtain ⟨x0, v0, rfl, l0⟩ := len_cons hl; obtain ⟨x1, v1, rfl, l1⟩ := len_cons l0; obtain ⟨x2, v2, rfl, l2⟩ := len_cons l1; obtain ⟨x3, v3, rfl, l3⟩ := len_cons l2; obtain ⟨x4, v4, rfl, l4⟩ := len_cons l3; obtain ⟨x5, v5, rfl, l5⟩ := len_cons l4; obtain ⟨x6, v6, rfl, l6⟩ := len_cons l5; obtain ⟨x7, v7, rfl, l7⟩ := len_cons l6; obtain ⟨x8, v8, rfl, l8⟩ := len_cons l7; obtain ⟨x9, v9, rfl, l9⟩ := len_cons l8; obtain ⟨x10, v10, rfl, l10⟩ := len_cons l9; obtain rfl := len_nil l10; clear hl l0 l1 l2 l3 l4 l5 l6 l7 l8 l9 l10
            simp only [factsR, atR, List.getElem?_cons_succ, List.getElem?_cons_zero, Rel.one, Rel.blk] at hd
            obtain ⟨rfl, rfl, -⟩ := hd
            simp only [putAll, Act.put, List.setIfInBounds_toArray, List.set_cons_succ, List.set_cons_zero]
            go_wp2_with fail
            exact rely_done _ rfl rfl (Ext.refl _) hI
          · intro vs W hl hI hd ho
            obtain ⟨x0, v0, rfl, l0⟩ := len_cons hl; obtain ⟨x1, v1, rfl, l1⟩ := len_cons l0; obtain ⟨x2, v2, rfl, l2⟩ := len_cons l1; obtain ⟨x3, v3, rfl, l3⟩ := len_cons l2; obtain ⟨x4, v4, rfl, l4⟩ := len_cons l3; obtain ⟨x5, v5, rfl, l5⟩ := len_cons l4; obtain ⟨x6, v6, rfl, l6⟩ := len_cons l5; obtain ⟨x7, v7, rfl, l7⟩ := len_cons l6; obtain ⟨x8, v8, rfl, l8⟩ := len_cons l7; obtain ⟨x9, v9, rfl, l9⟩ := len_cons l8; obtain ⟨x10, v10, rfl, l10⟩ := len_cons l9; obtain rfl := len_nil l10; clear hl l0 l1 l2 l3 l4 l5 l6 l7 l8 l9 l10
            simp only [factsR, atR, List.getElem?_cons_succ, List.getElem?_cons_zero, Rel.one, Rel.blk] at hd
            obtain ⟨rfl, rfl, rfl, -⟩ := hd
            simp only [putAll, Act.put, List.setIfInBounds_toArray, List.set_cons_succ, List.set_cons_zero]
            go_wp2_with fail
            exact rely_done _ rfl rfl (Ext.refl _) hI
          · intro vs W hl hI hd ho
            obtain ⟨x0, v0, rfl, l0⟩ := len_cons hl; obtain ⟨x1, v1, rfl, l1⟩ := len_cons l0; obtain ⟨x2, v2, rfl, l2⟩ := len_cons l1; obtain ⟨x3, v3, rfl, l3⟩ := len_cons l2; obtain ⟨x4, v4, rfl, l4⟩ := len_cons l3; obtain ⟨x5, v5, rfl, l5⟩ := len_cons l4; obtain ⟨x6, v6, rfl, l6⟩ := len_cons l5; obtain ⟨x7, v7, rfl, l7⟩ := len_cons l6; obtain ⟨x8, v8, rfl, l8⟩ := len_cons l7; obtain ⟨x9, v9, rfl, l9⟩ := len_cons l8; obtain ⟨x10, v10, rfl, l10⟩ := len_cons l9; obtain rfl := len_nil l10; clear hl l0 l1 l2 l3 l4 l5 l6 l7 l8 l9 l10
            simp only [factsR, atR, List.getElem?_cons_succ, List.getElem?_cons_zero, Rel.one, Rel.blk] at hd
            obtain ⟨rfl, rfl, rfl, rfl, -⟩ := hd
            simp only [putAll, Act.put, List.setIfInBounds_toArray, List.set_cons_succ, List.set_cons_zero]
            go_wp2_with fail
            exact rely_done _ rfl ⟨_, rfl, World.alloc_heap_new W _⟩ ((Ext.refl W).alloc _) (hI.alloc _)
          · intro vs W hl hI hd ho
            obtain ⟨x0, v0, rfl, l0⟩ := len_cons hl; obtain ⟨x1, v1, rfl, l1⟩ := len_cons l0; obtain ⟨x2, v2, rfl, l2⟩ := len_cons l1; obtain ⟨x3, v3, rfl, l3⟩ := len_cons l2; obtain ⟨x4, v4, rfl, l4⟩ := len_cons l3; obtain ⟨x5, v5, rfl, l5⟩ := len_cons l4; obtain ⟨x6, v6, rfl, l6⟩ := len_cons l5; obtain ⟨x7, v7, rfl, l7⟩ := len_cons l6; obtain ⟨x8, v8, rfl, l8⟩ := len_cons l7; obtain ⟨x9, v9, rfl, l9⟩ := len_cons l8; obtain ⟨x10, v10, rfl, l10⟩ := len_cons l9; obtain rfl := len_nil l10; clear hl l0 l1 l2 l3 l4 l5 l6 l7 l8 l9 l10
            simp only [factsR, atR, List.getElem?_cons_succ, List.getElem?_cons_zero, Rel.one, Rel.blk] at hd
            obtain ⟨rfl, rfl, rfl, rfl, ⟨b, rfl, hb⟩, -⟩ := hd
            simp only [putAll, Act.put, List.setIfInBounds_toArray, List.set_cons_succ, List.set_cons_zero]
            have hcvb := conv_at W b (UInt8.ofNat (48 + r).toNat) (48 + r) (by rw [UInt8.toNat_ofNat']; omega) hb; go_wp2_with fail
            exact rely_done _ rfl rfl (Ext.refl _) hI
          · intro vs W hl hI hd ho
            obtain ⟨x0, v0, rfl, l0⟩ := len_cons hl; obtain ⟨x1, v1, rfl, l1⟩ := len_cons l0; obtain ⟨x2, v2, rfl, l2⟩ := len_cons l1; obtain ⟨x3, v3, rfl, l3⟩ := len_cons l2; obtain ⟨x4, v4, rfl, l4⟩ := len_cons l3; obtain ⟨x5, v5, rfl, l5⟩ := len_cons l4; obtain ⟨x6, v6, rfl, l6⟩ := len_cons l5; obtain ⟨x7, v7, rfl, l7⟩ := len_cons l6; obtain ⟨x8, v8, rfl, l8⟩ := len_cons l7; obtain ⟨x9, v9, rfl, l9⟩ := len_cons l8; obtain ⟨x10, v10, rfl, l10⟩ := len_cons l9; obtain rfl := len_nil l10; clear hl l0 l1 l2 l3 l4 l5 l6 l7 l8 l9 l10
            simp only [factsR, atR, List.getElem?_cons_succ, List.getElem?_cons_zero, Rel.one, Rel.blk] at hd
            obtain ⟨rfl, rfl, rfl, rfl, rfl, rfl, rfl, ⟨b, rfl, hb⟩, rfl, -⟩ := hd
            simp only [putAll, Act.put, List.setIfInBounds_toArray, List.set_cons_succ, List.set_cons_zero]
            have hl9 : ¬ (9223372036854775807 < (Lib.itoa q).length + 1) := by omega
            go_wp2_with fail
            exact rely_done _ rfl rfl (Ext.refl _) hI
          · intro vs W hl hI hd ho
            obtain ⟨x0, v0, rfl, l0⟩ := len_cons hl; obtain ⟨x1, v1, rfl, l1⟩ := len_cons l0; obtain ⟨x2, v2, rfl, l2⟩ := len_cons l1; obtain ⟨x3, v3, rfl, l3⟩ := len_cons l2; obtain ⟨x4, v4, rfl, l4⟩ := len_cons l3; obtain ⟨x5, v5, rfl, l5⟩ := len_cons l4; obtain ⟨x6, v6, rfl, l6⟩ := len_cons l5; obtain ⟨x7, v7, rfl, l7⟩ := len_cons l6; obtain ⟨x8, v8, rfl, l8⟩ := len_cons l7; obtain ⟨x9, v9, rfl, l9⟩ := len_cons l8; obtain ⟨x10, v10, rfl, l10⟩ := len_cons l9; obtain rfl := len_nil l10; clear hl l0 l1 l2 l3 l4 l5 l6 l7 l8 l9 l10
            simp only [factsR, atR, List.getElem?_cons_succ, List.getElem?_cons_zero, Rel.one, Rel.blk] at hd
            obtain ⟨rfl, rfl, rfl, rfl, rfl, rfl, rfl, ⟨b, rfl, hb⟩, rfl, rfl, -⟩ := hd
            simp only [putAll, Act.put, List.setIfInBounds_toArray, List.set_cons_succ, List.set_cons_zero]
            go_wp2_with fail
            exact rely_done _ rfl rfl (Ext.refl _) hI
        · intro vs W hl hI hd
          obtain ⟨x0, v0, rfl, l0⟩ := len_cons hl; obtain ⟨x1, v1, rfl, l1⟩ := len_cons l0; obtain ⟨x2, v2, rfl, l2⟩ := len_cons l1; obtain ⟨x3, v3, rfl, l3⟩ := len_cons l2; obtain ⟨x4, v4, rfl, l4⟩ := len_cons l3; obtain ⟨x5, v5, rfl, l5⟩ := len_cons l4; obtain ⟨x6, v6, rfl, l6⟩ := len_cons l5; obtain ⟨x7, v7, rfl, l7⟩ := len_cons l6; obtain ⟨x8, v8, rfl, l8⟩ := len_cons l7; obtain ⟨x9, v9, rfl, l9⟩ := len_cons l8; obtain ⟨x10, v10, rfl, l10⟩ := len_cons l9; obtain rfl := len_nil l10; clear hl l0 l1 l2 l3 l4 l5 l6 l7 l8 l9 l10
          simp only [List.length_cons, List.length_nil, List.range, List.range.loop, Nat.zero_add, Nat.reduceAdd, factsR, atR, List.getElem?_cons_succ, List.getElem?_cons_zero, Rel.one, Rel.blk] at hd
          obtain ⟨rfl, rfl, rfl, rfl, rfl, rfl, rfl, ⟨b, rfl, hb⟩, rfl, rfl, rfl, -⟩ := hd
          simp only [putAll, Act.put, List.setIfInBounds_toArray, List.set_cons_succ, List.set_cons_zero]
          go_wp2_with fail
          go_ret
          exact ⟨by rw [ba_app]; rfl, hI⟩
end Go.Proofs.YtfohekfhcolnfaaDoor
