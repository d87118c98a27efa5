
import Derived.Test.YtacicanjmleikaaGreatDoorGr7
import Derived.Test.YtacicanjmleikaaGreatDoorGr4
import Derived.Deep.DeepCutAuto
/- A part of the proof. -/
namespace Go.Proofs.YtacicanjmleikaaGreatDoor
open Go.RowKit Go.Sort Go.Shelf
set_option linter.unusedSimpArgs false
set_option linter.unusedVariables false
set_option maxRecDepth 100000
def Wk (w : World) (b a l : Nat) : Prop := Bk w b 128 #[.int .u64 a, .int .u64 l]
def upA (lonely : Bool) (a l : Nat) : Nat × Nat := let s := if lonely then lone a l else (a, l); (s.1 / 2, s.2 / 2)
theorem and_oneU {k : Nat} (h : k ≤ 4096) : bits .and .u64 (k : Int) 1 = ((k % 2 : Nat) : Int) := by
 show IntKind.u64.wrap ((BitVec.ofInt 64 (k : Int) &&& BitVec.ofInt 64 1).toNat : Int) = _
 rw [BitVec.toNat_and, BitVec.toNat_ofInt, show (BitVec.ofInt 64 1).toNat = 1 from rfl, Nat.and_one_is_mod, IntKind.wrap_u64]
 have : ((k : Int) % ((2 ^ 64 : Nat) : Int)).toNat = k := by omega
 rw [this]
 omega
theorem wright_any (b a l : Nat) (w : World) (h : Wk w b a l) (ha : a ≤ 4096 ∧ l ≤ 4096) : Calls Tryz.prog 62 #[.pointer (some ⟨b, 0, none⟩)] w fun e w' => e = .returned (.bool (rightW a l)) ∧ Ext w w' := by
 have c0 := h.c 0 _ rfl
 have c1 := h.c 1 _ rfl
 have hb := lt_of_block h
 have e1 := and_oneU ha.1
 have hg := @grow_cell
 by_cases h1 : a % 2 = 1
 ·have HR : Hid (rightW a l = true) := Lib.hid (by simp [rightW, h1])
  go_enter Tryz.func62, Tryz.ntmps62
  go_upto_region 1 with fail
  refine region_ext (by kernel_rfl) (by kernel_rfl) ?_
  repeat (go_big_quiet_step (fail))
  refine wpQuiet_nil ?_
  intro w' hE'
  go_wp2_with fail
  go_ret
  rw [HR.out]
  exact ⟨rfl, hE'⟩
 ·have h0 : a % 2 = 0 := by omega
  by_cases h2 : a = l
  ·subst h2
   have HR : Hid (rightW a a = true) := Lib.hid (by simp [rightW])
   go_enter Tryz.func62, Tryz.ntmps62
   go_upto_region 1 with fail
   refine region_ext (by kernel_rfl) (by kernel_rfl) ?_
   repeat (go_big_quiet_step (fail))
   refine wpQuiet_nil ?_
   intro w' hE'
   go_wp2_with fail
   go_ret
   rw [HR.out]
   exact ⟨rfl, hE'⟩
  ·have HR : Hid (rightW a l = false) := Lib.hid (by simp [rightW, h1, h2])
   have e3 : ((a : Int) == (l : Int)) = false := by simp; omega
   go_enter Tryz.func62, Tryz.ntmps62
   go_upto_region 1 with fail
   refine region_ext (by kernel_rfl) (by kernel_rfl) ?_
   repeat (go_big_quiet_step (fail))
   refine wpQuiet_nil ?_
   intro w' hE'
   go_wp2_with fail
   go_ret
   rw [HR.out]
   exact ⟨rfl, hE'⟩
theorem Wk.ext {w w' : World} {b a l : Nat} (h : Wk w b a l) (hx : Ext w w') : Wk w' b a l := Bk.ext h hx
theorem lone_bd (a l : Nat) : (lone a l).1 ≤ a ∧ (lone a l).2 ≤ l := by
 induction a using Nat.strongRecOn generalizing l with
 | _ a ih =>
  by_cases h : a % 2 = 0 ∧ a ≠ 0
  ·rw [lone_yes h]
   have := ih (a / 2) (by omega) (l / 2)
   omega
  ·rw [lone_no h]; simp
def cellN (w : World) (b : Nat) : Nat := match w.cell? ⟨b, 0, none⟩ with
 | some (.int _ q) => q.toNat
 | _ => 0
theorem Wk.cellN {w : World} {b a l : Nat} (h : Wk w b a l) : cellN w b = a := by
 have := h.c 0 _ rfl
 unfold Go.Proofs.YtacicanjmleikaaGreatDoor.cellN
 rw [this]; rfl
theorem lenlit18 {vs : List Value} (h : vs.length = 18) : ∃ x0 x1 x2 x3 x4 x5 x6 x7 x8 x9 x10 x11 x12 x13 x14 x15 x16 x17 : Value, vs = [x0, x1, x2, x3, x4, x5, x6, x7, x8, x9, x10, x11, x12, x13, x14, x15, x16, x17] := by
 obtain ⟨x0, v0, rfl, h0⟩ := len_cons h
 obtain ⟨x1, v1, rfl, h1⟩ := len_cons h0
 obtain ⟨x2, v2, rfl, h2⟩ := len_cons h1
 obtain ⟨x3, v3, rfl, h3⟩ := len_cons h2
 obtain ⟨x4, v4, rfl, h4⟩ := len_cons h3
 obtain ⟨x5, v5, rfl, h5⟩ := len_cons h4
 obtain ⟨x6, v6, rfl, h6⟩ := len_cons h5
 obtain ⟨x7, v7, rfl, h7⟩ := len_cons h6
 obtain ⟨x8, v8, rfl, h8⟩ := len_cons h7
 obtain ⟨x9, v9, rfl, h9⟩ := len_cons h8
 obtain ⟨x10, v10, rfl, h10⟩ := len_cons h9
 obtain ⟨x11, v11, rfl, h11⟩ := len_cons h10
 obtain ⟨x12, v12, rfl, h12⟩ := len_cons h11
 obtain ⟨x13, v13, rfl, h13⟩ := len_cons h12
 obtain ⟨x14, v14, rfl, h14⟩ := len_cons h13
 obtain ⟨x15, v15, rfl, h15⟩ := len_cons h14
 obtain ⟨x16, v16, rfl, h16⟩ := len_cons h15
 obtain ⟨x17, v17, rfl, h17⟩ := len_cons h16
 obtain rfl := len_nil h17
 exact ⟨x0, x1, x2, x3, x4, x5, x6, x7, x8, x9, x10, x11, x12, x13, x14, x15, x16, x17, rfl⟩
structure UpI (B : Nat) (w : World) (b a l : Nat) (listed : Nat → Bool) (W : World) : Prop where
 below : Below B w W
 fa : listed 14 = false → Bk W b 128 #[.int .u64 a, .int .u64 l]
 fb : listed 14 = true → listed 17 = false → Bk W b 128 #[.int .u64 ((a : Int) / 2), .int .u64 l]
 fc : listed 17 = true → Bk W b 128 #[.int .u64 ((a : Int) / 2), .int .u64 ((l : Int) / 2)]
theorem UpI.other {B : Nat} {w : World} {b a l : Nat} {listed : Nat → Bool} {W : World} (h : UpI B w b a l listed W) {i : Nat} (h1 : i ≠ 14) (h2 : i ≠ 17) : UpI B w b a l (updE listed i) W := by
 have e1 : updE listed i 14 = listed 14 := by simp [updE, h1.symm]
 have e2 : updE listed i 17 = listed 17 := by simp [updE, h2.symm]
 exact ⟨h.below, by rw [e1]; exact h.fa, by rw [e1, e2]; exact h.fb, by rw [e2]; exact h.fc⟩
set_option maxHeartbeats 4000000 in
theorem wup_any (b a l : Nat) (lonely : Bool) (B : Nat) (w : World) (hB : B ≤ b) (h : Wk w b a l) (ha : a ≤ 4096 ∧ l ≤ 4096) :
  Calls Tryz.prog 61 #[.pointer (some ⟨b, 0, none⟩), .bool lonely] w fun e w' => (∃ v, e = .returned v) ∧ Wk w' b (upA lonely a l).1 (upA lonely a l).2 ∧ Below B w w' := by
 have HB := Lib.hid hB
 go_enter Tryz.func61, Tryz.ntmps61
 go_wp2_with fail
 go_loopw [] (fun wr => ∃ (a' l' : Nat), Hid (a' ≤ 4096 ∧ l' ≤ 4096) ∧ Wk wr b a' l' ∧ Hid (upA lonely a l = upA lonely a' l') ∧ Below B w wr) (fun wr => cellN wr b + 0)
 case atStart => exact ⟨a, l, Lib.hid ha, h, Lib.hid rfl, Below.refl _ _⟩
 case round =>
  obtain ⟨a', l', HA, hw, HL, hx⟩ := hrel
  cases lonely with
  | false =>
   have HI : UpI B w b a' l' (fun _ => false) { wr with drawn := wr.drawn + 1 } := ⟨Below.drew hx, fun _ => Bk.ext hw (Ext.drew (Ext.refl wr)), (fun h => by cases h), (fun h => by cases h)⟩
   go_upto_region 2 with fail
   refine region_relyF (UpI B w b a' l') [some 36, some 37, some 38, some 39, some 40, some 41, some 42, some 43, some 44, some 45, some 46, some 47, some 48, some 49, none, some 50, some 51, none] [[], [], [], [2], [2, 3], [2, 3, 4], [2, 3, 4, 5], [], [7], [7, 8], [7, 8, 9], [7, 8, 9, 10], [0, 2, 3, 4, 5, 6, 7, 8, 9, 10], [0, 2, 3, 4, 5, 6, 7, 8, 9, 10, 12], [0, 2, 3, 4, 5, 6, 7, 8, 9, 10, 12, 13], [0, 1, 2, 3, 4, 5, 6, 7, 8, 9, 10, 11, 12, 13, 14], [0, 1, 2, 3, 4, 5, 6, 7, 8, 9, 10, 11, 12, 13, 14, 15], [0, 1, 2, 3, 4, 5, 6, 7, 8, 9, 10, 11, 12, 13, 14, 15, 16]] [[], [], [], [2], [3], [4], [5], [], [7], [8], [9], [10], [0], [12], [6, 13], [1], [15], [11, 16]] [none, none, none, none, none, none, none, none, none, none, none, none, none, none, none, none, none, none] [false, false, false, false, false, false, false, false, false, false, false, false, false, false, false, false, false, false] [.one ((.pointer (some ⟨b, 0, none⟩))), .one ((.pointer (some ⟨b, 0, none⟩))), .one ((.pointer (some ⟨b, 0, none⟩))), .one ((.pointer (some ⟨b, 0, none⟩))), .one ((.pointer (some ⟨b, 0, none⟩))), .one ((.int .u64 (a' : Nat))), .one ((.int .u64 ((a' : Int) / 2))), .one ((.pointer (some ⟨b, 0, none⟩))), .one ((.pointer (some ⟨b, 0, none⟩))), .one ((.pointer (some ⟨b, 1, none⟩))), .one ((.int .u64 (l' : Nat))), .one ((.int .u64 ((l' : Int) / 2))), .one ((.pointer (some ⟨b, 0, none⟩))), .one ((.pointer (some ⟨b, 0, none⟩))), .any, .one ((.pointer (some ⟨b, 0, none⟩))), .one ((.pointer (some ⟨b, 1, none⟩))), .any] (by kernel_rfl) (by kernel_rfl) rfl HI ?_ ?_
   ·refine stepsF_cons ?_ ?_
    ·intro listed vs W' hl hI hd hs hn hu hz ho9
     refine hold ?_
     obtain ⟨x0, x1, x2, x3, x4, x5, x6, x7, x8, x9, x10, x11, x12, x13, x14, x15, x16, x17, rfl⟩ := lenlit18 hl; clear hl
     refine held ?_
     simp only [putAll, Act.put, List.setIfInBounds_toArray, List.set_cons_succ, List.set_cons_zero]
     go_wp2_with fail
     exact relyE_done _ rfl rfl (Ext.refl _) (hI.other (by decide) (by decide))
    refine stepsF_cons ?_ ?_
    ·intro listed vs W' hl hI hd hs hn hu hz ho9
     refine hold ?_
     obtain ⟨x0, x1, x2, x3, x4, x5, x6, x7, x8, x9, x10, x11, x12, x13, x14, x15, x16, x17, rfl⟩ := lenlit18 hl; clear hl
     refine held ?_
     simp only [putAll, Act.put, List.setIfInBounds_toArray, List.set_cons_succ, List.set_cons_zero]
     go_wp2_with fail
     exact relyE_done _ rfl rfl (Ext.refl _) (hI.other (by decide) (by decide))
    refine stepsF_cons ?_ ?_
    ·intro listed vs W' hl hI hd hs hn hu hz ho9
     refine hold ?_
     obtain ⟨x0, x1, x2, x3, x4, x5, x6, x7, x8, x9, x10, x11, x12, x13, x14, x15, x16, x17, rfl⟩ := lenlit18 hl; clear hl
     refine held ?_
     simp only [putAll, Act.put, List.setIfInBounds_toArray, List.set_cons_succ, List.set_cons_zero]
     go_wp2_with fail
     exact relyE_done _ rfl rfl (Ext.refl _) (hI.other (by decide) (by decide))
    refine stepsF_cons ?_ ?_
    ·intro listed vs W' hl hI hd hs hn hu hz ho9
     refine hold ?_
     obtain ⟨x0, x1, x2, x3, x4, x5, x6, x7, x8, x9, x10, x11, x12, x13, x14, x15, x16, x17, rfl⟩ := lenlit18 hl; clear hl
     simp only [factsL, atL, refV, List.getElem?_cons_succ, List.getElem?_cons_zero, List.getD_cons_succ, List.getD_cons_zero, RelL.one, RelL.any, RelL.blk, RelL.law] at hd
     obtain ⟨rfl, -⟩ := hd
     refine held ?_
     simp only [putAll, Act.put, List.setIfInBounds_toArray, List.set_cons_succ, List.set_cons_zero]
     go_wp2_with fail
     exact relyE_done _ rfl rfl (Ext.refl _) (hI.other (by decide) (by decide))
    refine stepsF_cons ?_ ?_
    ·intro listed vs W' hl hI hd hs hn hu hz ho9
     refine hold ?_
     obtain ⟨x0, x1, x2, x3, x4, x5, x6, x7, x8, x9, x10, x11, x12, x13, x14, x15, x16, x17, rfl⟩ := lenlit18 hl; clear hl
     simp only [factsL, atL, refV, List.getElem?_cons_succ, List.getElem?_cons_zero, List.getD_cons_succ, List.getD_cons_zero, RelL.one, RelL.any, RelL.blk, RelL.law] at hd
     obtain ⟨rfl, -⟩ := hd
     refine held ?_
     simp only [putAll, Act.put, List.setIfInBounds_toArray, List.set_cons_succ, List.set_cons_zero]
     go_wp2_with fail
     exact relyE_done _ rfl rfl (Ext.refl _) (hI.other (by decide) (by decide))
    refine stepsF_cons ?_ ?_
    ·intro listed vs W' hl hI hd hs hn hu hz ho9
     refine hold ?_
     obtain ⟨x0, x1, x2, x3, x4, x5, x6, x7, x8, x9, x10, x11, x12, x13, x14, x15, x16, x17, rfl⟩ := lenlit18 hl; clear hl
     simp only [factsL, atL, refV, List.getElem?_cons_succ, List.getElem?_cons_zero, List.getD_cons_succ, List.getD_cons_zero, RelL.one, RelL.any, RelL.blk, RelL.law] at hd
     obtain ⟨rfl, -⟩ := hd
     refine held ?_
     simp only [putAll, Act.put, List.setIfInBounds_toArray, List.set_cons_succ, List.set_cons_zero]
     have h14 : listed 14 = false := by cases h : listed 14 with | false => rfl | true => exact absurd (by decide) (hu 14 h)
     have d0 := (hI.fa h14).c 0 _ rfl
     go_wp2_with fail
     exact relyE_done _ rfl rfl (Ext.refl _) (hI.other (by decide) (by decide))
    refine stepsF_cons ?_ ?_
    ·intro listed vs W' hl hI hd hs hn hu hz ho9
     refine hold ?_
     obtain ⟨x0, x1, x2, x3, x4, x5, x6, x7, x8, x9, x10, x11, x12, x13, x14, x15, x16, x17, rfl⟩ := lenlit18 hl; clear hl
     simp only [factsL, atL, refV, List.getElem?_cons_succ, List.getElem?_cons_zero, List.getD_cons_succ, List.getD_cons_zero, RelL.one, RelL.any, RelL.blk, RelL.law] at hd
     obtain ⟨rfl, -⟩ := hd
     refine held ?_
     simp only [putAll, Act.put, List.setIfInBounds_toArray, List.set_cons_succ, List.set_cons_zero]
     go_wp2_with fail
     exact relyE_done _ rfl rfl (Ext.refl _) (hI.other (by decide) (by decide))
    refine stepsF_cons ?_ ?_
    ·intro listed vs W' hl hI hd hs hn hu hz ho9
     refine hold ?_
     obtain ⟨x0, x1, x2, x3, x4, x5, x6, x7, x8, x9, x10, x11, x12, x13, x14, x15, x16, x17, rfl⟩ := lenlit18 hl; clear hl
     refine held ?_
     simp only [putAll, Act.put, List.setIfInBounds_toArray, List.set_cons_succ, List.set_cons_zero]
     go_wp2_with fail
     exact relyE_done _ rfl rfl (Ext.refl _) (hI.other (by decide) (by decide))
    refine stepsF_cons ?_ ?_
    ·intro listed vs W' hl hI hd hs hn hu hz ho9
     refine hold ?_
     obtain ⟨x0, x1, x2, x3, x4, x5, x6, x7, x8, x9, x10, x11, x12, x13, x14, x15, x16, x17, rfl⟩ := lenlit18 hl; clear hl
     simp only [factsL, atL, refV, List.getElem?_cons_succ, List.getElem?_cons_zero, List.getD_cons_succ, List.getD_cons_zero, RelL.one, RelL.any, RelL.blk, RelL.law] at hd
     obtain ⟨rfl, -⟩ := hd
     refine held ?_
     simp only [putAll, Act.put, List.setIfInBounds_toArray, List.set_cons_succ, List.set_cons_zero]
     go_wp2_with fail
     exact relyE_done _ rfl rfl (Ext.refl _) (hI.other (by decide) (by decide))
    refine stepsF_cons ?_ ?_
    ·intro listed vs W' hl hI hd hs hn hu hz ho9
     refine hold ?_
     obtain ⟨x0, x1, x2, x3, x4, x5, x6, x7, x8, x9, x10, x11, x12, x13, x14, x15, x16, x17, rfl⟩ := lenlit18 hl; clear hl
     simp only [factsL, atL, refV, List.getElem?_cons_succ, List.getElem?_cons_zero, List.getD_cons_succ, List.getD_cons_zero, RelL.one, RelL.any, RelL.blk, RelL.law] at hd
     obtain ⟨rfl, -⟩ := hd
     refine held ?_
     simp only [putAll, Act.put, List.setIfInBounds_toArray, List.set_cons_succ, List.set_cons_zero]
     go_wp2_with fail
     exact relyE_done _ rfl rfl (Ext.refl _) (hI.other (by decide) (by decide))
    refine stepsF_cons ?_ ?_
    ·intro listed vs W' hl hI hd hs hn hu hz ho9
     refine hold ?_
     obtain ⟨x0, x1, x2, x3, x4, x5, x6, x7, x8, x9, x10, x11, x12, x13, x14, x15, x16, x17, rfl⟩ := lenlit18 hl; clear hl
     simp only [factsL, atL, refV, List.getElem?_cons_succ, List.getElem?_cons_zero, List.getD_cons_succ, List.getD_cons_zero, RelL.one, RelL.any, RelL.blk, RelL.law] at hd
     obtain ⟨rfl, -⟩ := hd
     refine held ?_
     simp only [putAll, Act.put, List.setIfInBounds_toArray, List.set_cons_succ, List.set_cons_zero]
     have h14 : listed 14 = false := by cases h : listed 14 with | false => rfl | true => exact absurd (by decide) (hu 14 h)
     have d0 := (hI.fa h14).c 1 _ rfl
     go_wp2_with fail
     exact relyE_done _ rfl rfl (Ext.refl _) (hI.other (by decide) (by decide))
    refine stepsF_cons ?_ ?_
    ·intro listed vs W' hl hI hd hs hn hu hz ho9
     refine hold ?_
     obtain ⟨x0, x1, x2, x3, x4, x5, x6, x7, x8, x9, x10, x11, x12, x13, x14, x15, x16, x17, rfl⟩ := lenlit18 hl; clear hl
     simp only [factsL, atL, refV, List.getElem?_cons_succ, List.getElem?_cons_zero, List.getD_cons_succ, List.getD_cons_zero, RelL.one, RelL.any, RelL.blk, RelL.law] at hd
     obtain ⟨rfl, -⟩ := hd
     refine held ?_
     simp only [putAll, Act.put, List.setIfInBounds_toArray, List.set_cons_succ, List.set_cons_zero]
     go_wp2_with fail
     exact relyE_done _ rfl rfl (Ext.refl _) (hI.other (by decide) (by decide))
    refine stepsF_cons ?_ ?_
    ·intro listed vs W' hl hI hd hs hn hu hz ho9
     refine hold ?_
     obtain ⟨x0, x1, x2, x3, x4, x5, x6, x7, x8, x9, x10, x11, x12, x13, x14, x15, x16, x17, rfl⟩ := lenlit18 hl; clear hl
     simp only [factsL, atL, refV, List.getElem?_cons_succ, List.getElem?_cons_zero, List.getD_cons_succ, List.getD_cons_zero, RelL.one, RelL.any, RelL.blk, RelL.law] at hd
     obtain ⟨rfl, -⟩ := hd
     refine held ?_
     simp only [putAll, Act.put, List.setIfInBounds_toArray, List.set_cons_succ, List.set_cons_zero]
     go_wp2_with fail
     exact relyE_done _ rfl rfl (Ext.refl _) (hI.other (by decide) (by decide))
    refine stepsF_cons ?_ ?_
    ·intro listed vs W' hl hI hd hs hn hu hz ho9
     refine hold ?_
     obtain ⟨x0, x1, x2, x3, x4, x5, x6, x7, x8, x9, x10, x11, x12, x13, x14, x15, x16, x17, rfl⟩ := lenlit18 hl; clear hl
     simp only [factsL, atL, refV, List.getElem?_cons_succ, List.getElem?_cons_zero, List.getD_cons_succ, List.getD_cons_zero, RelL.one, RelL.any, RelL.blk, RelL.law] at hd
     obtain ⟨rfl, -⟩ := hd
     refine held ?_
     simp only [putAll, Act.put, List.setIfInBounds_toArray, List.set_cons_succ, List.set_cons_zero]
     go_wp2_with fail
     exact relyE_done _ rfl rfl (Ext.refl _) (hI.other (by decide) (by decide))
    refine stepsF_cons ?_ ?_
    ·intro listed vs W' hl hI hd hs hn hu hz ho9
     refine hold ?_
     obtain ⟨x0, x1, x2, x3, x4, x5, x6, x7, x8, x9, x10, x11, x12, x13, x14, x15, x16, x17, rfl⟩ := lenlit18 hl; clear hl
     simp only [factsL, atL, refV, List.getElem?_cons_succ, List.getElem?_cons_zero, List.getD_cons_succ, List.getD_cons_zero, RelL.one, RelL.any, RelL.blk, RelL.law] at hd
     obtain ⟨rfl, rfl, -⟩ := hd
     refine held ?_
     simp only [putAll, Act.put, List.setIfInBounds_toArray, List.set_cons_succ, List.set_cons_zero]
     have d0 := (hI.fa hz).c 0 _ rfl
     have hfz := free_of_block (hI.fa hz)
     go_wp2_with fail
     exact relyE_store undef rfl trivial (by simp) ⟨fun _ _ h => h, fun _ _ h => h, fun _ _ h => h, fun _ _ h => h, fun _ _ h => h, fun _ _ h => h, fun _ _ h => h, fun _ _ h => h, fun _ _ h => h, fun _ _ h => h, fun _ _ h => h, fun _ _ h => h, fun _ _ h => h, fun _ _ h => h, fun _ _ h => h, fun _ _ h => h, fun _ _ h => h, fun _ _ h => h, trivial⟩ ⟨Below.setCell (p := ⟨b, 0, none⟩) hI.below HB.out _, fun h => by simp [updE] at h, fun _ _ => (hI.fa hz).set 0 _, fun h => by simp [updE] at h; exact absurd (by decide) (hu 17 h)⟩
    refine stepsF_cons ?_ ?_
    ·intro listed vs W' hl hI hd hs hn hu hz ho9
     refine hold ?_
     obtain ⟨x0, x1, x2, x3, x4, x5, x6, x7, x8, x9, x10, x11, x12, x13, x14, x15, x16, x17, rfl⟩ := lenlit18 hl; clear hl
     simp only [factsL, atL, refV, List.getElem?_cons_succ, List.getElem?_cons_zero, List.getD_cons_succ, List.getD_cons_zero, RelL.one, RelL.any, RelL.blk, RelL.law] at hd
     obtain ⟨rfl, -⟩ := hd
     refine held ?_
     simp only [putAll, Act.put, List.setIfInBounds_toArray, List.set_cons_succ, List.set_cons_zero]
     go_wp2_with fail
     exact relyE_done _ rfl rfl (Ext.refl _) (hI.other (by decide) (by decide))
    refine stepsF_cons ?_ ?_
    ·intro listed vs W' hl hI hd hs hn hu hz ho9
     refine hold ?_
     obtain ⟨x0, x1, x2, x3, x4, x5, x6, x7, x8, x9, x10, x11, x12, x13, x14, x15, x16, x17, rfl⟩ := lenlit18 hl; clear hl
     simp only [factsL, atL, refV, List.getElem?_cons_succ, List.getElem?_cons_zero, List.getD_cons_succ, List.getD_cons_zero, RelL.one, RelL.any, RelL.blk, RelL.law] at hd
     obtain ⟨rfl, -⟩ := hd
     refine held ?_
     simp only [putAll, Act.put, List.setIfInBounds_toArray, List.set_cons_succ, List.set_cons_zero]
     go_wp2_with fail
     exact relyE_done _ rfl rfl (Ext.refl _) (hI.other (by decide) (by decide))
    refine stepsF_cons ?_ ?_
    ·intro listed vs W' hl hI hd hs hn hu hz ho9
     refine hold ?_
     obtain ⟨x0, x1, x2, x3, x4, x5, x6, x7, x8, x9, x10, x11, x12, x13, x14, x15, x16, x17, rfl⟩ := lenlit18 hl; clear hl
     simp only [factsL, atL, refV, List.getElem?_cons_succ, List.getElem?_cons_zero, List.getD_cons_succ, List.getD_cons_zero, RelL.one, RelL.any, RelL.blk, RelL.law] at hd
     obtain ⟨rfl, rfl, -⟩ := hd
     refine held ?_
     simp only [putAll, Act.put, List.setIfInBounds_toArray, List.set_cons_succ, List.set_cons_zero]
     have h14 := hs 14 (by decide)
     have d1 := (hI.fb h14 hz).c 1 _ rfl
     have hfz := free_of_block (hI.fb h14 hz)
     go_wp2_with fail
     exact relyE_store undef rfl trivial (by simp) ⟨fun _ _ h => h, fun _ _ h => h, fun _ _ h => h, fun _ _ h => h, fun _ _ h => h, fun _ _ h => h, fun _ _ h => h, fun _ _ h => h, fun _ _ h => h, fun _ _ h => h, fun _ _ h => h, fun _ _ h => h, fun _ _ h => h, fun _ _ h => h, fun _ _ h => h, fun _ _ h => h, fun _ _ h => h, fun _ _ h => h, trivial⟩ ⟨Below.setCell (p := ⟨b, 1, none⟩) hI.below HB.out _, fun h => by simp [updE, h14] at h, fun _ h => by simp [updE] at h, fun _ => (hI.fb h14 hz).set 1 _⟩
    exact trivial
   ·intro listed vs W' hl hall hI hd hn
    obtain ⟨x0, x1, x2, x3, x4, x5, x6, x7, x8, x9, x10, x11, x12, x13, x14, x15, x16, x17, rfl⟩ := lenlit18 hl; clear hl
    simp only [List.length_cons, List.length_nil, List.range, List.range.loop, Nat.zero_add, Nat.reduceAdd, factsL, atL, refV, List.getElem?_cons_succ, List.getElem?_cons_zero, List.getD_cons_succ, List.getD_cons_zero, RelL.one, RelL.any, RelL.blk, RelL.law] at hd
    obtain ⟨rfl, rfl, rfl, rfl, rfl, rfl, rfl, rfl, rfl, rfl, rfl, rfl, rfl, rfl, -, rfl, rfl, -, -⟩ := hd
    simp only [putAll, Act.put, List.setIfInBounds_toArray, List.set_cons_succ, List.set_cons_zero]
    have ho2 := hI.fc (hall 17 (by decide))
    have hb2 := hI.below
    clear hall hn hI
    go_wp2_with fail
    go_end0
    rw [HL.out]
    exact ⟨⟨_, rfl⟩, ho2, hb2⟩
  | true =>
   have c0 := hw.c 0 _ rfl
   have e1 := and_oneU HA.out.1
   by_cases h1 : a' % 2 = 1
   ·have HU : Hid (upA true a' l' = (a' / 2, l' / 2)) := Lib.hid (by simp [upA, lone_no (show ¬ (a' % 2 = 0 ∧ a' ≠ 0) by omega)])
    have HI : UpI B w b a' l' (fun _ => false) { wr with drawn := wr.drawn + 1 } := ⟨Below.drew hx, fun _ => Bk.ext hw (Ext.drew (Ext.refl wr)), (fun h => by cases h), (fun h => by cases h)⟩
    go_upto_region 2 with fail
    clear c0 e1 h1
    refine region_relyF (UpI B w b a' l') [some 36, some 37, some 38, some 39, some 40, some 41, some 42, some 43, some 44, some 45, some 46, some 47, some 48, some 49, none, some 50, some 51, none] [[], [], [], [2], [2, 3], [2, 3, 4], [2, 3, 4, 5], [], [7], [7, 8], [7, 8, 9], [7, 8, 9, 10], [0, 2, 3, 4, 5, 6, 7, 8, 9, 10], [0, 2, 3, 4, 5, 6, 7, 8, 9, 10, 12], [0, 2, 3, 4, 5, 6, 7, 8, 9, 10, 12, 13], [0, 1, 2, 3, 4, 5, 6, 7, 8, 9, 10, 11, 12, 13, 14], [0, 1, 2, 3, 4, 5, 6, 7, 8, 9, 10, 11, 12, 13, 14, 15], [0, 1, 2, 3, 4, 5, 6, 7, 8, 9, 10, 11, 12, 13, 14, 15, 16]] [[], [], [], [2], [3], [4], [5], [], [7], [8], [9], [10], [0], [12], [6, 13], [1], [15], [11, 16]] [none, none, none, none, none, none, none, none, none, none, none, none, none, none, none, none, none, none] [false, false, false, false, false, false, false, false, false, false, false, false, false, false, false, false, false, false] [.one ((.pointer (some ⟨b, 0, none⟩))), .one ((.pointer (some ⟨b, 0, none⟩))), .one ((.pointer (some ⟨b, 0, none⟩))), .one ((.pointer (some ⟨b, 0, none⟩))), .one ((.pointer (some ⟨b, 0, none⟩))), .one ((.int .u64 (a' : Nat))), .one ((.int .u64 ((a' : Int) / 2))), .one ((.pointer (some ⟨b, 0, none⟩))), .one ((.pointer (some ⟨b, 0, none⟩))), .one ((.pointer (some ⟨b, 1, none⟩))), .one ((.int .u64 (l' : Nat))), .one ((.int .u64 ((l' : Int) / 2))), .one ((.pointer (some ⟨b, 0, none⟩))), .one ((.pointer (some ⟨b, 0, none⟩))), .any, .one ((.pointer (some ⟨b, 0, none⟩))), .one ((.pointer (some ⟨b, 1, none⟩))), .any] (by kernel_rfl) (by kernel_rfl) rfl HI ?_ ?_
    ·refine stepsF_cons ?_ ?_
     ·intro listed vs W' hl hI hd hs hn hu hz ho9
      refine hold ?_
      obtain ⟨x0, x1, x2, x3, x4, x5, x6, x7, x8, x9, x10, x11, x12, x13, x14, x15, x16, x17, rfl⟩ := lenlit18 hl; clear hl
      refine held ?_
      simp only [putAll, Act.put, List.setIfInBounds_toArray, List.set_cons_succ, List.set_cons_zero]
      go_wp2_with fail
      exact relyE_done _ rfl rfl (Ext.refl _) (hI.other (by decide) (by decide))
     refine stepsF_cons ?_ ?_
     ·intro listed vs W' hl hI hd hs hn hu hz ho9
      refine hold ?_
      obtain ⟨x0, x1, x2, x3, x4, x5, x6, x7, x8, x9, x10, x11, x12, x13, x14, x15, x16, x17, rfl⟩ := lenlit18 hl; clear hl
      refine held ?_
      simp only [putAll, Act.put, List.setIfInBounds_toArray, List.set_cons_succ, List.set_cons_zero]
      go_wp2_with fail
      exact relyE_done _ rfl rfl (Ext.refl _) (hI.other (by decide) (by decide))
     refine stepsF_cons ?_ ?_
     ·intro listed vs W' hl hI hd hs hn hu hz ho9
      refine hold ?_
      obtain ⟨x0, x1, x2, x3, x4, x5, x6, x7, x8, x9, x10, x11, x12, x13, x14, x15, x16, x17, rfl⟩ := lenlit18 hl; clear hl
      refine held ?_
      simp only [putAll, Act.put, List.setIfInBounds_toArray, List.set_cons_succ, List.set_cons_zero]
      go_wp2_with fail
      exact relyE_done _ rfl rfl (Ext.refl _) (hI.other (by decide) (by decide))
     refine stepsF_cons ?_ ?_
     ·intro listed vs W' hl hI hd hs hn hu hz ho9
      refine hold ?_
      obtain ⟨x0, x1, x2, x3, x4, x5, x6, x7, x8, x9, x10, x11, x12, x13, x14, x15, x16, x17, rfl⟩ := lenlit18 hl; clear hl
      simp only [factsL, atL, refV, List.getElem?_cons_succ, List.getElem?_cons_zero, List.getD_cons_succ, List.getD_cons_zero, RelL.one, RelL.any, RelL.blk, RelL.law] at hd
      obtain ⟨rfl, -⟩ := hd
      refine held ?_
      simp only [putAll, Act.put, List.setIfInBounds_toArray, List.set_cons_succ, List.set_cons_zero]
      go_wp2_with fail
      exact relyE_done _ rfl rfl (Ext.refl _) (hI.other (by decide) (by decide))
     refine stepsF_cons ?_ ?_
     ·intro listed vs W' hl hI hd hs hn hu hz ho9
      refine hold ?_
      obtain ⟨x0, x1, x2, x3, x4, x5, x6, x7, x8, x9, x10, x11, x12, x13, x14, x15, x16, x17, rfl⟩ := lenlit18 hl; clear hl
      simp only [factsL, atL, refV, List.getElem?_cons_succ, List.getElem?_cons_zero, List.getD_cons_succ, List.getD_cons_zero, RelL.one, RelL.any, RelL.blk, RelL.law] at hd
      obtain ⟨rfl, -⟩ := hd
      refine held ?_
      simp only [putAll, Act.put, List.setIfInBounds_toArray, List.set_cons_succ, List.set_cons_zero]
      go_wp2_with fail
      exact relyE_done _ rfl rfl (Ext.refl _) (hI.other (by decide) (by decide))
     refine stepsF_cons ?_ ?_
     ·intro listed vs W' hl hI hd hs hn hu hz ho9
      refine hold ?_
      obtain ⟨x0, x1, x2, x3, x4, x5, x6, x7, x8, x9, x10, x11, x12, x13, x14, x15, x16, x17, rfl⟩ := lenlit18 hl; clear hl
      simp only [factsL, atL, refV, List.getElem?_cons_succ, List.getElem?_cons_zero, List.getD_cons_succ, List.getD_cons_zero, RelL.one, RelL.any, RelL.blk, RelL.law] at hd
      obtain ⟨rfl, -⟩ := hd
      refine held ?_
      simp only [putAll, Act.put, List.setIfInBounds_toArray, List.set_cons_succ, List.set_cons_zero]
      have h14 : listed 14 = false := by cases h : listed 14 with | false => rfl | true => exact absurd (by decide) (hu 14 h)
      have d0 := (hI.fa h14).c 0 _ rfl
      go_wp2_with fail
      exact relyE_done _ rfl rfl (Ext.refl _) (hI.other (by decide) (by decide))
     refine stepsF_cons ?_ ?_
     ·intro listed vs W' hl hI hd hs hn hu hz ho9
      refine hold ?_
      obtain ⟨x0, x1, x2, x3, x4, x5, x6, x7, x8, x9, x10, x11, x12, x13, x14, x15, x16, x17, rfl⟩ := lenlit18 hl; clear hl
      simp only [factsL, atL, refV, List.getElem?_cons_succ, List.getElem?_cons_zero, List.getD_cons_succ, List.getD_cons_zero, RelL.one, RelL.any, RelL.blk, RelL.law] at hd
      obtain ⟨rfl, -⟩ := hd
      refine held ?_
      simp only [putAll, Act.put, List.setIfInBounds_toArray, List.set_cons_succ, List.set_cons_zero]
      go_wp2_with fail
      exact relyE_done _ rfl rfl (Ext.refl _) (hI.other (by decide) (by decide))
     refine stepsF_cons ?_ ?_
     ·intro listed vs W' hl hI hd hs hn hu hz ho9
      refine hold ?_
      obtain ⟨x0, x1, x2, x3, x4, x5, x6, x7, x8, x9, x10, x11, x12, x13, x14, x15, x16, x17, rfl⟩ := lenlit18 hl; clear hl
      refine held ?_
      simp only [putAll, Act.put, List.setIfInBounds_toArray, List.set_cons_succ, List.set_cons_zero]
      go_wp2_with fail
      exact relyE_done _ rfl rfl (Ext.refl _) (hI.other (by decide) (by decide))
     refine stepsF_cons ?_ ?_
     ·intro listed vs W' hl hI hd hs hn hu hz ho9
      refine hold ?_
      obtain ⟨x0, x1, x2, x3, x4, x5, x6, x7, x8, x9, x10, x11, x12, x13, x14, x15, x16, x17, rfl⟩ := lenlit18 hl; clear hl
      simp only [factsL, atL, refV, List.getElem?_cons_succ, List.getElem?_cons_zero, List.getD_cons_succ, List.getD_cons_zero, RelL.one, RelL.any, RelL.blk, RelL.law] at hd
      obtain ⟨rfl, -⟩ := hd
      refine held ?_
      simp only [putAll, Act.put, List.setIfInBounds_toArray, List.set_cons_succ, List.set_cons_zero]
      go_wp2_with fail
      exact relyE_done _ rfl rfl (Ext.refl _) (hI.other (by decide) (by decide))
     refine stepsF_cons ?_ ?_
     ·intro listed vs W' hl hI hd hs hn hu hz ho9
      refine hold ?_
      obtain ⟨x0, x1, x2, x3, x4, x5, x6, x7, x8, x9, x10, x11, x12, x13, x14, x15, x16, x17, rfl⟩ := lenlit18 hl; clear hl
      simp only [factsL, atL, refV, List.getElem?_cons_succ, List.getElem?_cons_zero, List.getD_cons_succ, List.getD_cons_zero, RelL.one, RelL.any, RelL.blk, RelL.law] at hd
      obtain ⟨rfl, -⟩ := hd
      refine held ?_
      simp only [putAll, Act.put, List.setIfInBounds_toArray, List.set_cons_succ, List.set_cons_zero]
      go_wp2_with fail
      exact relyE_done _ rfl rfl (Ext.refl _) (hI.other (by decide) (by decide))
     refine stepsF_cons ?_ ?_
     ·intro listed vs W' hl hI hd hs hn hu hz ho9
      refine hold ?_
      obtain ⟨x0, x1, x2, x3, x4, x5, x6, x7, x8, x9, x10, x11, x12, x13, x14, x15, x16, x17, rfl⟩ := lenlit18 hl; clear hl
      simp only [factsL, atL, refV, List.getElem?_cons_succ, List.getElem?_cons_zero, List.getD_cons_succ, List.getD_cons_zero, RelL.one, RelL.any, RelL.blk, RelL.law] at hd
      obtain ⟨rfl, -⟩ := hd
      refine held ?_
      simp only [putAll, Act.put, List.setIfInBounds_toArray, List.set_cons_succ, List.set_cons_zero]
      have h14 : listed 14 = false := by cases h : listed 14 with | false => rfl | true => exact absurd (by decide) (hu 14 h)
      have d0 := (hI.fa h14).c 1 _ rfl
      go_wp2_with fail
      exact relyE_done _ rfl rfl (Ext.refl _) (hI.other (by decide) (by decide))
     refine stepsF_cons ?_ ?_
     ·intro listed vs W' hl hI hd hs hn hu hz ho9
      refine hold ?_
      obtain ⟨x0, x1, x2, x3, x4, x5, x6, x7, x8, x9, x10, x11, x12, x13, x14, x15, x16, x17, rfl⟩ := lenlit18 hl; clear hl
      simp only [factsL, atL, refV, List.getElem?_cons_succ, List.getElem?_cons_zero, List.getD_cons_succ, List.getD_cons_zero, RelL.one, RelL.any, RelL.blk, RelL.law] at hd
      obtain ⟨rfl, -⟩ := hd
      refine held ?_
      simp only [putAll, Act.put, List.setIfInBounds_toArray, List.set_cons_succ, List.set_cons_zero]
      go_wp2_with fail
      exact relyE_done _ rfl rfl (Ext.refl _) (hI.other (by decide) (by decide))
     refine stepsF_cons ?_ ?_
     ·intro listed vs W' hl hI hd hs hn hu hz ho9
      refine hold ?_
      obtain ⟨x0, x1, x2, x3, x4, x5, x6, x7, x8, x9, x10, x11, x12, x13, x14, x15, x16, x17, rfl⟩ := lenlit18 hl; clear hl
      simp only [factsL, atL, refV, List.getElem?_cons_succ, List.getElem?_cons_zero, List.getD_cons_succ, List.getD_cons_zero, RelL.one, RelL.any, RelL.blk, RelL.law] at hd
      obtain ⟨rfl, -⟩ := hd
      refine held ?_
      simp only [putAll, Act.put, List.setIfInBounds_toArray, List.set_cons_succ, List.set_cons_zero]
      go_wp2_with fail
      exact relyE_done _ rfl rfl (Ext.refl _) (hI.other (by decide) (by decide))
     refine stepsF_cons ?_ ?_
     ·intro listed vs W' hl hI hd hs hn hu hz ho9
      refine hold ?_
      obtain ⟨x0, x1, x2, x3, x4, x5, x6, x7, x8, x9, x10, x11, x12, x13, x14, x15, x16, x17, rfl⟩ := lenlit18 hl; clear hl
      simp only [factsL, atL, refV, List.getElem?_cons_succ, List.getElem?_cons_zero, List.getD_cons_succ, List.getD_cons_zero, RelL.one, RelL.any, RelL.blk, RelL.law] at hd
      obtain ⟨rfl, -⟩ := hd
      refine held ?_
      simp only [putAll, Act.put, List.setIfInBounds_toArray, List.set_cons_succ, List.set_cons_zero]
      go_wp2_with fail
      exact relyE_done _ rfl rfl (Ext.refl _) (hI.other (by decide) (by decide))
     refine stepsF_cons ?_ ?_
     ·intro listed vs W' hl hI hd hs hn hu hz ho9
      refine hold ?_
      obtain ⟨x0, x1, x2, x3, x4, x5, x6, x7, x8, x9, x10, x11, x12, x13, x14, x15, x16, x17, rfl⟩ := lenlit18 hl; clear hl
      simp only [factsL, atL, refV, List.getElem?_cons_succ, List.getElem?_cons_zero, List.getD_cons_succ, List.getD_cons_zero, RelL.one, RelL.any, RelL.blk, RelL.law] at hd
      obtain ⟨rfl, rfl, -⟩ := hd
      refine held ?_
      simp only [putAll, Act.put, List.setIfInBounds_toArray, List.set_cons_succ, List.set_cons_zero]
      have d0 := (hI.fa hz).c 0 _ rfl
      have hfz := free_of_block (hI.fa hz)
      go_wp2_with fail
      exact relyE_store undef rfl trivial (by simp) ⟨fun _ _ h => h, fun _ _ h => h, fun _ _ h => h, fun _ _ h => h, fun _ _ h => h, fun _ _ h => h, fun _ _ h => h, fun _ _ h => h, fun _ _ h => h, fun _ _ h => h, fun _ _ h => h, fun _ _ h => h, fun _ _ h => h, fun _ _ h => h, fun _ _ h => h, fun _ _ h => h, fun _ _ h => h, fun _ _ h => h, trivial⟩ ⟨Below.setCell (p := ⟨b, 0, none⟩) hI.below HB.out _, fun h => by simp [updE] at h, fun _ _ => (hI.fa hz).set 0 _, fun h => by simp [updE] at h; exact absurd (by decide) (hu 17 h)⟩
     refine stepsF_cons ?_ ?_
     ·intro listed vs W' hl hI hd hs hn hu hz ho9
      refine hold ?_
      obtain ⟨x0, x1, x2, x3, x4, x5, x6, x7, x8, x9, x10, x11, x12, x13, x14, x15, x16, x17, rfl⟩ := lenlit18 hl; clear hl
      simp only [factsL, atL, refV, List.getElem?_cons_succ, List.getElem?_cons_zero, List.getD_cons_succ, List.getD_cons_zero, RelL.one, RelL.any, RelL.blk, RelL.law] at hd
      obtain ⟨rfl, -⟩ := hd
      refine held ?_
      simp only [putAll, Act.put, List.setIfInBounds_toArray, List.set_cons_succ, List.set_cons_zero]
      go_wp2_with fail
      exact relyE_done _ rfl rfl (Ext.refl _) (hI.other (by decide) (by decide))
     refine stepsF_cons ?_ ?_
     ·intro listed vs W' hl hI hd hs hn hu hz ho9
      refine hold ?_
      obtain ⟨x0, x1, x2, x3, x4, x5, x6, x7, x8, x9, x10, x11, x12, x13, x14, x15, x16, x17, rfl⟩ := lenlit18 hl; clear hl
      simp only [factsL, atL, refV, List.getElem?_cons_succ, List.getElem?_cons_zero, List.getD_cons_succ, List.getD_cons_zero, RelL.one, RelL.any, RelL.blk, RelL.law] at hd
      obtain ⟨rfl, -⟩ := hd
      refine held ?_
      simp only [putAll, Act.put, List.setIfInBounds_toArray, List.set_cons_succ, List.set_cons_zero]
      go_wp2_with fail
      exact relyE_done _ rfl rfl (Ext.refl _) (hI.other (by decide) (by decide))
     refine stepsF_cons ?_ ?_
     ·intro listed vs W' hl hI hd hs hn hu hz ho9
      refine hold ?_
      obtain ⟨x0, x1, x2, x3, x4, x5, x6, x7, x8, x9, x10, x11, x12, x13, x14, x15, x16, x17, rfl⟩ := lenlit18 hl; clear hl
      simp only [factsL, atL, refV, List.getElem?_cons_succ, List.getElem?_cons_zero, List.getD_cons_succ, List.getD_cons_zero, RelL.one, RelL.any, RelL.blk, RelL.law] at hd
      obtain ⟨rfl, rfl, -⟩ := hd
      refine held ?_
      simp only [putAll, Act.put, List.setIfInBounds_toArray, List.set_cons_succ, List.set_cons_zero]
      have h14 := hs 14 (by decide)
      have d1 := (hI.fb h14 hz).c 1 _ rfl
      have hfz := free_of_block (hI.fb h14 hz)
      go_wp2_with fail
      exact relyE_store undef rfl trivial (by simp) ⟨fun _ _ h => h, fun _ _ h => h, fun _ _ h => h, fun _ _ h => h, fun _ _ h => h, fun _ _ h => h, fun _ _ h => h, fun _ _ h => h, fun _ _ h => h, fun _ _ h => h, fun _ _ h => h, fun _ _ h => h, fun _ _ h => h, fun _ _ h => h, fun _ _ h => h, fun _ _ h => h, fun _ _ h => h, fun _ _ h => h, trivial⟩ ⟨Below.setCell (p := ⟨b, 1, none⟩) hI.below HB.out _, fun h => by simp [updE, h14] at h, fun _ h => by simp [updE] at h, fun _ => (hI.fb h14 hz).set 1 _⟩
     exact trivial
    ·intro listed vs W' hl hall hI hd hn
     obtain ⟨x0, x1, x2, x3, x4, x5, x6, x7, x8, x9, x10, x11, x12, x13, x14, x15, x16, x17, rfl⟩ := lenlit18 hl; clear hl
     simp only [List.length_cons, List.length_nil, List.range, List.range.loop, Nat.zero_add, Nat.reduceAdd, factsL, atL, refV, List.getElem?_cons_succ, List.getElem?_cons_zero, List.getD_cons_succ, List.getD_cons_zero, RelL.one, RelL.any, RelL.blk, RelL.law] at hd
     obtain ⟨rfl, rfl, rfl, rfl, rfl, rfl, rfl, rfl, rfl, rfl, rfl, rfl, rfl, rfl, -, rfl, rfl, -, -⟩ := hd
     simp only [putAll, Act.put, List.setIfInBounds_toArray, List.set_cons_succ, List.set_cons_zero]
     have ho2 := hI.fc (hall 17 (by decide))
     have hb2 := hI.below
     clear hall hn hI
     go_wp2_with fail
     go_end0
     rw [HL.out, HU.out]
     exact ⟨⟨_, rfl⟩, ho2, hb2⟩
   ·have h0 : a' % 2 = 0 := by omega
    by_cases h2 : a' = 0
    ·have h3 : ((a' : Int) == 0) = true := by simp; omega
     have HU : Hid (upA true a' l' = (a' / 2, l' / 2)) := Lib.hid (by simp [upA, lone_no (show ¬ (a' % 2 = 0 ∧ a' ≠ 0) by omega)])
     clear h2
     have HI : UpI B w b a' l' (fun _ => false) { wr with drawn := wr.drawn + 1 } := ⟨Below.drew hx, fun _ => Bk.ext hw (Ext.drew (Ext.refl wr)), (fun h => by cases h), (fun h => by cases h)⟩
     go_upto_region 2 with fail
     clear c0 e1 h1 h0 h3
     refine region_relyF (UpI B w b a' l') [some 36, some 37, some 38, some 39, some 40, some 41, some 42, some 43, some 44, some 45, some 46, some 47, some 48, some 49, none, some 50, some 51, none] [[], [], [], [2], [2, 3], [2, 3, 4], [2, 3, 4, 5], [], [7], [7, 8], [7, 8, 9], [7, 8, 9, 10], [0, 2, 3, 4, 5, 6, 7, 8, 9, 10], [0, 2, 3, 4, 5, 6, 7, 8, 9, 10, 12], [0, 2, 3, 4, 5, 6, 7, 8, 9, 10, 12, 13], [0, 1, 2, 3, 4, 5, 6, 7, 8, 9, 10, 11, 12, 13, 14], [0, 1, 2, 3, 4, 5, 6, 7, 8, 9, 10, 11, 12, 13, 14, 15], [0, 1, 2, 3, 4, 5, 6, 7, 8, 9, 10, 11, 12, 13, 14, 15, 16]] [[], [], [], [2], [3], [4], [5], [], [7], [8], [9], [10], [0], [12], [6, 13], [1], [15], [11, 16]] [none, none, none, none, none, none, none, none, none, none, none, none, none, none, none, none, none, none] [false, false, false, false, false, false, false, false, false, false, false, false, false, false, false, false, false, false] [.one ((.pointer (some ⟨b, 0, none⟩))), .one ((.pointer (some ⟨b, 0, none⟩))), .one ((.pointer (some ⟨b, 0, none⟩))), .one ((.pointer (some ⟨b, 0, none⟩))), .one ((.pointer (some ⟨b, 0, none⟩))), .one ((.int .u64 (a' : Nat))), .one ((.int .u64 ((a' : Int) / 2))), .one ((.pointer (some ⟨b, 0, none⟩))), .one ((.pointer (some ⟨b, 0, none⟩))), .one ((.pointer (some ⟨b, 1, none⟩))), .one ((.int .u64 (l' : Nat))), .one ((.int .u64 ((l' : Int) / 2))), .one ((.pointer (some ⟨b, 0, none⟩))), .one ((.pointer (some ⟨b, 0, none⟩))), .any, .one ((.pointer (some ⟨b, 0, none⟩))), .one ((.pointer (some ⟨b, 1, none⟩))), .any] (by kernel_rfl) (by kernel_rfl) rfl HI ?_ ?_
     ·refine stepsF_cons ?_ ?_
      ·intro listed vs W' hl hI hd hs hn hu hz ho9
       refine hold ?_
       obtain ⟨x0, x1, x2, x3, x4, x5, x6, x7, x8, x9, x10, x11, x12, x13, x14, x15, x16, x17, rfl⟩ := lenlit18 hl; clear hl
       refine held ?_
       simp only [putAll, Act.put, List.setIfInBounds_toArray, List.set_cons_succ, List.set_cons_zero]
       go_wp2_with fail
       exact relyE_done _ rfl rfl (Ext.refl _) (hI.other (by decide) (by decide))
      refine stepsF_cons ?_ ?_
      ·intro listed vs W' hl hI hd hs hn hu hz ho9
       refine hold ?_
       obtain ⟨x0, x1, x2, x3, x4, x5, x6, x7, x8, x9, x10, x11, x12, x13, x14, x15, x16, x17, rfl⟩ := lenlit18 hl; clear hl
       refine held ?_
       simp only [putAll, Act.put, List.setIfInBounds_toArray, List.set_cons_succ, List.set_cons_zero]
       go_wp2_with fail
       exact relyE_done _ rfl rfl (Ext.refl _) (hI.other (by decide) (by decide))
      refine stepsF_cons ?_ ?_
      ·intro listed vs W' hl hI hd hs hn hu hz ho9
       refine hold ?_
       obtain ⟨x0, x1, x2, x3, x4, x5, x6, x7, x8, x9, x10, x11, x12, x13, x14, x15, x16, x17, rfl⟩ := lenlit18 hl; clear hl
       refine held ?_
       simp only [putAll, Act.put, List.setIfInBounds_toArray, List.set_cons_succ, List.set_cons_zero]
       go_wp2_with fail
       exact relyE_done _ rfl rfl (Ext.refl _) (hI.other (by decide) (by decide))
      refine stepsF_cons ?_ ?_
      ·intro listed vs W' hl hI hd hs hn hu hz ho9
       refine hold ?_
       obtain ⟨x0, x1, x2, x3, x4, x5, x6, x7, x8, x9, x10, x11, x12, x13, x14, x15, x16, x17, rfl⟩ := lenlit18 hl; clear hl
       simp only [factsL, atL, refV, List.getElem?_cons_succ, List.getElem?_cons_zero, List.getD_cons_succ, List.getD_cons_zero, RelL.one, RelL.any, RelL.blk, RelL.law] at hd
       obtain ⟨rfl, -⟩ := hd
       refine held ?_
       simp only [putAll, Act.put, List.setIfInBounds_toArray, List.set_cons_succ, List.set_cons_zero]
       go_wp2_with fail
       exact relyE_done _ rfl rfl (Ext.refl _) (hI.other (by decide) (by decide))
      refine stepsF_cons ?_ ?_
      ·intro listed vs W' hl hI hd hs hn hu hz ho9
       refine hold ?_
       obtain ⟨x0, x1, x2, x3, x4, x5, x6, x7, x8, x9, x10, x11, x12, x13, x14, x15, x16, x17, rfl⟩ := lenlit18 hl; clear hl
       simp only [factsL, atL, refV, List.getElem?_cons_succ, List.getElem?_cons_zero, List.getD_cons_succ, List.getD_cons_zero, RelL.one, RelL.any, RelL.blk, RelL.law] at hd
       obtain ⟨rfl, -⟩ := hd
       refine held ?_
       simp only [putAll, Act.put, List.setIfInBounds_toArray, List.set_cons_succ, List.set_cons_zero]
       go_wp2_with fail
       exact relyE_done _ rfl rfl (Ext.refl _) (hI.other (by decide) (by decide))
      refine stepsF_cons ?_ ?_
      ·intro listed vs W' hl hI hd hs hn hu hz ho9
       refine hold ?_
       obtain ⟨x0, x1, x2, x3, x4, x5, x6, x7, x8, x9, x10, x11, x12, x13, x14, x15, x16, x17, rfl⟩ := lenlit18 hl; clear hl
       simp only [factsL, atL, refV, List.getElem?_cons_succ, List.getElem?_cons_zero, List.getD_cons_succ, List.getD_cons_zero, RelL.one, RelL.any, RelL.blk, RelL.law] at hd
       obtain ⟨rfl, -⟩ := hd
       refine held ?_
       simp only [putAll, Act.put, List.setIfInBounds_toArray, List.set_cons_succ, List.set_cons_zero]
       have h14 : listed 14 = false := by cases h : listed 14 with | false => rfl | true => exact absurd (by decide) (hu 14 h)
       have d0 := (hI.fa h14).c 0 _ rfl
       go_wp2_with fail
       exact relyE_done _ rfl rfl (Ext.refl _) (hI.other (by decide) (by decide))
      refine stepsF_cons ?_ ?_
      ·intro listed vs W' hl hI hd hs hn hu hz ho9
       refine hold ?_
       obtain ⟨x0, x1, x2, x3, x4, x5, x6, x7, x8, x9, x10, x11, x12, x13, x14, x15, x16, x17, rfl⟩ := lenlit18 hl; clear hl
       simp only [factsL, atL, refV, List.getElem?_cons_succ, List.getElem?_cons_zero, List.getD_cons_succ, List.getD_cons_zero, RelL.one, RelL.any, RelL.blk, RelL.law] at hd
       obtain ⟨rfl, -⟩ := hd
       refine held ?_
       simp only [putAll, Act.put, List.setIfInBounds_toArray, List.set_cons_succ, List.set_cons_zero]
       go_wp2_with fail
       exact relyE_done _ rfl rfl (Ext.refl _) (hI.other (by decide) (by decide))
      refine stepsF_cons ?_ ?_
      ·intro listed vs W' hl hI hd hs hn hu hz ho9
       refine hold ?_
       obtain ⟨x0, x1, x2, x3, x4, x5, x6, x7, x8, x9, x10, x11, x12, x13, x14, x15, x16, x17, rfl⟩ := lenlit18 hl; clear hl
       refine held ?_
       simp only [putAll, Act.put, List.setIfInBounds_toArray, List.set_cons_succ, List.set_cons_zero]
       go_wp2_with fail
       exact relyE_done _ rfl rfl (Ext.refl _) (hI.other (by decide) (by decide))
      refine stepsF_cons ?_ ?_
      ·intro listed vs W' hl hI hd hs hn hu hz ho9
       refine hold ?_
       obtain ⟨x0, x1, x2, x3, x4, x5, x6, x7, x8, x9, x10, x11, x12, x13, x14, x15, x16, x17, rfl⟩ := lenlit18 hl; clear hl
       simp only [factsL, atL, refV, List.getElem?_cons_succ, List.getElem?_cons_zero, List.getD_cons_succ, List.getD_cons_zero, RelL.one, RelL.any, RelL.blk, RelL.law] at hd
       obtain ⟨rfl, -⟩ := hd
       refine held ?_
       simp only [putAll, Act.put, List.setIfInBounds_toArray, List.set_cons_succ, List.set_cons_zero]
       go_wp2_with fail
       exact relyE_done _ rfl rfl (Ext.refl _) (hI.other (by decide) (by decide))
      refine stepsF_cons ?_ ?_
      ·intro listed vs W' hl hI hd hs hn hu hz ho9
       refine hold ?_
       obtain ⟨x0, x1, x2, x3, x4, x5, x6, x7, x8, x9, x10, x11, x12, x13, x14, x15, x16, x17, rfl⟩ := lenlit18 hl; clear hl
       simp only [factsL, atL, refV, List.getElem?_cons_succ, List.getElem?_cons_zero, List.getD_cons_succ, List.getD_cons_zero, RelL.one, RelL.any, RelL.blk, RelL.law] at hd
       obtain ⟨rfl, -⟩ := hd
       refine held ?_
       simp only [putAll, Act.put, List.setIfInBounds_toArray, List.set_cons_succ, List.set_cons_zero]
       go_wp2_with fail
       exact relyE_done _ rfl rfl (Ext.refl _) (hI.other (by decide) (by decide))
      refine stepsF_cons ?_ ?_
      ·intro listed vs W' hl hI hd hs hn hu hz ho9
       refine hold ?_
       obtain ⟨x0, x1, x2, x3, x4, x5, x6, x7, x8, x9, x10, x11, x12, x13, x14, x15, x16, x17, rfl⟩ := lenlit18 hl; clear hl
       simp only [factsL, atL, refV, List.getElem?_cons_succ, List.getElem?_cons_zero, List.getD_cons_succ, List.getD_cons_zero, RelL.one, RelL.any, RelL.blk, RelL.law] at hd
       obtain ⟨rfl, -⟩ := hd
       refine held ?_
       simp only [putAll, Act.put, List.setIfInBounds_toArray, List.set_cons_succ, List.set_cons_zero]
       have h14 : listed 14 = false := by cases h : listed 14 with | false => rfl | true => exact absurd (by decide) (hu 14 h)
       have d0 := (hI.fa h14).c 1 _ rfl
       go_wp2_with fail
       exact relyE_done _ rfl rfl (Ext.refl _) (hI.other (by decide) (by decide))
      refine stepsF_cons ?_ ?_
      ·intro listed vs W' hl hI hd hs hn hu hz ho9
       refine hold ?_
       obtain ⟨x0, x1, x2, x3, x4, x5, x6, x7, x8, x9, x10, x11, x12, x13, x14, x15, x16, x17, rfl⟩ := lenlit18 hl; clear hl
       simp only [factsL, atL, refV, List.getElem?_cons_succ, List.getElem?_cons_zero, List.getD_cons_succ, List.getD_cons_zero, RelL.one, RelL.any, RelL.blk, RelL.law] at hd
       obtain ⟨rfl, -⟩ := hd
       refine held ?_
       simp only [putAll, Act.put, List.setIfInBounds_toArray, List.set_cons_succ, List.set_cons_zero]
       go_wp2_with fail
       exact relyE_done _ rfl rfl (Ext.refl _) (hI.other (by decide) (by decide))
      refine stepsF_cons ?_ ?_
      ·intro listed vs W' hl hI hd hs hn hu hz ho9
       refine hold ?_
       obtain ⟨x0, x1, x2, x3, x4, x5, x6, x7, x8, x9, x10, x11, x12, x13, x14, x15, x16, x17, rfl⟩ := lenlit18 hl; clear hl
       simp only [factsL, atL, refV, List.getElem?_cons_succ, List.getElem?_cons_zero, List.getD_cons_succ, List.getD_cons_zero, RelL.one, RelL.any, RelL.blk, RelL.law] at hd
       obtain ⟨rfl, -⟩ := hd
       refine held ?_
       simp only [putAll, Act.put, List.setIfInBounds_toArray, List.set_cons_succ, List.set_cons_zero]
       go_wp2_with fail
       exact relyE_done _ rfl rfl (Ext.refl _) (hI.other (by decide) (by decide))
      refine stepsF_cons ?_ ?_
      ·intro listed vs W' hl hI hd hs hn hu hz ho9
       refine hold ?_
       obtain ⟨x0, x1, x2, x3, x4, x5, x6, x7, x8, x9, x10, x11, x12, x13, x14, x15, x16, x17, rfl⟩ := lenlit18 hl; clear hl
       simp only [factsL, atL, refV, List.getElem?_cons_succ, List.getElem?_cons_zero, List.getD_cons_succ, List.getD_cons_zero, RelL.one, RelL.any, RelL.blk, RelL.law] at hd
       obtain ⟨rfl, -⟩ := hd
       refine held ?_
       simp only [putAll, Act.put, List.setIfInBounds_toArray, List.set_cons_succ, List.set_cons_zero]
       go_wp2_with fail
       exact relyE_done _ rfl rfl (Ext.refl _) (hI.other (by decide) (by decide))
      refine stepsF_cons ?_ ?_
      ·intro listed vs W' hl hI hd hs hn hu hz ho9
       refine hold ?_
       obtain ⟨x0, x1, x2, x3, x4, x5, x6, x7, x8, x9, x10, x11, x12, x13, x14, x15, x16, x17, rfl⟩ := lenlit18 hl; clear hl
       simp only [factsL, atL, refV, List.getElem?_cons_succ, List.getElem?_cons_zero, List.getD_cons_succ, List.getD_cons_zero, RelL.one, RelL.any, RelL.blk, RelL.law] at hd
       obtain ⟨rfl, rfl, -⟩ := hd
       refine held ?_
       simp only [putAll, Act.put, List.setIfInBounds_toArray, List.set_cons_succ, List.set_cons_zero]
       have d0 := (hI.fa hz).c 0 _ rfl
       have hfz := free_of_block (hI.fa hz)
       go_wp2_with fail
       exact relyE_store undef rfl trivial (by simp) ⟨fun _ _ h => h, fun _ _ h => h, fun _ _ h => h, fun _ _ h => h, fun _ _ h => h, fun _ _ h => h, fun _ _ h => h, fun _ _ h => h, fun _ _ h => h, fun _ _ h => h, fun _ _ h => h, fun _ _ h => h, fun _ _ h => h, fun _ _ h => h, fun _ _ h => h, fun _ _ h => h, fun _ _ h => h, fun _ _ h => h, trivial⟩ ⟨Below.setCell (p := ⟨b, 0, none⟩) hI.below HB.out _, fun h => by simp [updE] at h, fun _ _ => (hI.fa hz).set 0 _, fun h => by simp [updE] at h; exact absurd (by decide) (hu 17 h)⟩
      refine stepsF_cons ?_ ?_
      ·intro listed vs W' hl hI hd hs hn hu hz ho9
       refine hold ?_
       obtain ⟨x0, x1, x2, x3, x4, x5, x6, x7, x8, x9, x10, x11, x12, x13, x14, x15, x16, x17, rfl⟩ := lenlit18 hl; clear hl
       simp only [factsL, atL, refV, List.getElem?_cons_succ, List.getElem?_cons_zero, List.getD_cons_succ, List.getD_cons_zero, RelL.one, RelL.any, RelL.blk, RelL.law] at hd
       obtain ⟨rfl, -⟩ := hd
       refine held ?_
       simp only [putAll, Act.put, List.setIfInBounds_toArray, List.set_cons_succ, List.set_cons_zero]
       go_wp2_with fail
       exact relyE_done _ rfl rfl (Ext.refl _) (hI.other (by decide) (by decide))
      refine stepsF_cons ?_ ?_
      ·intro listed vs W' hl hI hd hs hn hu hz ho9
       refine hold ?_
       obtain ⟨x0, x1, x2, x3, x4, x5, x6, x7, x8, x9, x10, x11, x12, x13, x14, x15, x16, x17, rfl⟩ := lenlit18 hl; clear hl
       simp only [factsL, atL, refV, List.getElem?_cons_succ, List.getElem?_cons_zero, List.getD_cons_succ, List.getD_cons_zero, RelL.one, RelL.any, RelL.blk, RelL.law] at hd
       obtain ⟨rfl, -⟩ := hd
       refine held ?_
       simp only [putAll, Act.put, List.setIfInBounds_toArray, List.set_cons_succ, List.set_cons_zero]
       go_wp2_with fail
       exact relyE_done _ rfl rfl (Ext.refl _) (hI.other (by decide) (by decide))
      refine stepsF_cons ?_ ?_
      ·intro listed vs W' hl hI hd hs hn hu hz ho9
       refine hold ?_
       obtain ⟨x0, x1, x2, x3, x4, x5, x6, x7, x8, x9, x10, x11, x12, x13, x14, x15, x16, x17, rfl⟩ := lenlit18 hl; clear hl
       simp only [factsL, atL, refV, List.getElem?_cons_succ, List.getElem?_cons_zero, List.getD_cons_succ, List.getD_cons_zero, RelL.one, RelL.any, RelL.blk, RelL.law] at hd
       obtain ⟨rfl, rfl, -⟩ := hd
       refine held ?_
       simp only [putAll, Act.put, List.setIfInBounds_toArray, List.set_cons_succ, List.set_cons_zero]
       have h14 := hs 14 (by decide)
       have d1 := (hI.fb h14 hz).c 1 _ rfl
       have hfz := free_of_block (hI.fb h14 hz)
       go_wp2_with fail
       exact relyE_store undef rfl trivial (by simp) ⟨fun _ _ h => h, fun _ _ h => h, fun _ _ h => h, fun _ _ h => h, fun _ _ h => h, fun _ _ h => h, fun _ _ h => h, fun _ _ h => h, fun _ _ h => h, fun _ _ h => h, fun _ _ h => h, fun _ _ h => h, fun _ _ h => h, fun _ _ h => h, fun _ _ h => h, fun _ _ h => h, fun _ _ h => h, fun _ _ h => h, trivial⟩ ⟨Below.setCell (p := ⟨b, 1, none⟩) hI.below HB.out _, fun h => by simp [updE, h14] at h, fun _ h => by simp [updE] at h, fun _ => (hI.fb h14 hz).set 1 _⟩
      exact trivial
     ·intro listed vs W' hl hall hI hd hn
      obtain ⟨x0, x1, x2, x3, x4, x5, x6, x7, x8, x9, x10, x11, x12, x13, x14, x15, x16, x17, rfl⟩ := lenlit18 hl; clear hl
      simp only [List.length_cons, List.length_nil, List.range, List.range.loop, Nat.zero_add, Nat.reduceAdd, factsL, atL, refV, List.getElem?_cons_succ, List.getElem?_cons_zero, List.getD_cons_succ, List.getD_cons_zero, RelL.one, RelL.any, RelL.blk, RelL.law] at hd
      obtain ⟨rfl, rfl, rfl, rfl, rfl, rfl, rfl, rfl, rfl, rfl, rfl, rfl, rfl, rfl, -, rfl, rfl, -, -⟩ := hd
      simp only [putAll, Act.put, List.setIfInBounds_toArray, List.set_cons_succ, List.set_cons_zero]
      have ho2 := hI.fc (hall 17 (by decide))
      have hb2 := hI.below
      clear hall hn hI
      go_wp2_with fail
      go_end0
      rw [HL.out, HU.out]
      exact ⟨⟨_, rfl⟩, ho2, hb2⟩
    ·have h3 : ((a' : Int) == 0) = false := by simp; omega
     have HU : Hid (upA true a' l' = upA true (a' / 2) (l' / 2)) := Lib.hid (by simp only [upA, if_true]; rw [lone_yes ⟨h0, h2⟩])
     have HM : Hid (cellN wr b = a' ∧ a' ≠ 0) := Lib.hid ⟨hw.cellN, h2⟩
     have HI : UpI B w b a' l' (fun _ => false) { wr with drawn := wr.drawn + 1 } := ⟨Below.drew hx, fun _ => Bk.ext hw (Ext.drew (Ext.refl wr)), (fun h => by cases h), (fun h => by cases h)⟩
     go_upto_region 1 with fail
     clear c0 e1 h1 h0 h2 h3
     refine region_relyF (UpI B w b a' l') [some 20, some 21, some 22, some 23, some 24, some 25, some 26, some 27, some 28, some 29, some 30, some 31, some 32, some 33, none, some 34, some 35, none] [[], [], [], [2], [2, 3], [2, 3, 4], [2, 3, 4, 5], [], [7], [7, 8], [7, 8, 9], [7, 8, 9, 10], [0, 2, 3, 4, 5, 6, 7, 8, 9, 10], [0, 2, 3, 4, 5, 6, 7, 8, 9, 10, 12], [0, 2, 3, 4, 5, 6, 7, 8, 9, 10, 12, 13], [0, 1, 2, 3, 4, 5, 6, 7, 8, 9, 10, 11, 12, 13, 14], [0, 1, 2, 3, 4, 5, 6, 7, 8, 9, 10, 11, 12, 13, 14, 15], [0, 1, 2, 3, 4, 5, 6, 7, 8, 9, 10, 11, 12, 13, 14, 15, 16]] [[], [], [], [2], [3], [4], [5], [], [7], [8], [9], [10], [0], [12], [6, 13], [1], [15], [11, 16]] [none, none, none, none, none, none, none, none, none, none, none, none, none, none, none, none, none, none] [false, false, false, false, false, false, false, false, false, false, false, false, false, false, false, false, false, false] [.one ((.pointer (some ⟨b, 0, none⟩))), .one ((.pointer (some ⟨b, 0, none⟩))), .one ((.pointer (some ⟨b, 0, none⟩))), .one ((.pointer (some ⟨b, 0, none⟩))), .one ((.pointer (some ⟨b, 0, none⟩))), .one ((.int .u64 (a' : Nat))), .one ((.int .u64 ((a' : Int) / 2))), .one ((.pointer (some ⟨b, 0, none⟩))), .one ((.pointer (some ⟨b, 0, none⟩))), .one ((.pointer (some ⟨b, 1, none⟩))), .one ((.int .u64 (l' : Nat))), .one ((.int .u64 ((l' : Int) / 2))), .one ((.pointer (some ⟨b, 0, none⟩))), .one ((.pointer (some ⟨b, 0, none⟩))), .any, .one ((.pointer (some ⟨b, 0, none⟩))), .one ((.pointer (some ⟨b, 1, none⟩))), .any] (by kernel_rfl) (by kernel_rfl) rfl HI ?_ ?_
     ·refine stepsF_cons ?_ ?_
      ·intro listed vs W' hl hI hd hs hn hu hz ho9
       refine hold ?_
       obtain ⟨x0, x1, x2, x3, x4, x5, x6, x7, x8, x9, x10, x11, x12, x13, x14, x15, x16, x17, rfl⟩ := lenlit18 hl; clear hl
       refine held ?_
       simp only [putAll, Act.put, List.setIfInBounds_toArray, List.set_cons_succ, List.set_cons_zero]
       go_wp2_with fail
       exact relyE_done _ rfl rfl (Ext.refl _) (hI.other (by decide) (by decide))
      refine stepsF_cons ?_ ?_
      ·intro listed vs W' hl hI hd hs hn hu hz ho9
       refine hold ?_
       obtain ⟨x0, x1, x2, x3, x4, x5, x6, x7, x8, x9, x10, x11, x12, x13, x14, x15, x16, x17, rfl⟩ := lenlit18 hl; clear hl
       refine held ?_
       simp only [putAll, Act.put, List.setIfInBounds_toArray, List.set_cons_succ, List.set_cons_zero]
       go_wp2_with fail
       exact relyE_done _ rfl rfl (Ext.refl _) (hI.other (by decide) (by decide))
      refine stepsF_cons ?_ ?_
      ·intro listed vs W' hl hI hd hs hn hu hz ho9
       refine hold ?_
       obtain ⟨x0, x1, x2, x3, x4, x5, x6, x7, x8, x9, x10, x11, x12, x13, x14, x15, x16, x17, rfl⟩ := lenlit18 hl; clear hl
       refine held ?_
       simp only [putAll, Act.put, List.setIfInBounds_toArray, List.set_cons_succ, List.set_cons_zero]
       go_wp2_with fail
       exact relyE_done _ rfl rfl (Ext.refl _) (hI.other (by decide) (by decide))
      refine stepsF_cons ?_ ?_
      ·intro listed vs W' hl hI hd hs hn hu hz ho9
       refine hold ?_
       obtain ⟨x0, x1, x2, x3, x4, x5, x6, x7, x8, x9, x10, x11, x12, x13, x14, x15, x16, x17, rfl⟩ := lenlit18 hl; clear hl
       simp only [factsL, atL, refV, List.getElem?_cons_succ, List.getElem?_cons_zero, List.getD_cons_succ, List.getD_cons_zero, RelL.one, RelL.any, RelL.blk, RelL.law] at hd
       obtain ⟨rfl, -⟩ := hd
       refine held ?_
       simp only [putAll, Act.put, List.setIfInBounds_toArray, List.set_cons_succ, List.set_cons_zero]
       go_wp2_with fail
       exact relyE_done _ rfl rfl (Ext.refl _) (hI.other (by decide) (by decide))
      refine stepsF_cons ?_ ?_
      ·intro listed vs W' hl hI hd hs hn hu hz ho9
       refine hold ?_
       obtain ⟨x0, x1, x2, x3, x4, x5, x6, x7, x8, x9, x10, x11, x12, x13, x14, x15, x16, x17, rfl⟩ := lenlit18 hl; clear hl
       simp only [factsL, atL, refV, List.getElem?_cons_succ, List.getElem?_cons_zero, List.getD_cons_succ, List.getD_cons_zero, RelL.one, RelL.any, RelL.blk, RelL.law] at hd
       obtain ⟨rfl, -⟩ := hd
       refine held ?_
       simp only [putAll, Act.put, List.setIfInBounds_toArray, List.set_cons_succ, List.set_cons_zero]
       go_wp2_with fail
       exact relyE_done _ rfl rfl (Ext.refl _) (hI.other (by decide) (by decide))
      refine stepsF_cons ?_ ?_
      ·intro listed vs W' hl hI hd hs hn hu hz ho9
       refine hold ?_
       obtain ⟨x0, x1, x2, x3, x4, x5, x6, x7, x8, x9, x10, x11, x12, x13, x14, x15, x16, x17, rfl⟩ := lenlit18 hl; clear hl
       simp only [factsL, atL, refV, List.getElem?_cons_succ, List.getElem?_cons_zero, List.getD_cons_succ, List.getD_cons_zero, RelL.one, RelL.any, RelL.blk, RelL.law] at hd
       obtain ⟨rfl, -⟩ := hd
       refine held ?_
       simp only [putAll, Act.put, List.setIfInBounds_toArray, List.set_cons_succ, List.set_cons_zero]
       have h14 : listed 14 = false := by cases h : listed 14 with | false => rfl | true => exact absurd (by decide) (hu 14 h)
       have d0 := (hI.fa h14).c 0 _ rfl
       go_wp2_with fail
       exact relyE_done _ rfl rfl (Ext.refl _) (hI.other (by decide) (by decide))
      refine stepsF_cons ?_ ?_
      ·intro listed vs W' hl hI hd hs hn hu hz ho9
       refine hold ?_
       obtain ⟨x0, x1, x2, x3, x4, x5, x6, x7, x8, x9, x10, x11, x12, x13, x14, x15, x16, x17, rfl⟩ := lenlit18 hl; clear hl
       simp only [factsL, atL, refV, List.getElem?_cons_succ, List.getElem?_cons_zero, List.getD_cons_succ, List.getD_cons_zero, RelL.one, RelL.any, RelL.blk, RelL.law] at hd
       obtain ⟨rfl, -⟩ := hd
       refine held ?_
       simp only [putAll, Act.put, List.setIfInBounds_toArray, List.set_cons_succ, List.set_cons_zero]
       go_wp2_with fail
       exact relyE_done _ rfl rfl (Ext.refl _) (hI.other (by decide) (by decide))
      refine stepsF_cons ?_ ?_
      ·intro listed vs W' hl hI hd hs hn hu hz ho9
       refine hold ?_
       obtain ⟨x0, x1, x2, x3, x4, x5, x6, x7, x8, x9, x10, x11, x12, x13, x14, x15, x16, x17, rfl⟩ := lenlit18 hl; clear hl
       refine held ?_
       simp only [putAll, Act.put, List.setIfInBounds_toArray, List.set_cons_succ, List.set_cons_zero]
       go_wp2_with fail
       exact relyE_done _ rfl rfl (Ext.refl _) (hI.other (by decide) (by decide))
      refine stepsF_cons ?_ ?_
      ·intro listed vs W' hl hI hd hs hn hu hz ho9
       refine hold ?_
       obtain ⟨x0, x1, x2, x3, x4, x5, x6, x7, x8, x9, x10, x11, x12, x13, x14, x15, x16, x17, rfl⟩ := lenlit18 hl; clear hl
       simp only [factsL, atL, refV, List.getElem?_cons_succ, List.getElem?_cons_zero, List.getD_cons_succ, List.getD_cons_zero, RelL.one, RelL.any, RelL.blk, RelL.law] at hd
       obtain ⟨rfl, -⟩ := hd
       refine held ?_
       simp only [putAll, Act.put, List.setIfInBounds_toArray, List.set_cons_succ, List.set_cons_zero]
       go_wp2_with fail
       exact relyE_done _ rfl rfl (Ext.refl _) (hI.other (by decide) (by decide))
      refine stepsF_cons ?_ ?_
      ·intro listed vs W' hl hI hd hs hn hu hz ho9
       refine hold ?_
       obtain ⟨x0, x1, x2, x3, x4, x5, x6, x7, x8, x9, x10, x11, x12, x13, x14, x15, x16, x17, rfl⟩ := lenlit18 hl; clear hl
       simp only [factsL, atL, refV, List.getElem?_cons_succ, List.getElem?_cons_zero, List.getD_cons_succ, List.getD_cons_zero, RelL.one, RelL.any, RelL.blk, RelL.law] at hd
       obtain ⟨rfl, -⟩ := hd
       refine held ?_
       simp only [putAll, Act.put, List.setIfInBounds_toArray, List.set_cons_succ, List.set_cons_zero]
       go_wp2_with fail
       exact relyE_done _ rfl rfl (Ext.refl _) (hI.other (by decide) (by decide))
      refine stepsF_cons ?_ ?_
      ·intro listed vs W' hl hI hd hs hn hu hz ho9
       refine hold ?_
       obtain ⟨x0, x1, x2, x3, x4, x5, x6, x7, x8, x9, x10, x11, x12, x13, x14, x15, x16, x17, rfl⟩ := lenlit18 hl; clear hl
       simp only [factsL, atL, refV, List.getElem?_cons_succ, List.getElem?_cons_zero, List.getD_cons_succ, List.getD_cons_zero, RelL.one, RelL.any, RelL.blk, RelL.law] at hd
       obtain ⟨rfl, -⟩ := hd
       refine held ?_
       simp only [putAll, Act.put, List.setIfInBounds_toArray, List.set_cons_succ, List.set_cons_zero]
       have h14 : listed 14 = false := by cases h : listed 14 with | false => rfl | true => exact absurd (by decide) (hu 14 h)
       have d0 := (hI.fa h14).c 1 _ rfl
       go_wp2_with fail
       exact relyE_done _ rfl rfl (Ext.refl _) (hI.other (by decide) (by decide))
      refine stepsF_cons ?_ ?_
      ·intro listed vs W' hl hI hd hs hn hu hz ho9
       refine hold ?_
       obtain ⟨x0, x1, x2, x3, x4, x5, x6, x7, x8, x9, x10, x11, x12, x13, x14, x15, x16, x17, rfl⟩ := lenlit18 hl; clear hl
       simp only [factsL, atL, refV, List.getElem?_cons_succ, List.getElem?_cons_zero, List.getD_cons_succ, List.getD_cons_zero, RelL.one, RelL.any, RelL.blk, RelL.law] at hd
       obtain ⟨rfl, -⟩ := hd
       refine held ?_
       simp only [putAll, Act.put, List.setIfInBounds_toArray, List.set_cons_succ, List.set_cons_zero]
       go_wp2_with fail
       exact relyE_done _ rfl rfl (Ext.refl _) (hI.other (by decide) (by decide))
      refine stepsF_cons ?_ ?_
      ·intro listed vs W' hl hI hd hs hn hu hz ho9
       refine hold ?_
       obtain ⟨x0, x1, x2, x3, x4, x5, x6, x7, x8, x9, x10, x11, x12, x13, x14, x15, x16, x17, rfl⟩ := lenlit18 hl; clear hl
       simp only [factsL, atL, refV, List.getElem?_cons_succ, List.getElem?_cons_zero, List.getD_cons_succ, List.getD_cons_zero, RelL.one, RelL.any, RelL.blk, RelL.law] at hd
       obtain ⟨rfl, -⟩ := hd
       refine held ?_
       simp only [putAll, Act.put, List.setIfInBounds_toArray, List.set_cons_succ, List.set_cons_zero]
       go_wp2_with fail
       exact relyE_done _ rfl rfl (Ext.refl _) (hI.other (by decide) (by decide))
      refine stepsF_cons ?_ ?_
      ·intro listed vs W' hl hI hd hs hn hu hz ho9
       refine hold ?_
       obtain ⟨x0, x1, x2, x3, x4, x5, x6, x7, x8, x9, x10, x11, x12, x13, x14, x15, x16, x17, rfl⟩ := lenlit18 hl; clear hl
       simp only [factsL, atL, refV, List.getElem?_cons_succ, List.getElem?_cons_zero, List.getD_cons_succ, List.getD_cons_zero, RelL.one, RelL.any, RelL.blk, RelL.law] at hd
       obtain ⟨rfl, -⟩ := hd
       refine held ?_
       simp only [putAll, Act.put, List.setIfInBounds_toArray, List.set_cons_succ, List.set_cons_zero]
       go_wp2_with fail
       exact relyE_done _ rfl rfl (Ext.refl _) (hI.other (by decide) (by decide))
      refine stepsF_cons ?_ ?_
      ·intro listed vs W' hl hI hd hs hn hu hz ho9
       refine hold ?_
       obtain ⟨x0, x1, x2, x3, x4, x5, x6, x7, x8, x9, x10, x11, x12, x13, x14, x15, x16, x17, rfl⟩ := lenlit18 hl; clear hl
       simp only [factsL, atL, refV, List.getElem?_cons_succ, List.getElem?_cons_zero, List.getD_cons_succ, List.getD_cons_zero, RelL.one, RelL.any, RelL.blk, RelL.law] at hd
       obtain ⟨rfl, rfl, -⟩ := hd
       refine held ?_
       simp only [putAll, Act.put, List.setIfInBounds_toArray, List.set_cons_succ, List.set_cons_zero]
       have d0 := (hI.fa hz).c 0 _ rfl
       have hfz := free_of_block (hI.fa hz)
       go_wp2_with fail
       exact relyE_store undef rfl trivial (by simp) ⟨fun _ _ h => h, fun _ _ h => h, fun _ _ h => h, fun _ _ h => h, fun _ _ h => h, fun _ _ h => h, fun _ _ h => h, fun _ _ h => h, fun _ _ h => h, fun _ _ h => h, fun _ _ h => h, fun _ _ h => h, fun _ _ h => h, fun _ _ h => h, fun _ _ h => h, fun _ _ h => h, fun _ _ h => h, fun _ _ h => h, trivial⟩ ⟨Below.setCell (p := ⟨b, 0, none⟩) hI.below HB.out _, fun h => by simp [updE] at h, fun _ _ => (hI.fa hz).set 0 _, fun h => by simp [updE] at h; exact absurd (by decide) (hu 17 h)⟩
      refine stepsF_cons ?_ ?_
      ·intro listed vs W' hl hI hd hs hn hu hz ho9
       refine hold ?_
       obtain ⟨x0, x1, x2, x3, x4, x5, x6, x7, x8, x9, x10, x11, x12, x13, x14, x15, x16, x17, rfl⟩ := lenlit18 hl; clear hl
       simp only [factsL, atL, refV, List.getElem?_cons_succ, List.getElem?_cons_zero, List.getD_cons_succ, List.getD_cons_zero, RelL.one, RelL.any, RelL.blk, RelL.law] at hd
       obtain ⟨rfl, -⟩ := hd
       refine held ?_
       simp only [putAll, Act.put, List.setIfInBounds_toArray, List.set_cons_succ, List.set_cons_zero]
       go_wp2_with fail
       exact relyE_done _ rfl rfl (Ext.refl _) (hI.other (by decide) (by decide))
      refine stepsF_cons ?_ ?_
      ·intro listed vs W' hl hI hd hs hn hu hz ho9
       refine hold ?_
       obtain ⟨x0, x1, x2, x3, x4, x5, x6, x7, x8, x9, x10, x11, x12, x13, x14, x15, x16, x17, rfl⟩ := lenlit18 hl; clear hl
       simp only [factsL, atL, refV, List.getElem?_cons_succ, List.getElem?_cons_zero, List.getD_cons_succ, List.getD_cons_zero, RelL.one, RelL.any, RelL.blk, RelL.law] at hd
       obtain ⟨rfl, -⟩ := hd
       refine held ?_
       simp only [putAll, Act.put, List.setIfInBounds_toArray, List.set_cons_succ, List.set_cons_zero]
       go_wp2_with fail
       exact relyE_done _ rfl rfl (Ext.refl _) (hI.other (by decide) (by decide))
      refine stepsF_cons ?_ ?_
      ·intro listed vs W' hl hI hd hs hn hu hz ho9
       refine hold ?_
       obtain ⟨x0, x1, x2, x3, x4, x5, x6, x7, x8, x9, x10, x11, x12, x13, x14, x15, x16, x17, rfl⟩ := lenlit18 hl; clear hl
       simp only [factsL, atL, refV, List.getElem?_cons_succ, List.getElem?_cons_zero, List.getD_cons_succ, List.getD_cons_zero, RelL.one, RelL.any, RelL.blk, RelL.law] at hd
       obtain ⟨rfl, rfl, -⟩ := hd
       refine held ?_
       simp only [putAll, Act.put, List.setIfInBounds_toArray, List.set_cons_succ, List.set_cons_zero]
       have h14 := hs 14 (by decide)
       have d1 := (hI.fb h14 hz).c 1 _ rfl
       have hfz := free_of_block (hI.fb h14 hz)
       go_wp2_with fail
       exact relyE_store undef rfl trivial (by simp) ⟨fun _ _ h => h, fun _ _ h => h, fun _ _ h => h, fun _ _ h => h, fun _ _ h => h, fun _ _ h => h, fun _ _ h => h, fun _ _ h => h, fun _ _ h => h, fun _ _ h => h, fun _ _ h => h, fun _ _ h => h, fun _ _ h => h, fun _ _ h => h, fun _ _ h => h, fun _ _ h => h, fun _ _ h => h, fun _ _ h => h, trivial⟩ ⟨Below.setCell (p := ⟨b, 1, none⟩) hI.below HB.out _, fun h => by simp [updE, h14] at h, fun _ h => by simp [updE] at h, fun _ => (hI.fb h14 hz).set 1 _⟩
      exact trivial
     ·intro listed vs W' hl hall hI hd hn
      obtain ⟨x0, x1, x2, x3, x4, x5, x6, x7, x8, x9, x10, x11, x12, x13, x14, x15, x16, x17, rfl⟩ := lenlit18 hl; clear hl
      simp only [List.length_cons, List.length_nil, List.range, List.range.loop, Nat.zero_add, Nat.reduceAdd, factsL, atL, refV, List.getElem?_cons_succ, List.getElem?_cons_zero, List.getD_cons_succ, List.getD_cons_zero, RelL.one, RelL.any, RelL.blk, RelL.law] at hd
      obtain ⟨rfl, rfl, rfl, rfl, rfl, rfl, rfl, rfl, rfl, rfl, rfl, rfl, rfl, rfl, -, rfl, rfl, -, -⟩ := hd
      simp only [putAll, Act.put, List.setIfInBounds_toArray, List.set_cons_succ, List.set_cons_zero]
      have ho2 := hI.fc (hall 17 (by decide))
      have hb2 := hI.below
      clear hall hn hI
      go_wp2_with fail
      have hw2 : Wk W' b (a' / 2) (l' / 2) := ho2
      refine ⟨⟨a' / 2, l' / 2, Lib.hid (by have := HA.out; omega), hw2, Lib.hid (HL.out.trans HU.out), hb2⟩, ?_⟩
      rw [hw2.cellN, HM.out.1]
      have := HM.out.2
      omega
end Go.Proofs.YtacicanjmleikaaGreatDoor
