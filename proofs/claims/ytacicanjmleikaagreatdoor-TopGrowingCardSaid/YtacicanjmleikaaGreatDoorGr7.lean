
import Derived.Test.YtacicanjmleikaaGreatDoorGr5
import Derived.Test.YtacicanjmleikaaGreatDoorGr6
import Derived.RangeFuncNested
import Derived.Test.YtacicanjmleikaaGreatDoorGr1
import Derived.Deep.MidRow
import Derived.Deep.Slices
/- A part of the proof. -/
namespace Go.Proofs.YtacicanjmleikaaGreatDoor
open Go.RowKit Go.Sort Go.Shelf
set_option linter.unusedSimpArgs false
set_option linter.unusedVariables false
set_option maxRecDepth 100000
theorem nth_get {xs : List Int} {i : Nat} (h : i < xs.length) : nth xs i = xs[i] := by simp [nth, List.getD_eq_getElem?_getD, h]
theorem OwI.headU {k : IntKind} {E : TypeId} {base : Nat} {w : World} {a : Option Addr} {n c : Nat} {xs : List Int} (h : OwI k E base w a n c xs) (h0 : 0 < n) : ∃ g, a = some ⟨g, 0, none⟩ ∧ base ≤ g := by
 rcases h.2 with ⟨hv, hz⟩ | ⟨g, cap, cur, hv, hb, hg, _⟩
 ·have := h.hlen
  simp only [Value.slice.injEq] at hv; omega
 ·simp only [Value.slice.injEq] at hv
  obtain ⟨rfl, _, rfl⟩ := hv
  exact ⟨g, rfl, hb⟩
def RevTo (l ys : List Int) (k : Nat) : Prop := ys.length = l.length ∧ ∀ p, p < l.length → nth ys p = if p < k ∨ l.length - 1 - k < p then nth l (l.length - 1 - p) else nth l p
theorem RevTo.zero (l : List Int) : RevTo l l 0 := ⟨rfl, fun p hp => by rw [if_neg (by omega)]⟩
theorem nth_setD (l : List Int) (i p : Nat) (x : Int) (hi : i < l.length) : nth (l.set i x) p = if p = i then x else nth l p := by
 unfold nth
 rw [List.getD_eq_getElem?_getD, List.getElem?_set]
 by_cases h : i = p
 ·subst h; simp [hi]
 ·rw [if_neg h, if_neg (fun e => h e.symm), List.getD_eq_getElem?_getD]
theorem RevTo.step {l ys : List Int} {k j : Nat} (h : RevTo l ys k) (hj : j + k + 1 = l.length) (hk : k < j) : RevTo l ((ys.set k (nth ys j)).set j (nth ys k)) (k + 1) := by
 refine ⟨by rw [List.length_set, List.length_set]; exact h.1, fun p hp => ?_⟩
 rw [nth_setD _ _ _ _ (by rw [List.length_set, h.1]; omega), nth_setD _ _ _ _ (by rw [h.1]; omega)]
 by_cases h1 : p = j
 ·subst h1
  rw [if_pos rfl, h.2 k (by omega), if_neg (by omega), if_pos (by omega)]
  congr 1; omega
 ·rw [if_neg h1]
  by_cases h2 : p = k
  ·subst h2
   rw [if_pos rfl, h.2 j (by omega), if_neg (by omega), if_pos (by omega)]
   congr 1; omega
  ·rw [if_neg h2, h.2 p hp]
   by_cases h3 : p < k ∨ l.length - 1 - k < p
   ·rw [if_pos h3, if_pos (by omega)]
   ·rw [if_neg h3, if_neg (by omega)]
theorem RevTo.done {l ys : List Int} {k : Nat} (h : RevTo l ys k) (hk : l.length ≤ 2 * k + 1) : ys = l.reverse := by
 apply List.ext_getElem
 ·rw [List.length_reverse, h.1]
 ·intro p h1 h2
  have hp : p < l.length := by rw [← h.1]; exact h1
  have e := h.2 p hp
  rw [nth_get h1] at e
  rw [e, List.getElem_reverse, ← nth_get (by omega)]
  by_cases h3 : p < k ∨ l.length - 1 - k < p
  ·rw [if_pos h3]
  ·rw [if_neg h3]; congr 1; omega
theorem RevTo.wf {l ys : List Int} {k : Nat} (h : RevTo l ys k) (hw : ∀ x ∈ l, (Lit.int .u64 x).wf = true) : ∀ x ∈ ys, (Lit.int .u64 x).wf = true := by
 intro x hx
 obtain ⟨p, hp, rfl⟩ := List.getElem_of_mem hx
 rw [← nth_get hp, h.2 p (by rw [← h.1]; exact hp)]
 have : p < l.length := by rw [← h.1]; exact hp
 split
 ·exact hw _ (nth_mem (by omega))
 ·exact hw _ (nth_mem this)
structure RevI (base : Nat) (w : World) (g n c : Nat) (ys ys1 ys2 : List Int) (listed : Nat → Bool) (W : World) : Prop where
 below : Below base w W
 keep : KeepsOthers w W
 a : listed 13 = false → OwI .u64 25 base W (some ⟨g, 0, none⟩) n c ys
 b : listed 13 = true → listed 15 = false → OwI .u64 25 base W (some ⟨g, 0, none⟩) n c ys1
 c : listed 15 = true → OwI .u64 25 base W (some ⟨g, 0, none⟩) n c ys2
theorem RevI.other {base : Nat} {w : World} {g n c : Nat} {ys ys1 ys2 : List Int} {listed : Nat → Bool} {W : World} (h : RevI base w g n c ys ys1 ys2 listed W) {i : Nat} (h1 : i ≠ 13) (h2 : i ≠ 15) : RevI base w g n c ys ys1 ys2 (updE listed i) W := by
 have e1 : updE listed i 13 = listed 13 := by simp [updE, h1.symm]
 have e2 : updE listed i 15 = listed 15 := by simp [updE, h2.symm]
 exact ⟨h.below, h.keep, by rw [e1]; exact h.a, by rw [e1, e2]; exact h.b, by rw [e2]; exact h.c⟩
theorem lenlit16 {vs : List Value} (h : vs.length = 16) : ∃ x0 x1 x2 x3 x4 x5 x6 x7 x8 x9 x10 x11 x12 x13 x14 x15 : Value, vs = [x0, x1, x2, x3, x4, x5, x6, x7, x8, x9, x10, x11, x12, x13, x14, x15] := by
 obtain ⟨x0, v0, rfl, h0⟩ := len_cons h
 obtain ⟨x1, v1, rfl, h1⟩ := len_cons h0
 obtain ⟨x2, v2, rfl, h2⟩ := len_cons h1
 obtain ⟨x3, v3, rfl, h3⟩ := len_cons h2
 obtain ⟨x4, v4, rfl, h4⟩ := len_cons h3
 obtain ⟨x5, v5, rfl, h5⟩ := len_cons h4
 obtain ⟨x6, v6, rfl, h6⟩ := len_cons h5
 obtain ⟨x7, v7, rfl, h7⟩ := len_cons h6
 obtain ⟨x8, v8, rfl, h8⟩ := len_cons h7
 obtain ⟨x9, v9, rfl, h9⟩ := len_cons h8
 obtain ⟨x10, v10, rfl, h10⟩ := len_cons h9
 obtain ⟨x11, v11, rfl, h11⟩ := len_cons h10
 obtain ⟨x12, v12, rfl, h12⟩ := len_cons h11
 obtain ⟨x13, v13, rfl, h13⟩ := len_cons h12
 obtain ⟨x14, v14, rfl, h14⟩ := len_cons h13
 obtain ⟨x15, v15, rfl, h15⟩ := len_cons h14
 obtain rfl := len_nil h15
 exact ⟨x0, x1, x2, x3, x4, x5, x6, x7, x8, x9, x10, x11, x12, x13, x14, x15, rfl⟩
set_option maxHeartbeats 4000000 in
theorem ureverse_any (a : Option Addr) (n c : Nat) (l : List Int) (base : Nat) (w : World) (hown : OwI .u64 25 base w a n c l) (hok : ∀ x ∈ l, (Lit.int .u64 x).wf = true) (hn : n ≤ 1000000) :
  Calls Tryz.prog 47 #[.slice a n c] w fun e w' => (∃ v, e = .returned v) ∧ OwI .u64 25 base w' a n c l.reverse ∧ Below base w w' ∧ KeepsOthers w w' := by
 have HL := Lib.hid hown.hlen
 go_enter Tryz.func47, Tryz.ntmps47
 go_wp2_with fail
 go_loopw [2, 3] (fun i j wr => ∃ (k : Nat) (ys : List Int), i = .int .i64 k ∧ j = .int .i64 ((n : Int) - 1 - k) ∧ Hid (k ≤ n) ∧ Hid (RevTo l ys k) ∧ OwI .u64 25 base wr a n c ys ∧ Below base w wr ∧ Hid (KeepsOthers w wr)) (fun i _ _ => n - (intOf i).toNat)
 case atStart => exact ⟨0, l, rfl, by simp, Lib.hid (by omega), Lib.hid (RevTo.zero l), hown, Below.refl _ _, Lib.hid (KeepsOthers.refl _)⟩
 case round =>
  obtain ⟨k, ys, rfl, rfl, HK, HR, ho, hx, HKO⟩ := hrel
  by_cases hlt : (k : Int) < (n : Int) - 1 - k
  ·obtain ⟨j, hj⟩ : ∃ j : Nat, (n : Int) - 1 - k = j := ⟨n - 1 - k, by have := HK.out; omega⟩
   have hjk : j + k + 1 = n := by omega
   have hkj : k < j := by omega
   have hkj2 : (k : Int) < (j : Int) := by omega
   have hkn : k < n := by omega
   have hjn : j < n := by omega
   have HJ := Lib.hid hj
   obtain ⟨g, rfl, hbg⟩ := ho.headU (by omega)
   have HG := Lib.hid hbg
   have HOK : Hid ((∀ x ∈ ys, (Lit.int .u64 x).wf = true) ∧ n ≤ 1000000) := Lib.hid ⟨HR.out.wf hok, hn⟩
   have HST := Lib.hid (HR.out.step (j := j) (by rw [HL.out]; exact hjk) hkj)
   obtain ⟨x, hx9⟩ : ∃ x, nth ys k = x := ⟨_, rfl⟩
   obtain ⟨y, hy9⟩ : ∃ y, nth ys j = y := ⟨_, rfl⟩
   have HXK := Lib.hid hx9
   have HYJ := Lib.hid hy9
   rw [hx9, hy9] at HST
   have HOK1 : Hid ((∀ z ∈ ys.set k y, (Lit.int .u64 z).wf = true) ∧ n ≤ 1000000) := Lib.hid ⟨fun z hz => by
    rcases List.mem_or_eq_of_mem_set hz with h | rfl
    ·exact HOK.out.1 z h
    ·rw [← HYJ.out]; exact HOK.out.1 _ (nth_mem (by rw [ho.hlen]; exact hjn)), hn⟩
   have HI : RevI base w g n c ys (ys.set k y) ((ys.set k y).set j x) (fun _ => false) { wr with drawn := wr.drawn + 1 } := ⟨Below.drew hx, HKO.out.trans (KeepsOthers.drew wr), fun _ => OwI.ext ho (Ext.drew (Ext.refl wr)), (fun h => by cases h), (fun h => by cases h)⟩
   clear hx9 hy9 hbg hlt hx ho
   rw [hj]
   clear hj
   go_upto_region 3 with fail
   refine region_relyF (RevI base w g n c ys (ys.set k y) ((ys.set k y).set j x)) [some 14, some 15, some 16, some 17, some 18, some 19, some 20, some 21, some 22, some 23, some 24, some 25, some 26, none, some 27, none] [[], [], [], [], [], [], [4, 5], [4, 5, 6], [], [], [8, 9], [8, 9, 10], [0, 1, 4, 5, 6, 7, 8, 9, 10, 11], [0, 1, 4, 5, 6, 7, 8, 9, 10, 11, 12], [0, 1, 2, 3, 4, 5, 6, 7, 8, 9, 10, 11, 12, 13], [0, 1, 2, 3, 4, 5, 6, 7, 8, 9, 10, 11, 12, 13, 14]] [[], [], [], [], [], [], [4, 5], [6], [], [], [8, 9], [10], [0, 1], [7, 12], [2, 3], [11, 14]] [none, none, none, none, none, none, none, none, none, none, none, none, none, none, none, none] [false, false, false, false, false, false, false, false, false, false, false, false, false, false, false, false] [.one ((.slice (some ⟨g, 0, none⟩) n c)), .one ((.int .i64 (k : Nat))), .one ((.slice (some ⟨g, 0, none⟩) n c)), .one ((.int .i64 (j : Nat))), .one ((.slice (some ⟨g, 0, none⟩) n c)), .one ((.int .i64 (j : Nat))), .one ((.pointer (some ⟨g, j, none⟩))), .one ((.int .u64 y)), .one ((.slice (some ⟨g, 0, none⟩) n c)), .one ((.int .i64 (k : Nat))), .one ((.pointer (some ⟨g, k, none⟩))), .one ((.int .u64 x)), .one ((.pointer (some ⟨g, k, none⟩))), .any, .one ((.pointer (some ⟨g, j, none⟩))), .any] (by kernel_rfl) (by kernel_rfl) rfl HI ?_ ?_
   ·refine stepsF_cons ?_ ?_
    ·intro listed vs W' hl hI hd hs hn hu hz ho9
     refine hold ?_
     obtain ⟨x0, x1, x2, x3, x4, x5, x6, x7, x8, x9, x10, x11, x12, x13, x14, x15, rfl⟩ := lenlit16 hl; clear hl
     refine held ?_
     simp only [putAll, Act.put, List.setIfInBounds_toArray, List.set_cons_succ, List.set_cons_zero]
     go_wp2_with fail
     exact relyE_done _ rfl rfl (Ext.refl _) (hI.other (by decide) (by decide))
    refine stepsF_cons ?_ ?_
    ·intro listed vs W' hl hI hd hs hn hu hz ho9
     refine hold ?_
     obtain ⟨x0, x1, x2, x3, x4, x5, x6, x7, x8, x9, x10, x11, x12, x13, x14, x15, rfl⟩ := lenlit16 hl; clear hl
     refine held ?_
     simp only [putAll, Act.put, List.setIfInBounds_toArray, List.set_cons_succ, List.set_cons_zero]
     go_wp2_with fail
     exact relyE_done _ rfl rfl (Ext.refl _) (hI.other (by decide) (by decide))
    refine stepsF_cons ?_ ?_
    ·intro listed vs W' hl hI hd hs hn hu hz ho9
     refine hold ?_
     obtain ⟨x0, x1, x2, x3, x4, x5, x6, x7, x8, x9, x10, x11, x12, x13, x14, x15, rfl⟩ := lenlit16 hl; clear hl
     refine held ?_
     simp only [putAll, Act.put, List.setIfInBounds_toArray, List.set_cons_succ, List.set_cons_zero]
     go_wp2_with fail
     exact relyE_done _ rfl rfl (Ext.refl _) (hI.other (by decide) (by decide))
    refine stepsF_cons ?_ ?_
    ·intro listed vs W' hl hI hd hs hn hu hz ho9
     refine hold ?_
     obtain ⟨x0, x1, x2, x3, x4, x5, x6, x7, x8, x9, x10, x11, x12, x13, x14, x15, rfl⟩ := lenlit16 hl; clear hl
     refine held ?_
     simp only [putAll, Act.put, List.setIfInBounds_toArray, List.set_cons_succ, List.set_cons_zero]
     go_wp2_with fail
     exact relyE_done _ rfl rfl (Ext.refl _) (hI.other (by decide) (by decide))
    refine stepsF_cons ?_ ?_
    ·intro listed vs W' hl hI hd hs hn hu hz ho9
     refine hold ?_
     obtain ⟨x0, x1, x2, x3, x4, x5, x6, x7, x8, x9, x10, x11, x12, x13, x14, x15, rfl⟩ := lenlit16 hl; clear hl
     refine held ?_
     simp only [putAll, Act.put, List.setIfInBounds_toArray, List.set_cons_succ, List.set_cons_zero]
     go_wp2_with fail
     exact relyE_done _ rfl rfl (Ext.refl _) (hI.other (by decide) (by decide))
    refine stepsF_cons ?_ ?_
    ·intro listed vs W' hl hI hd hs hn hu hz ho9
     refine hold ?_
     obtain ⟨x0, x1, x2, x3, x4, x5, x6, x7, x8, x9, x10, x11, x12, x13, x14, x15, rfl⟩ := lenlit16 hl; clear hl
     refine held ?_
     simp only [putAll, Act.put, List.setIfInBounds_toArray, List.set_cons_succ, List.set_cons_zero]
     go_wp2_with fail
     exact relyE_done _ rfl rfl (Ext.refl _) (hI.other (by decide) (by decide))
    refine stepsF_cons ?_ ?_
    ·intro listed vs W' hl hI hd hs hn hu hz ho9
     refine hold ?_
     obtain ⟨x0, x1, x2, x3, x4, x5, x6, x7, x8, x9, x10, x11, x12, x13, x14, x15, rfl⟩ := lenlit16 hl; clear hl
     simp only [factsL, atL, refV, List.getElem?_cons_succ, List.getElem?_cons_zero, List.getD_cons_succ, List.getD_cons_zero, RelL.one, RelL.any, RelL.blk, RelL.law] at hd
     obtain ⟨rfl, rfl, -⟩ := hd
     refine held ?_
     simp only [putAll, Act.put, List.setIfInBounds_toArray, List.set_cons_succ, List.set_cons_zero]
     go_wp2_with fail
     exact relyE_done _ rfl rfl (Ext.refl _) (hI.other (by decide) (by decide))
    refine stepsF_cons ?_ ?_
    ·intro listed vs W' hl hI hd hs hn hu hz ho9
     refine hold ?_
     obtain ⟨x0, x1, x2, x3, x4, x5, x6, x7, x8, x9, x10, x11, x12, x13, x14, x15, rfl⟩ := lenlit16 hl; clear hl
     simp only [factsL, atL, refV, List.getElem?_cons_succ, List.getElem?_cons_zero, List.getD_cons_succ, List.getD_cons_zero, RelL.one, RelL.any, RelL.blk, RelL.law] at hd
     obtain ⟨rfl, -⟩ := hd
     refine held ?_
     simp only [putAll, Act.put, List.setIfInBounds_toArray, List.set_cons_succ, List.set_cons_zero]
     have h13 : listed 13 = false := by cases h : listed 13 with | false => rfl | true => exact absurd (by decide) (hu 13 h)
     have d0 := (hI.a h13).cellAt hjn
     rw [HYJ.out] at d0
     go_wp2_with fail
     exact relyE_done _ rfl rfl (Ext.refl _) (hI.other (by decide) (by decide))
    refine stepsF_cons ?_ ?_
    ·intro listed vs W' hl hI hd hs hn hu hz ho9
     refine hold ?_
     obtain ⟨x0, x1, x2, x3, x4, x5, x6, x7, x8, x9, x10, x11, x12, x13, x14, x15, rfl⟩ := lenlit16 hl; clear hl
     refine held ?_
     simp only [putAll, Act.put, List.setIfInBounds_toArray, List.set_cons_succ, List.set_cons_zero]
     go_wp2_with fail
     exact relyE_done _ rfl rfl (Ext.refl _) (hI.other (by decide) (by decide))
    refine stepsF_cons ?_ ?_
    ·intro listed vs W' hl hI hd hs hn hu hz ho9
     refine hold ?_
     obtain ⟨x0, x1, x2, x3, x4, x5, x6, x7, x8, x9, x10, x11, x12, x13, x14, x15, rfl⟩ := lenlit16 hl; clear hl
     refine held ?_
     simp only [putAll, Act.put, List.setIfInBounds_toArray, List.set_cons_succ, List.set_cons_zero]
     go_wp2_with fail
     exact relyE_done _ rfl rfl (Ext.refl _) (hI.other (by decide) (by decide))
    refine stepsF_cons ?_ ?_
    ·intro listed vs W' hl hI hd hs hn hu hz ho9
     refine hold ?_
     obtain ⟨x0, x1, x2, x3, x4, x5, x6, x7, x8, x9, x10, x11, x12, x13, x14, x15, rfl⟩ := lenlit16 hl; clear hl
     simp only [factsL, atL, refV, List.getElem?_cons_succ, List.getElem?_cons_zero, List.getD_cons_succ, List.getD_cons_zero, RelL.one, RelL.any, RelL.blk, RelL.law] at hd
     obtain ⟨rfl, rfl, -⟩ := hd
     refine held ?_
     simp only [putAll, Act.put, List.setIfInBounds_toArray, List.set_cons_succ, List.set_cons_zero]
     go_wp2_with fail
     exact relyE_done _ rfl rfl (Ext.refl _) (hI.other (by decide) (by decide))
    refine stepsF_cons ?_ ?_
    ·intro listed vs W' hl hI hd hs hn hu hz ho9
     refine hold ?_
     obtain ⟨x0, x1, x2, x3, x4, x5, x6, x7, x8, x9, x10, x11, x12, x13, x14, x15, rfl⟩ := lenlit16 hl; clear hl
     simp only [factsL, atL, refV, List.getElem?_cons_succ, List.getElem?_cons_zero, List.getD_cons_succ, List.getD_cons_zero, RelL.one, RelL.any, RelL.blk, RelL.law] at hd
     obtain ⟨rfl, -⟩ := hd
     refine held ?_
     simp only [putAll, Act.put, List.setIfInBounds_toArray, List.set_cons_succ, List.set_cons_zero]
     have h13 : listed 13 = false := by cases h : listed 13 with | false => rfl | true => exact absurd (by decide) (hu 13 h)
     have d0 := (hI.a h13).cellAt hkn
     rw [HXK.out] at d0
     go_wp2_with fail
     exact relyE_done _ rfl rfl (Ext.refl _) (hI.other (by decide) (by decide))
    refine stepsF_cons ?_ ?_
    ·intro listed vs W' hl hI hd hs hn hu hz ho9
     refine hold ?_
     obtain ⟨x0, x1, x2, x3, x4, x5, x6, x7, x8, x9, x10, x11, x12, x13, x14, x15, rfl⟩ := lenlit16 hl; clear hl
     simp only [factsL, atL, refV, List.getElem?_cons_succ, List.getElem?_cons_zero, List.getD_cons_succ, List.getD_cons_zero, RelL.one, RelL.any, RelL.blk, RelL.law] at hd
     obtain ⟨rfl, rfl, -⟩ := hd
     refine held ?_
     simp only [putAll, Act.put, List.setIfInBounds_toArray, List.set_cons_succ, List.set_cons_zero]
     go_wp2_with fail
     exact relyE_done _ rfl rfl (Ext.refl _) (hI.other (by decide) (by decide))
    refine stepsF_cons ?_ ?_
    ·intro listed vs W' hl hI hd hs hn hu hz ho9
     refine hold ?_
     obtain ⟨x0, x1, x2, x3, x4, x5, x6, x7, x8, x9, x10, x11, x12, x13, x14, x15, rfl⟩ := lenlit16 hl; clear hl
     simp only [factsL, atL, refV, List.getElem?_cons_succ, List.getElem?_cons_zero, List.getD_cons_succ, List.getD_cons_zero, RelL.one, RelL.any, RelL.blk, RelL.law] at hd
     obtain ⟨rfl, rfl, -⟩ := hd
     refine held ?_
     simp only [putAll, Act.put, List.setIfInBounds_toArray, List.set_cons_succ, List.set_cons_zero]
     have d0 := (hI.a hz).cellAt hkn
     have hfz := (hI.a hz).frozenAt
     go_wp2_with fail
     exact relyE_store undef rfl trivial (by simp) ⟨fun _ _ h => h, fun _ _ h => h, fun _ _ h => h, fun _ _ h => h, fun _ _ h => h, fun _ _ h => h, fun _ _ h => h, fun _ _ h => h, fun _ _ h => h, fun _ _ h => h, fun _ _ h => h, fun _ _ h => h, fun _ _ h => h, fun _ _ h => h, fun _ _ h => h, fun _ _ h => h, trivial⟩ ⟨Below.setCell (p := ⟨g, _, none⟩) hI.below HG.out _, hI.keep.trans (KeepsOthers.setCell _ _ _), fun h => by simp [updE] at h, fun _ _ => (hI.a hz).set k y, fun h => by simp [updE] at h; exact absurd (by decide) (hu 15 h)⟩
    refine stepsF_cons ?_ ?_
    ·intro listed vs W' hl hI hd hs hn hu hz ho9
     refine hold ?_
     obtain ⟨x0, x1, x2, x3, x4, x5, x6, x7, x8, x9, x10, x11, x12, x13, x14, x15, rfl⟩ := lenlit16 hl; clear hl
     simp only [factsL, atL, refV, List.getElem?_cons_succ, List.getElem?_cons_zero, List.getD_cons_succ, List.getD_cons_zero, RelL.one, RelL.any, RelL.blk, RelL.law] at hd
     obtain ⟨rfl, rfl, -⟩ := hd
     refine held ?_
     simp only [putAll, Act.put, List.setIfInBounds_toArray, List.set_cons_succ, List.set_cons_zero]
     go_wp2_with fail
     exact relyE_done _ rfl rfl (Ext.refl _) (hI.other (by decide) (by decide))
    refine stepsF_cons ?_ ?_
    ·intro listed vs W' hl hI hd hs hn hu hz ho9
     refine hold ?_
     obtain ⟨x0, x1, x2, x3, x4, x5, x6, x7, x8, x9, x10, x11, x12, x13, x14, x15, rfl⟩ := lenlit16 hl; clear hl
     simp only [factsL, atL, refV, List.getElem?_cons_succ, List.getElem?_cons_zero, List.getD_cons_succ, List.getD_cons_zero, RelL.one, RelL.any, RelL.blk, RelL.law] at hd
     obtain ⟨rfl, rfl, -⟩ := hd
     refine held ?_
     simp only [putAll, Act.put, List.setIfInBounds_toArray, List.set_cons_succ, List.set_cons_zero]
     have h13 := hs 13 (by decide)
     have d0 := (hI.b h13 hz).cellAt hjn
     have hfz := (hI.b h13 hz).frozenAt
     go_wp2_with fail
     exact relyE_store undef rfl trivial (by simp) ⟨fun _ _ h => h, fun _ _ h => h, fun _ _ h => h, fun _ _ h => h, fun _ _ h => h, fun _ _ h => h, fun _ _ h => h, fun _ _ h => h, fun _ _ h => h, fun _ _ h => h, fun _ _ h => h, fun _ _ h => h, fun _ _ h => h, fun _ _ h => h, fun _ _ h => h, fun _ _ h => h, trivial⟩ ⟨Below.setCell (p := ⟨g, _, none⟩) hI.below HG.out _, hI.keep.trans (KeepsOthers.setCell _ _ _), fun h => by simp [updE, h13] at h, fun _ h => by simp [updE] at h, fun _ => (hI.b h13 hz).set j x⟩
    exact trivial
   ·intro listed vs W' hl hall hI hd hn
    obtain ⟨x0, x1, x2, x3, x4, x5, x6, x7, x8, x9, x10, x11, x12, x13, x14, x15, rfl⟩ := lenlit16 hl; clear hl
    simp only [List.length_cons, List.length_nil, List.range, List.range.loop, Nat.zero_add, Nat.reduceAdd, factsL, atL, refV, List.getElem?_cons_succ, List.getElem?_cons_zero, List.getD_cons_succ, List.getD_cons_zero, RelL.one, RelL.any, RelL.blk, RelL.law] at hd
    obtain ⟨rfl, rfl, rfl, rfl, rfl, rfl, rfl, rfl, rfl, rfl, rfl, rfl, rfl, -, rfl, -, -⟩ := hd
    simp only [putAll, Act.put, List.setIfInBounds_toArray, List.set_cons_succ, List.set_cons_zero]
    have ho2 := hI.c (hall 15 (by decide))
    have hb2 := hI.below
    have hk2 := Lib.hid hI.keep
    clear hall hn hI
    go_wp2_with fail
    refine ⟨⟨k + 1, _, by go_num, by rw [← HJ.out]; congr 1; push_cast; omega, Lib.hid (by omega), HST, ho2, hb2, hk2⟩, ?_⟩
    simp only [intOf]; omega
  ·have hk : n ≤ 2 * k + 1 := by omega
   have e : ys = l.reverse := HR.out.done (by rw [HL.out]; exact hk)
   subst e
   go_wp2_with fail
   go_end0
   exact ⟨⟨_, rfl⟩, ho, hx, HKO.out⟩
open Go.RowKit Go.Sort Go.Shelf
theorem el_u64 : ElT Tryz.prog 42 25 (.int .u64 0) 1 8 := ⟨by kernel_rfl, by kernel_rfl⟩
def lenV : Value → Nat
 | .slice _ n _ => n
 | _ => 0
def U64s (xs : List Int) : Prop := ∀ x ∈ xs, (Lit.int .u64 x).wf = true
theorem U64s.snoc {xs : List Int} (h : U64s xs) {x : Int} (hx : 0 ≤ x ∧ x ≤ 18446744073709551615) : U64s (xs ++ [x]) := by
 intro y hy
 rcases List.mem_append.1 hy with h1 | h1
 ·exact h y h1
 ·rw [List.mem_singleton] at h1; subst h1; simp [Lit.wf, IntKind.min, IntKind.max, IntKind.bits, IntKind.signed]; omega
theorem U64s.rev {xs : List Int} (h : U64s xs) : U64s xs.reverse := fun y hy => h y (List.mem_reverse.1 hy)
theorem Sl.keepB {k : IntKind} {w w' : World} {b off n c B : Nat} {xs : List Int} (h : Sl k w (some ⟨b, off, none⟩) n c xs) (hb : b < B) (hB : Below B w w') : Sl k w' (some ⟨b, off, none⟩) n c xs :=
 h.below (fun b' o' e _ => by obtain ⟨rfl, rfl⟩ : b = b' ∧ off = o' := (by simpa using e); exact hB.block b hb)
theorem Sl.parts {w : World} {b off n c : Nat} {xs : List Int} (h : Sl .u64 w (some ⟨b, off, none⟩) n c xs) (h2 : 2 ≤ n) :
  Sl .u64 w (some ⟨b, off, none⟩) (halfN n) (halfN n) (xs.take (halfN n)) ∧ Sl .u64 w (some ⟨b, off + halfN n, none⟩) (n - halfN n) (n - halfN n) (xs.drop (halfN n)) := by
 obtain ⟨a1, a2, a3⟩ := half_spec h2
 have bd := h.bd
 exact ⟨(h.take (m := halfN n) (by omega)).self (halfN n) (Nat.le_refl _) (by omega), h.drop (m := halfN n) (by omega) (n - halfN n) (Nat.le_refl _) (by omega)⟩
theorem tinclude_any (b off n c : Nat) (xs : List Int) (i : Nat) (w : World) (h1 : 1 ≤ n) (hn : n ≤ 4096) (hi : i < n) (h : Sl .u64 w (some ⟨b, off, none⟩) n c xs) (ht : TB w) :
    Calls Tryz.prog 53 #[.slice (some ⟨b, off, none⟩) n c, .int .i64 i] w fun e w' => ∃ a' c', e = .returned (.tuple #[.slice a' (inclT xs i).length c', .int .i64 0]) ∧ OwI .u64 25 w.heap.size w' a' (inclT xs i).length c' (inclT xs i) ∧ U64s (inclT xs i) ∧ Ext w w' := by
  have HC := Lib.hid (fun W => tcheck_any (some ⟨b, off, none⟩) n c W (by omega))
  rw [if_neg (by omega), if_neg (by omega)] at HC
  have bd := h.bd
  have HS0 := Lib.hid h
  have HB0 : Hid (b < w.heap.size) := Lib.hid (by obtain ⟨b', o', e, hc⟩ := h.at (by omega); obtain ⟨rfl, rfl⟩ : b = b' ∧ off = o' := by simpa using e
                                                  exact lt_of_cell (hc 0 (by omega)))
  have g1 : ¬ ((i : Int) < 0) := by omega
  have g2 : ¬ ((n : Int) ≤ (i : Int)) := by omega
  have g3 : decide ((i : Int) < 0) = false := decide_eq_false g1
  have g4 : decide ((n : Int) ≤ (i : Int)) = false := decide_eq_false g2
  have g5 : ¬ (n ≤ i) := by omega
  have g6 : decide (n ≤ i) = false := decide_eq_false g5
  clear h
  go_enter Tryz.func53, Tryz.ntmps53
  go_wp2_with (go_at_call 43; refine (HC.out _).mono ?_; rintro e w' ⟨rfl, rfl⟩)
  go_loopw [0, 1, 7] (fun s i' p wr => ∃ (m j q o9 cs cp : Nat) (ys ps : List Int) (ap : Option Addr), s = .slice (some ⟨b, o9, none⟩) m cs ∧ i' = .int .i64 j ∧ p = .slice ap q cp ∧ Hid (1 ≤ m ∧ j < m ∧ q + m ≤ n) ∧ Hid (Sl .u64 wr (some ⟨b, o9, none⟩) m cs ys) ∧ OwI .u64 25 w.heap.size wr ap q cp ps ∧ Hid (inclT xs i = inclT ys j ++ ps.reverse) ∧ Hid (U64s ps) ∧ Hid (Ext w wr)) (fun s _ _ _ => lenV s)
  case atStart => exact ⟨n, i, 0, off, c, 0, xs, [], none, rfl, rfl, rfl, Lib.hid (by omega), HS0, OwI.nil _ _ _ _, Lib.hid (by simp), Lib.hid (fun x hx => by simp at hx), Lib.hid (Ext.refl w)⟩
  case round =>
    obtain ⟨m, j, q, o9, cs, cp, ys, ps, ap, rfl, rfl, rfl, HQ, HS, ho, HI, HU, HE⟩ := hrel
    have bm := HS.out.bd
    by_cases hm : 1 < m
    · have hmi : (1 : Int) < (m : Int) := by omega
      obtain ⟨a1, a2, a3⟩ := half_spec (show 2 ≤ m by omega)
      obtain ⟨hsl, hsr⟩ := HS.out.parts (show 2 ≤ m by omega)
      have HYL := Lib.hid HS.out.hlen
      have HP := Lib.hid (parts_any b o9 m cs ys wr HS.out (by omega) (by have := HQ.out; omega))
      have HTW : Hid (TB wr) := Lib.hid (ht.ext HE.out)
      have HLR := Lib.hid (fun (W : World) (hx : Ext wr W) => troot_any (halfN m) b o9 (halfN m) _ W (by omega) (by have := HQ.out; omega) (hsl.ext hx) (HTW.out.ext hx))
      have HRR := Lib.hid (fun (W : World) (hx : Ext wr W) => troot_any (m - halfN m) b (o9 + halfN m) (m - halfN m) _ W (by omega) (by have := HQ.out; omega) (hsr.ext hx) (HTW.out.ext hx))
      have k1 := Lib.hid (root_rng (ys.take (halfN m)))
      have k2 := Lib.hid (root_rng (ys.drop (halfN m)))
      have HSL := Lib.hid hsl
      have HSR := Lib.hid hsr
      clear hsl hsr
      go_upto_region 9 with ((go_at_call 46; refine HP.out.mono ?_; rintro e w1 ⟨rfl, hx1⟩))
      by_cases hj : j < halfN m
      · have hji : (j : Int) < ((halfN m : Nat) : Int) := by omega
        have HIN := Lib.hid (inclT_left (l := ys) (i := j) (by rw [HYL.out]; omega) (by rw [HYL.out]; exact hj))
        rw [HYL.out] at HIN
        generalize halfN m = k at *
        go_upto_region 10 with fail
        go_wp2_with (go_at_call 44; refine (HRR.out _ hx1).mono ?_; rintro e w2 ⟨rfl, hx2⟩; refine hold ?_)
        refine held ?_
        have ho2 := ho.ext (hx1.trans hx2)
        have hz2 : w.heap.size ≤ w2.heap.size := ((HE.out.trans hx1).trans hx2).sz
        go_wp2_with (at_builtin; refine app1 el_u64 rfl _ _ rfl w2 w.heap.size _ _ _ _ (rootT (ys.drop k)) rfl ho2 rfl hz2 (by have := HQ.out; unfold maxLen; omega) (by have := HQ.out; omega) ?_; intro g3 c3 w3 ho3 hB3; refine hold ?_)
        refine held ?_
        have hE3 : Ext w w3 := Below.trans ((HE.out.trans hx1).trans hx2) hB3
        have HW3 := Lib.hid (hx1.trans hx2)
        have HB3 := Lib.hid hB3
        clear hB3 ho2 hz2 ho hx2 hx1
        go_wp2_with fail
        refine ⟨⟨k, j, q + 1, o9, k, c3, ys.take k, ps ++ [rootT (ys.drop k)], some ⟨g3, 0, none⟩, rfl, rfl, by simp, Lib.hid (by have := HQ.out; omega), Lib.hid ?_, ho3, Lib.hid ?_, Lib.hid (HU.out.snoc k2.out), Lib.hid hE3⟩, by simp only [lenV]; omega⟩
        · exact (HSL.out.ext HW3.out).keepB HB0.out HB3.out
        · rw [HI.out, HIN.out]; simp
      · have hji : ¬ ((j : Int) < ((halfN m : Nat) : Int)) := by omega
        have HIN := Lib.hid (inclT_right (l := ys) (i := j) (by rw [HYL.out]; omega) (by rw [HYL.out]; exact hj))
        rw [HYL.out] at HIN
        generalize halfN m = k at *
        have HJ : Hid (k ≤ j ∧ j < m ∧ m ≤ 4096) := Lib.hid (by have := HQ.out; omega)
        go_upto_region 11 with fail
        go_wp2_with (go_at_call 44; refine (HLR.out _ hx1).mono ?_; rintro e w2 ⟨rfl, hx2⟩; refine hold ?_)
        refine held ?_
        have ho2 := ho.ext (hx1.trans hx2)
        have hz2 : w.heap.size ≤ w2.heap.size := ((HE.out.trans hx1).trans hx2).sz
        go_wp2_with (at_builtin; refine app1 el_u64 rfl _ _ rfl w2 w.heap.size _ _ _ _ (rootT (ys.take k)) rfl ho2 rfl hz2 (by have := HQ.out; unfold maxLen; omega) (by have := HQ.out; omega) ?_; intro g3 c3 w3 ho3 hB3; refine hold ?_)
        refine held ?_
        have hE3 : Ext w w3 := Below.trans ((HE.out.trans hx1).trans hx2) hB3
        have HW3 := Lib.hid (hx1.trans hx2)
        have HB3 := Lib.hid hB3
        clear hB3 ho2 hz2 ho hx2 hx1
        go_wp2_with fail
        refine ⟨⟨m - k, j - k, q + 1, o9 + k, m - k, c3, ys.drop k, ps ++ [rootT (ys.take k)], some ⟨g3, 0, none⟩, rfl, congrArg (Value.int .i64) (by have := HJ.out; first | omega | (unfold wrap64; omega)), by simp, Lib.hid (by have := HQ.out; have := HJ.out; omega), Lib.hid ?_, ho3, Lib.hid ?_, Lib.hid (HU.out.snoc k1.out), Lib.hid hE3⟩, by simp only [lenV]; omega⟩
        · exact (HSR.out.ext HW3.out).keepB HB0.out HB3.out
        · rw [HI.out, HIN.out]; simp
    · have hmi : ¬ (1 : Int) < (m : Int) := by omega
      have HPS : Hid (ps.reverse = inclT xs i) := Lib.hid (by rw [HI.out, inclT_one (by have := HS.out.hlen; omega)]; rfl)
      have HLN : Hid (q = (inclT xs i).length) := Lib.hid (by rw [← HPS.out, List.length_reverse, ho.hlen])
      have HRV := Lib.hid (ureverse_any ap q cp ps w.heap.size wr ho HU.out (by have := HQ.out; omega))
      rw [HPS.out] at HRV
      clear HI
      go_wp2_with (go_at_call 47; refine HRV.out.mono ?_; rintro e w3 ⟨⟨v, rfl⟩, ho3, hB3, -⟩)
      go_ret2
      refine ⟨ap, cp, ?_, ?_, ?_, Below.trans HE.out hB3⟩
      · rw [← HLN.out]; rfl
      · rw [← HLN.out]; exact ho3
      · rw [← HPS.out]; exact HU.out.rev
theorem textend_any (b off n c : Nat) (xs : List Int) (i : Nat) (w : World) (h1 : 1 ≤ n) (hn : n ≤ 4096) (hi0 : 1 ≤ i) (hi : i ≤ n) (h : Sl .u64 w (some ⟨b, off, none⟩) n c xs) (ht : TB w) :
    Calls Tryz.prog 17 #[.slice (some ⟨b, off, none⟩) n c, .int .i64 i] w fun e w' => ∃ a' c', e = .returned (.tuple #[.slice a' (extT xs i).length c', .int .i64 0]) ∧ OwI .u64 25 w.heap.size w' a' (extT xs i).length c' (extT xs i) ∧ U64s (extT xs i) ∧ Ext w w' := by
  have HC := Lib.hid (fun W => tcheck_any (some ⟨b, off, none⟩) n c W (by omega))
  rw [if_neg (by omega), if_neg (by omega)] at HC
  have bd := h.bd
  have HS0 := Lib.hid h
  have HB0 : Hid (b < w.heap.size) := Lib.hid (by obtain ⟨b', o', e, hc⟩ := h.at (by omega); obtain ⟨rfl, rfl⟩ : b = b' ∧ off = o' := by simpa using e
                                                  exact lt_of_cell (hc 0 (by omega)))
  have g1 : ¬ ((i : Int) < 1) := by omega
  have g2 : ¬ ((n : Int) < (i : Int)) := by omega
  have g3 : decide ((i : Int) < 1) = false := decide_eq_false g1
  have g4 : decide ((n : Int) < (i : Int)) = false := decide_eq_false g2
  have g5 : ¬ (n < i) := by omega
  have g6 : decide (n < i) = false := decide_eq_false g5
  clear h
  go_enter Tryz.func17, Tryz.ntmps17
  go_wp2_with (go_at_call 43; refine (HC.out _).mono ?_; rintro e w' ⟨rfl, rfl⟩)
  go_loopw [0, 1, 7, 8] (fun s i' p h' wr => ∃ (m j q o9 cs cp : Nat) (wh : Bool) (ys ps : List Int) (ap : Option Addr), s = .slice (some ⟨b, o9, none⟩) m cs ∧ i' = .int .i64 j ∧ p = .slice ap q cp ∧ h' = .bool wh ∧ Hid (1 ≤ j ∧ j ≤ m ∧ q + m ≤ n) ∧ Hid (Sl .u64 wr (some ⟨b, o9, none⟩) m cs ys) ∧ OwI .u64 25 w.heap.size wr ap q cp ps ∧ Hid (extS xs i = extS ys j ++ ps.reverse) ∧ Hid (wholeT xs i = (wh && wholeT ys j)) ∧ Hid (U64s ps) ∧ Hid (Ext w wr)) (fun s _ _ _ _ => lenV s)
  case atStart => exact ⟨n, i, 0, off, c, 0, true, xs, [], none, rfl, rfl, rfl, rfl, Lib.hid (by omega), HS0, OwI.nil _ _ _ _, Lib.hid (by simp), Lib.hid (by simp), Lib.hid (fun x hx => by simp at hx), Lib.hid (Ext.refl w)⟩
  case round =>
    obtain ⟨m, j, q, o9, cs, cp, wh, ys, ps, ap, rfl, rfl, rfl, rfl, HQ, HS, ho, HI, HWH, HU, HE⟩ := hrel
    have bm := HS.out.bd
    by_cases hm : j < m
    · have hmi : (j : Int) < (m : Int) := by omega
      have hq0 := HQ.out
      have hm2 : 2 ≤ m := by omega
      obtain ⟨a1, a2, a3⟩ := half_spec hm2
      obtain ⟨hsl, hsr⟩ := HS.out.parts hm2
      have HYL := Lib.hid HS.out.hlen
      have HP := Lib.hid (parts_any b o9 m cs ys wr HS.out (by omega) (by have := HQ.out; omega))
      have HTW : Hid (TB wr) := Lib.hid (ht.ext HE.out)
      have HLR := Lib.hid (fun (W : World) (hx : Ext wr W) => troot_any (halfN m) b o9 (halfN m) _ W (by omega) (by have := HQ.out; omega) (hsl.ext hx) (HTW.out.ext hx))
      have HRR := Lib.hid (fun (W : World) (hx : Ext wr W) => troot_any (m - halfN m) b (o9 + halfN m) (m - halfN m) _ W (by omega) (by have := HQ.out; omega) (hsr.ext hx) (HTW.out.ext hx))
      have k1 := Lib.hid (root_rng (ys.take (halfN m)))
      have k2 := Lib.hid (root_rng (ys.drop (halfN m)))
      have HSL := Lib.hid hsl
      have HSR := Lib.hid hsr
      clear hsl hsr
      clear hq0
      go_upto_region 10 with ((go_at_call 46; refine HP.out.mono ?_; rintro e w1 ⟨rfl, hx1⟩))
      by_cases hj : j ≤ halfN m
      · have hji : (j : Int) ≤ ((halfN m : Nat) : Int) := by omega
        have HIN := Lib.hid (extS_left (l := ys) (m := j) (by rw [HYL.out]; omega) (by rw [HYL.out]; exact hm) (by rw [HYL.out]; exact hj))
        have HWN := Lib.hid (wholeT_left (l := ys) (m := j) (by rw [HYL.out]; omega) (by rw [HYL.out]; exact hm) (by rw [HYL.out]; exact hj))
        rw [HYL.out] at HIN HWN
        generalize halfN m = k at *
        have HJ : Hid (1 ≤ j ∧ j ≤ k ∧ j < m ∧ m ≤ 4096) := Lib.hid (by have := HQ.out; omega)
        go_upto_region 11 with fail
        go_wp2_with (go_at_call 44; refine (HRR.out _ hx1).mono ?_; rintro e w2 ⟨rfl, hx2⟩; refine hold ?_)
        refine held ?_
        have ho2 := ho.ext (hx1.trans hx2)
        have hz2 : w.heap.size ≤ w2.heap.size := ((HE.out.trans hx1).trans hx2).sz
        go_wp2_with (at_builtin; refine app1 el_u64 rfl _ _ rfl w2 w.heap.size _ _ _ _ (rootT (ys.drop k)) rfl ho2 rfl hz2 (by have := HQ.out; unfold maxLen; omega) (by have := HQ.out; omega) ?_; intro g3 c3 w3 ho3 hB3; refine hold ?_)
        refine held ?_
        have hE3 : Ext w w3 := Below.trans ((HE.out.trans hx1).trans hx2) hB3
        have HW3 := Lib.hid (hx1.trans hx2)
        have HB3 := Lib.hid hB3
        clear hB3 ho2 hz2 ho hx2 hx1
        go_wp2_with fail
        refine ⟨⟨k, j, q + 1, o9, k, c3, wh, ys.take k, ps ++ [rootT (ys.drop k)], some ⟨g3, 0, none⟩, rfl, rfl, by simp, rfl, Lib.hid (by have := HQ.out; have := HJ.out; omega), Lib.hid ?_, ho3, Lib.hid ?_, Lib.hid (by rw [HWH.out, HWN.out]), Lib.hid (HU.out.snoc k2.out), Lib.hid hE3⟩, by simp only [lenV]; omega⟩
        · exact (HSL.out.ext HW3.out).keepB HB0.out HB3.out
        · rw [HI.out, HIN.out]; simp
      · have hji : ¬ ((j : Int) ≤ ((halfN m : Nat) : Int)) := by omega
        have HIN := Lib.hid (extS_right (l := ys) (m := j) (by rw [HYL.out]; omega) (by rw [HYL.out]; exact hm) (by rw [HYL.out]; exact hj))
        have HWN := Lib.hid (wholeT_right (l := ys) (m := j) (by rw [HYL.out]; omega) (by rw [HYL.out]; exact hm) (by rw [HYL.out]; exact hj))
        rw [HYL.out] at HIN
        generalize halfN m = k at *
        have HJ : Hid (1 ≤ j ∧ k < j ∧ j < m ∧ m ≤ 4096) := Lib.hid (by have := HQ.out; omega)
        go_upto_region 12 with fail
        go_wp2_with (go_at_call 44; refine (HLR.out _ hx1).mono ?_; rintro e w2 ⟨rfl, hx2⟩; refine hold ?_)
        refine held ?_
        have ho2 := ho.ext (hx1.trans hx2)
        have hz2 : w.heap.size ≤ w2.heap.size := ((HE.out.trans hx1).trans hx2).sz
        go_wp2_with (at_builtin; refine app1 el_u64 rfl _ _ rfl w2 w.heap.size _ _ _ _ (rootT (ys.take k)) rfl ho2 rfl hz2 (by have := HQ.out; unfold maxLen; omega) (by have := HQ.out; omega) ?_; intro g3 c3 w3 ho3 hB3; refine hold ?_)
        refine held ?_
        have hE3 : Ext w w3 := Below.trans ((HE.out.trans hx1).trans hx2) hB3
        have HW3 := Lib.hid (hx1.trans hx2)
        have HB3 := Lib.hid hB3
        clear hB3 ho2 hz2 ho hx2 hx1
        go_wp2_with fail
        refine ⟨⟨m - k, j - k, q + 1, o9 + k, m - k, c3, false, ys.drop k, ps ++ [rootT (ys.take k)], some ⟨g3, 0, none⟩, rfl, congrArg (Value.int .i64) (by have := HJ.out; first | omega | (unfold wrap64; omega)), by simp, rfl, Lib.hid (by have := HQ.out; have := HJ.out; omega), Lib.hid ?_, ho3, Lib.hid ?_, Lib.hid (by rw [HWH.out, HWN.out]; simp), Lib.hid (HU.out.snoc k1.out), Lib.hid hE3⟩, by simp only [lenV]; omega⟩
        · exact (HSR.out.ext HW3.out).keepB HB0.out HB3.out
        · rw [HI.out, HIN.out]; simp
    · have hmi : ¬ (j : Int) < (m : Int) := by omega
      have hq0 := HQ.out
      obtain rfl : j = m := by omega
      have HWX : Hid (wholeT xs i = wh) := Lib.hid (by rw [HWH.out, wholeT_end (by have := HS.out.hlen; omega), Bool.and_true])
      have HPS : Hid (extS xs i = rootT ys :: ps.reverse) := Lib.hid (by rw [HI.out, extS_end (by have := HS.out.hlen; omega)]; rfl)
      clear hq0 HI HWH
      cases wh with
      | true =>
        have HXT : Hid (ps.reverse = extT xs i) := Lib.hid (by unfold extT; rw [HWX.out, HPS.out]; rfl)
        have HLN : Hid (q = (extT xs i).length) := Lib.hid (by rw [← HXT.out, List.length_reverse, ho.hlen])
        have HRV := Lib.hid (ureverse_any ap q cp ps w.heap.size wr ho HU.out (by have := HQ.out; omega))
        rw [HXT.out] at HRV
        go_wp2_with (go_at_call 47; refine HRV.out.mono ?_; rintro e w3 ⟨⟨v, rfl⟩, ho3, hB3, -⟩)
        go_ret2
        refine ⟨ap, cp, ?_, ?_, ?_, Below.trans HE.out hB3⟩
        · rw [← HLN.out]; rfl
        · rw [← HLN.out]; exact ho3
        · rw [← HXT.out]; exact HU.out.rev
      | false =>
        have HXT : Hid ((ps ++ [rootT ys]).reverse = extT xs i) := Lib.hid (by unfold extT; rw [HWX.out, HPS.out]; simp)
        have HLN : Hid (q + 1 = (extT xs i).length) := Lib.hid (by rw [← HXT.out, List.length_reverse, List.length_append, ho.hlen]; rfl)
        have HUX := Lib.hid (HU.out.snoc (root_rng ys))
        have HRT := Lib.hid (fun (W : World) (hx : Ext wr W) => troot_any j b o9 cs ys W (by have := HQ.out; omega) (by have := HQ.out; omega) (HS.out.ext hx) (ht.ext (HE.out.trans hx)))
        have hx1 : Ext wr wr := Ext.refl wr
        go_upto_region 14 with fail
        go_wp2_with (go_at_call 44; refine (HRT.out _ hx1).mono ?_; rintro e w2 ⟨rfl, hx2⟩; refine hold ?_)
        refine held ?_
        have ho2 := ho.ext (hx1.trans hx2)
        have hz2 : w.heap.size ≤ w2.heap.size := ((HE.out.trans hx1).trans hx2).sz
        go_wp2_with (at_builtin; refine app1 el_u64 rfl _ _ rfl w2 w.heap.size _ _ _ _ (rootT ys) rfl ho2 rfl hz2 (by have := HQ.out; unfold maxLen; omega) (by have := HQ.out; omega) ?_; intro g3 c3 w3 ho3 hB3; refine hold ?_)
        refine held ?_
        have hE3 : Ext w w3 := Below.trans ((HE.out.trans hx1).trans hx2) hB3
        have HW3 := Lib.hid (hx1.trans hx2)
        have HB3 := Lib.hid hB3
        clear hB3 ho2 hz2 ho hx2 hx1
        have HRV := Lib.hid (ureverse_any (some ⟨g3, 0, none⟩) (q + 1) c3 _ w.heap.size w3 ho3 HUX.out (by have := HQ.out; omega))
        rw [HXT.out] at HRV
        go_wp2_with (go_at_call 47; refine HRV.out.mono ?_; rintro e w4 ⟨⟨v, rfl⟩, ho4, hB4, -⟩)
        go_ret2
        refine ⟨some ⟨g3, 0, none⟩, c3, ?_, ?_, ?_, Below.trans hE3 hB4⟩
        · rw [← HLN.out]; rfl
        · rw [← HLN.out]; exact ho4
        · rw [← HXT.out]; exact HUX.out.rev
open Go.RowKit Go.Sort
class Cel (α : Type) where
 dflt : α
 sz : Nat
 enc : α → List Value
 ok : α → Prop
 len : ∀ x, (enc x).length = sz
 pos : 0 < sz
 one : ∀ x v, v ∈ enc x → v.oneCell' = true
section
variable {α : Type} [Cel α]
def nthR (xs : List α) (i : Nat) : α := xs.getD i Cel.dflt
theorem nthR_mem {xs : List α} {i : Nat} (h : i < xs.length) : nthR xs i ∈ xs := by
 unfold nthR
 rw [List.getD_eq_getElem?_getD, List.getElem?_eq_getElem h]
 exact List.getElem_mem h
theorem nthR_get {xs : List α} {i : Nat} (h : i < xs.length) : nthR xs i = xs[i] := by
 simp [nthR, List.getD_eq_getElem?_getD, h]
theorem take_nthR_succ {xs : List α} {k : Nat} (h : k < xs.length) : xs.take (k + 1) = xs.take k ++ [nthR xs k] := by
 rw [List.take_succ_eq_append_getElem h, nthR_get h]
theorem nthR_take {xs : List α} {m i : Nat} (h : i < m) : nthR (xs.take m) i = nthR xs i := by
 simp [nthR, List.getD_eq_getElem?_getD, h]
theorem nthR_drop (xs : List α) (m i : Nat) : nthR (xs.drop m) i = nthR xs (m + i) := by
 simp [nthR, List.getD_eq_getElem?_getD]
theorem nthR_app_left {xs ys : List α} {i : Nat} (h : i < xs.length) : nthR (xs ++ ys) i = nthR xs i := by
 simp [nthR, List.getD_eq_getElem?_getD, List.getElem?_append_left h]
theorem nthR_app_right {xs ys : List α} {i : Nat} (h : xs.length ≤ i) : nthR (xs ++ ys) i = nthR ys (i - xs.length) := by
 simp [nthR, List.getD_eq_getElem?_getD, List.getElem?_append_right h]
theorem rangeAt_ext {w w' : World} {b o : Nat} {cs : List Value} (h : w.rangeAt b o cs) (hE : Ext w w') : w'.rangeAt b o cs := fun j v hv => hE.cell (h j v hv)
structure Rw (w : World) (a : Option Addr) (n c : Nat) (xs : List α) : Prop where
 hlen : xs.length = n
 le : n ≤ c
 max : c ≤ maxLen
 lim : n ≤ 17592186044416
 cells : ∀ i, i < n → ∃ b off, a = some ⟨b, off, none⟩ ∧ w.rangeAt b (off + i * Cel.sz α) (Cel.enc (nthR xs i))
 wf : ∀ x ∈ xs, Cel.ok x
theorem Rw.at {w : World} {a : Option Addr} {n c : Nat} {xs : List α} (h : Rw w a n c xs) (h0 : 0 < n) :
  ∃ b off, a = some ⟨b, off, none⟩ ∧ ∀ i, i < n → w.rangeAt b (off + i * Cel.sz α) (Cel.enc (nthR xs i)) := by
 obtain ⟨b, off, rfl, _⟩ := h.cells 0 h0
 refine ⟨b, off, rfl, fun i hi => ?_⟩
 obtain ⟨b', off', he, hc⟩ := h.cells i hi
 simp at he
 obtain ⟨rfl, rfl⟩ := he
 exact hc
theorem Rw.ext {w w' : World} {a : Option Addr} {n c : Nat} {xs : List α} (h : Rw w a n c xs) (he : Ext w w') : Rw w' a n c xs :=
 ⟨h.hlen, h.le, h.max, h.lim, fun i hi => let ⟨b, off, ha, hc⟩ := h.cells i hi; ⟨b, off, ha, rangeAt_ext hc he⟩, h.wf⟩
theorem Rw.bd {w : World} {a : Option Addr} {n c : Nat} {xs : List α} (h : Rw w a n c xs) : n ≤ c ∧ c ≤ 9223372036854775807 ∧ n ≤ 17592186044416 := by
 have := h.max
 unfold maxLen at this
 exact ⟨h.le, by omega, h.lim⟩
theorem Rw.wfAt {w : World} {a : Option Addr} {n c : Nat} {xs : List α} (h : Rw w a n c xs) {i : Nat} (hi : i < n) : Cel.ok (nthR xs i) := h.wf _ (nthR_mem (by rw [h.hlen]; exact hi))
theorem Rw.nil (w : World) : Rw w none 0 0 ([] : List α) := ⟨rfl, Nat.le_refl _, Nat.zero_le _, by omega, fun i hi => absurd hi (by omega), by simp⟩
theorem Rw.isnil {w : World} {a : Option Addr} {c : Nat} {xs : List α} (h : Rw w a 0 c xs) : xs = [] := List.eq_nil_of_length_eq_zero h.hlen
theorem Rw.take {w : World} {a : Option Addr} {n c : Nat} {xs : List α} (h : Rw w a n c xs) {m : Nat} (hm : m ≤ n) : Rw w a m c (xs.take m) := by
 refine ⟨by rw [List.length_take, h.hlen]; omega, by have := h.le; omega, h.max, by have := h.lim; omega, fun i hi => ?_, fun x hx => h.wf x (List.mem_of_mem_take hx)⟩
 obtain ⟨b, off, ha, hc⟩ := h.cells i (by omega)
 exact ⟨b, off, ha, by rw [nthR_take hi]; exact hc⟩
theorem Rw.lt {w : World} {a : Option Addr} {n c : Nat} {xs : List α} (h : Rw w a n c xs) {b off : Nat} (ha : a = some ⟨b, off, none⟩) (hn : 0 < n) : b < w.heap.size := by
 obtain ⟨b', off', he, hc⟩ := h.cells 0 hn
 rw [ha] at he
 simp at he
 obtain ⟨rfl, rfl⟩ := he
 have hl := Cel.len (nthR xs 0)
 have hp := Cel.pos (α := α)
 have := hc 0 ((Cel.enc (nthR xs 0))[0]'(by omega)) (List.getElem?_eq_getElem (by omega))
 exact lt_of_cell this
theorem Rw.below {w w' : World} {a : Option Addr} {n c : Nat} {xs : List α} (h : Rw w a n c xs) (hb : ∀ b off, a = some ⟨b, off, none⟩ → 0 < n → w'.heap[b]? = w.heap[b]?) : Rw w' a n c xs := by
 refine ⟨h.hlen, h.le, h.max, h.lim, fun i hi => ?_, h.wf⟩
 obtain ⟨b, off, ha, hc⟩ := h.cells i hi
 exact ⟨b, off, ha, fun j v hv => (World.cell?_of_block (w := w) (hb b off ha (by omega))).trans (hc j v hv)⟩
theorem flat_len (xs : List α) : (xs.flatMap Cel.enc).length = xs.length * Cel.sz α := by
 induction xs with
 | nil => simp
 | cons x xs ih => rw [List.flatMap_cons, List.length_append, ih, Cel.len, List.length_cons, Nat.add_mul, Nat.one_mul, Nat.add_comm]
theorem flat_one (xs : List α) : ∀ v ∈ xs.flatMap Cel.enc, v.oneCell' = true := by
 intro v hv
 obtain ⟨x, _, h⟩ := List.mem_flatMap.1 hv
 exact Cel.one x v h
theorem flat_at : ∀ (xs : List α) (i j : Nat), i < xs.length → j < Cel.sz α → (xs.flatMap Cel.enc)[i * Cel.sz α + j]? = (Cel.enc (nthR xs i))[j]?
 | [], i, j, hi, _ => absurd hi (by simp)
 | x :: xs, 0, j, _, hj => by
  rw [List.flatMap_cons, Nat.zero_mul, Nat.zero_add, List.getElem?_append_left (by rw [Cel.len]; exact hj)]
  rfl
 | x :: xs, i + 1, j, hi, hj => by
  have hl := Cel.len x
  rw [List.flatMap_cons, List.getElem?_append_right (by rw [hl, Nat.add_mul]; omega), hl, show (i + 1) * Cel.sz α + j - Cel.sz α = i * Cel.sz α + j by rw [Nat.add_mul]; omega, flat_at xs i j (by simpa using hi) hj]
  rfl
theorem Rw.flat {w : World} {b off n c : Nat} {xs : List α} (h : Rw w (some ⟨b, off, none⟩) n c xs) : w.rangeAt b off (xs.flatMap Cel.enc) := by
 intro j v hv
 have hp := Cel.pos (α := α)
 have hj : j < n * Cel.sz α := by
  have := (List.getElem?_eq_some_iff.1 hv).1
  rw [flat_len, h.hlen] at this
  exact this
 have h1 : j / Cel.sz α < n := Nat.div_lt_of_lt_mul (by rw [Nat.mul_comm]; exact hj)
 have h2 := Nat.mod_lt j hp
 have h3 : j / Cel.sz α * Cel.sz α + j % Cel.sz α = j := by rw [Nat.mul_comm]; exact Nat.div_add_mod j _
 obtain ⟨b', off', he, hc⟩ := h.cells _ h1
 simp at he
 obtain ⟨rfl, rfl⟩ := he
 rw [← h3, flat_at xs _ _ (by rw [h.hlen]; exact h1) h2] at hv
 have := hc _ _ hv
 rw [Nat.add_assoc, h3] at this
 exact this
theorem Rw.ofFlat {w : World} {b off n c : Nat} {xs : List α} (hl : xs.length = n) (hle : n ≤ c) (hm : c ≤ maxLen) (hlim : n ≤ 17592186044416) (h : w.rangeAt b off (xs.flatMap Cel.enc)) (hw : ∀ x ∈ xs, Cel.ok x) : Rw w (some ⟨b, off, none⟩) n c xs := by
 refine ⟨hl, hle, hm, hlim, fun i hi => ⟨b, off, rfl, fun j v hv => ?_⟩, hw⟩
 have hj : j < Cel.sz α := by
  have := (List.getElem?_eq_some_iff.1 hv).1
  rwa [Cel.len] at this
 rw [Nat.add_assoc]
 refine h _ _ ?_
 rw [flat_at xs i j (by omega) hj]
 exact hv
def ElS (P : Program) (T E : TypeId) (z : Value) (size by_ : Nat) : Prop :=
 P.underlying T = some (.slice E) ∧ ((P.info? E).map (fun i => (i.zero, i.size, i.bytes)) = some (some z, size, by_)) ∧ z.cells.size = size ∧ 0 < size
def OwR (E : TypeId) (base : Nat) (w : World) (a : Option Addr) (n c : Nat) (xs : List α) : Prop :=
 xs.length = n ∧ w.ownsRow base E (Cel.sz α) (.slice a n c) n (xs.flatMap Cel.enc)
theorem OwR.nil (E : TypeId) (base : Nat) (w : World) : OwR E base w none 0 0 ([] : List α) := ⟨rfl, World.ownsRow_nil w base E _⟩
theorem OwR.kept {E : TypeId} {base : Nat} {w w' : World} {a : Option Addr} {n c : Nat} {xs : List α} (h : OwR E base w a n c xs) (he : Ext w w') : OwR E base w' a n c xs := by
 refine ⟨h.1, World.ownsRow.kept (row := none) h.2 ⟨he.os, he.tape, he.output, he.size, fun k hk _ => he.block k hk⟩ ?_⟩
 rcases a with _ | ⟨b, o, s⟩
 ·left; rfl
 ·right; simp [Value.ownBlock]
theorem OwR.ext {E : TypeId} {base : Nat} {w w' : World} {a : Option Addr} {n c : Nat} {xs : List α} (h : OwR E base w a n c xs) (he : Ext w w') : OwR E base w' a n c xs := h.kept he
theorem OwR.rw {E : TypeId} {base : Nat} {w : World} {a : Option Addr} {n c : Nat} {xs : List α} (h : OwR E base w a n c xs) (hlim : n ≤ 17592186044416) (hw : ∀ x ∈ xs, Cel.ok x) : Rw w a n c xs := by
 obtain ⟨hl, h⟩ := h
 rcases h.2 with ⟨hv, h0⟩ | ⟨g, cap, cur, hv, hg, hb, hn, hm, hs, ht⟩
 ·simp only [Value.slice.injEq] at hv
  obtain ⟨rfl, rfl, rfl⟩ := hv
  obtain rfl := List.eq_nil_of_length_eq_zero hl
  exact Rw.nil w
 ·simp only [Value.slice.injEq] at hv
  obtain ⟨rfl, _, rfl⟩ := hv
  refine Rw.ofFlat hl hn hm hlim (fun j v hv => ?_) hw
  have hj : j < n * Cel.sz α := by
   have := (List.getElem?_eq_some_iff.1 hv).1
   rw [flat_len, hl] at this
   exact this
  have := World.ownsRow.cellAt h j hj
  rw [Nat.zero_add, this]
  exact hv
theorem appC {P : Program} {T E : TypeId} {z : Value} {size by_ : Nat} (hE : ElS P T E z size by_) {ops : Array Oper} {rest : List Oper} {o : Oper} {a : Act} {Q : Exit → Act → World → Prop} (hgd : o.guard = none) (s x : Operand)
  (ho : o.op = .call { callee := .builtin .append, args := #[s, x], argTypes := #[T, T] })
  (w : World) (base : Nat) (sa : Option Addr) (n c : Nat) (cs : List Value) (hs : a.eval s = .slice sa n c) (hown : w.ownsRow base E size (.slice sa n c) n cs)
  (b off m tc : Nat) (news : List Value) (hx : a.eval x = .slice (some ⟨b, off, none⟩) m tc) (hl : news.length = m * size) (hn : w.rangeAt b off news) (h1 : ∀ u ∈ news, u.oneCell' = true) (hm : 0 < m) (hbase : base ≤ w.heap.size) (h63 : n + m ≤ maxLen) (hbytes : (n + m) * by_ ≤ 140737488355328)
  (h : ∀ g cap w', w'.ownsRow base E size (.slice (some ⟨g, 0, none⟩) (n + m) cap) (n + m) (cs ++ news) → Below base w w' → w.grownBy w' (Value.slice sa n c).ownBlock → ((Value.slice sa n c).ownBlock = some g ∨ g = w.heap.size) → wpList P ops Q rest (a.put o.dst (.slice (some ⟨g, 0, none⟩) (n + m) cap)) w') :
  wpList P ops Q (o :: rest) a w := by
 obtain ⟨hT, hI, hzs, hsz⟩ := hE
 obtain ⟨i, hi, hz, hsz', hby⟩ := info_parts hI
 refine wpList_append_lies w hgd s x T ho base E i z size by_ hT hi hz hsz' hby hzs hsz _ n _ hs hown ⟨b, off, none⟩ m tc news hx hl (fun j u hu => by rw [Addr.add_mid]; exact hn j u hu) h1 hm h63 hbytes hbase w.heap.size rfl ?_
 intro g cap w' h2 h3 h4 _
 exact h g cap w' h2 ((Below.refl base w).grown h3 hbase fun k hk => (hown.lt k hk).1) h3 h4
theorem appRs {P : Program} {T E : TypeId} {z : Value} {by_ : Nat} (hE : ElS P T E z (Cel.sz α) by_) {ops : Array Oper} {rest : List Oper} {o : Oper} {a : Act} {Q : Exit → Act → World → Prop} (hgd : o.guard = none) (s x : Operand)
  (ho : o.op = .call { callee := .builtin .append, args := #[s, x], argTypes := #[T, T] })
  (w : World) (base : Nat) (sa : Option Addr) (n c : Nat) (xs : List α) (hs : a.eval s = .slice sa n c) (hown : OwR E base w sa n c xs)
  (ta : Option Addr) (m tc : Nat) (ys : List α) (hx : a.eval x = .slice ta m tc) (ht : Rw w ta m tc ys) (hbase : base ≤ w.heap.size) (h63 : n + m ≤ maxLen) (hbytes : (n + m) * by_ ≤ 140737488355328)
  (h : ∀ a' cap w', OwR E base w' a' (n + m) cap (xs ++ ys) → Below base w w' → wpList P ops Q rest (a.put o.dst (.slice a' (n + m) cap)) w') :
  wpList P ops Q (o :: rest) a w := by
 rcases Nat.eq_zero_or_pos m with hm | hm
 ·subst hm
  obtain rfl : ys = [] := List.eq_nil_of_length_eq_zero ht.hlen
  simp only [List.append_nil, Nat.add_zero] at h
  obtain ⟨hT, hI, hzs, hsz⟩ := hE
  obtain ⟨i, hi, hz, hsz', hby⟩ := info_parts hI
  rcases ta with _ | ad
  ·refine wpList_plain hgd fun K hK => ?_
   have hrun := run_append_none (P := P) (w := w) base T o.type E i _ hT hi _ n _ hown.2 tc
   unfold Oper.wp
   simp [execOp, ho, resolve, invoke, builtin, hs, hx, hrun, Result.andThen]
   exact hK _ _ (h sa c w hown (Below.refl _ _))
  ·obtain ⟨v', w', hr, h2, h3, _, h5⟩ := run_append_own_at (P := P) w base T o.type E i z _ by_ hT hi hz hsz' hby hzs hsz _ n _ hown.2 ad 0 tc [] (by simp) (by simp) (by simp) (by simpa using h63) (by simpa using hbytes) hbase
   have hv : ∃ a' cap, v' = .slice a' n cap := by
    rcases h2.2 with ⟨hv, h0⟩ | ⟨g, cap, cur, hv, _⟩
    ·exact ⟨none, 0, by rw [hv, show n = 0 from by omega]⟩
    ·exact ⟨_, cap, by simpa using hv⟩
   obtain ⟨a', cap, rfl⟩ := hv
   refine wpList_plain hgd fun K hK => ?_
   unfold Oper.wp
   simp only [execOp, ho, resolve, invoke, builtin, Sem.run_bind, Sem.run_pure, Result.andThen_ok, List.map_toArray, List.map_cons, List.map_nil, hs, hx, hr]
   refine hK _ _ (h a' cap w' ⟨hown.1, ?_⟩ ((Below.refl base w).grown h3 hbase fun k hk => (hown.2.lt k hk).1))
   simpa using h2
 ·obtain ⟨b, off, rfl, _⟩ := ht.at hm
  refine appC hE hgd s x ho w base sa n c _ hs hown.2 b off m tc (ys.flatMap Cel.enc) hx (by rw [flat_len, ht.hlen]) ht.flat (flat_one ys) hm hbase h63 hbytes ?_
  intro g cap w' h2 h3 _ _
  exact h _ cap w' ⟨by rw [List.length_append, hown.1, ht.hlen], by rw [List.flatMap_append]; exact h2⟩ h3
end
open Go.RowKit Go.Sort
def Bk (W : World) (b : Nat) (T : TypeId) (cs : Array Value) : Prop := W.heap[b]? = some (.cells cs T (0, 0))
theorem Bk.new (w : World) (T : TypeId) (cs : Array Value) : Bk (w.alloc (.cells cs T)) w.heap.size T cs := World.alloc_heap_new w _
theorem Bk.ext {W W' : World} {b : Nat} {T : TypeId} {cs : Array Value} (h : Bk W b T cs) (hE : Ext W W') : Bk W' b T cs := (hE.block b (Array.getElem?_eq_some_iff.1 h).1).trans h
theorem Bk.lt {W : World} {b : Nat} {T : TypeId} {cs : Array Value} (h : Bk W b T cs) : b < W.heap.size := (Array.getElem?_eq_some_iff.1 h).1
theorem Bk.c {W : World} {b : Nat} {T : TypeId} {cs : Array Value} (h : Bk W b T cs) (i : Nat) (v : Value) (hv : cs[i]? = some v) : W.cell? ⟨b, i, none⟩ = some v := cell_of_block h i v hv
theorem Bk.free {W : World} {b : Nat} {T : TypeId} {cs : Array Value} (h : Bk W b T cs) (i : Nat) : W.frozen? ⟨b, i, none⟩ = false := free_of_block h i
theorem Bk.set {W : World} {b : Nat} {T : TypeId} {cs : Array Value} (h : Bk W b T cs) (i : Nat) (v : Value) : Bk (W.setCell ⟨b, i, none⟩ v) b T (cs.setIfInBounds i v) := heap_setCell_same W b i _ _ _ h
theorem Bk.otherB {W : World} {b : Nat} {T : TypeId} {cs : Array Value} (h : Bk W b T cs) {p : Nat} (hne : p ≠ b) (i : Nat) (v : Value) : Bk (W.setCell ⟨p, i, none⟩ v) b T cs :=
 (heap_setCell_other W ⟨p, i, none⟩ b v (fun e => hne e.symm)).trans h
set_option maxHeartbeats 2000000 in
theorem Bk.set2 {W : World} {b : Nat} {T : TypeId} {u0 u1 : Value} (h : Bk W b T #[u0, u1]) (v0 v1 : Value) : Bk ((W.setCell ⟨b, 0, none⟩ v0).setCell ⟨b, 1, none⟩ v1) b T #[v0, v1] := ((h.set 0 v0).set 1 v1)
theorem Ext.set2 {w W : World} {b : Nat} (hE : Ext w W) (hb : w.heap.size ≤ b) (v0 v1 : Value) : Ext w ((W.setCell ⟨b, 0, none⟩ v0).setCell ⟨b, 1, none⟩ v1) := ((hE.setCell (p := ⟨b, 0, none⟩) hb v0).setCell (p := ⟨b, 1, none⟩) hb v1)
set_option maxHeartbeats 2000000 in
theorem Bk.set4 {W : World} {b : Nat} {T : TypeId} {u0 u1 u2 u3 : Value} (h : Bk W b T #[u0, u1, u2, u3]) (v0 v1 v2 v3 : Value) : Bk ((((W.setCell ⟨b, 0, none⟩ v0).setCell ⟨b, 1, none⟩ v1).setCell ⟨b, 2, none⟩ v2).setCell ⟨b, 3, none⟩ v3) b T #[v0, v1, v2, v3] := ((((h.set 0 v0).set 1 v1).set 2 v2).set 3 v3)
theorem Ext.set4 {w W : World} {b : Nat} (hE : Ext w W) (hb : w.heap.size ≤ b) (v0 v1 v2 v3 : Value) : Ext w ((((W.setCell ⟨b, 0, none⟩ v0).setCell ⟨b, 1, none⟩ v1).setCell ⟨b, 2, none⟩ v2).setCell ⟨b, 3, none⟩ v3) := ((((hE.setCell (p := ⟨b, 0, none⟩) hb v0).setCell (p := ⟨b, 1, none⟩) hb v1).setCell (p := ⟨b, 2, none⟩) hb v2).setCell (p := ⟨b, 3, none⟩) hb v3)
theorem Bk.below {W W' : World} {b base : Nat} {T : TypeId} {cs : Array Value} (h : Bk W b T cs) (hx : Below base W W') (hb : b < base) : Bk W' b T cs := (hx.block _ hb).trans h
end Go.Proofs.YtacicanjmleikaaGreatDoor
