
import Derived.Test.YtacicanjmleikaaGreatDoorTAC
import Derived.Test.YtacicanjmleikaaGreatDoorLibB
import Derived.RangeFuncNested
/-
  slices.Reverse of a row of integers of the call's own, walked. Written by wip/gen_td.py.
-/
namespace Go.Proofs.YtacicanjmleikaaGreatDoor
open Go.RowKit Go.Sort Go.Shelf
set_option linter.unusedSimpArgs false
set_option linter.unusedVariables false
set_option maxRecDepth 100000

theorem nth_get {xs : List Int} {i : Nat} (h : i < xs.length) : nth xs i = xs[i] := by simp [nth, List.getD_eq_getElem?_getD, h]
theorem OwI.headU {k : IntKind} {E : TypeId} {base : Nat} {w : World} {a : Option Addr} {n c : Nat} {xs : List Int} (h : OwI k E base w a n c xs) (h0 : 0 < n) : ∃ g, a = some ⟨g, 0, none⟩ ∧ base ≤ g := by
  rcases h.2 with ⟨hv, hz⟩ | ⟨g, cap, cur, hv, hb, hg, _⟩
  · have := h.hlen
    simp only [Value.slice.injEq] at hv; omega
  · simp only [Value.slice.injEq] at hv
    obtain ⟨rfl, _, rfl⟩ := hv
    exact ⟨g, rfl, hb⟩
/-- The list with its first k turned round with its last k. -/
def RevTo (l ys : List Int) (k : Nat) : Prop := ys.length = l.length ∧ ∀ p, p < l.length → nth ys p = if p < k ∨ l.length - 1 - k < p then nth l (l.length - 1 - p) else nth l p
theorem RevTo.zero (l : List Int) : RevTo l l 0 := ⟨rfl, fun p hp => by rw [if_neg (by omega)]⟩
theorem nth_setD (l : List Int) (i p : Nat) (x : Int) (hi : i < l.length) : nth (l.set i x) p = if p = i then x else nth l p := by
  unfold nth
  rw [List.getD_eq_getElem?_getD, List.getElem?_set]
  by_cases h : i = p
  · subst h; simp [hi]
  · rw [if_neg h, if_neg (fun e => h e.symm), List.getD_eq_getElem?_getD]
theorem RevTo.step {l ys : List Int} {k j : Nat} (h : RevTo l ys k) (hj : j + k + 1 = l.length) (hk : k < j) : RevTo l ((ys.set k (nth ys j)).set j (nth ys k)) (k + 1) := by
  refine ⟨by rw [List.length_set, List.length_set]; exact h.1, fun p hp => ?_⟩
  rw [nth_setD _ _ _ _ (by rw [List.length_set, h.1]; omega), nth_setD _ _ _ _ (by rw [h.1]; omega)]
  by_cases h1 : p = j
  · subst h1
    rw [if_pos rfl, h.2 k (by omega), if_neg (by omega), if_pos (by omega)]
    congr 1; omega
  · rw [if_neg h1]
    by_cases h2 : p = k
    · subst h2
      rw [if_pos rfl, h.2 j (by omega), if_neg (by omega), if_pos (by omega)]
      congr 1; omega
    · rw [if_neg h2, h.2 p hp]
      by_cases h3 : p < k ∨ l.length - 1 - k < p
      · rw [if_pos h3, if_pos (by omega)]
      · rw [if_neg h3, if_neg (by omega)]
theorem RevTo.done {l ys : List Int} {k : Nat} (h : RevTo l ys k) (hk : l.length ≤ 2 * k + 1) : ys = l.reverse := by
  apply List.ext_getElem
  · rw [List.length_reverse, h.1]
  · intro p h1 h2
    have hp : p < l.length := by rw [← h.1]; exact h1
    have e := h.2 p hp
    rw [nth_get h1] at e
    rw [e, List.getElem_reverse, ← nth_get (by omega)]
    by_cases h3 : p < k ∨ l.length - 1 - k < p
    · rw [if_pos h3]
    · rw [if_neg h3]; congr 1; omega
theorem RevTo.wf {l ys : List Int} {k : Nat} (h : RevTo l ys k) (hw : ∀ x ∈ l, (Lit.int .u64 x).wf = true) : ∀ x ∈ ys, (Lit.int .u64 x).wf = true := by
  intro x hx
  obtain ⟨p, hp, rfl⟩ := List.getElem_of_mem hx
  rw [← nth_get hp, h.2 p (by rw [← h.1]; exact hp)]
  have : p < l.length := by rw [← h.1]; exact hp
  split
  · exact hw _ (nth_mem (by omega))
  · exact hw _ (nth_mem this)

/-- What is so while two of the row are turned round. -/
structure RevI (base : Nat) (w : World) (g n c : Nat) (ys ys1 ys2 : List Int) (listed : Nat → Bool) (W : World) : Prop where
  below : Below base w W
  keep : KeepsOthers w W
  a : listed 13 = false → OwI .u64 25 base W (some ⟨g, 0, none⟩) n c ys
  b : listed 13 = true → listed 15 = false → OwI .u64 25 base W (some ⟨g, 0, none⟩) n c ys1
  c : listed 15 = true → OwI .u64 25 base W (some ⟨g, 0, none⟩) n c ys2
theorem RevI.other {base : Nat} {w : World} {g n c : Nat} {ys ys1 ys2 : List Int} {listed : Nat → Bool} {W : World} (h : RevI base w g n c ys ys1 ys2 listed W) {i : Nat} (h1 : i ≠ 13) (h2 : i ≠ 15) : RevI base w g n c ys ys1 ys2 (updE listed i) W := by
  have e1 : updE listed i 13 = listed 13 := by simp [updE, h1.symm]
  have e2 : updE listed i 15 = listed 15 := by simp [updE, h2.symm]
  exact ⟨h.below, h.keep, by rw [e1]; exact h.a, by rw [e1, e2]; exact h.b, by rw [e2]; exact h.c⟩
theorem lenlit16 {vs : List Value} (h : vs.length = 16) : ∃ x0 x1 x2 x3 x4 x5 x6 x7 x8 x9 x10 x11 x12 x13 x14 x15 : Value, vs = [x0, x1, x2, x3, x4, x5, x6, x7, x8, x9, x10, x11, x12, x13, x14, x15] := by
  obtain ⟨x0, v0, rfl, h0⟩ := len_cons h
  obtain ⟨x1, v1, rfl, h1⟩ := len_cons h0
  obtain ⟨x2, v2, rfl, h2⟩ := len_cons h1
  obtain ⟨x3, v3, rfl, h3⟩ := len_cons h2
  obtain ⟨x4, v4, rfl, h4⟩ := len_cons h3
  obtain ⟨x5, v5, rfl, h5⟩ := len_cons h4
  obtain ⟨x6, v6, rfl, h6⟩ := len_cons h5
  obtain ⟨x7, v7, rfl, h7⟩ := len_cons h6
  obtain ⟨x8, v8, rfl, h8⟩ := len_cons h7
  obtain ⟨x9, v9, rfl, h9⟩ := len_cons h8
  obtain ⟨x10, v10, rfl, h10⟩ := len_cons h9
  obtain ⟨x11, v11, rfl, h11⟩ := len_cons h10
  obtain ⟨x12, v12, rfl, h12⟩ := len_cons h11
  obtain ⟨x13, v13, rfl, h13⟩ := len_cons h12
  obtain ⟨x14, v14, rfl, h14⟩ := len_cons h13
  obtain ⟨x15, v15, rfl, h15⟩ := len_cons h14
  obtain rfl := len_nil h15
  exact ⟨x0, x1, x2, x3, x4, x5, x6, x7, x8, x9, x10, x11, x12, x13, x14, x15, rfl⟩

set_option maxHeartbeats 4000000 in
theorem ureverse_any (a : Option Addr) (n c : Nat) (l : List Int) (base : Nat) (w : World) (hown : OwI .u64 25 base w a n c l) (hok : ∀ x ∈ l, (Lit.int .u64 x).wf = true) (hn : n ≤ 1000000) :
    Calls Tryz.prog 47 #[.slice a n c] w fun e w' => (∃ v, e = .returned v) ∧ OwI .u64 25 base w' a n c l.reverse ∧ Below base w w' ∧ KeepsOthers w w' := by
  have HL := Lib.hid hown.hlen
  go_enter Tryz.func47, Tryz.ntmps47
  go_wp2_with fail
  go_loopw [2, 3] (fun i j wr => ∃ (k : Nat) (ys : List Int), i = .int .i64 k ∧ j = .int .i64 ((n : Int) - 1 - k) ∧ Hid (k ≤ n) ∧ Hid (RevTo l ys k) ∧ OwI .u64 25 base wr a n c ys ∧ Below base w wr ∧ Hid (KeepsOthers w wr)) (fun i _ _ => n - (intOf i).toNat)
  case atStart => exact ⟨0, l, rfl, by simp, Lib.hid (by omega), Lib.hid (RevTo.zero l), hown, Below.refl _ _, Lib.hid (KeepsOthers.refl _)⟩
  case round =>
    obtain ⟨k, ys, rfl, rfl, HK, HR, ho, hx, HKO⟩ := hrel
    by_cases hlt : (k : Int) < (n : Int) - 1 - k
    · obtain ⟨j, hj⟩ : ∃ j : Nat, (n : Int) - 1 - k = j := ⟨n - 1 - k, by have := HK.out; omega⟩
      have hjk : j + k + 1 = n := by omega
      have hkj : k < j := by omega
      have hkj2 : (k : Int) < (j : Int) := by omega
      have hkn : k < n := by omega
      have hjn : j < n := by omega
      have HJ := Lib.hid hj
      obtain ⟨g, rfl, hbg⟩ := ho.headU (by omega)
      have HG := Lib.hid hbg
      have HOK : Hid ((∀ x ∈ ys, (Lit.int .u64 x).wf = true) ∧ n ≤ 1000000) := Lib.hid ⟨HR.out.wf hok, hn⟩
      have HST := Lib.hid (HR.out.step (j := j) (by rw [HL.out]; exact hjk) hkj)
      obtain ⟨x, hx9⟩ : ∃ x, nth ys k = x := ⟨_, rfl⟩
      obtain ⟨y, hy9⟩ : ∃ y, nth ys j = y := ⟨_, rfl⟩
      have HXK := Lib.hid hx9
      have HYJ := Lib.hid hy9
      rw [hx9, hy9] at HST
      have HOK1 : Hid ((∀ z ∈ ys.set k y, (Lit.int .u64 z).wf = true) ∧ n ≤ 1000000) := Lib.hid ⟨fun z hz => by
        rcases List.mem_or_eq_of_mem_set hz with h | rfl
        · exact HOK.out.1 z h
        · rw [← HYJ.out]; exact HOK.out.1 _ (nth_mem (by rw [ho.hlen]; exact hjn)), hn⟩
      have HI : RevI base w g n c ys (ys.set k y) ((ys.set k y).set j x) (fun _ => false) { wr with drawn := wr.drawn + 1 } := ⟨Below.drew hx, HKO.out.trans (KeepsOthers.drew wr), fun _ => OwI.ext ho (Ext.drew (Ext.refl wr)), (fun h => by cases h), (fun h => by cases h)⟩
      clear hx9 hy9 hbg hlt hx ho
      rw [hj]
      clear hj
      go_upto_region 3 with fail
      refine region_relyF (RevI base w g n c ys (ys.set k y) ((ys.set k y).set j x)) [some 14, some 15, some 16, some 17, some 18, some 19, some 20, some 21, some 22, some 23, some 24, some 25, some 26, none, some 27, none] [[], [], [], [], [], [], [4, 5], [4, 5, 6], [], [], [8, 9], [8, 9, 10], [0, 1, 4, 5, 6, 7, 8, 9, 10, 11], [0, 1, 4, 5, 6, 7, 8, 9, 10, 11, 12], [0, 1, 2, 3, 4, 5, 6, 7, 8, 9, 10, 11, 12, 13], [0, 1, 2, 3, 4, 5, 6, 7, 8, 9, 10, 11, 12, 13, 14]] [[], [], [], [], [], [], [4, 5], [6], [], [], [8, 9], [10], [0, 1], [7, 12], [2, 3], [11, 14]] [none, none, none, none, none, none, none, none, none, none, none, none, none, none, none, none] [false, false, false, false, false, false, false, false, false, false, false, false, false, false, false, false] [.one ((.slice (some ⟨g, 0, none⟩) n c)), .one ((.int .i64 (k : Nat))), .one ((.slice (some ⟨g, 0, none⟩) n c)), .one ((.int .i64 (j : Nat))), .one ((.slice (some ⟨g, 0, none⟩) n c)), .one ((.int .i64 (j : Nat))), .one ((.pointer (some ⟨g, j, none⟩))), .one ((.int .u64 y)), .one ((.slice (some ⟨g, 0, none⟩) n c)), .one ((.int .i64 (k : Nat))), .one ((.pointer (some ⟨g, k, none⟩))), .one ((.int .u64 x)), .one ((.pointer (some ⟨g, k, none⟩))), .any, .one ((.pointer (some ⟨g, j, none⟩))), .any] (by kernel_rfl) (by kernel_rfl) rfl HI ?_ ?_
      · refine stepsF_cons ?_ ?_
        · intro listed vs W' hl hI hd hs hn hu hz ho9
          refine hold ?_
          obtain ⟨x0, x1, x2, x3, x4, x5, x6, x7, x8, x9, x10, x11, x12, x13, x14, x15, rfl⟩ := lenlit16 hl; clear hl
          refine held ?_
          simp only [putAll, Act.put, List.setIfInBounds_toArray, List.set_cons_succ, List.set_cons_zero]
          go_wp2_with fail
          exact relyE_done _ rfl rfl (Ext.refl _) (hI.other (by decide) (by decide))
        refine stepsF_cons ?_ ?_
        · intro listed vs W' hl hI hd hs hn hu hz ho9
          refine hold ?_
          obtain ⟨x0, x1, x2, x3, x4, x5, x6, x7, x8, x9, x10, x11, x12, x13, x14, x15, rfl⟩ := lenlit16 hl; clear hl
          refine held ?_
          simp only [putAll, Act.put, List.setIfInBounds_toArray, List.set_cons_succ, List.set_cons_zero]
          go_wp2_with fail
          exact relyE_done _ rfl rfl (Ext.refl _) (hI.other (by decide) (by decide))
        refine stepsF_cons ?_ ?_
        · intro listed vs W' hl hI hd hs hn hu hz ho9
          refine hold ?_
          obtain ⟨x0, x1, x2, x3, x4, x5, x6, x7, x8, x9, x10, x11, x12, x13, x14, x15, rfl⟩ := lenlit16 hl; clear hl
          refine held ?_
          simp only [putAll, Act.put, List.setIfInBounds_toArray, List.set_cons_succ, List.set_cons_zero]
          go_wp2_with fail
          exact relyE_done _ rfl rfl (Ext.refl _) (hI.other (by decide) (by decide))
        refine stepsF_cons ?_ ?_
        · intro listed vs W' hl hI hd hs hn hu hz ho9
          refine hold ?_
          obtain ⟨x0, x1, x2, x3, x4, x5, x6, x7, x8, x9, x10, x11, x12, x13, x14, x15, rfl⟩ := lenlit16 hl; clear hl
          refine held ?_
          simp only [putAll, Act.put, List.setIfInBounds_toArray, List.set_cons_succ, List.set_cons_zero]
          go_wp2_with fail
          exact relyE_done _ rfl rfl (Ext.refl _) (hI.other (by decide) (by decide))
        refine stepsF_cons ?_ ?_
        · intro listed vs W' hl hI hd hs hn hu hz ho9
          refine hold ?_
          obtain ⟨x0, x1, x2, x3, x4, x5, x6, x7, x8, x9, x10, x11, x12, x13, x14, x15, rfl⟩ := lenlit16 hl; clear hl
          refine held ?_
          simp only [putAll, Act.put, List.setIfInBounds_toArray, List.set_cons_succ, List.set_cons_zero]
          go_wp2_with fail
          exact relyE_done _ rfl rfl (Ext.refl _) (hI.other (by decide) (by decide))
        refine stepsF_cons ?_ ?_
        · intro listed vs W' hl hI hd hs hn hu hz ho9
          refine hold ?_
          obtain ⟨x0, x1, x2, x3, x4, x5, x6, x7, x8, x9, x10, x11, x12, x13, x14, x15, rfl⟩ := lenlit16 hl; clear hl
          refine held ?_
          simp only [putAll, Act.put, List.setIfInBounds_toArray, List.set_cons_succ, List.set_cons_zero]
          go_wp2_with fail
          exact relyE_done _ rfl rfl (Ext.refl _) (hI.other (by decide) (by decide))
        refine stepsF_cons ?_ ?_
        · intro listed vs W' hl hI hd hs hn hu hz ho9
          refine hold ?_
          obtain ⟨x0, x1, x2, x3, x4, x5, x6, x7, x8, x9, x10, x11, x12, x13, x14, x15, rfl⟩ := lenlit16 hl; clear hl
          simp only [factsL, atL, refV, List.getElem?_cons_succ, List.getElem?_cons_zero, List.getD_cons_succ, List.getD_cons_zero, RelL.one, RelL.any, RelL.blk, RelL.law] at hd
          obtain ⟨rfl, rfl, -⟩ := hd
          refine held ?_
          simp only [putAll, Act.put, List.setIfInBounds_toArray, List.set_cons_succ, List.set_cons_zero]
          go_wp2_with fail
          exact relyE_done _ rfl rfl (Ext.refl _) (hI.other (by decide) (by decide))
        refine stepsF_cons ?_ ?_
        · intro listed vs W' hl hI hd hs hn hu hz ho9
          refine hold ?_
          obtain ⟨x0, x1, x2, x3, x4, x5, x6, x7, x8, x9, x10, x11, x12, x13, x14, x15, rfl⟩ := lenlit16 hl; clear hl
          simp only [factsL, atL, refV, List.getElem?_cons_succ, List.getElem?_cons_zero, List.getD_cons_succ, List.getD_cons_zero, RelL.one, RelL.any, RelL.blk, RelL.law] at hd
          obtain ⟨rfl, -⟩ := hd
          refine held ?_
          simp only [putAll, Act.put, List.setIfInBounds_toArray, List.set_cons_succ, List.set_cons_zero]
          have h13 : listed 13 = false := by cases h : listed 13 with | false => rfl | true => exact absurd (by decide) (hu 13 h)
          have d0 := (hI.a h13).cellAt hjn
          rw [HYJ.out] at d0
          go_wp2_with fail
          exact relyE_done _ rfl rfl (Ext.refl _) (hI.other (by decide) (by decide))
        refine stepsF_cons ?_ ?_
        · intro listed vs W' hl hI hd hs hn hu hz ho9
          refine hold ?_
          obtain ⟨x0, x1, x2, x3, x4, x5, x6, x7, x8, x9, x10, x11, x12, x13, x14, x15, rfl⟩ := lenlit16 hl; clear hl
          refine held ?_
          simp only [putAll, Act.put, List.setIfInBounds_toArray, List.set_cons_succ, List.set_cons_zero]
          go_wp2_with fail
          exact relyE_done _ rfl rfl (Ext.refl _) (hI.other (by decide) (by decide))
        refine stepsF_cons ?_ ?_
        · intro listed vs W' hl hI hd hs hn hu hz ho9
          refine hold ?_
          obtain ⟨x0, x1, x2, x3, x4, x5, x6, x7, x8, x9, x10, x11, x12, x13, x14, x15, rfl⟩ := lenlit16 hl; clear hl
          refine held ?_
          simp only [putAll, Act.put, List.setIfInBounds_toArray, List.set_cons_succ, List.set_cons_zero]
          go_wp2_with fail
          exact relyE_done _ rfl rfl (Ext.refl _) (hI.other (by decide) (by decide))
        refine stepsF_cons ?_ ?_
        · intro listed vs W' hl hI hd hs hn hu hz ho9
          refine hold ?_
          obtain ⟨x0, x1, x2, x3, x4, x5, x6, x7, x8, x9, x10, x11, x12, x13, x14, x15, rfl⟩ := lenlit16 hl; clear hl
          simp only [factsL, atL, refV, List.getElem?_cons_succ, List.getElem?_cons_zero, List.getD_cons_succ, List.getD_cons_zero, RelL.one, RelL.any, RelL.blk, RelL.law] at hd
          obtain ⟨rfl, rfl, -⟩ := hd
          refine held ?_
          simp only [putAll, Act.put, List.setIfInBounds_toArray, List.set_cons_succ, List.set_cons_zero]
          go_wp2_with fail
          exact relyE_done _ rfl rfl (Ext.refl _) (hI.other (by decide) (by decide))
        refine stepsF_cons ?_ ?_
        · intro listed vs W' hl hI hd hs hn hu hz ho9
          refine hold ?_
          obtain ⟨x0, x1, x2, x3, x4, x5, x6, x7, x8, x9, x10, x11, x12, x13, x14, x15, rfl⟩ := lenlit16 hl; clear hl
          simp only [factsL, atL, refV, List.getElem?_cons_succ, List.getElem?_cons_zero, List.getD_cons_succ, List.getD_cons_zero, RelL.one, RelL.any, RelL.blk, RelL.law] at hd
          obtain ⟨rfl, -⟩ := hd
          refine held ?_
          simp only [putAll, Act.put, List.setIfInBounds_toArray, List.set_cons_succ, List.set_cons_zero]
          have h13 : listed 13 = false := by cases h : listed 13 with | false => rfl | true => exact absurd (by decide) (hu 13 h)
          have d0 := (hI.a h13).cellAt hkn
          rw [HXK.out] at d0
          go_wp2_with fail
          exact relyE_done _ rfl rfl (Ext.refl _) (hI.other (by decide) (by decide))
        refine stepsF_cons ?_ ?_
        · intro listed vs W' hl hI hd hs hn hu hz ho9
          refine hold ?_
          obtain ⟨x0, x1, x2, x3, x4, x5, x6, x7, x8, x9, x10, x11, x12, x13, x14, x15, rfl⟩ := lenlit16 hl; clear hl
          simp only [factsL, atL, refV, List.getElem?_cons_succ, List.getElem?_cons_zero, List.getD_cons_succ, List.getD_cons_zero, RelL.one, RelL.any, RelL.blk, RelL.law] at hd
          obtain ⟨rfl, rfl, -⟩ := hd
          refine held ?_
          simp only [putAll, Act.put, List.setIfInBounds_toArray, List.set_cons_succ, List.set_cons_zero]
          go_wp2_with fail
          exact relyE_done _ rfl rfl (Ext.refl _) (hI.other (by decide) (by decide))
        refine stepsF_cons ?_ ?_
        · intro listed vs W' hl hI hd hs hn hu hz ho9
          refine hold ?_
          obtain ⟨x0, x1, x2, x3, x4, x5, x6, x7, x8, x9, x10, x11, x12, x13, x14, x15, rfl⟩ := lenlit16 hl; clear hl
          simp only [factsL, atL, refV, List.getElem?_cons_succ, List.getElem?_cons_zero, List.getD_cons_succ, List.getD_cons_zero, RelL.one, RelL.any, RelL.blk, RelL.law] at hd
          obtain ⟨rfl, rfl, -⟩ := hd
          refine held ?_
          simp only [putAll, Act.put, List.setIfInBounds_toArray, List.set_cons_succ, List.set_cons_zero]
          have d0 := (hI.a hz).cellAt hkn
          have hfz := (hI.a hz).frozenAt
          go_wp2_with fail
          exact relyE_store undef rfl trivial (by simp) ⟨fun _ _ h => h, fun _ _ h => h, fun _ _ h => h, fun _ _ h => h, fun _ _ h => h, fun _ _ h => h, fun _ _ h => h, fun _ _ h => h, fun _ _ h => h, fun _ _ h => h, fun _ _ h => h, fun _ _ h => h, fun _ _ h => h, fun _ _ h => h, fun _ _ h => h, fun _ _ h => h, trivial⟩ ⟨Below.setCell (p := ⟨g, _, none⟩) hI.below HG.out _, hI.keep.trans (KeepsOthers.setCell _ _ _), fun h => by simp [updE] at h, fun _ _ => (hI.a hz).set k y, fun h => by simp [updE] at h; exact absurd (by decide) (hu 15 h)⟩
        refine stepsF_cons ?_ ?_
        · intro listed vs W' hl hI hd hs hn hu hz ho9
          refine hold ?_
          obtain ⟨x0, x1, x2, x3, x4, x5, x6, x7, x8, x9, x10, x11, x12, x13, x14, x15, rfl⟩ := lenlit16 hl; clear hl
          simp only [factsL, atL, refV, List.getElem?_cons_succ, List.getElem?_cons_zero, List.getD_cons_succ, List.getD_cons_zero, RelL.one, RelL.any, RelL.blk, RelL.law] at hd
          obtain ⟨rfl, rfl, -⟩ := hd
          refine held ?_
          simp only [putAll, Act.put, List.setIfInBounds_toArray, List.set_cons_succ, List.set_cons_zero]
          go_wp2_with fail
          exact relyE_done _ rfl rfl (Ext.refl _) (hI.other (by decide) (by decide))
        refine stepsF_cons ?_ ?_
        · intro listed vs W' hl hI hd hs hn hu hz ho9
          refine hold ?_
          obtain ⟨x0, x1, x2, x3, x4, x5, x6, x7, x8, x9, x10, x11, x12, x13, x14, x15, rfl⟩ := lenlit16 hl; clear hl
          simp only [factsL, atL, refV, List.getElem?_cons_succ, List.getElem?_cons_zero, List.getD_cons_succ, List.getD_cons_zero, RelL.one, RelL.any, RelL.blk, RelL.law] at hd
          obtain ⟨rfl, rfl, -⟩ := hd
          refine held ?_
          simp only [putAll, Act.put, List.setIfInBounds_toArray, List.set_cons_succ, List.set_cons_zero]
          have h13 := hs 13 (by decide)
          have d0 := (hI.b h13 hz).cellAt hjn
          have hfz := (hI.b h13 hz).frozenAt
          go_wp2_with fail
          exact relyE_store undef rfl trivial (by simp) ⟨fun _ _ h => h, fun _ _ h => h, fun _ _ h => h, fun _ _ h => h, fun _ _ h => h, fun _ _ h => h, fun _ _ h => h, fun _ _ h => h, fun _ _ h => h, fun _ _ h => h, fun _ _ h => h, fun _ _ h => h, fun _ _ h => h, fun _ _ h => h, fun _ _ h => h, fun _ _ h => h, trivial⟩ ⟨Below.setCell (p := ⟨g, _, none⟩) hI.below HG.out _, hI.keep.trans (KeepsOthers.setCell _ _ _), fun h => by simp [updE, h13] at h, fun _ h => by simp [updE] at h, fun _ => (hI.b h13 hz).set j x⟩
        exact trivial
      · intro listed vs W' hl hall hI hd hn
        obtain ⟨x0, x1, x2, x3, x4, x5, x6, x7, x8, x9, x10, x11, x12, x13, x14, x15, rfl⟩ := lenlit16 hl; clear hl
        simp only [List.length_cons, List.length_nil, List.range, List.range.loop, Nat.zero_add, Nat.reduceAdd, factsL, atL, refV, List.getElem?_cons_succ, List.getElem?_cons_zero, List.getD_cons_succ, List.getD_cons_zero, RelL.one, RelL.any, RelL.blk, RelL.law] at hd
        obtain ⟨rfl, rfl, rfl, rfl, rfl, rfl, rfl, rfl, rfl, rfl, rfl, rfl, rfl, -, rfl, -, -⟩ := hd
        simp only [putAll, Act.put, List.setIfInBounds_toArray, List.set_cons_succ, List.set_cons_zero]
        have ho2 := hI.c (hall 15 (by decide))
        have hb2 := hI.below
        have hk2 := Lib.hid hI.keep
        clear hall hn hI
        go_wp2_with fail
        refine ⟨⟨k + 1, _, by go_num, by rw [← HJ.out]; congr 1; push_cast; omega, Lib.hid (by omega), HST, ho2, hb2, hk2⟩, ?_⟩
        simp only [intOf]; omega
    · have hk : n ≤ 2 * k + 1 := by omega
      have e : ys = l.reverse := HR.out.done (by rw [HL.out]; exact hk)
      subst e
      go_wp2_with fail
      go_end0
      exact ⟨⟨_, rfl⟩, ho, hx, HKO.out⟩
end Go.Proofs.YtacicanjmleikaaGreatDoor

/-
  tree.Include and tree.Extend, walked. Written by wip/gen_te.py.
-/
namespace Go.Proofs.YtacicanjmleikaaGreatDoor
open Go.RowKit Go.Sort Go.Shelf
set_option linter.unusedSimpArgs false
set_option linter.unusedVariables false
set_option maxRecDepth 100000

theorem el_u64 : ElT Tryz.prog 42 25 (.int .u64 0) 1 8 := ⟨by kernel_rfl, by kernel_rfl⟩
def lenV : Value → Nat
  | .slice _ n _ => n
  | _ => 0
def U64s (xs : List Int) : Prop := ∀ x ∈ xs, (Lit.int .u64 x).wf = true
theorem U64s.snoc {xs : List Int} (h : U64s xs) {x : Int} (hx : 0 ≤ x ∧ x ≤ 18446744073709551615) : U64s (xs ++ [x]) := by
  intro y hy
  rcases List.mem_append.1 hy with h1 | h1
  · exact h y h1
  · rw [List.mem_singleton] at h1; subst h1; simp [Lit.wf, IntKind.min, IntKind.max, IntKind.bits, IntKind.signed]; omega
theorem U64s.rev {xs : List Int} (h : U64s xs) : U64s xs.reverse := fun y hy => h y (List.mem_reverse.1 hy)
theorem Sl.keepB {k : IntKind} {w w' : World} {b off n c B : Nat} {xs : List Int} (h : Sl k w (some ⟨b, off, none⟩) n c xs) (hb : b < B) (hB : Below B w w') : Sl k w' (some ⟨b, off, none⟩) n c xs :=
  h.below (fun b' o' e _ => by obtain ⟨rfl, rfl⟩ : b = b' ∧ off = o' := (by simpa using e); exact hB.block b hb)
theorem Sl.parts {w : World} {b off n c : Nat} {xs : List Int} (h : Sl .u64 w (some ⟨b, off, none⟩) n c xs) (h2 : 2 ≤ n) :
    Sl .u64 w (some ⟨b, off, none⟩) (halfN n) (halfN n) (xs.take (halfN n)) ∧ Sl .u64 w (some ⟨b, off + halfN n, none⟩) (n - halfN n) (n - halfN n) (xs.drop (halfN n)) := by
  obtain ⟨a1, a2, a3⟩ := half_spec h2
  have bd := h.bd
  exact ⟨(h.take (m := halfN n) (by omega)).self (halfN n) (Nat.le_refl _) (by omega), h.drop (m := halfN n) (by omega) (n - halfN n) (Nat.le_refl _) (by omega)⟩
theorem tinclude_any (b off n c : Nat) (xs : List Int) (i : Nat) (w : World) (h1 : 1 ≤ n) (hn : n ≤ 4096) (hi : i < n) (h : Sl .u64 w (some ⟨b, off, none⟩) n c xs) (ht : TB w) :
    Calls Tryz.prog 53 #[.slice (some ⟨b, off, none⟩) n c, .int .i64 i] w fun e w' => ∃ a' c', e = .returned (.tuple #[.slice a' (inclT xs i).length c', .int .i64 0]) ∧ OwI .u64 25 w.heap.size w' a' (inclT xs i).length c' (inclT xs i) ∧ U64s (inclT xs i) ∧ Ext w w' := by
  have HC := Lib.hid (fun W => tcheck_any (some ⟨b, off, none⟩) n c W (by omega))
  rw [if_neg (by omega), if_neg (by omega)] at HC
  have bd := h.bd
  have HS0 := Lib.hid h
  have HB0 : Hid (b < w.heap.size) := Lib.hid (by obtain ⟨b', o', e, hc⟩ := h.at (by omega); obtain ⟨rfl, rfl⟩ : b = b' ∧ off = o' := by simpa using e
                                                  exact lt_of_cell (hc 0 (by omega)))
  have g1 : ¬ ((i : Int) < 0) := by omega
  have g2 : ¬ ((n : Int) ≤ (i : Int)) := by omega
  have g3 : decide ((i : Int) < 0) = false := decide_eq_false g1
  have g4 : decide ((n : Int) ≤ (i : Int)) = false := decide_eq_false g2
  have g5 : ¬ (n ≤ i) := by omega
  have g6 : decide (n ≤ i) = false := decide_eq_false g5
  clear h
  go_enter Tryz.func53, Tryz.ntmps53
  go_wp2_with (go_at_call 43; refine (HC.out _).mono ?_; rintro e w' ⟨rfl, rfl⟩)
  go_loopw [0, 1, 7] (fun s i' p wr => ∃ (m j q o9 cs cp : Nat) (ys ps : List Int) (ap : Option Addr), s = .slice (some ⟨b, o9, none⟩) m cs ∧ i' = .int .i64 j ∧ p = .slice ap q cp ∧ Hid (1 ≤ m ∧ j < m ∧ q + m ≤ n) ∧ Hid (Sl .u64 wr (some ⟨b, o9, none⟩) m cs ys) ∧ OwI .u64 25 w.heap.size wr ap q cp ps ∧ Hid (inclT xs i = inclT ys j ++ ps.reverse) ∧ Hid (U64s ps) ∧ Hid (Ext w wr)) (fun s _ _ _ => lenV s)
  case atStart => exact ⟨n, i, 0, off, c, 0, xs, [], none, rfl, rfl, rfl, Lib.hid (by omega), HS0, OwI.nil _ _ _ _, Lib.hid (by simp), Lib.hid (fun x hx => by simp at hx), Lib.hid (Ext.refl w)⟩
  case round =>
    obtain ⟨m, j, q, o9, cs, cp, ys, ps, ap, rfl, rfl, rfl, HQ, HS, ho, HI, HU, HE⟩ := hrel
    have bm := HS.out.bd
    by_cases hm : 1 < m
    · have hmi : (1 : Int) < (m : Int) := by omega
      obtain ⟨a1, a2, a3⟩ := half_spec (show 2 ≤ m by omega)
      obtain ⟨hsl, hsr⟩ := HS.out.parts (show 2 ≤ m by omega)
      have HYL := Lib.hid HS.out.hlen
      have HP := Lib.hid (parts_any b o9 m cs ys wr HS.out (by omega) (by have := HQ.out; omega))
      have HTW : Hid (TB wr) := Lib.hid (ht.ext HE.out)
      have HLR := Lib.hid (fun (W : World) (hx : Ext wr W) => troot_any (halfN m) b o9 (halfN m) _ W (by omega) (by have := HQ.out; omega) (hsl.ext hx) (HTW.out.ext hx))
      have HRR := Lib.hid (fun (W : World) (hx : Ext wr W) => troot_any (m - halfN m) b (o9 + halfN m) (m - halfN m) _ W (by omega) (by have := HQ.out; omega) (hsr.ext hx) (HTW.out.ext hx))
      have k1 := Lib.hid (root_rng (ys.take (halfN m)))
      have k2 := Lib.hid (root_rng (ys.drop (halfN m)))
      have HSL := Lib.hid hsl
      have HSR := Lib.hid hsr
      clear hsl hsr
      go_upto_region 9 with ((go_at_call 46; refine HP.out.mono ?_; rintro e w1 ⟨rfl, hx1⟩))
      by_cases hj : j < halfN m
      · have hji : (j : Int) < ((halfN m : Nat) : Int) := by omega
        have HIN := Lib.hid (inclT_left (l := ys) (i := j) (by rw [HYL.out]; omega) (by rw [HYL.out]; exact hj))
        rw [HYL.out] at HIN
        generalize halfN m = k at *
        go_upto_region 10 with fail
        go_wp2_with (go_at_call 44; refine (HRR.out _ hx1).mono ?_; rintro e w2 ⟨rfl, hx2⟩; refine hold ?_)
        refine held ?_
        have ho2 := ho.ext (hx1.trans hx2)
        have hz2 : w.heap.size ≤ w2.heap.size := ((HE.out.trans hx1).trans hx2).sz
        go_wp2_with (at_builtin; refine app1 el_u64 rfl _ _ rfl w2 w.heap.size _ _ _ _ (rootT (ys.drop k)) rfl ho2 rfl hz2 (by have := HQ.out; unfold maxLen; omega) (by have := HQ.out; omega) ?_; intro g3 c3 w3 ho3 hB3; refine hold ?_)
        refine held ?_
        have hE3 : Ext w w3 := Below.trans ((HE.out.trans hx1).trans hx2) hB3
        have HW3 := Lib.hid (hx1.trans hx2)
        have HB3 := Lib.hid hB3
        clear hB3 ho2 hz2 ho hx2 hx1
        go_wp2_with fail
        refine ⟨⟨k, j, q + 1, o9, k, c3, ys.take k, ps ++ [rootT (ys.drop k)], some ⟨g3, 0, none⟩, rfl, rfl, by simp, Lib.hid (by have := HQ.out; omega), Lib.hid ?_, ho3, Lib.hid ?_, Lib.hid (HU.out.snoc k2.out), Lib.hid hE3⟩, by simp only [lenV]; omega⟩
        · exact (HSL.out.ext HW3.out).keepB HB0.out HB3.out
        · rw [HI.out, HIN.out]; simp
      · have hji : ¬ ((j : Int) < ((halfN m : Nat) : Int)) := by omega
        have HIN := Lib.hid (inclT_right (l := ys) (i := j) (by rw [HYL.out]; omega) (by rw [HYL.out]; exact hj))
        rw [HYL.out] at HIN
        generalize halfN m = k at *
        have HJ : Hid (k ≤ j ∧ j < m ∧ m ≤ 4096) := Lib.hid (by have := HQ.out; omega)
        go_upto_region 11 with fail
        go_wp2_with (go_at_call 44; refine (HLR.out _ hx1).mono ?_; rintro e w2 ⟨rfl, hx2⟩; refine hold ?_)
        refine held ?_
        have ho2 := ho.ext (hx1.trans hx2)
        have hz2 : w.heap.size ≤ w2.heap.size := ((HE.out.trans hx1).trans hx2).sz
        go_wp2_with (at_builtin; refine app1 el_u64 rfl _ _ rfl w2 w.heap.size _ _ _ _ (rootT (ys.take k)) rfl ho2 rfl hz2 (by have := HQ.out; unfold maxLen; omega) (by have := HQ.out; omega) ?_; intro g3 c3 w3 ho3 hB3; refine hold ?_)
        refine held ?_
        have hE3 : Ext w w3 := Below.trans ((HE.out.trans hx1).trans hx2) hB3
        have HW3 := Lib.hid (hx1.trans hx2)
        have HB3 := Lib.hid hB3
        clear hB3 ho2 hz2 ho hx2 hx1
        go_wp2_with fail
        refine ⟨⟨m - k, j - k, q + 1, o9 + k, m - k, c3, ys.drop k, ps ++ [rootT (ys.take k)], some ⟨g3, 0, none⟩, rfl, congrArg (Value.int .i64) (by have := HJ.out; first | omega | (unfold wrap64; omega)), by simp, Lib.hid (by have := HQ.out; have := HJ.out; omega), Lib.hid ?_, ho3, Lib.hid ?_, Lib.hid (HU.out.snoc k1.out), Lib.hid hE3⟩, by simp only [lenV]; omega⟩
        · exact (HSR.out.ext HW3.out).keepB HB0.out HB3.out
        · rw [HI.out, HIN.out]; simp
    · have hmi : ¬ (1 : Int) < (m : Int) := by omega
      have HPS : Hid (ps.reverse = inclT xs i) := Lib.hid (by rw [HI.out, inclT_one (by have := HS.out.hlen; omega)]; rfl)
      have HLN : Hid (q = (inclT xs i).length) := Lib.hid (by rw [← HPS.out, List.length_reverse, ho.hlen])
      have HRV := Lib.hid (ureverse_any ap q cp ps w.heap.size wr ho HU.out (by have := HQ.out; omega))
      rw [HPS.out] at HRV
      clear HI
      go_wp2_with (go_at_call 47; refine HRV.out.mono ?_; rintro e w3 ⟨⟨v, rfl⟩, ho3, hB3, -⟩)
      go_ret2
      refine ⟨ap, cp, ?_, ?_, ?_, Below.trans HE.out hB3⟩
      · rw [← HLN.out]; rfl
      · rw [← HLN.out]; exact ho3
      · rw [← HPS.out]; exact HU.out.rev
theorem textend_any (b off n c : Nat) (xs : List Int) (i : Nat) (w : World) (h1 : 1 ≤ n) (hn : n ≤ 4096) (hi0 : 1 ≤ i) (hi : i ≤ n) (h : Sl .u64 w (some ⟨b, off, none⟩) n c xs) (ht : TB w) :
    Calls Tryz.prog 17 #[.slice (some ⟨b, off, none⟩) n c, .int .i64 i] w fun e w' => ∃ a' c', e = .returned (.tuple #[.slice a' (extT xs i).length c', .int .i64 0]) ∧ OwI .u64 25 w.heap.size w' a' (extT xs i).length c' (extT xs i) ∧ U64s (extT xs i) ∧ Ext w w' := by
  have HC := Lib.hid (fun W => tcheck_any (some ⟨b, off, none⟩) n c W (by omega))
  rw [if_neg (by omega), if_neg (by omega)] at HC
  have bd := h.bd
  have HS0 := Lib.hid h
  have HB0 : Hid (b < w.heap.size) := Lib.hid (by obtain ⟨b', o', e, hc⟩ := h.at (by omega); obtain ⟨rfl, rfl⟩ : b = b' ∧ off = o' := by simpa using e
                                                  exact lt_of_cell (hc 0 (by omega)))
  have g1 : ¬ ((i : Int) < 1) := by omega
  have g2 : ¬ ((n : Int) < (i : Int)) := by omega
  have g3 : decide ((i : Int) < 1) = false := decide_eq_false g1
  have g4 : decide ((n : Int) < (i : Int)) = false := decide_eq_false g2
  have g5 : ¬ (n < i) := by omega
  have g6 : decide (n < i) = false := decide_eq_false g5
  clear h
  go_enter Tryz.func17, Tryz.ntmps17
  go_wp2_with (go_at_call 43; refine (HC.out _).mono ?_; rintro e w' ⟨rfl, rfl⟩)
  go_loopw [0, 1, 7, 8] (fun s i' p h' wr => ∃ (m j q o9 cs cp : Nat) (wh : Bool) (ys ps : List Int) (ap : Option Addr), s = .slice (some ⟨b, o9, none⟩) m cs ∧ i' = .int .i64 j ∧ p = .slice ap q cp ∧ h' = .bool wh ∧ Hid (1 ≤ j ∧ j ≤ m ∧ q + m ≤ n) ∧ Hid (Sl .u64 wr (some ⟨b, o9, none⟩) m cs ys) ∧ OwI .u64 25 w.heap.size wr ap q cp ps ∧ Hid (extS xs i = extS ys j ++ ps.reverse) ∧ Hid (wholeT xs i = (wh && wholeT ys j)) ∧ Hid (U64s ps) ∧ Hid (Ext w wr)) (fun s _ _ _ _ => lenV s)
  case atStart => exact ⟨n, i, 0, off, c, 0, true, xs, [], none, rfl, rfl, rfl, rfl, Lib.hid (by omega), HS0, OwI.nil _ _ _ _, Lib.hid (by simp), Lib.hid (by simp), Lib.hid (fun x hx => by simp at hx), Lib.hid (Ext.refl w)⟩
  case round =>
    obtain ⟨m, j, q, o9, cs, cp, wh, ys, ps, ap, rfl, rfl, rfl, rfl, HQ, HS, ho, HI, HWH, HU, HE⟩ := hrel
    have bm := HS.out.bd
    by_cases hm : j < m
    · have hmi : (j : Int) < (m : Int) := by omega
      have hq0 := HQ.out
      have hm2 : 2 ≤ m := by omega
      obtain ⟨a1, a2, a3⟩ := half_spec hm2
      obtain ⟨hsl, hsr⟩ := HS.out.parts hm2
      have HYL := Lib.hid HS.out.hlen
      have HP := Lib.hid (parts_any b o9 m cs ys wr HS.out (by omega) (by have := HQ.out; omega))
      have HTW : Hid (TB wr) := Lib.hid (ht.ext HE.out)
      have HLR := Lib.hid (fun (W : World) (hx : Ext wr W) => troot_any (halfN m) b o9 (halfN m) _ W (by omega) (by have := HQ.out; omega) (hsl.ext hx) (HTW.out.ext hx))
      have HRR := Lib.hid (fun (W : World) (hx : Ext wr W) => troot_any (m - halfN m) b (o9 + halfN m) (m - halfN m) _ W (by omega) (by have := HQ.out; omega) (hsr.ext hx) (HTW.out.ext hx))
      have k1 := Lib.hid (root_rng (ys.take (halfN m)))
      have k2 := Lib.hid (root_rng (ys.drop (halfN m)))
      have HSL := Lib.hid hsl
      have HSR := Lib.hid hsr
      clear hsl hsr
      clear hq0
      go_upto_region 10 with ((go_at_call 46; refine HP.out.mono ?_; rintro e w1 ⟨rfl, hx1⟩))
      by_cases hj : j ≤ halfN m
      · have hji : (j : Int) ≤ ((halfN m : Nat) : Int) := by omega
        have HIN := Lib.hid (extS_left (l := ys) (m := j) (by rw [HYL.out]; omega) (by rw [HYL.out]; exact hm) (by rw [HYL.out]; exact hj))
        have HWN := Lib.hid (wholeT_left (l := ys) (m := j) (by rw [HYL.out]; omega) (by rw [HYL.out]; exact hm) (by rw [HYL.out]; exact hj))
        rw [HYL.out] at HIN HWN
        generalize halfN m = k at *
        have HJ : Hid (1 ≤ j ∧ j ≤ k ∧ j < m ∧ m ≤ 4096) := Lib.hid (by have := HQ.out; omega)
        go_upto_region 11 with fail
        go_wp2_with (go_at_call 44; refine (HRR.out _ hx1).mono ?_; rintro e w2 ⟨rfl, hx2⟩; refine hold ?_)
        refine held ?_
        have ho2 := ho.ext (hx1.trans hx2)
        have hz2 : w.heap.size ≤ w2.heap.size := ((HE.out.trans hx1).trans hx2).sz
        go_wp2_with (at_builtin; refine app1 el_u64 rfl _ _ rfl w2 w.heap.size _ _ _ _ (rootT (ys.drop k)) rfl ho2 rfl hz2 (by have := HQ.out; unfold maxLen; omega) (by have := HQ.out; omega) ?_; intro g3 c3 w3 ho3 hB3; refine hold ?_)
        refine held ?_
        have hE3 : Ext w w3 := Below.trans ((HE.out.trans hx1).trans hx2) hB3
        have HW3 := Lib.hid (hx1.trans hx2)
        have HB3 := Lib.hid hB3
        clear hB3 ho2 hz2 ho hx2 hx1
        go_wp2_with fail
        refine ⟨⟨k, j, q + 1, o9, k, c3, wh, ys.take k, ps ++ [rootT (ys.drop k)], some ⟨g3, 0, none⟩, rfl, rfl, by simp, rfl, Lib.hid (by have := HQ.out; have := HJ.out; omega), Lib.hid ?_, ho3, Lib.hid ?_, Lib.hid (by rw [HWH.out, HWN.out]), Lib.hid (HU.out.snoc k2.out), Lib.hid hE3⟩, by simp only [lenV]; omega⟩
        · exact (HSL.out.ext HW3.out).keepB HB0.out HB3.out
        · rw [HI.out, HIN.out]; simp
      · have hji : ¬ ((j : Int) ≤ ((halfN m : Nat) : Int)) := by omega
        have HIN := Lib.hid (extS_right (l := ys) (m := j) (by rw [HYL.out]; omega) (by rw [HYL.out]; exact hm) (by rw [HYL.out]; exact hj))
        have HWN := Lib.hid (wholeT_right (l := ys) (m := j) (by rw [HYL.out]; omega) (by rw [HYL.out]; exact hm) (by rw [HYL.out]; exact hj))
        rw [HYL.out] at HIN
        generalize halfN m = k at *
        have HJ : Hid (1 ≤ j ∧ k < j ∧ j < m ∧ m ≤ 4096) := Lib.hid (by have := HQ.out; omega)
        go_upto_region 12 with fail
        go_wp2_with (go_at_call 44; refine (HLR.out _ hx1).mono ?_; rintro e w2 ⟨rfl, hx2⟩; refine hold ?_)
        refine held ?_
        have ho2 := ho.ext (hx1.trans hx2)
        have hz2 : w.heap.size ≤ w2.heap.size := ((HE.out.trans hx1).trans hx2).sz
        go_wp2_with (at_builtin; refine app1 el_u64 rfl _ _ rfl w2 w.heap.size _ _ _ _ (rootT (ys.take k)) rfl ho2 rfl hz2 (by have := HQ.out; unfold maxLen; omega) (by have := HQ.out; omega) ?_; intro g3 c3 w3 ho3 hB3; refine hold ?_)
        refine held ?_
        have hE3 : Ext w w3 := Below.trans ((HE.out.trans hx1).trans hx2) hB3
        have HW3 := Lib.hid (hx1.trans hx2)
        have HB3 := Lib.hid hB3
        clear hB3 ho2 hz2 ho hx2 hx1
        go_wp2_with fail
        refine ⟨⟨m - k, j - k, q + 1, o9 + k, m - k, c3, false, ys.drop k, ps ++ [rootT (ys.take k)], some ⟨g3, 0, none⟩, rfl, congrArg (Value.int .i64) (by have := HJ.out; first | omega | (unfold wrap64; omega)), by simp, rfl, Lib.hid (by have := HQ.out; have := HJ.out; omega), Lib.hid ?_, ho3, Lib.hid ?_, Lib.hid (by rw [HWH.out, HWN.out]; simp), Lib.hid (HU.out.snoc k1.out), Lib.hid hE3⟩, by simp only [lenV]; omega⟩
        · exact (HSR.out.ext HW3.out).keepB HB0.out HB3.out
        · rw [HI.out, HIN.out]; simp
    · have hmi : ¬ (j : Int) < (m : Int) := by omega
      have hq0 := HQ.out
      obtain rfl : j = m := by omega
      have HWX : Hid (wholeT xs i = wh) := Lib.hid (by rw [HWH.out, wholeT_end (by have := HS.out.hlen; omega), Bool.and_true])
      have HPS : Hid (extS xs i = rootT ys :: ps.reverse) := Lib.hid (by rw [HI.out, extS_end (by have := HS.out.hlen; omega)]; rfl)
      clear hq0 HI HWH
      cases wh with
      | true =>
        have HXT : Hid (ps.reverse = extT xs i) := Lib.hid (by unfold extT; rw [HWX.out, HPS.out]; rfl)
        have HLN : Hid (q = (extT xs i).length) := Lib.hid (by rw [← HXT.out, List.length_reverse, ho.hlen])
        have HRV := Lib.hid (ureverse_any ap q cp ps w.heap.size wr ho HU.out (by have := HQ.out; omega))
        rw [HXT.out] at HRV
        go_wp2_with (go_at_call 47; refine HRV.out.mono ?_; rintro e w3 ⟨⟨v, rfl⟩, ho3, hB3, -⟩)
        go_ret2
        refine ⟨ap, cp, ?_, ?_, ?_, Below.trans HE.out hB3⟩
        · rw [← HLN.out]; rfl
        · rw [← HLN.out]; exact ho3
        · rw [← HXT.out]; exact HU.out.rev
      | false =>
        have HXT : Hid ((ps ++ [rootT ys]).reverse = extT xs i) := Lib.hid (by unfold extT; rw [HWX.out, HPS.out]; simp)
        have HLN : Hid (q + 1 = (extT xs i).length) := Lib.hid (by rw [← HXT.out, List.length_reverse, List.length_append, ho.hlen]; rfl)
        have HUX := Lib.hid (HU.out.snoc (root_rng ys))
        have HRT := Lib.hid (fun (W : World) (hx : Ext wr W) => troot_any j b o9 cs ys W (by have := HQ.out; omega) (by have := HQ.out; omega) (HS.out.ext hx) (ht.ext (HE.out.trans hx)))
        have hx1 : Ext wr wr := Ext.refl wr
        go_upto_region 14 with fail
        go_wp2_with (go_at_call 44; refine (HRT.out _ hx1).mono ?_; rintro e w2 ⟨rfl, hx2⟩; refine hold ?_)
        refine held ?_
        have ho2 := ho.ext (hx1.trans hx2)
        have hz2 : w.heap.size ≤ w2.heap.size := ((HE.out.trans hx1).trans hx2).sz
        go_wp2_with (at_builtin; refine app1 el_u64 rfl _ _ rfl w2 w.heap.size _ _ _ _ (rootT ys) rfl ho2 rfl hz2 (by have := HQ.out; unfold maxLen; omega) (by have := HQ.out; omega) ?_; intro g3 c3 w3 ho3 hB3; refine hold ?_)
        refine held ?_
        have hE3 : Ext w w3 := Below.trans ((HE.out.trans hx1).trans hx2) hB3
        have HW3 := Lib.hid (hx1.trans hx2)
        have HB3 := Lib.hid hB3
        clear hB3 ho2 hz2 ho hx2 hx1
        have HRV := Lib.hid (ureverse_any (some ⟨g3, 0, none⟩) (q + 1) c3 _ w.heap.size w3 ho3 HUX.out (by have := HQ.out; omega))
        rw [HXT.out] at HRV
        go_wp2_with (go_at_call 47; refine HRV.out.mono ?_; rintro e w4 ⟨⟨v, rfl⟩, ho4, hB4, -⟩)
        go_ret2
        refine ⟨some ⟨g3, 0, none⟩, c3, ?_, ?_, ?_, Below.trans hE3 hB4⟩
        · rw [← HLN.out]; rfl
        · rw [← HLN.out]; exact ho4
        · rw [← HXT.out]; exact HUX.out.rev
end Go.Proofs.YtacicanjmleikaaGreatDoor
