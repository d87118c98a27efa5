/-
  slices.Reverse of a row of versions of the call's own, walked. Written by wip/gen_qn.py.
-/
import Derived.Test.YtacicanjmleikaaQM
import Derived.RangeFuncNested
namespace Go.Proofs.Ytacicanjmleikaa
open Go.RowKit Go.Sort Go.Shelf
set_option linter.unusedSimpArgs false
set_option linter.unusedVariables false
set_option maxRecDepth 100000

theorem take_set4 (cur : List Value) (l : List Vn) (n i : Nat) (x : Vn) (hl : l.length = n) (hi : i < n) (hc : n * 4 ≤ cur.length) (ht : cur.take (n * 4) = l.flatMap Cel.enc) :
    ((((cur.set (i * 4) (.int .i64 x.k)).set (i * 4 + 1) (.int .i64 x.t)).set (i * 4 + 2) (.int .i64 x.v)).set (i * 4 + 3) (.bool x.g)).take (n * 4) = (l.set i x).flatMap Cel.enc := by
  have hf := flat_len l
  have hf2 := flat_len (l.set i x)
  rw [List.length_set, hl, sz_vn] at hf2
  apply List.ext_getElem?
  intro p
  rcases Nat.lt_or_ge p (n * 4) with hp | hp
  · have hq : p = p / 4 * 4 + p % 4 := by omega
    generalize p / 4 = q at hq
    have hr : p % 4 < 4 := Nat.mod_lt _ (by omega)
    generalize p % 4 = r at hq hr
    subst hq
    have hqn : q < n := by omega
    have h1 := flat_at (l.set i x) q r (by rw [List.length_set, hl]; exact hqn) (by rw [sz_vn]; exact hr)
    have h2 := flat_at l q r (by rw [hl]; exact hqn) (by rw [sz_vn]; exact hr)
    rw [sz_vn] at h1 h2
    rw [h1]
    rw [← ht, List.getElem?_take, if_pos hp] at h2
    rw [List.getElem?_take, if_pos hp]
    by_cases hqi : i = q
    · subst hqi
      have hx : nthR (l.set i x) i = x := by simp [nthR, List.getD_eq_getElem?_getD, hl, hqn]
      rw [hx]
      have h4 : r = 0 ∨ r = 1 ∨ r = 2 ∨ r = 3 := by omega
      rcases h4 with rfl | rfl | rfl | rfl <;> simp [List.getElem?_set, Cel.enc, Vn.enc] <;> omega
    · have hx : nthR (l.set i x) q = nthR l q := by
        unfold nthR
        rw [List.getD_eq_getElem?_getD, List.getElem?_set, if_neg hqi, List.getD_eq_getElem?_getD]
      rw [hx, ← h2]
      simp only [List.getElem?_set]
      rw [if_neg (by omega), if_neg (by omega), if_neg (by omega), if_neg (by omega)]
  · rw [List.getElem?_eq_none (by rw [List.length_take]; omega), List.getElem?_eq_none (by omega)]

/-- One version of a row of the call's own is written. -/
theorem OwR.put1 {base : Nat} {W : World} {g n c : Nat} {l : List Vn} (h : OwR 47 base W (some ⟨g, 0, none⟩) n c l) {i : Nat} (hi : i < n) (x : Vn) :
    OwR 47 base ((((W.setCell ⟨g, i * 4, none⟩ (.int .i64 x.k)).setCell ⟨g, i * 4 + 1, none⟩ (.int .i64 x.t)).setCell ⟨g, i * 4 + 2, none⟩ (.int .i64 x.v)).setCell ⟨g, i * 4 + 3, none⟩ (.bool x.g)) (some ⟨g, 0, none⟩) n c (l.set i x) := by
  obtain ⟨g', cur, he, hg, hb, hle, hm, hcl, hct⟩ := h.row (by omega)
  simp only [Option.some.injEq, Addr.mk.injEq, and_true] at he
  subst he
  rw [sz_vn] at hcl hct
  have hn := Nat.mul_le_mul_right 4 hle
  have s0 : Bk W g 47 cur.toArray := hg
  have s4 := (((s0.set (i * 4) (.int .i64 x.k)).set (i * 4 + 1) (.int .i64 x.t)).set (i * 4 + 2) (.int .i64 x.v)).set (i * 4 + 3) (.bool x.g)
  unfold Bk at s4
  refine OwR.ofRow (cur := (((cur.set (i * 4) (.int .i64 x.k)).set (i * 4 + 1) (.int .i64 x.t)).set (i * 4 + 2) (.int .i64 x.v)).set (i * 4 + 3) (.bool x.g)) (by rw [List.length_set]; exact h.1) ?_ hb hle hm (by rw [sz_vn]; simp [hcl]) (by rw [sz_vn]; exact take_set4 cur l n i x h.1 hi (by omega) hct)
  simpa using s4
theorem OwR.free {base : Nat} {W : World} {g n c : Nat} {l : List Vn} (h : OwR 47 base W (some ⟨g, 0, none⟩) n c l) (h0 : 0 < n) (j : Nat) : W.frozen? ⟨g, j, none⟩ = false := by
  obtain ⟨g', cur, he, hg, _⟩ := h.row h0
  simp only [Option.some.injEq, Addr.mk.injEq, and_true] at he
  subst he
  exact free_of_block hg j

/-- The list with its first k turned round with its last k. -/
def RevTo (l ys : List Vn) (k : Nat) : Prop := ys.length = l.length ∧ ∀ p, p < l.length → nthR ys p = if p < k ∨ l.length - 1 - k < p then nthR l (l.length - 1 - p) else nthR l p
theorem RevTo.zero (l : List Vn) : RevTo l l 0 := ⟨rfl, fun p hp => by rw [if_neg (by omega)]⟩
theorem nthR_set (l : List Vn) (i p : Nat) (x : Vn) (hi : i < l.length) : nthR (l.set i x) p = if p = i then x else nthR l p := by
  unfold nthR
  rw [List.getD_eq_getElem?_getD, List.getElem?_set]
  by_cases h : i = p
  · subst h; simp [hi]
  · rw [if_neg h, if_neg (fun e => h e.symm), List.getD_eq_getElem?_getD]
theorem RevTo.step {l ys : List Vn} {k j : Nat} (h : RevTo l ys k) (hj : j + k + 1 = l.length) (hk : k < j) : RevTo l ((ys.set k (nthR ys j)).set j (nthR ys k)) (k + 1) := by
  refine ⟨by rw [List.length_set, List.length_set]; exact h.1, fun p hp => ?_⟩
  rw [nthR_set _ _ _ _ (by rw [List.length_set, h.1]; omega), nthR_set _ _ _ _ (by rw [h.1]; omega)]
  by_cases h1 : p = j
  · subst h1
    rw [if_pos rfl, h.2 k (by omega), if_neg (by omega), if_pos (by omega)]
    congr 1; omega
  · rw [if_neg h1]
    by_cases h2 : p = k
    · subst h2
      rw [if_pos rfl, h.2 j (by omega), if_neg (by omega), if_pos (by omega)]
      congr 1; omega
    · rw [if_neg h2, h.2 p hp]
      by_cases h3 : p < k ∨ l.length - 1 - k < p
      · rw [if_pos h3, if_pos (by omega)]
      · rw [if_neg h3, if_neg (by omega)]
theorem RevTo.done {l ys : List Vn} {k : Nat} (h : RevTo l ys k) (hk : l.length ≤ 2 * k + 1) : ys = l.reverse := by
  apply List.ext_getElem
  · rw [List.length_reverse, h.1]
  · intro p h1 h2
    have hp : p < l.length := by rw [← h.1]; exact h1
    have e := h.2 p hp
    rw [nthR_get h1] at e
    rw [e, List.getElem_reverse, ← nthR_get (by omega)]
    by_cases h3 : p < k ∨ l.length - 1 - k < p
    · rw [if_pos h3]
    · rw [if_neg h3]; congr 1; omega
theorem RevTo.wf {l ys : List Vn} {k : Nat} (h : RevTo l ys k) (hw : ∀ x ∈ l, Cel.ok x) : ∀ x ∈ ys, Cel.ok x := by
  intro x hx
  obtain ⟨p, hp, rfl⟩ := List.getElem_of_mem hx
  rw [← nthR_get hp, h.2 p (by rw [← h.1]; exact hp)]
  have : p < l.length := by rw [← h.1]; exact hp
  split
  · exact hw _ (nthR_mem (by omega))
  · exact hw _ (nthR_mem this)

/-- What is so while two of the row are turned round. -/
structure RevI (base : Nat) (w : World) (g n c : Nat) (ys ys1 ys2 : List Vn) (listed : Nat → Bool) (W : World) : Prop where
  below : Below base w W
  keep : KeepsOthers w W
  a : listed 13 = false → OwR 47 base W (some ⟨g, 0, none⟩) n c ys
  b : listed 13 = true → listed 15 = false → OwR 47 base W (some ⟨g, 0, none⟩) n c ys1
  c : listed 15 = true → OwR 47 base W (some ⟨g, 0, none⟩) n c ys2
theorem RevI.other {base : Nat} {w : World} {g n c : Nat} {ys ys1 ys2 : List Vn} {listed : Nat → Bool} {W : World} (h : RevI base w g n c ys ys1 ys2 listed W) {i : Nat} (h1 : i ≠ 13) (h2 : i ≠ 15) : RevI base w g n c ys ys1 ys2 (updE listed i) W := by
  have e1 : updE listed i 13 = listed 13 := by simp [updE, h1.symm]
  have e2 : updE listed i 15 = listed 15 := by simp [updE, h2.symm]
  exact ⟨h.below, h.keep, by rw [e1]; exact h.a, by rw [e1, e2]; exact h.b, by rw [e2]; exact h.c⟩
theorem OwR.cells4 {base : Nat} {W : World} {g n c : Nat} {ys : List Vn} (h : OwR 47 base W (some ⟨g, 0, none⟩) n c ys) (hok : (∀ x ∈ ys, Cel.ok x) ∧ n ≤ 1000000) {i : Nat} (hi : i < n) :
    W.cell? ⟨g, i * 4, none⟩ = some (.int .i64 (nthR ys i).k) ∧ W.cell? ⟨g, i * 4 + 1, none⟩ = some (.int .i64 (nthR ys i).t) ∧ W.cell? ⟨g, i * 4 + 2, none⟩ = some (.int .i64 (nthR ys i).v) ∧ W.cell? ⟨g, i * 4 + 3, none⟩ = some (.bool (nthR ys i).g) := by
  obtain ⟨x1, o1, he, hc⟩ := (h.rw (by omega) hok.1).at (by omega)
  simp only [Option.some.injEq, Addr.mk.injEq, and_true] at he
  obtain ⟨rfl, rfl⟩ := he
  have hr := hc i hi
  rw [sz_vn, Nat.zero_add] at hr
  obtain ⟨d0, d1, d2, d3⟩ := cells_vn hr
  exact ⟨d0, d1, d2, d3⟩
theorem keeps_set4 {w W : World} (h : KeepsOthers w W) (g : Nat) (i0 i1 i2 i3 : Nat) (v0 v1 v2 v3 : Value) :
    KeepsOthers w ((((W.setCell ⟨g, i0, none⟩ v0).setCell ⟨g, i1, none⟩ v1).setCell ⟨g, i2, none⟩ v2).setCell ⟨g, i3, none⟩ v3) :=
  (((h.trans (KeepsOthers.setCell _ _ _)).trans (KeepsOthers.setCell _ _ _)).trans (KeepsOthers.setCell _ _ _)).trans (KeepsOthers.setCell _ _ _)
theorem below_set4 {base : Nat} {w W : World} (h : Below base w W) {g : Nat} (hg : base ≤ g) (i0 i1 i2 i3 : Nat) (v0 v1 v2 v3 : Value) :
    Below base w ((((W.setCell ⟨g, i0, none⟩ v0).setCell ⟨g, i1, none⟩ v1).setCell ⟨g, i2, none⟩ v2).setCell ⟨g, i3, none⟩ v3) :=
  Below.setCell (p := ⟨g, i3, none⟩) (Below.setCell (p := ⟨g, i2, none⟩) (Below.setCell (p := ⟨g, i1, none⟩) (Below.setCell (p := ⟨g, i0, none⟩) h hg v0) hg v1) hg v2) hg v3
theorem lenlit16 {vs : List Value} (h : vs.length = 16) : ∃ x0 x1 x2 x3 x4 x5 x6 x7 x8 x9 x10 x11 x12 x13 x14 x15 : Value, vs = [x0, x1, x2, x3, x4, x5, x6, x7, x8, x9, x10, x11, x12, x13, x14, x15] := by
  obtain ⟨x0, v0, rfl, h0⟩ := len_cons h
  obtain ⟨x1, v1, rfl, h1⟩ := len_cons h0
  obtain ⟨x2, v2, rfl, h2⟩ := len_cons h1
  obtain ⟨x3, v3, rfl, h3⟩ := len_cons h2
  obtain ⟨x4, v4, rfl, h4⟩ := len_cons h3
  obtain ⟨x5, v5, rfl, h5⟩ := len_cons h4
  obtain ⟨x6, v6, rfl, h6⟩ := len_cons h5
  obtain ⟨x7, v7, rfl, h7⟩ := len_cons h6
  obtain ⟨x8, v8, rfl, h8⟩ := len_cons h7
  obtain ⟨x9, v9, rfl, h9⟩ := len_cons h8
  obtain ⟨x10, v10, rfl, h10⟩ := len_cons h9
  obtain ⟨x11, v11, rfl, h11⟩ := len_cons h10
  obtain ⟨x12, v12, rfl, h12⟩ := len_cons h11
  obtain ⟨x13, v13, rfl, h13⟩ := len_cons h12
  obtain ⟨x14, v14, rfl, h14⟩ := len_cons h13
  obtain ⟨x15, v15, rfl, h15⟩ := len_cons h14
  obtain rfl := len_nil h15
  exact ⟨x0, x1, x2, x3, x4, x5, x6, x7, x8, x9, x10, x11, x12, x13, x14, x15, rfl⟩

set_option maxHeartbeats 4000000 in
theorem vreverse_any (a : Option Addr) (n c : Nat) (l : List Vn) (base : Nat) (w : World) (hown : OwR 47 base w a n c l) (hok : ∀ x ∈ l, Cel.ok x) (hn : n ≤ 1000000) :
    Calls Try.prog 36 #[.slice a n c] w fun e w' => (∃ v, e = .returned v) ∧ OwR 47 base w' a n c l.reverse ∧ Below base w w' ∧ KeepsOthers w w' := by
  have HL := Lib.hid hown.1
  go_enter Try.func36, Try.ntmps36
  go_wp2_with fail
  go_loopw [2, 3] (fun i j wr => ∃ (k : Nat) (ys : List Vn), i = .int .i64 k ∧ j = .int .i64 ((n : Int) - 1 - k) ∧ Hid (k ≤ n) ∧ Hid (RevTo l ys k) ∧ OwR 47 base wr a n c ys ∧ Below base w wr ∧ Hid (KeepsOthers w wr)) (fun i _ _ => n - (intOf i).toNat)
  case atStart => exact ⟨0, l, rfl, by simp, Lib.hid (by omega), Lib.hid (RevTo.zero l), hown, Below.refl _ _, Lib.hid (KeepsOthers.refl _)⟩
  case round =>
    obtain ⟨k, ys, rfl, rfl, HK, HR, ho, hx, HKO⟩ := hrel
    by_cases hlt : (k : Int) < (n : Int) - 1 - k
    · obtain ⟨j, hj⟩ : ∃ j : Nat, (n : Int) - 1 - k = j := ⟨n - 1 - k, by have := HK.out; omega⟩
      have hjk : j + k + 1 = n := by omega
      have hkj : k < j := by omega
      have hkj2 : (k : Int) < (j : Int) := by omega
      have hkn : k < n := by omega
      have hjn : j < n := by omega
      have HJ := Lib.hid hj
      obtain ⟨g, cur, rfl, hg, hbg, _⟩ := ho.row (by omega)
      have HG := Lib.hid hbg
      have HOK : Hid ((∀ x ∈ ys, Cel.ok x) ∧ n ≤ 1000000) := Lib.hid ⟨HR.out.wf hok, hn⟩
      have HST := Lib.hid (HR.out.step (j := j) (by rw [HL.out]; exact hjk) hkj)
      obtain ⟨x, hx9⟩ : ∃ x, nthR ys k = x := ⟨_, rfl⟩
      obtain ⟨y, hy9⟩ : ∃ y, nthR ys j = y := ⟨_, rfl⟩
      have HXK := Lib.hid hx9
      have HYJ := Lib.hid hy9
      rw [hx9, hy9] at HST
      have HOK1 : Hid ((∀ z ∈ ys.set k y, Cel.ok z) ∧ n ≤ 1000000) := Lib.hid ⟨fun z hz => by
        rcases List.mem_or_eq_of_mem_set hz with h | rfl
        · exact HOK.out.1 z h
        · rw [← HYJ.out]; exact HOK.out.1 _ (nthR_mem (by rw [ho.1]; exact hjn)), hn⟩
      have HI : RevI base w g n c ys (ys.set k y) ((ys.set k y).set j x) (fun _ => false) { wr with drawn := wr.drawn + 1 } := ⟨Below.drew hx, HKO.out.trans (KeepsOthers.drew wr), fun _ => OwR.ext ho (Ext.drew (Ext.refl wr)), (fun h => by cases h), (fun h => by cases h)⟩
      clear hx9 hy9 hg hbg hlt hx ho
      rw [hj]
      clear hj
      go_upto_region 3 with fail
      refine region_relyF (RevI base w g n c ys (ys.set k y) ((ys.set k y).set j x)) [some 14, some 15, some 16, some 17, some 18, some 19, some 20, some 21, some 22, some 23, some 24, some 25, some 26, none, some 27, none] [[], [], [], [], [], [], [4, 5], [4, 5, 6], [], [], [8, 9], [8, 9, 10], [0, 1, 4, 5, 6, 7, 8, 9, 10, 11], [0, 1, 4, 5, 6, 7, 8, 9, 10, 11, 12], [0, 1, 2, 3, 4, 5, 6, 7, 8, 9, 10, 11, 12, 13], [0, 1, 2, 3, 4, 5, 6, 7, 8, 9, 10, 11, 12, 13, 14]] [[], [], [], [], [], [], [4, 5], [6], [], [], [8, 9], [10], [0, 1], [7, 12], [2, 3], [11, 14]] [none, none, none, none, none, none, none, none, none, none, none, none, none, none, none, none] [false, false, false, false, false, false, false, false, false, false, false, false, false, false, false, false] [.one ((.slice (some ⟨g, 0, none⟩) n c)), .one ((.int .i64 (k : Nat))), .one ((.slice (some ⟨g, 0, none⟩) n c)), .one ((.int .i64 (j : Nat))), .one ((.slice (some ⟨g, 0, none⟩) n c)), .one ((.int .i64 (j : Nat))), .one ((.pointer (some ⟨g, j * 4, none⟩))), .one ((.agg #[.int .i64 y.k, .int .i64 y.t, .int .i64 y.v, .bool y.g])), .one ((.slice (some ⟨g, 0, none⟩) n c)), .one ((.int .i64 (k : Nat))), .one ((.pointer (some ⟨g, k * 4, none⟩))), .one ((.agg #[.int .i64 x.k, .int .i64 x.t, .int .i64 x.v, .bool x.g])), .one ((.pointer (some ⟨g, k * 4, none⟩))), .any, .one ((.pointer (some ⟨g, j * 4, none⟩))), .any] (by kernel_rfl) (by kernel_rfl) rfl HI ?_ ?_
      · refine stepsF_cons ?_ ?_
        · intro listed vs W' hl hI hd hs hn hu hz ho9
          refine hold ?_
          obtain ⟨x0, x1, x2, x3, x4, x5, x6, x7, x8, x9, x10, x11, x12, x13, x14, x15, rfl⟩ := lenlit16 hl; clear hl
          refine held ?_
          simp only [putAll, Act.put, List.setIfInBounds_toArray, List.set_cons_succ, List.set_cons_zero]
          go_wp2_with fail
          exact relyE_done _ rfl rfl (Ext.refl _) (hI.other (by decide) (by decide))
        refine stepsF_cons ?_ ?_
        · intro listed vs W' hl hI hd hs hn hu hz ho9
          refine hold ?_
          obtain ⟨x0, x1, x2, x3, x4, x5, x6, x7, x8, x9, x10, x11, x12, x13, x14, x15, rfl⟩ := lenlit16 hl; clear hl
          refine held ?_
          simp only [putAll, Act.put, List.setIfInBounds_toArray, List.set_cons_succ, List.set_cons_zero]
          go_wp2_with fail
          exact relyE_done _ rfl rfl (Ext.refl _) (hI.other (by decide) (by decide))
        refine stepsF_cons ?_ ?_
        · intro listed vs W' hl hI hd hs hn hu hz ho9
          refine hold ?_
          obtain ⟨x0, x1, x2, x3, x4, x5, x6, x7, x8, x9, x10, x11, x12, x13, x14, x15, rfl⟩ := lenlit16 hl; clear hl
          refine held ?_
          simp only [putAll, Act.put, List.setIfInBounds_toArray, List.set_cons_succ, List.set_cons_zero]
          go_wp2_with fail
          exact relyE_done _ rfl rfl (Ext.refl _) (hI.other (by decide) (by decide))
        refine stepsF_cons ?_ ?_
        · intro listed vs W' hl hI hd hs hn hu hz ho9
          refine hold ?_
          obtain ⟨x0, x1, x2, x3, x4, x5, x6, x7, x8, x9, x10, x11, x12, x13, x14, x15, rfl⟩ := lenlit16 hl; clear hl
          refine held ?_
          simp only [putAll, Act.put, List.setIfInBounds_toArray, List.set_cons_succ, List.set_cons_zero]
          go_wp2_with fail
          exact relyE_done _ rfl rfl (Ext.refl _) (hI.other (by decide) (by decide))
        refine stepsF_cons ?_ ?_
        · intro listed vs W' hl hI hd hs hn hu hz ho9
          refine hold ?_
          obtain ⟨x0, x1, x2, x3, x4, x5, x6, x7, x8, x9, x10, x11, x12, x13, x14, x15, rfl⟩ := lenlit16 hl; clear hl
          refine held ?_
          simp only [putAll, Act.put, List.setIfInBounds_toArray, List.set_cons_succ, List.set_cons_zero]
          go_wp2_with fail
          exact relyE_done _ rfl rfl (Ext.refl _) (hI.other (by decide) (by decide))
        refine stepsF_cons ?_ ?_
        · intro listed vs W' hl hI hd hs hn hu hz ho9
          refine hold ?_
          obtain ⟨x0, x1, x2, x3, x4, x5, x6, x7, x8, x9, x10, x11, x12, x13, x14, x15, rfl⟩ := lenlit16 hl; clear hl
          refine held ?_
          simp only [putAll, Act.put, List.setIfInBounds_toArray, List.set_cons_succ, List.set_cons_zero]
          go_wp2_with fail
          exact relyE_done _ rfl rfl (Ext.refl _) (hI.other (by decide) (by decide))
        refine stepsF_cons ?_ ?_
        · intro listed vs W' hl hI hd hs hn hu hz ho9
          refine hold ?_
          obtain ⟨x0, x1, x2, x3, x4, x5, x6, x7, x8, x9, x10, x11, x12, x13, x14, x15, rfl⟩ := lenlit16 hl; clear hl
          simp only [factsL, atL, refV, List.getElem?_cons_succ, List.getElem?_cons_zero, List.getD_cons_succ, List.getD_cons_zero, RelL.one, RelL.any, RelL.blk, RelL.law] at hd
          obtain ⟨rfl, rfl, -⟩ := hd
          refine held ?_
          simp only [putAll, Act.put, List.setIfInBounds_toArray, List.set_cons_succ, List.set_cons_zero]
          go_wp2_with fail
          exact relyE_done _ rfl rfl (Ext.refl _) (hI.other (by decide) (by decide))
        refine stepsF_cons ?_ ?_
        · intro listed vs W' hl hI hd hs hn hu hz ho9
          refine hold ?_
          obtain ⟨x0, x1, x2, x3, x4, x5, x6, x7, x8, x9, x10, x11, x12, x13, x14, x15, rfl⟩ := lenlit16 hl; clear hl
          simp only [factsL, atL, refV, List.getElem?_cons_succ, List.getElem?_cons_zero, List.getD_cons_succ, List.getD_cons_zero, RelL.one, RelL.any, RelL.blk, RelL.law] at hd
          obtain ⟨rfl, -⟩ := hd
          refine held ?_
          simp only [putAll, Act.put, List.setIfInBounds_toArray, List.set_cons_succ, List.set_cons_zero]
          have h13 : listed 13 = false := by cases h : listed 13 with | false => rfl | true => exact absurd (by decide) (hu 13 h)
          obtain ⟨d0, d1, d2, d3⟩ := (hI.a h13).cells4 HOK.out hjn
          rw [HYJ.out] at d0 d1 d2 d3
          go_wp2_with fail
          exact relyE_done _ rfl rfl (Ext.refl _) (hI.other (by decide) (by decide))
        refine stepsF_cons ?_ ?_
        · intro listed vs W' hl hI hd hs hn hu hz ho9
          refine hold ?_
          obtain ⟨x0, x1, x2, x3, x4, x5, x6, x7, x8, x9, x10, x11, x12, x13, x14, x15, rfl⟩ := lenlit16 hl; clear hl
          refine held ?_
          simp only [putAll, Act.put, List.setIfInBounds_toArray, List.set_cons_succ, List.set_cons_zero]
          go_wp2_with fail
          exact relyE_done _ rfl rfl (Ext.refl _) (hI.other (by decide) (by decide))
        refine stepsF_cons ?_ ?_
        · intro listed vs W' hl hI hd hs hn hu hz ho9
          refine hold ?_
          obtain ⟨x0, x1, x2, x3, x4, x5, x6, x7, x8, x9, x10, x11, x12, x13, x14, x15, rfl⟩ := lenlit16 hl; clear hl
          refine held ?_
          simp only [putAll, Act.put, List.setIfInBounds_toArray, List.set_cons_succ, List.set_cons_zero]
          go_wp2_with fail
          exact relyE_done _ rfl rfl (Ext.refl _) (hI.other (by decide) (by decide))
        refine stepsF_cons ?_ ?_
        · intro listed vs W' hl hI hd hs hn hu hz ho9
          refine hold ?_
          obtain ⟨x0, x1, x2, x3, x4, x5, x6, x7, x8, x9, x10, x11, x12, x13, x14, x15, rfl⟩ := lenlit16 hl; clear hl
          simp only [factsL, atL, refV, List.getElem?_cons_succ, List.getElem?_cons_zero, List.getD_cons_succ, List.getD_cons_zero, RelL.one, RelL.any, RelL.blk, RelL.law] at hd
          obtain ⟨rfl, rfl, -⟩ := hd
          refine held ?_
          simp only [putAll, Act.put, List.setIfInBounds_toArray, List.set_cons_succ, List.set_cons_zero]
          go_wp2_with fail
          exact relyE_done _ rfl rfl (Ext.refl _) (hI.other (by decide) (by decide))
        refine stepsF_cons ?_ ?_
        · intro listed vs W' hl hI hd hs hn hu hz ho9
          refine hold ?_
          obtain ⟨x0, x1, x2, x3, x4, x5, x6, x7, x8, x9, x10, x11, x12, x13, x14, x15, rfl⟩ := lenlit16 hl; clear hl
          simp only [factsL, atL, refV, List.getElem?_cons_succ, List.getElem?_cons_zero, List.getD_cons_succ, List.getD_cons_zero, RelL.one, RelL.any, RelL.blk, RelL.law] at hd
          obtain ⟨rfl, -⟩ := hd
          refine held ?_
          simp only [putAll, Act.put, List.setIfInBounds_toArray, List.set_cons_succ, List.set_cons_zero]
          have h13 : listed 13 = false := by cases h : listed 13 with | false => rfl | true => exact absurd (by decide) (hu 13 h)
          obtain ⟨d0, d1, d2, d3⟩ := (hI.a h13).cells4 HOK.out hkn
          rw [HXK.out] at d0 d1 d2 d3
          go_wp2_with fail
          exact relyE_done _ rfl rfl (Ext.refl _) (hI.other (by decide) (by decide))
        refine stepsF_cons ?_ ?_
        · intro listed vs W' hl hI hd hs hn hu hz ho9
          refine hold ?_
          obtain ⟨x0, x1, x2, x3, x4, x5, x6, x7, x8, x9, x10, x11, x12, x13, x14, x15, rfl⟩ := lenlit16 hl; clear hl
          simp only [factsL, atL, refV, List.getElem?_cons_succ, List.getElem?_cons_zero, List.getD_cons_succ, List.getD_cons_zero, RelL.one, RelL.any, RelL.blk, RelL.law] at hd
          obtain ⟨rfl, rfl, -⟩ := hd
          refine held ?_
          simp only [putAll, Act.put, List.setIfInBounds_toArray, List.set_cons_succ, List.set_cons_zero]
          go_wp2_with fail
          exact relyE_done _ rfl rfl (Ext.refl _) (hI.other (by decide) (by decide))
        refine stepsF_cons ?_ ?_
        · intro listed vs W' hl hI hd hs hn hu hz ho9
          refine hold ?_
          obtain ⟨x0, x1, x2, x3, x4, x5, x6, x7, x8, x9, x10, x11, x12, x13, x14, x15, rfl⟩ := lenlit16 hl; clear hl
          simp only [factsL, atL, refV, List.getElem?_cons_succ, List.getElem?_cons_zero, List.getD_cons_succ, List.getD_cons_zero, RelL.one, RelL.any, RelL.blk, RelL.law] at hd
          obtain ⟨rfl, rfl, -⟩ := hd
          refine held ?_
          simp only [putAll, Act.put, List.setIfInBounds_toArray, List.set_cons_succ, List.set_cons_zero]
          obtain ⟨d0, d1, d2, d3⟩ := (hI.a hz).cells4 HOK.out hkn
          have hfz := (hI.a hz).free (by omega)
          go_wp2_with fail
          exact relyE_store undef rfl trivial (by simp) ⟨fun _ _ h => h, fun _ _ h => h, fun _ _ h => h, fun _ _ h => h, fun _ _ h => h, fun _ _ h => h, fun _ _ h => h, fun _ _ h => h, fun _ _ h => h, fun _ _ h => h, fun _ _ h => h, fun _ _ h => h, fun _ _ h => h, fun _ _ h => h, fun _ _ h => h, fun _ _ h => h, trivial⟩ ⟨below_set4 hI.below HG.out _ _ _ _ _ _ _ _, keeps_set4 hI.keep g _ _ _ _ _ _ _ _, fun h => by simp [updE] at h, fun _ _ => (hI.a hz).put1 hkn y, fun h => by simp [updE] at h; exact absurd (by decide) (hu 15 h)⟩
        refine stepsF_cons ?_ ?_
        · intro listed vs W' hl hI hd hs hn hu hz ho9
          refine hold ?_
          obtain ⟨x0, x1, x2, x3, x4, x5, x6, x7, x8, x9, x10, x11, x12, x13, x14, x15, rfl⟩ := lenlit16 hl; clear hl
          simp only [factsL, atL, refV, List.getElem?_cons_succ, List.getElem?_cons_zero, List.getD_cons_succ, List.getD_cons_zero, RelL.one, RelL.any, RelL.blk, RelL.law] at hd
          obtain ⟨rfl, rfl, -⟩ := hd
          refine held ?_
          simp only [putAll, Act.put, List.setIfInBounds_toArray, List.set_cons_succ, List.set_cons_zero]
          go_wp2_with fail
          exact relyE_done _ rfl rfl (Ext.refl _) (hI.other (by decide) (by decide))
        refine stepsF_cons ?_ ?_
        · intro listed vs W' hl hI hd hs hn hu hz ho9
          refine hold ?_
          obtain ⟨x0, x1, x2, x3, x4, x5, x6, x7, x8, x9, x10, x11, x12, x13, x14, x15, rfl⟩ := lenlit16 hl; clear hl
          simp only [factsL, atL, refV, List.getElem?_cons_succ, List.getElem?_cons_zero, List.getD_cons_succ, List.getD_cons_zero, RelL.one, RelL.any, RelL.blk, RelL.law] at hd
          obtain ⟨rfl, rfl, -⟩ := hd
          refine held ?_
          simp only [putAll, Act.put, List.setIfInBounds_toArray, List.set_cons_succ, List.set_cons_zero]
          have h13 := hs 13 (by decide)
          obtain ⟨d0, d1, d2, d3⟩ := (hI.b h13 hz).cells4 HOK1.out hjn
          have hfz := (hI.b h13 hz).free (by omega)
          go_wp2_with fail
          exact relyE_store undef rfl trivial (by simp) ⟨fun _ _ h => h, fun _ _ h => h, fun _ _ h => h, fun _ _ h => h, fun _ _ h => h, fun _ _ h => h, fun _ _ h => h, fun _ _ h => h, fun _ _ h => h, fun _ _ h => h, fun _ _ h => h, fun _ _ h => h, fun _ _ h => h, fun _ _ h => h, fun _ _ h => h, fun _ _ h => h, trivial⟩ ⟨below_set4 hI.below HG.out _ _ _ _ _ _ _ _, keeps_set4 hI.keep g _ _ _ _ _ _ _ _, fun h => by simp [updE, h13] at h, fun _ h => by simp [updE] at h, fun _ => (hI.b h13 hz).put1 hjn x⟩
        exact trivial
      · intro listed vs W' hl hall hI hd hn
        obtain ⟨x0, x1, x2, x3, x4, x5, x6, x7, x8, x9, x10, x11, x12, x13, x14, x15, rfl⟩ := lenlit16 hl; clear hl
        simp only [List.length_cons, List.length_nil, List.range, List.range.loop, Nat.zero_add, Nat.reduceAdd, factsL, atL, refV, List.getElem?_cons_succ, List.getElem?_cons_zero, List.getD_cons_succ, List.getD_cons_zero, RelL.one, RelL.any, RelL.blk, RelL.law] at hd
        obtain ⟨rfl, rfl, rfl, rfl, rfl, rfl, rfl, rfl, rfl, rfl, rfl, rfl, rfl, -, rfl, -, -⟩ := hd
        simp only [putAll, Act.put, List.setIfInBounds_toArray, List.set_cons_succ, List.set_cons_zero]
        have ho2 := hI.c (hall 15 (by decide))
        have hb2 := hI.below
        have hk2 := Lib.hid hI.keep
        clear hall hn hI
        go_wp2_with fail
        refine ⟨⟨k + 1, _, by go_num, by rw [← HJ.out]; congr 1; push_cast; omega, Lib.hid (by omega), HST, ho2, hb2, hk2⟩, ?_⟩
        simp only [intOf]; omega
    · have hk : n ≤ 2 * k + 1 := by omega
      have e : ys = l.reverse := HR.out.done (by rw [HL.out]; exact hk)
      subst e
      go_wp2_with fail
      go_end0
      exact ⟨⟨_, rfl⟩, ho, hx, HKO.out⟩
end Go.Proofs.Ytacicanjmleikaa
