/-
  slices.Insert of one version into a row of the call's own, walked. Written by wip/gen_qj.py.
-/
import Derived.Test.YtacicanjmleikaaQI
namespace Go.Proofs.Ytacicanjmleikaa
open Go.RowKit Go.Sort Go.Shelf
set_option linter.unusedSimpArgs false
set_option linter.unusedVariables false
set_option maxRecDepth 100000

theorem Rw.one {w : World} {vb : Nat} {x : Vn} (hx : x.Ok) (h : Bk w vb 47 #[.int .i64 x.k, .int .i64 x.t, .int .i64 x.v, .bool x.g]) : Rw w (some ⟨vb, 0, none⟩) 1 1 [x] := by
  refine ⟨rfl, Nat.le_refl _, by unfold maxLen; omega, by omega, fun i hi => ⟨vb, 0, rfl, ?_⟩, fun y hy => ?_⟩
  · obtain rfl : i = 0 := by omega
    intro j v hv
    rw [Nat.zero_mul]
    simp only [Nat.zero_add]
    exact h.c j v (by simpa [nthR, Cel.enc, Vn.enc] using hv)
  · rw [List.mem_singleton.1 hy]; exact hx
set_option maxHeartbeats 4000000 in
/-- At the end. -/
theorem vinsert_end (a : Option Addr) (n c : Nat) (l : List Vn) (x : Vn) (vb base : Nat) (w : World) (hown : OwR 47 base w a n c l) (hb : base ≤ w.heap.size) (hn : n ≤ 1000000) (hx : x.Ok) (hv : Bk w vb 47 #[.int .i64 x.k, .int .i64 x.t, .int .i64 x.v, .bool x.g]) :
    Calls Try.prog 44 #[.slice a n c, .int .i64 (n : Nat), .slice (some ⟨vb, 0, none⟩) 1 1] w fun e w' => ∃ g c', e = .returned (.slice (some ⟨g, 0, none⟩) (n + 1) c') ∧ OwR 47 base w' (some ⟨g, 0, none⟩) (n + 1) c' (l ++ [x]) ∧ Below base w w' := by
  have hr := Rw.one hx hv
  have hcb : n ≤ c ∧ c ≤ 9223372036854775807 := by
    rcases Nat.eq_zero_or_pos n with h0 | h0
    · subst h0
      rcases hown.2.2 with ⟨h, _⟩ | ⟨_, cap, _, h, _, _, _, hm, _⟩
      · simp only [Value.slice.injEq] at h; omega
      · simp only [Value.slice.injEq] at h; unfold maxLen at hm; omega
    · obtain ⟨_, _, _, _, _, h1, h2, _⟩ := hown.row h0
      unfold maxLen at h2; omega
  have hcb1 := hcb.1
  have hcb2 := hcb.2
  have hnn : ((n : Int) == (n : Int)) = true := by simp
  have fin : ∀ (g c' : Nat) (w' : World), OwR 47 base w' (some ⟨g, 0, none⟩) (n + 1) c' (l ++ [x]) → Below base w w' → ∃ g1 c1, Ending.returned (.slice (some ⟨g, 0, none⟩) (n + 1) c') = .returned (.slice (some ⟨g1, 0, none⟩) (n + 1) c1) ∧ OwR 47 base w' (some ⟨g1, 0, none⟩) (n + 1) c1 (l ++ [x]) ∧ Below base w w' := fun g c' w' h1 h2 => ⟨g, c', rfl, h1, h2⟩
  rcases hown.headAt with ⟨rfl, rfl, rfl⟩ | ⟨g, rfl, hg1, hg2⟩
  · go_enter Try.func44, Try.ntmps44
    go_wp2_with (at_builtin; refine appRs el_vn rfl _ _ rfl _ base _ _ _ _ rfl hown _ 1 1 [x] rfl hr hb (by unfold maxLen; omega) (by omega) ?_; intro a' c' w' ho hB; refine hold ?_)
    refine held ?_
    have hd := ho.headAt
    rcases hd with ⟨_, h0, _⟩ | ⟨g', rfl, _, _⟩
    · omega
    go_wp2_with fail
    go_ret
    exact fin _ _ _ ho hB
  · go_enter Try.func44, Try.ntmps44
    go_wp2_with (at_builtin; refine appRs el_vn rfl _ _ rfl _ base _ _ _ _ rfl hown _ 1 1 [x] rfl hr hb (by unfold maxLen; omega) (by omega) ?_; intro a' c' w' ho hB; refine hold ?_)
    all_goals
      refine held ?_
      have hd := ho.headAt
      rcases hd with ⟨_, h0, _⟩ | ⟨g', rfl, _, _⟩
      · omega
      go_wp2_with fail
      go_ret
      exact fin _ _ _ ho hB
set_option maxHeartbeats 8000000 in
/-- In the middle, in place. -/
theorem vinsert_room (g n c : Nat) (l : List Vn) (k : Nat) (x : Vn) (vb base : Nat) (w : World) (hown : OwR 47 base w (some ⟨g, 0, none⟩) n c l) (hok : ∀ y ∈ l, Cel.ok y) (hb : base ≤ w.heap.size) (hn : n ≤ 1000000) (hk : k < n) (hroom : n + 1 ≤ c) (hx : x.Ok) (hv : Bk w vb 47 #[.int .i64 x.k, .int .i64 x.t, .int .i64 x.v, .bool x.g]) (hne : vb ≠ g) :
    Calls Try.prog 44 #[.slice (some ⟨g, 0, none⟩) n c, .int .i64 (k : Nat), .slice (some ⟨vb, 0, none⟩) 1 1] w fun e w' => ∃ g c', e = .returned (.slice (some ⟨g, 0, none⟩) (n + 1) c') ∧ OwR 47 base w' (some ⟨g, 0, none⟩) (n + 1) c' (l.take k ++ x :: l.drop k) ∧ Below base w w' := by
  have hrv := Rw.one hx hv
  have hlen := hown.1
  obtain ⟨g', cur, he, hg, hbg, hle, hcm, hcl, hct⟩ := hown.row (by omega)
  simp only [Option.some.injEq, Addr.mk.injEq, and_true] at he
  subst he
  have hcm2 : c ≤ 9223372036854775807 := by unfold maxLen at hcm; omega
  have hrw := hown.rw (by omega) hok
  have hgs : g < w.heap.size := (Array.getElem?_eq_some_iff.1 hg).1
  have hk2 : (k : Int) ≤ (n : Int) := by omega
  have hkn : ((k : Int) == (n : Int)) = false := by simp; omega
  have hkn2 : ¬ ((k : Int) = (n : Int)) := by omega
  have hkn3 : ¬ (k = n) := by omega
  have hkc : ¬ (c = k) := by omega
  have hkc2 : k ≤ c := by omega
  rw [sz_vn] at hcl hct
  have hfl := fun (ys : List Vn) => flat_len ys
  have htk : ((l.take k).flatMap Cel.enc).length = k * 4 := by rw [hfl, List.length_take, hlen, sz_vn]; congr 1; omega
  have hdk : ((l.drop k).flatMap Cel.enc).length = (n - k) * 4 := by rw [hfl, List.length_drop, hlen, sz_vn]
  have hxl : (Cel.enc x).length = 4 := Cel.len x
  have hx1 : ([x].flatMap Cel.enc : List Value) = Cel.enc x := by simp
  have hroom2 : ¬ ((c : Int) < (n : Int) + 1) := by omega
  have hroom3 : (n : Int) + 1 ≤ (c : Int) := by omega
  have hk3 : (k : Int) + 1 ≤ (n : Int) + 1 := by omega
  have hk3' : (k : Int) ≤ (n : Int) + 1 := by omega
  have hk4 : ¬ (c = k + 1) := by omega
  have hk5 : ((k : Int) + 1).toNat = k + 1 := by omega
  have hk7 : (0 : Int) ≤ (k : Int) + 1 := by omega
  have hcn : ¬ (c = n + 1 ∧ False) := by simp
  have hprefix : cur.take (k * 4) = (l.take k).flatMap Cel.enc := by
    have h1 : l.flatMap Cel.enc = (l.take k).flatMap Cel.enc ++ (l.drop k).flatMap Cel.enc := by rw [← List.flatMap_append, List.take_append_drop]
    rw [h1] at hct
    have h2 := congrArg (List.take (k * 4)) hct
    rwa [List.take_take, Nat.min_eq_left (by omega), List.take_left' htk] at h2
  have HFIN : Hid ((splice (splice cur (k * 4 + 4) ((l.drop k).flatMap Cel.enc)) (k * 4) (Cel.enc x)).take ((n + 1) * 4) = (l.take k ++ x :: l.drop k).flatMap Cel.enc) := Lib.hid (by
    have := splice_tail cur ((l.take k).flatMap Cel.enc) (Cel.enc x) ((l.drop k).flatMap Cel.enc) (by rw [htk]; exact hprefix) (by rw [htk, hxl, hdk]; omega)
    rw [htk, hxl, hdk, show k * 4 + (4 + (n - k) * 4) = (n + 1) * 4 by omega] at this
    rw [this, List.flatMap_append, List.flatMap_cons])
  have hl1 : (splice cur (k * 4 + 4) ((l.drop k).flatMap Cel.enc)).length = cur.length := splice_lenV _ _ _ (by rw [hdk]; omega)
  have hl2 : (splice (splice cur (k * 4 + 4) ((l.drop k).flatMap Cel.enc)) (k * 4) (Cel.enc x)).length = cur.length := by rw [splice_lenV _ _ _ (by rw [hxl, hl1]; omega), hl1]
  have hov : ∀ lb cb, (callFunc 55 #[.slice (some ⟨vb, 0, none⟩) 1 1, .slice (some ⟨g, (k + 1) * 4, none⟩) lb cb]).run Try.prog w = .ok (.value (.bool false)) w := fun lb cb => by
    rw [run_callFunc_extern Try.func55 (by kernel_rfl) (by kernel_rfl) (by kernel_rfl) (e := Extern.SlicesOverlaps.overlaps #[33, 33] #[4]) (by kernel_rfl),
      Lib.run_overlaps_apart w 33 4 47 Try.underlying33 4 Try.sizeOf47 ⟨vb, 0, none⟩ ⟨g, (k + 1) * 4, none⟩ 1 1 lb cb hne 47 47 4 cur.length (by unfold World.shape?; rw [show w.heap[vb]? = _ from hv]; rfl) (by simp [World.shape?, hg]) (by omega) (hv.free 0) (hv.free 4)]
    rfl
  have hrd := hrw.dropO (k := k) (by omega)
  have L1 := Lib.hid hl1
  have L2 := Lib.hid hl2
  have HCL := Lib.hid hcl
  have hw1 : IntKind.i64.wrap ((k : Int) + 1) = (k : Int) + 1 := by rw [IntKind.wrap_i64]; omega
  have hDL := Lib.hid hdk
  have hXL := Lib.hid hxl
  clear hl1 hl2 hcl hfl htk hdk hxl hx1 hct hprefix hcn
  go_enter Try.func44, Try.ntmps44
  go_upto_region 15 with (simp only [hov])
  refine region_tail 8 (by kernel_rfl) (by kernel_rfl) ?_
  simp only [List.take_succ_cons, List.take_zero, List.drop_succ_cons, List.drop_zero]
  clear hov
  repeat (go_big_quiet_step (fail))
  refine wpQuiet_nil ?_
  intro w4 hx4
  have hg4 : w4.heap[g]? = some (.cells (List.toArray cur) 47 (0, 0)) := (hx4.block g hgs).trans hg
  have hr4 := hrd.ext hx4
  have hv4 := hv.ext hx4
  clear hg hrd hv hrv hrw hown
  have hm1 : ∀ q, Nat.min (n + 1 - k) (n - k + q) = n - k + q ∨ True := fun q => .inr trivial
  have hm2 : Nat.min (n + 1 - k) (n - k) = n - k := by simp only [Nat.min_def]; split <;> omega
  have hm3 : Nat.min (n + 1 - k) (n + 1 - (k + 1)) = n - k := by simp only [Nat.min_def]; split <;> omega
  have hm4 : Nat.min 1 (n + 1 - k) = 1 := by simp only [Nat.min_def]; split <;> omega
  clear hm1
  go_wp2_with (refine wpList_copyV (α := Vn) rfl _ _ 33 33 rfl 47 Try.underlying33 inf_vn _ _ _ _ (n - k) (c - k) _ g ((k + 1) * 4) rfl rfl (by first | exact hm2 | exact hm3) (l.drop k) hr4 (by omega) cur 47 hg4 (by rw [sz_vn, HCL.out]; omega) ?_; refine hold ?_)
  refine held ?_
  have e44 : (k + 1) * 4 = k * 4 + 4 := by omega
  rw [e44]
  obtain ⟨C1, hC1⟩ : ∃ C1, splice cur (k * 4 + 4) ((l.drop k).flatMap Cel.enc) = C1 := ⟨_, rfl⟩
  have HC1 := Lib.hid hC1
  have LC1 : Hid (C1.length = cur.length) := Lib.hid (by rw [← HC1.out]; exact L1.out)
  have hg5 : (w4.setRow g (splice cur (k * 4 + 4) ((l.drop k).flatMap Cel.enc)).toArray).heap[g]? = some (.cells (splice cur (k * 4 + 4) ((l.drop k).flatMap Cel.enc)).toArray 47 (0, 0)) := setRow_heap w4 g _ _ _ _ hg4
  have hb5 : Below g w4 (w4.setRow g (splice cur (k * 4 + 4) ((l.drop k).flatMap Cel.enc)).toArray) := below_setRow (Below.refl _ _) (Nat.le_refl _) _
  have hv5 : Bk (w4.setRow g (splice cur (k * 4 + 4) ((l.drop k).flatMap Cel.enc)).toArray) vb 47 #[.int .i64 x.k, .int .i64 x.t, .int .i64 x.v, .bool x.g] := (setRow_other w4 g vb _ hne).trans hv4
  rw [hC1] at hg5 hb5 hv5 ⊢
  clear hC1 hg4 hr4 hv4
  generalize w4.setRow g C1.toArray = w5 at *
  have hr5 := Rw.one hx hv5
  go_wp2_with (refine wpList_copyV (α := Vn) rfl _ _ 33 33 rfl 47 Try.underlying33 inf_vn _ _ _ _ 1 1 _ g (k * 4) rfl rfl (by exact hm4) [x] hr5 (by omega) C1 47 hg5 (by rw [sz_vn, LC1.out, HCL.out]; omega) ?_; refine hold ?_)
  refine held ?_
  have hg6 : (w5.setRow g (splice C1 (k * 4) (Cel.enc x)).toArray).heap[g]? = some (.cells (splice C1 (k * 4) (Cel.enc x)).toArray 47 (0, 0)) := setRow_heap w5 g _ _ _ _ hg5
  have hb6 : Below g w5 (w5.setRow g (splice C1 (k * 4) (Cel.enc x)).toArray) := below_setRow (Below.refl _ _) (Nat.le_refl _) _
  obtain ⟨C2, hC2⟩ : ∃ C2, splice C1 (k * 4) (Cel.enc x) = C2 := ⟨_, rfl⟩
  have HC2 : Hid (splice C1 (k * 4) (Cel.enc x) = C2) := Lib.hid hC2
  rw [hC2] at hg6 hb6 ⊢
  clear hC2
  generalize w5.setRow g C2.toArray = w6 at *
  have HF2 : Hid (C2.take ((n + 1) * 4) = (l.take k ++ x :: l.drop k).flatMap Cel.enc ∧ C2.length = c * 4) := Lib.hid ⟨by rw [← HC2.out, ← HC1.out]; exact HFIN.out, by rw [← HC2.out, ← HC1.out, L2.out, HCL.out]⟩
  go_wp2_with fail
  go_ret
  exact ⟨g, c, rfl, OwR.ofRow (by rw [List.length_append, List.length_take, List.length_cons, List.length_drop, hlen]; omega) hg6 hbg hroom hcm (by rw [sz_vn]; exact HF2.out.2) (by rw [sz_vn]; exact HF2.out.1), Below.trans (Below.mono hx4 hb) (Below.mono (Below.trans hb5 hb6) hbg)⟩

set_option maxHeartbeats 8000000 in
/-- In the middle, in a new row. -/
theorem vinsert_grow (g n c : Nat) (l : List Vn) (k : Nat) (x : Vn) (vb base : Nat) (w : World) (hown : OwR 47 base w (some ⟨g, 0, none⟩) n c l) (hok : ∀ y ∈ l, Cel.ok y) (hb : base ≤ w.heap.size) (hn : n ≤ 1000000) (hk : k < n) (hroom : c < n + 1) (hx : x.Ok) (hv : Bk w vb 47 #[.int .i64 x.k, .int .i64 x.t, .int .i64 x.v, .bool x.g]) :
    Calls Try.prog 44 #[.slice (some ⟨g, 0, none⟩) n c, .int .i64 (k : Nat), .slice (some ⟨vb, 0, none⟩) 1 1] w fun e w' => ∃ g c', e = .returned (.slice (some ⟨g, 0, none⟩) (n + 1) c') ∧ OwR 47 base w' (some ⟨g, 0, none⟩) (n + 1) c' (l.take k ++ x :: l.drop k) ∧ Below base w w' := by
  have hrv := Rw.one hx hv
  have hlen := hown.1
  obtain ⟨g', cur, he, hg, hbg, hle, hcm, hcl, hct⟩ := hown.row (by omega)
  simp only [Option.some.injEq, Addr.mk.injEq, and_true] at he
  subst he
  have hcm2 : c ≤ 9223372036854775807 := by unfold maxLen at hcm; omega
  have hrw := hown.rw (by omega) hok
  have hgs : g < w.heap.size := (Array.getElem?_eq_some_iff.1 hg).1
  have hk2 : (k : Int) ≤ (n : Int) := by omega
  have hkn : ((k : Int) == (n : Int)) = false := by simp; omega
  have hkn2 : ¬ ((k : Int) = (n : Int)) := by omega
  have hkn3 : ¬ (k = n) := by omega
  have hkc : ¬ (c = k) := by omega
  have hkc2 : k ≤ c := by omega
  rw [sz_vn] at hcl hct
  have hfl := fun (ys : List Vn) => flat_len ys
  have htk : ((l.take k).flatMap Cel.enc).length = k * 4 := by rw [hfl, List.length_take, hlen, sz_vn]; congr 1; omega
  have hdk : ((l.drop k).flatMap Cel.enc).length = (n - k) * 4 := by rw [hfl, List.length_drop, hlen, sz_vn]
  have hxl : (Cel.enc x).length = 4 := Cel.len x
  have hx1 : ([x].flatMap Cel.enc : List Value) = Cel.enc x := by simp
  obtain ⟨i0, hi0, hz0, hzs, hzb⟩ := info_parts el_vn.2.1
  rw [sz_vn] at hzs
  have hroom2 : (c : Int) < (n : Int) + 1 := by omega
  have hflat : w.rangeAt g 0 (l.flatMap Cel.enc) := hrw.flat
  have hsplit : l.flatMap Cel.enc = (l.take k).flatMap Cel.enc ++ (l.drop k).flatMap Cel.enc := by rw [← List.flatMap_append, List.take_append_drop]
  have hold : (Builtin.firstCells i0.size k (.slice (some ⟨g, 0, none⟩) k c)).run Try.prog w.drew = .ok ((l.take k).flatMap Cel.enc).toArray w.drew := by
    rw [hzs]
    exact run_firstCells_some w.drew 4 k ⟨g, 0, none⟩ k c ((l.take k).flatMap Cel.enc) (by rw [htk]) (fun j v hj => by
      rw [Addr.add_lit, Nat.zero_add]
      have := hflat j v (by rw [hsplit, List.getElem?_append_left ((List.getElem?_eq_some_iff.1 hj).1)]; exact hj)
      rwa [Nat.zero_add] at this)
  have hkk : (n : Int) + 1 - (k : Int) = ((n + 1 - k : Nat) : Int) := by omega
  have hik : k + (n + 1 - k) = n + 1 := by omega
  have hrz : ∀ ty, (Builtin.append_ #[33, 3] ty #[.slice (some ⟨g, 0, none⟩) k c, .int .i64 ((n : Int) + 1 - (k : Int))]).run Try.prog w =
      .ok (.slice (some ⟨w.heap.size, 0, none⟩) (n + 1) (grownCap w (n + 1) c 47)) (w.drew.alloc (.cells (((l.take k).flatMap Cel.enc).toArray ++ Builtin.zeroCells (Value.agg #[.int .i64 0, .int .i64 0, .int .i64 0, .bool false]).cells (n + 1 - k) ++ Builtin.zeroCells (Value.agg #[.int .i64 0, .int .i64 0, .int .i64 0, .bool false]).cells (grownCap w (n + 1) c 47 - (n + 1))) 47)) := fun ty => by
    have h := Lib.run_append_grow_zeros w 33 3 ty 47 i0 _ .i64 .i64 Try.underlying33 Try.underlying3 hi0 hz0 (some ⟨g, 0, none⟩) k c ((l.take k).flatMap Cel.enc) hold (n + 1 - k) (by omega) (by omega) (by omega) (by omega) (by rw [hzb]; omega) (by rw [hzb, hik]; exact growslice_fits hroom (by omega))
    rw [hik] at h
    rw [hkk]
    exact h
  have hGn : n + 1 ≤ grownCap w (n + 1) c 47 := grownCap_ge w _ _ _
  have hGm : grownCap w (n + 1) c 47 ≤ maxLen := grownCap_le_maxLen w (n + 1) c 47 (by unfold maxLen; omega)
  generalize grownCap w (n + 1) c 47 = G at *
  have hG63 : G ≤ 9223372036854775807 := by unfold maxLen at hGm; omega
  obtain ⟨ROW, hROW⟩ : ∃ ROW : List Value, ROW = (((l.take k).flatMap Cel.enc).toArray ++ Builtin.zeroCells (Value.agg #[.int .i64 0, .int .i64 0, .int .i64 0, .bool false]).cells (n + 1 - k) ++ Builtin.zeroCells (Value.agg #[.int .i64 0, .int .i64 0, .int .i64 0, .bool false]).cells (G - (n + 1))).toList := ⟨_, rfl⟩
  have hRA : ((l.take k).flatMap Cel.enc).toArray ++ Builtin.zeroCells (Value.agg #[.int .i64 0, .int .i64 0, .int .i64 0, .bool false]).cells (n + 1 - k) ++ Builtin.zeroCells (Value.agg #[.int .i64 0, .int .i64 0, .int .i64 0, .bool false]).cells (G - (n + 1)) = ROW.toArray := by rw [hROW]
  have hRp : ROW.take (k * 4) = (l.take k).flatMap Cel.enc := by
    rw [hROW]; simp only [Array.toList_append, List.append_assoc]; rw [List.take_left' htk]
  have hzc : ∀ q, (Builtin.zeroCells (Value.agg #[.int .i64 0, .int .i64 0, .int .i64 0, .bool false]).cells q).size = q * 4 := fun q => by simp [Builtin.zeroCells, Value.cells]
  have hRl : ROW.length = G * 4 := by
    rw [hROW]; simp only [Array.toList_append, List.length_append, Array.length_toList, hzc, htk]; omega
  rw [hRA] at hrz
  have HFIN : Hid ((splice (splice ROW (k * 4) (Cel.enc x)) (k * 4 + 4) ((l.drop k).flatMap Cel.enc)).take ((n + 1) * 4) = (l.take k ++ x :: l.drop k).flatMap Cel.enc) := Lib.hid (by
    have := splice_head ROW ((l.take k).flatMap Cel.enc) (Cel.enc x) ((l.drop k).flatMap Cel.enc) (by rw [htk]; exact hRp) (by rw [htk, hxl, hdk]; omega)
    rw [htk, hxl, hdk, show k * 4 + (4 + (n - k) * 4) = (n + 1) * 4 by omega] at this
    rw [this, List.flatMap_append, List.flatMap_cons])
  have L1 : Hid ((splice ROW (k * 4) (Cel.enc x)).length = ROW.length) := Lib.hid (splice_lenV _ _ _ (by rw [hxl]; omega))
  have L2 : Hid ((splice (splice ROW (k * 4) (Cel.enc x)) (k * 4 + 4) ((l.drop k).flatMap Cel.enc)).length = ROW.length) := Lib.hid (by rw [splice_lenV _ _ _ (by rw [hdk, L1.out]; omega), L1.out])
  have HRL := Lib.hid hRl
  have hrd := hrw.dropO (k := k) (by omega)
  have hw1 : IntKind.i64.wrap ((k : Int) + 1) = (k : Int) + 1 := by rw [IntKind.wrap_i64]; omega
  have hGi : ¬ (G = k) := by omega
  have hGim : ¬ (G = k + 1) := by omega
  have hk7 : (0 : Int) ≤ (k : Int) + 1 := by omega
  have hk5 : ((k : Int) + 1).toNat = k + 1 := by omega
  have hk3 : (k : Int) + 1 ≤ (n : Int) + 1 := by omega
  have hk3' : (k : Int) ≤ (n : Int) + 1 := by omega
  have hm2 : Nat.min (n - k) (n - k) = n - k := Nat.min_self _
  have hm3 : Nat.min (n - k) (n + 1 - (k + 1)) = n - k := by simp only [Nat.min_def]; split <;> omega
  have hm4 : Nat.min 1 (n + 1 - k) = 1 := by simp only [Nat.min_def]; split <;> omega
  have hE1 : Ext w (w.alloc (.cells ROW.toArray 47)).drew := ((Ext.refl w).alloc _).drew
  have hq1 : (w.alloc (.cells ROW.toArray 47)).drew.heap[w.heap.size]? = some (.cells ROW.toArray 47 (0, 0)) := World.alloc_heap_new w _
  have hv1 := hv.ext hE1
  have hrd1 := hrd.ext hE1
  have hvw : vb < w.heap.size := hv.lt
  clear hROW hRA hRp hRl hcl hfl htk hdk hxl hx1 hct hflat hsplit hold hkk hik hzc hrw hrd hrv hi0 hz0 hzs hzb hg hown hok hv
  go_enter Try.func44, Try.ntmps44
  go_wp2_with (at_builtin; refine Lib.wpList_append_run _ rfl _ _ _ _ rfl _ _ rfl rfl _ _ (hrz _) ?_; refine hold ?_)
  refine held ?_
  have hqn : ∀ b, b < w.heap.size → b ≠ w.heap.size := fun b h => by omega
  have hbq : base ≤ w.heap.size := hb
  clear hrz
  generalize (w.alloc (.cells ROW.toArray 47)).drew = w1 at *
  obtain ⟨q, hq⟩ : ∃ q, w.heap.size = q := ⟨_, rfl⟩
  rw [hq] at hq1 hvw hqn hbq ⊢
  have HQ := Lib.hid hq
  have hgs2 : g < q := by omega
  clear hq
  have hr5 := Rw.one hx hv1
  go_wp2_with (refine wpList_copyV (α := Vn) rfl _ _ 33 33 rfl 47 Try.underlying33 inf_vn _ _ _ _ 1 1 _ q (k * 4) rfl rfl (by exact hm4) [x] hr5 (by omega) ROW 47 hq1 (by rw [sz_vn, HRL.out]; omega) ?_; refine hold ?_)
  refine held ?_
  obtain ⟨C1, hC1⟩ : ∃ C1, splice ROW (k * 4) (Cel.enc x) = C1 := ⟨_, rfl⟩
  have HC1 := Lib.hid hC1
  have LC1 : Hid (C1.length = ROW.length) := Lib.hid (by rw [← HC1.out]; exact L1.out)
  have hg5 : (w1.setRow q (splice ROW (k * 4) (Cel.enc x)).toArray).heap[q]? = some (.cells (splice ROW (k * 4) (Cel.enc x)).toArray 47 (0, 0)) := setRow_heap w1 q _ _ _ _ hq1
  have hb5 : Below q w1 (w1.setRow q (splice ROW (k * 4) (Cel.enc x)).toArray) := below_setRow (Below.refl _ _) (Nat.le_refl _) _
  have hr6 : Rw (w1.setRow q (splice ROW (k * 4) (Cel.enc x)).toArray) (some ⟨g, k * 4, none⟩) (n - k) (c - k) (l.drop k) := hrd1.below (fun b off hb2 _ => by
    simp only [Option.some.injEq, Addr.mk.injEq] at hb2
    exact setRow_other w1 q b _ (by omega))
  rw [hC1] at hg5 hb5 hr6 ⊢
  clear hC1 hr5 hrd1 hv1 hq1
  generalize w1.setRow q C1.toArray = w5 at *
  have hq5 : q < w5.heap.size := (Array.getElem?_eq_some_iff.1 hg5).1
  go_upto_region 11 with fail
  refine region_tail 8 (by kernel_rfl) (by kernel_rfl) ?_
  simp only [List.take_succ_cons, List.take_zero, List.drop_succ_cons, List.drop_zero]
  repeat (go_big_quiet_step (fail))
  refine wpQuiet_nil ?_
  intro w6 hx6
  have hg6 := (hx6.block q hq5).trans hg5
  have hr7 := hr6.ext hx6
  clear hg5 hr6
  go_wp2_with (refine wpList_copyV (α := Vn) rfl _ _ 33 33 rfl 47 Try.underlying33 inf_vn _ _ _ _ (n - k) (c - k) _ q ((k + 1) * 4) rfl rfl (by first | exact hm2 | exact hm3) (l.drop k) hr7 (by omega) C1 47 hg6 (by rw [sz_vn, LC1.out, HRL.out]; omega) ?_; refine hold ?_)
  refine held ?_
  have e44 : (k + 1) * 4 = k * 4 + 4 := by omega
  rw [e44]
  have hg7 : (w6.setRow q (splice C1 (k * 4 + 4) ((l.drop k).flatMap Cel.enc)).toArray).heap[q]? = some (.cells (splice C1 (k * 4 + 4) ((l.drop k).flatMap Cel.enc)).toArray 47 (0, 0)) := setRow_heap w6 q _ _ _ _ hg6
  have hb7 : Below q w6 (w6.setRow q (splice C1 (k * 4 + 4) ((l.drop k).flatMap Cel.enc)).toArray) := below_setRow (Below.refl _ _) (Nat.le_refl _) _
  obtain ⟨C2, hC2⟩ : ∃ C2, splice C1 (k * 4 + 4) ((l.drop k).flatMap Cel.enc) = C2 := ⟨_, rfl⟩
  have HC2 := Lib.hid hC2
  rw [hC2] at hg7 hb7 ⊢
  clear hC2
  generalize w6.setRow q C2.toArray = w7 at *
  have HF2 : Hid (C2.take ((n + 1) * 4) = (l.take k ++ x :: l.drop k).flatMap Cel.enc ∧ C2.length = G * 4) := Lib.hid ⟨by rw [← HC2.out, ← HC1.out]; exact HFIN.out, by rw [← HC2.out, ← HC1.out, L2.out, HRL.out]⟩
  have hbl : Below base w w7 := Below.trans (Below.mono hE1 hb) (Below.mono (Below.trans (Below.trans hb5 (Below.mono hx6 (by omega))) hb7) hbq)
  go_wp2_with fail
  go_ret
  exact ⟨q, G, rfl, OwR.ofRow (by rw [List.length_append, List.length_take, List.length_cons, List.length_drop, hlen]; omega) hg7 hbq hGn hGm (by rw [sz_vn]; exact HF2.out.2) (by rw [sz_vn]; exact HF2.out.1), hbl⟩

/-- slices.Insert of one version. -/
theorem vinsert_any (a : Option Addr) (n c : Nat) (l : List Vn) (k : Nat) (x : Vn) (vb base : Nat) (w : World) (hown : OwR 47 base w a n c l) (hok : ∀ y ∈ l, Cel.ok y) (hb : base ≤ w.heap.size) (hn : n ≤ 1000000) (hk : k ≤ n) (hx : x.Ok) (hv : Bk w vb 47 #[.int .i64 x.k, .int .i64 x.t, .int .i64 x.v, .bool x.g]) (hne : 0 < n → ∀ g, a = some ⟨g, 0, none⟩ → vb ≠ g) :
    Calls Try.prog 44 #[.slice a n c, .int .i64 (k : Nat), .slice (some ⟨vb, 0, none⟩) 1 1] w fun e w' => ∃ g c', e = .returned (.slice (some ⟨g, 0, none⟩) (n + 1) c') ∧ OwR 47 base w' (some ⟨g, 0, none⟩) (n + 1) c' (l.take k ++ x :: l.drop k) ∧ Below base w w' := by
  rcases Nat.lt_or_ge k n with h | h
  · obtain ⟨g, cur, rfl, _, _, _, _, _, _⟩ := hown.row (by omega)
    rcases Nat.lt_or_ge c (n + 1) with h2 | h2
    · exact vinsert_grow g n c l k x vb base w hown hok hb hn h h2 hx hv
    · exact vinsert_room g n c l k x vb base w hown hok hb hn h h2 hx hv (hne (by omega) g rfl)
  · obtain rfl : k = n := by omega
    have e : l.take k ++ x :: l.drop k = l ++ [x] := by rw [List.take_of_length_le (by rw [hown.1]; exact Nat.le_refl _), List.drop_of_length_le (by rw [hown.1]; exact Nat.le_refl _)]
    rw [e]
    exact vinsert_end a k c l x vb base w hown hb hn hx hv
end Go.Proofs.Ytacicanjmleikaa
