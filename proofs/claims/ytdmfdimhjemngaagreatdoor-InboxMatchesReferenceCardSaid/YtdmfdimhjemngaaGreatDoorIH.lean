/-
  A first reply put into a box; the search for a reply's place; the box's copy: the package, walked. Written by wip/gen_ih.py.
-/
import Derived.Test.YtdmfdimhjemngaaGreatDoorIG
namespace Go.Proofs.YtdmfdimhjemngaaGreatDoor
open Go.RowKit Go.Sort Go.Shelf
set_option linter.unusedSimpArgs false
set_option linter.unusedVariables false
set_option maxRecDepth 100000

set_option maxHeartbeats 4000000 in
theorem iinsert_nil (x : Rp) (hx : x.Ok) (w : World) :
    Calls Tryz.prog 37 #[.slice none 0 0, .int .i64 0, .agg #[.int .i64 x.a, .int .i64 x.h, .int .i64 x.r, .int .u64 x.n, .int .i64 x.lo, .int .i64 x.hi, .int .i64 x.k, .int .i64 x.t, .int .i64 x.c, .int .i64 x.s]] w fun e w' => ∃ g, e = .returned (.slice (some ⟨g, 0, none⟩) 1 1) ∧ OwR 60 w.heap.size w' (some ⟨g, 0, none⟩) 1 1 [x] ∧ Ext w w' := by
  obtain ⟨hT, ⟨i0, hi, hz0, hz1, hz2⟩⟩ : True ∧ ∃ i, Tryz.prog.info? 60 = some i ∧ i.zero = some (.agg #[.int .i64 0, .int .i64 0, .int .i64 0, .int .u64 0, .int .i64 0, .int .i64 0, .int .i64 0, .int .i64 0, .int .i64 0, .int .i64 0]) ∧ i.size = 10 ∧ i.bytes = 80 := ⟨trivial, info_parts el_rp.2.1⟩
  have hQ := Bk.new w 60 #[.int .i64 x.a, .int .i64 x.h, .int .i64 x.r, .int .u64 x.n, .int .i64 x.lo, .int .i64 x.hi, .int .i64 x.k, .int .i64 x.t, .int .i64 x.c, .int .i64 x.s]
  have hE : Ext w (w.alloc (.cells #[.int .i64 x.a, .int .i64 x.h, .int .i64 x.r, .int .u64 x.n, .int .i64 x.lo, .int .i64 x.hi, .int .i64 x.k, .int .i64 x.t, .int .i64 x.c, .int .i64 x.s] 60)) := (Ext.refl w).alloc _
  go_enter Tryz.func37, Tryz.ntmps37
  go_upto_region 1 with fail
  generalize w.alloc (.cells #[.int .i64 x.a, .int .i64 x.h, .int .i64 x.r, .int .u64 x.n, .int .i64 x.lo, .int .i64 x.hi, .int .i64 x.k, .int .i64 x.t, .int .i64 x.c, .int .i64 x.s] 60) = V at *
  generalize w.heap.size = qb at hQ ⊢
  have hb80 : i0.bytes * 1 ≤ 281474976710656 := by rw [hz2]; omega
  go_wp2_with (at_make; refine wpList_make_full _ rfl _ _ 27 rfl V.heap.size 60 i0 _ 10 Tryz.underlying27 hi hz0 hz1 .i64 .i64 _ _ 1 rfl rfl rfl rfl hb80 (by unfold maxLen; omega) (Nat.le_refl _) ?_; intro w1 ho1 hg1; refine hold ?_)
  refine held ?_
  obtain ⟨cur0, hcur0, hsz0⟩ : ∃ cur0 : Array Value, w1.heap[V.heap.size]? = some (.cells cur0 60 (0, 0)) ∧ cur0.size = 1 * 10 := by
    rcases ho1.2 with ⟨hv, _⟩ | ⟨g', cap, cur, hv, _, hb, _, _, hs, _⟩
    · cases hv
    · simp only [Value.slice.injEq, Option.some.injEq, Addr.mk.injEq, and_true, true_and] at hv
      obtain ⟨rfl, rfl⟩ := hv
      exact ⟨cur, hb, hs⟩
  have hx1 : Ext V w1 := (Below.refl V.heap.size V).grown hg1 (Nat.le_refl _) (fun j hj => by cases hj)
  have hgw : w.heap.size ≤ V.heap.size := hE.sz
  have hg1s := (Array.getElem?_eq_some_iff.1 hcur0).1
  have hQ1 := hQ.ext hx1
  have hqg : qb < V.heap.size := hQ.lt
  have hEV := hE
  have hEg : Below V.heap.size V w1 := hx1
  clear ho1 hg1 hx1 hb80 hQ
  generalize V.heap.size = g at *
  have hc0 : w1.heap[g]? = some (.cells cur0.toList.toArray 60 (0, 0)) := by simpa using hcur0
  have hl0 : cur0.toList.length = 10 := by simpa using hsz0
  clear hcur0 hsz0
  generalize cur0.toList = L0 at *
  have hxl : (Cel.enc x).length = 10 := Cel.len x
  have HFIN : Hid (splice L0 0 (Cel.enc x) = [x].flatMap Cel.enc) := Lib.hid (by
    have hd : L0.drop (Cel.enc x).length = [] := List.drop_eq_nil_of_le (by omega)
    simp [splice, hd])
  have HNO : Hid (splice L0 0 ([] : List Value) = L0) := Lib.hid (by simp [splice])
  go_upto_region 2 with fail
  go_wp2_with (refine wpList_copyR (α := Rp) rfl _ _ 27 27 rfl 60 Tryz.underlying27 inf_rp _ _ _ _ _ _ rfl rfl [] (Rw.nil w1) g 0 L0 60 hc0 (by omega) (fun h => absurd h (by omega)) (by omega) ?_; refine hold ?_)
  refine held ?_
  have hc1 : (w1.setRow g (splice L0 0 ([] : List Value)).toArray).heap[g]? = some (.cells (splice L0 0 ([] : List Value)).toArray 60 (0, 0)) := setRow_heap w1 g _ _ _ _ hc0
  have hb1 : Below g w1 (w1.setRow g (splice L0 0 ([] : List Value)).toArray) := below_setRow (Below.refl _ _) (Nat.le_refl _) _
  rw [HNO.out] at hc1 hb1 ⊢
  generalize w1.setRow g L0.toArray = w2 at *
  have hQ2 : Bk w2 qb 60 #[.int .i64 x.a, .int .i64 x.h, .int .i64 x.r, .int .u64 x.n, .int .i64 x.lo, .int .i64 x.hi, .int .i64 x.k, .int .i64 x.t, .int .i64 x.c, .int .i64 x.s] := (hb1.block qb hqg).trans hQ1
  have r0 := hQ2.c 0 _ rfl
  have r1 := hQ2.c 1 _ rfl
  have r2 := hQ2.c 2 _ rfl
  have r3 := hQ2.c 3 _ rfl
  have r4 := hQ2.c 4 _ rfl
  have r5 := hQ2.c 5 _ rfl
  have r6 := hQ2.c 6 _ rfl
  have r7 := hQ2.c 7 _ rfl
  have r8 := hQ2.c 8 _ rfl
  have r9 := hQ2.c 9 _ rfl
  go_upto_region 3 with fail
  go_wp2_with (refine wpList_storeR (α := Rp) rfl _ _ 60 rfl inf_rp g 0 x _ rfl rfl rfl L0 60 hc1 (by rw [sz_rp, hl0]; omega) ?_; refine hold ?_)
  refine held ?_
  clear r0 r1 r2 r3 r4 r5 r6 r7 r8 r9
  have hc2 : (w2.setRow g (splice L0 0 (Cel.enc x)).toArray).heap[g]? = some (.cells (splice L0 0 (Cel.enc x)).toArray 60 (0, 0)) := setRow_heap w2 g _ _ _ _ hc1
  have hb2 : Below g w2 (w2.setRow g (splice L0 0 (Cel.enc x)).toArray) := below_setRow (Below.refl _ _) (Nat.le_refl _) _
  rw [HFIN.out] at hc2 hb2 ⊢
  obtain ⟨L2, hL2⟩ : ∃ L2, ([x].flatMap Cel.enc : List Value) = L2 := ⟨_, rfl⟩
  have hl2 : L2.length = 10 := by rw [← hL2]; simp [hxl]
  rw [hL2] at hc2 hb2 ⊢
  have HL2 := Lib.hid hL2
  clear hL2
  generalize w2.setRow g L2.toArray = w3 at *
  have hb3 : Below g V w3 := Below.trans hEg (Below.trans hb1 hb2)
  go_upto_region 4 with fail
  refine region_tail 7 (by kernel_rfl) (by kernel_rfl) ?_
  simp only [List.take_succ_cons, List.take_zero, List.drop_succ_cons, List.drop_zero]
  repeat (go_big_quiet_step (fail))
  refine wpQuiet_nil ?_
  intro w4 hx4
  have hc4 : w4.heap[g]? = some (.cells L2.toArray 60 (0, 0)) := (hx4.block g (Array.getElem?_eq_some_iff.1 hc2).1).trans hc2
  have hb4 : Below g V w4 := Below.trans hb3 (Below.mono hx4 (by have := (Array.getElem?_eq_some_iff.1 hc2).1; omega))
  have HNO2 : Hid (splice L2 0 ([] : List Value) = L2) := Lib.hid (by simp [splice])
  go_wp2_with (refine wpList_copyR (α := Rp) rfl _ _ 27 27 rfl 60 Tryz.underlying27 inf_rp _ _ _ _ _ _ rfl rfl [] (Rw.nil w4) g 0 L2 60 hc4 (by omega) (fun h => absurd h (by omega)) (by omega) ?_; refine hold ?_)
  refine held ?_
  have hc5 : (w4.setRow g (splice L2 0 ([] : List Value)).toArray).heap[g]? = some (.cells (splice L2 0 ([] : List Value)).toArray 60 (0, 0)) := setRow_heap w4 g _ _ _ _ hc4
  have hb5 : Below g w4 (w4.setRow g (splice L2 0 ([] : List Value)).toArray) := below_setRow (Below.refl _ _) (Nat.le_refl _) _
  rw [HNO2.out] at hc5 hb5 ⊢
  generalize w4.setRow g L2.toArray = w5 at *
  go_wp2_with fail
  go_ret
  exact ⟨g, rfl, OwR.ofHeap rfl hc5 hgw (by simpa using HL2.out.symm) (by unfold maxLen; omega), Below.trans hEV (Below.mono (Below.trans hb4 hb5) hgw)⟩

/-- insert, whatever the list is. -/
theorem iinsert_any (a : Option Addr) (n c : Nat) (xs : List Rp) (k : Nat) (hk : k ≤ n) (x : Rp) (hx : x.Ok) (w : World) (h1 : Rw w a n c xs) (h0 : (a = none ∧ c = 0) ∨ ∃ g, a = some ⟨g, 0, none⟩) (hn : n ≤ 1000) :
    Calls Tryz.prog 37 #[.slice a n c, .int .i64 (k : Int), .agg #[.int .i64 x.a, .int .i64 x.h, .int .i64 x.r, .int .u64 x.n, .int .i64 x.lo, .int .i64 x.hi, .int .i64 x.k, .int .i64 x.t, .int .i64 x.c, .int .i64 x.s]] w fun e w' => ∃ g, e = .returned (.slice (some ⟨g, 0, none⟩) (n + 1) (n + 1)) ∧ OwR 60 w.heap.size w' (some ⟨g, 0, none⟩) (n + 1) (n + 1) (xs.take k ++ x :: xs.drop k) ∧ Ext w w' := by
  rcases h0 with ⟨rfl, rfl⟩ | ⟨g, rfl⟩
  · obtain rfl : n = 0 := by have := h1.le; omega
    obtain rfl : xs = [] := List.eq_nil_of_length_eq_zero h1.hlen
    obtain rfl : k = 0 := by omega
    exact iinsert_nil x hx w
  · exact iinsert_some g 0 n c xs k hk x hx w h1 hn

theorem icmp_any (x : Rp) (t : Int) (hx : 0 ≤ x.a ∧ x.a ≤ 16) (ht : 0 ≤ t ∧ t ≤ 16) (w : World) :
    Calls Tryz.prog 35 #[.agg #[.int .i64 x.a, .int .i64 x.h, .int .i64 x.r, .int .u64 x.n, .int .i64 x.lo, .int .i64 x.hi, .int .i64 x.k, .int .i64 x.t, .int .i64 x.c, .int .i64 x.s], .int .i64 t] w fun e w' => e = .returned (.int .i64 (x.a - t)) ∧ Ext w w' := by
  have hE : Ext w (w.alloc (.cells #[.int .i64 x.a, .int .i64 x.h, .int .i64 x.r, .int .u64 x.n, .int .i64 x.lo, .int .i64 x.hi, .int .i64 x.k, .int .i64 x.t, .int .i64 x.c, .int .i64 x.s] 60)) := (Ext.refl w).alloc _
  have hwr : IntKind.i64.wrap (x.a - t) = x.a - t := IntWalk.i64_in _ (by omega)
  go_enter Tryz.func35, Tryz.ntmps35
  go_wp2_with fail
  go_ret
  exact ⟨rfl, hE⟩

/-- What the search answers. -/
def SrP (xs : List Rp) (t : Int) (w w' : World) (e : Ending) : Prop := ∃ i : Nat, e = .returned (.tuple #[.int .i64 (i : Int), .bool (xs.any fun y => y.a == t)]) ∧ Ext w w' ∧ i ≤ xs.length ∧ (∀ j, j < i → (nthR xs j).a < t) ∧ (i < xs.length → t ≤ (nthR xs i).a)
def Risn (xs : List Rp) : Prop := ∀ i j, i < j → j < xs.length → (nthR xs i).a < (nthR xs j).a
theorem any_at {xs : List Rp} {t : Int} (hr : Risn xs) {i : Nat} (h1 : ∀ j, j < i → (nthR xs j).a < t) (h2 : i < xs.length → t ≤ (nthR xs i).a) : (xs.any fun y => y.a == t) = (decide (i < xs.length) && (nthR xs i).a == t) := by
  by_cases hi : i < xs.length
  · rcases he : ((nthR xs i).a == t) with _ | _
    · simp only [Bool.and_false]
      refine any_no (fun j hj e => ?_)
      have hne : (nthR xs i).a ≠ t := by simpa using he
      have := h2 hi
      rcases Nat.lt_trichotomy j i with h | h | h
      · have := h1 j h; omega
      · subst h; omega
      · have := hr i j h hj; omega
    · rw [decide_eq_true hi]
      exact any_iff.2 ⟨i, hi, by simpa using he⟩
  · rw [decide_eq_false hi]
    refine any_no (fun j hj e => ?_)
    have := h1 j (by omega)
    omega

set_option maxHeartbeats 4000000 in
theorem isearch_any (a : Option Addr) (n c : Nat) (xs : List Rp) (t : Int) (ht : 0 ≤ t ∧ t ≤ 16) (w : World) (h1 : Rw w a n c xs) (hn : n ≤ 1000) (hr : Risn xs) (hb : ∀ i, i < n → 0 ≤ (nthR xs i).a ∧ (nthR xs i).a ≤ 16) :
    Calls Tryz.prog 34 #[.slice a n c, .int .i64 t, .func (.func 35) #[] #[]] w fun e w' => SrP xs t w w' e := by
  have bd := h1.bd
  have HL := Lib.hid h1.hlen
  have HR := Lib.hid hr
  clear hr
  go_enter Tryz.func34, Tryz.ntmps34
  go_wp2_with fail
  go_loopw [9, 10] (fun s9 s10 wr => ∃ (lo hi : Nat), s9 = .int .i64 lo ∧ s10 = .int .i64 hi ∧ lo ≤ hi ∧ hi ≤ n ∧ Ext w wr ∧ Hid ((∀ i : Nat, i < lo → (nthR xs i).a < t) ∧ (∀ i : Nat, hi ≤ i → i < n → t ≤ (nthR xs i).a))) (fun s9 s10 _ => (intOf s10).toNat - (intOf s9).toNat)
  case atStart => exact ⟨0, n, rfl, rfl, by omega, by omega, Ext.refl _, Lib.hid ⟨fun i hi => by omega, fun i h1 h2 => by omega⟩⟩
  case round =>
    obtain ⟨lo, hi, rfl, rfl, hlh, h9, hx, I⟩ := hrel
    by_cases hlt : lo < hi
    · obtain ⟨h, hh⟩ : ∃ h : Nat, (lo + hi) / 2 = h := ⟨_, rfl⟩
      have hm : ((lo : Int) + (hi : Int)) / 2 = (h : Int) := by omega
      have hhn : h < n := by omega
      have hh1 : lo ≤ h ∧ h < hi := by omega
      obtain ⟨x1, o1, rfl, hc1⟩ := h1.at (by omega)
      have hrr := rangeAt_ext (hc1 h hhn) hx
      rw [sz_rp] at hrr
      have hbx := hb h hhn
      have HX : Hid (nthR xs h = nthR xs h) := Lib.hid rfl
      have HMO : Hid (((nthR xs h).a < t → ∀ i, i ≤ h → (nthR xs i).a < t) ∧ (t ≤ (nthR xs h).a → ∀ i, h ≤ i → i < n → t ≤ (nthR xs i).a)) := Lib.hid ⟨fun h2 i hi => by
          rcases Nat.lt_or_ge i h with h3 | h3
          · have := HR.out i h h3 (by rw [HL.out]; exact hhn); omega
          · obtain rfl : i = h := by omega
            exact h2, fun h2 i hi hin => by
          rcases Nat.lt_or_ge h i with h3 | h3
          · have := HR.out h i h3 (by rw [HL.out]; exact hin); omega
          · obtain rfl : i = h := by omega
            exact h2⟩
      clear HX hc1 hh
      generalize nthR xs h = x at *
      obtain ⟨d0, d1, d2, d3, d4, d5, d6, d7, d8, d9⟩ := cells_rp hrr
      clear hrr
      have hc := icmp_any x t hbx ht wr
      generalize hdd : x.a - t = dd at hc
      have HDD := Lib.hid hdd
      clear hdd
      by_cases hp : dd < 0
      · have hp2 : decide (dd < 0) = true := decide_eq_true hp
        have HP := Lib.hid hp
        go_wp2_with fail
        refine hc.mono ?_
        rintro e w1 ⟨rfl, hy⟩
        clear d0 d1 d2 d3 d4 d5 d6 d7 d8 d9
        go_wp2_with fail
        refine ⟨⟨h + 1, hi, by go_num, rfl, by omega, h9, hx.trans hy, Lib.hid ⟨fun i hi' => HMO.out.1 (by have := HDD.out; have := HP.out; omega) i (by omega), I.out.2⟩⟩, ?_⟩
        simp only [intOf]
        omega
      · have hp2 : decide (dd < 0) = false := decide_eq_false hp
        have HP := Lib.hid hp
        go_wp2_with fail
        refine hc.mono ?_
        rintro e w1 ⟨rfl, hy⟩
        clear d0 d1 d2 d3 d4 d5 d6 d7 d8 d9
        go_wp2_with fail
        refine ⟨⟨lo, h, rfl, rfl, by omega, by omega, hx.trans hy, Lib.hid ⟨I.out.1, fun i hi' hin => HMO.out.2 (by have := HDD.out; have := HP.out; omega) i (by omega) hin⟩⟩, ?_⟩
        simp only [intOf]
        omega
    · obtain rfl : lo = hi := by omega
      have HA : Hid ((xs.any fun y => y.a == t) = (decide (lo < xs.length) && (nthR xs lo).a == t)) := Lib.hid (any_at HR.out I.out.1 (fun h => I.out.2 lo (Nat.le_refl _) (by rw [← HL.out]; exact h)))
      have HI : Hid (lo ≤ xs.length ∧ (∀ j, j < lo → (nthR xs j).a < t) ∧ (lo < xs.length → t ≤ (nthR xs lo).a)) := Lib.hid ⟨by rw [HL.out]; exact h9, I.out.1, fun h => I.out.2 lo (Nat.le_refl _) (by rw [← HL.out]; exact h)⟩
      by_cases hln : lo < n
      · obtain ⟨x1, o1, rfl, hc1⟩ := h1.at (by omega)
        have hrr := rangeAt_ext (hc1 lo hln) hx
        rw [sz_rp] at hrr
        have hbx := hb lo hln
        have HLN : Hid (decide (lo < xs.length) = true) := Lib.hid (by rw [HL.out]; exact decide_eq_true hln)
        clear hc1
        rw [HLN.out] at HA
        obtain ⟨x, hxe⟩ : ∃ x, nthR xs lo = x := ⟨_, rfl⟩
        rw [hxe] at HA hrr hbx
        have HXE := Lib.hid hxe
        clear hxe
        obtain ⟨d0, d1, d2, d3, d4, d5, d6, d7, d8, d9⟩ := cells_rp hrr
        clear hrr
        have hc := icmp_any x t hbx ht wr
        have hq : (x.a - t == 0) = (x.a == t) := by
          rw [Bool.eq_iff_iff]
          simp only [beq_iff_eq]
          omega
        have HQ := Lib.hid hq
        clear hq
        have hll : (lo : Int) < n := by omega
        go_wp2_with fail
        refine hc.mono ?_
        rintro e w1 ⟨rfl, hy⟩
        clear d0 d1 d2 d3 d4 d5 d6 d7 d8 d9
        generalize x.a - t = dd at *
        rcases hz : (dd == 0) with _ | _
        all_goals
          have HZ := Lib.hid hz
          go_wp2_with fail
          go_ret2
          exact ⟨lo, by rw [HA.out, ← HQ.out, HZ.out]; rfl, hx.trans hy, HI.out⟩
      · have HLN : Hid (decide (lo < xs.length) = false) := Lib.hid (by rw [HL.out]; exact decide_eq_false hln)
        go_wp2_with fail
        go_ret2
        exact ⟨lo, by rw [HA.out, HLN.out]; rfl, hx, HI.out⟩
end Go.Proofs.YtdmfdimhjemngaaGreatDoor
