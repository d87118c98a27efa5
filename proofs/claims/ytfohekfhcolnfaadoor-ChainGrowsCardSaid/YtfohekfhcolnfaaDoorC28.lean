/-
  The law ChainBefore, walked. Written by wip/gen_c28.py.
-/
import Derived.Test.YtfohekfhcolnfaaDoorC27
import Derived.Test.YtfohekfhcolnfaaDoorLib14
namespace Go.Proofs.YtfohekfhcolnfaaDoor
open Go.RowKit Go.Sort Go.Shelf
set_option linter.unusedSimpArgs false
set_option linter.unusedVariables false
set_option maxRecDepth 100000

theorem lenlit30 {vs : List Value} (h : vs.length = 30) : ∃ x0 x1 x2 x3 x4 x5 x6 x7 x8 x9 x10 x11 x12 x13 x14 x15 x16 x17 x18 x19 x20 x21 x22 x23 x24 x25 x26 x27 x28 x29 : Value, vs = [x0, x1, x2, x3, x4, x5, x6, x7, x8, x9, x10, x11, x12, x13, x14, x15, x16, x17, x18, x19, x20, x21, x22, x23, x24, x25, x26, x27, x28, x29] := by
  obtain ⟨x0, v0, rfl, h0⟩ := len_cons h
  obtain ⟨x1, v1, rfl, h1⟩ := len_cons h0
  obtain ⟨x2, v2, rfl, h2⟩ := len_cons h1
  obtain ⟨x3, v3, rfl, h3⟩ := len_cons h2
  obtain ⟨x4, v4, rfl, h4⟩ := len_cons h3
  obtain ⟨x5, v5, rfl, h5⟩ := len_cons h4
  obtain ⟨x6, v6, rfl, h6⟩ := len_cons h5
  obtain ⟨x7, v7, rfl, h7⟩ := len_cons h6
  obtain ⟨x8, v8, rfl, h8⟩ := len_cons h7
  obtain ⟨x9, v9, rfl, h9⟩ := len_cons h8
  obtain ⟨x10, v10, rfl, h10⟩ := len_cons h9
  obtain ⟨x11, v11, rfl, h11⟩ := len_cons h10
  obtain ⟨x12, v12, rfl, h12⟩ := len_cons h11
  obtain ⟨x13, v13, rfl, h13⟩ := len_cons h12
  obtain ⟨x14, v14, rfl, h14⟩ := len_cons h13
  obtain ⟨x15, v15, rfl, h15⟩ := len_cons h14
  obtain ⟨x16, v16, rfl, h16⟩ := len_cons h15
  obtain ⟨x17, v17, rfl, h17⟩ := len_cons h16
  obtain ⟨x18, v18, rfl, h18⟩ := len_cons h17
  obtain ⟨x19, v19, rfl, h19⟩ := len_cons h18
  obtain ⟨x20, v20, rfl, h20⟩ := len_cons h19
  obtain ⟨x21, v21, rfl, h21⟩ := len_cons h20
  obtain ⟨x22, v22, rfl, h22⟩ := len_cons h21
  obtain ⟨x23, v23, rfl, h23⟩ := len_cons h22
  obtain ⟨x24, v24, rfl, h24⟩ := len_cons h23
  obtain ⟨x25, v25, rfl, h25⟩ := len_cons h24
  obtain ⟨x26, v26, rfl, h26⟩ := len_cons h25
  obtain ⟨x27, v27, rfl, h27⟩ := len_cons h26
  obtain ⟨x28, v28, rfl, h28⟩ := len_cons h27
  obtain ⟨x29, v29, rfl, h29⟩ := len_cons h28
  obtain rfl := len_nil h29
  exact ⟨x0, x1, x2, x3, x4, x5, x6, x7, x8, x9, x10, x11, x12, x13, x14, x15, x16, x17, x18, x19, x20, x21, x22, x23, x24, x25, x26, x27, x28, x29, rfl⟩


/-- A reply stored into a block. -/
def stW (W : World) (b : Nat) (x : Rp) : World := ((((((((((W).setCell ⟨b, 0, none⟩ (.int .i64 x.a)).setCell ⟨b, 1, none⟩ (.int .i64 x.h)).setCell ⟨b, 2, none⟩ (.int .i64 x.r)).setCell ⟨b, 3, none⟩ (.int .u64 x.n)).setCell ⟨b, 4, none⟩ (.int .i64 x.lo)).setCell ⟨b, 5, none⟩ (.int .i64 x.hi)).setCell ⟨b, 6, none⟩ (.int .i64 x.k)).setCell ⟨b, 7, none⟩ (.int .i64 x.t)).setCell ⟨b, 8, none⟩ (.int .i64 x.c)).setCell ⟨b, 9, none⟩ (.int .i64 x.s)
theorem stW_size (W : World) (b : Nat) (x : Rp) : (stW W b x).heap.size = W.heap.size := by simp [stW]
theorem stW_ext {V W : World} {b : Nat} (h : Ext V W) (hb : V.heap.size ≤ b) (x : Rp) : Ext V (stW W b x) := by
  unfold stW
  exact ((((((((((h.setCell (p := ⟨b, 0, none⟩) hb _).setCell (p := ⟨b, 1, none⟩) hb _).setCell (p := ⟨b, 2, none⟩) hb _).setCell (p := ⟨b, 3, none⟩) hb _).setCell (p := ⟨b, 4, none⟩) hb _).setCell (p := ⟨b, 5, none⟩) hb _).setCell (p := ⟨b, 6, none⟩) hb _).setCell (p := ⟨b, 7, none⟩) hb _).setCell (p := ⟨b, 8, none⟩) hb _).setCell (p := ⟨b, 9, none⟩) hb _)
theorem stW_other {W : World} {b b' : Nat} (h : b' ≠ b) (x : Rp) : (stW W b x).heap[b']? = W.heap[b']? := by
  unfold stW
  refine (heap_setCell_other _ ⟨b, 9, none⟩ b' _ h).trans ?_; refine (heap_setCell_other _ ⟨b, 8, none⟩ b' _ h).trans ?_; refine (heap_setCell_other _ ⟨b, 7, none⟩ b' _ h).trans ?_; refine (heap_setCell_other _ ⟨b, 6, none⟩ b' _ h).trans ?_; refine (heap_setCell_other _ ⟨b, 5, none⟩ b' _ h).trans ?_; refine (heap_setCell_other _ ⟨b, 4, none⟩ b' _ h).trans ?_; refine (heap_setCell_other _ ⟨b, 3, none⟩ b' _ h).trans ?_; refine (heap_setCell_other _ ⟨b, 2, none⟩ b' _ h).trans ?_; refine (heap_setCell_other _ ⟨b, 1, none⟩ b' _ h).trans ?_; refine (heap_setCell_other _ ⟨b, 0, none⟩ b' _ h).trans ?_; rfl
theorem RpB.stored {W : World} {b : Nat} {y : Rp} (h : RpB W b y) (x : Rp) : RpB (stW W b x) b x := by
  unfold stW
  have h0 : ((W).setCell ⟨b, 0, none⟩ (.int .i64 x.a)).heap[b]? = some (.cells #[.int .i64 x.a, .int .i64 y.h, .int .i64 y.r, .int .u64 y.n, .int .i64 y.lo, .int .i64 y.hi, .int .i64 y.k, .int .i64 y.t, .int .i64 y.c, .int .i64 y.s] 39 (0, 0)) := heap_setCell_same _ b 0 _ _ _ h
  have h1 : (((W).setCell ⟨b, 0, none⟩ (.int .i64 x.a)).setCell ⟨b, 1, none⟩ (.int .i64 x.h)).heap[b]? = some (.cells #[.int .i64 x.a, .int .i64 x.h, .int .i64 y.r, .int .u64 y.n, .int .i64 y.lo, .int .i64 y.hi, .int .i64 y.k, .int .i64 y.t, .int .i64 y.c, .int .i64 y.s] 39 (0, 0)) := heap_setCell_same _ b 1 _ _ _ h0
  have h2 : ((((W).setCell ⟨b, 0, none⟩ (.int .i64 x.a)).setCell ⟨b, 1, none⟩ (.int .i64 x.h)).setCell ⟨b, 2, none⟩ (.int .i64 x.r)).heap[b]? = some (.cells #[.int .i64 x.a, .int .i64 x.h, .int .i64 x.r, .int .u64 y.n, .int .i64 y.lo, .int .i64 y.hi, .int .i64 y.k, .int .i64 y.t, .int .i64 y.c, .int .i64 y.s] 39 (0, 0)) := heap_setCell_same _ b 2 _ _ _ h1
  have h3 : (((((W).setCell ⟨b, 0, none⟩ (.int .i64 x.a)).setCell ⟨b, 1, none⟩ (.int .i64 x.h)).setCell ⟨b, 2, none⟩ (.int .i64 x.r)).setCell ⟨b, 3, none⟩ (.int .u64 x.n)).heap[b]? = some (.cells #[.int .i64 x.a, .int .i64 x.h, .int .i64 x.r, .int .u64 x.n, .int .i64 y.lo, .int .i64 y.hi, .int .i64 y.k, .int .i64 y.t, .int .i64 y.c, .int .i64 y.s] 39 (0, 0)) := heap_setCell_same _ b 3 _ _ _ h2
  have h4 : ((((((W).setCell ⟨b, 0, none⟩ (.int .i64 x.a)).setCell ⟨b, 1, none⟩ (.int .i64 x.h)).setCell ⟨b, 2, none⟩ (.int .i64 x.r)).setCell ⟨b, 3, none⟩ (.int .u64 x.n)).setCell ⟨b, 4, none⟩ (.int .i64 x.lo)).heap[b]? = some (.cells #[.int .i64 x.a, .int .i64 x.h, .int .i64 x.r, .int .u64 x.n, .int .i64 x.lo, .int .i64 y.hi, .int .i64 y.k, .int .i64 y.t, .int .i64 y.c, .int .i64 y.s] 39 (0, 0)) := heap_setCell_same _ b 4 _ _ _ h3
  have h5 : (((((((W).setCell ⟨b, 0, none⟩ (.int .i64 x.a)).setCell ⟨b, 1, none⟩ (.int .i64 x.h)).setCell ⟨b, 2, none⟩ (.int .i64 x.r)).setCell ⟨b, 3, none⟩ (.int .u64 x.n)).setCell ⟨b, 4, none⟩ (.int .i64 x.lo)).setCell ⟨b, 5, none⟩ (.int .i64 x.hi)).heap[b]? = some (.cells #[.int .i64 x.a, .int .i64 x.h, .int .i64 x.r, .int .u64 x.n, .int .i64 x.lo, .int .i64 x.hi, .int .i64 y.k, .int .i64 y.t, .int .i64 y.c, .int .i64 y.s] 39 (0, 0)) := heap_setCell_same _ b 5 _ _ _ h4
  have h6 : ((((((((W).setCell ⟨b, 0, none⟩ (.int .i64 x.a)).setCell ⟨b, 1, none⟩ (.int .i64 x.h)).setCell ⟨b, 2, none⟩ (.int .i64 x.r)).setCell ⟨b, 3, none⟩ (.int .u64 x.n)).setCell ⟨b, 4, none⟩ (.int .i64 x.lo)).setCell ⟨b, 5, none⟩ (.int .i64 x.hi)).setCell ⟨b, 6, none⟩ (.int .i64 x.k)).heap[b]? = some (.cells #[.int .i64 x.a, .int .i64 x.h, .int .i64 x.r, .int .u64 x.n, .int .i64 x.lo, .int .i64 x.hi, .int .i64 x.k, .int .i64 y.t, .int .i64 y.c, .int .i64 y.s] 39 (0, 0)) := heap_setCell_same _ b 6 _ _ _ h5
  have h7 : (((((((((W).setCell ⟨b, 0, none⟩ (.int .i64 x.a)).setCell ⟨b, 1, none⟩ (.int .i64 x.h)).setCell ⟨b, 2, none⟩ (.int .i64 x.r)).setCell ⟨b, 3, none⟩ (.int .u64 x.n)).setCell ⟨b, 4, none⟩ (.int .i64 x.lo)).setCell ⟨b, 5, none⟩ (.int .i64 x.hi)).setCell ⟨b, 6, none⟩ (.int .i64 x.k)).setCell ⟨b, 7, none⟩ (.int .i64 x.t)).heap[b]? = some (.cells #[.int .i64 x.a, .int .i64 x.h, .int .i64 x.r, .int .u64 x.n, .int .i64 x.lo, .int .i64 x.hi, .int .i64 x.k, .int .i64 x.t, .int .i64 y.c, .int .i64 y.s] 39 (0, 0)) := heap_setCell_same _ b 7 _ _ _ h6
  have h8 : ((((((((((W).setCell ⟨b, 0, none⟩ (.int .i64 x.a)).setCell ⟨b, 1, none⟩ (.int .i64 x.h)).setCell ⟨b, 2, none⟩ (.int .i64 x.r)).setCell ⟨b, 3, none⟩ (.int .u64 x.n)).setCell ⟨b, 4, none⟩ (.int .i64 x.lo)).setCell ⟨b, 5, none⟩ (.int .i64 x.hi)).setCell ⟨b, 6, none⟩ (.int .i64 x.k)).setCell ⟨b, 7, none⟩ (.int .i64 x.t)).setCell ⟨b, 8, none⟩ (.int .i64 x.c)).heap[b]? = some (.cells #[.int .i64 x.a, .int .i64 x.h, .int .i64 x.r, .int .u64 x.n, .int .i64 x.lo, .int .i64 x.hi, .int .i64 x.k, .int .i64 x.t, .int .i64 x.c, .int .i64 y.s] 39 (0, 0)) := heap_setCell_same _ b 8 _ _ _ h7
  have h9 : (((((((((((W).setCell ⟨b, 0, none⟩ (.int .i64 x.a)).setCell ⟨b, 1, none⟩ (.int .i64 x.h)).setCell ⟨b, 2, none⟩ (.int .i64 x.r)).setCell ⟨b, 3, none⟩ (.int .u64 x.n)).setCell ⟨b, 4, none⟩ (.int .i64 x.lo)).setCell ⟨b, 5, none⟩ (.int .i64 x.hi)).setCell ⟨b, 6, none⟩ (.int .i64 x.k)).setCell ⟨b, 7, none⟩ (.int .i64 x.t)).setCell ⟨b, 8, none⟩ (.int .i64 x.c)).setCell ⟨b, 9, none⟩ (.int .i64 x.s)).heap[b]? = some (.cells #[.int .i64 x.a, .int .i64 x.h, .int .i64 x.r, .int .u64 x.n, .int .i64 x.lo, .int .i64 x.hi, .int .i64 x.k, .int .i64 x.t, .int .i64 x.c, .int .i64 x.s] 39 (0, 0)) := heap_setCell_same _ b 9 _ _ _ h8
  exact h9
def RNew (B : Nat) : RelL Ext := ⟨none, fun _ v W => ∃ b y, v = .pointer (some ⟨b, 0, none⟩) ∧ B ≤ b ∧ RpB W b y, fun _ v W W' ⟨b, y, h1, h2, h3⟩ hE => ⟨b, y, h1, h2, h3.ext hE⟩⟩
def RStR (j B : Nat) (x : Rp) : RelL Ext := ⟨some j, fun u _ W => ∃ b, u = .pointer (some ⟨b, 0, none⟩) ∧ B ≤ b ∧ RpB W b x, fun u v W W' ⟨b, h1, h2, h3⟩ hE => ⟨b, h1, h2, h3.ext hE⟩⟩
theorem RNew.keep {B b : Nat} {u v : Value} {W : World} {x y : Rp} (h : (RNew B).r u v W) (hB : RpB W b y) : (RNew B).r u v (stW W b x) := by
  obtain ⟨b', y', h1, h2, h3⟩ := h
  by_cases e : b' = b
  · subst e; exact ⟨b', x, h1, h2, hB.stored x⟩
  · exact ⟨b', y', h1, h2, (stW_other e x).trans h3⟩
theorem RStR.keep {j B b : Nat} {u v : Value} {W : World} {x y : Rp} (hn : u ≠ .pointer (some ⟨b, 0, none⟩)) (h : (RStR j B y).r u v W) : (RStR j B y).r u v (stW W b x) := by
  obtain ⟨b', h1, h2, h3⟩ := h
  have e : b' ≠ b := fun e => hn (by rw [h1, e])
  exact ⟨b', h1, h2, (stW_other e x).trans h3⟩
theorem flat_succ {rs : List (List Rp)} {k : Nat} (h : k < rs.length) : (rs.take (k + 1)).flatten = (rs.take k).flatten ++ nthS rs k := by
  rw [take_nthS_succ h, List.flatten_append]; simp
theorem flat_len2 {rs : List (List Rp)} : rs.flatten.length = totR rs := by unfold totR; rw [List.length_flatten]
theorem totR_take_le {rs : List (List Rp)} (k : Nat) : totR (rs.take k) ≤ totR rs := by
  have : totR rs = totR (rs.take k) + totR (rs.drop k) := by unfold totR; rw [← List.sum_append, ← List.map_append, List.take_append_drop]
  omega
theorem flat_le {rs : List (List Rp)} (k : Nat) : (rs.take k).flatten.length ≤ totR rs := by rw [flat_len2]; exact totR_take_le k
theorem flat_ok {w : World} {a : Option Addr} {n c : Nat} {rs : List (List Rp)} (h : Rws w a n c rs) : ∀ x ∈ rs.flatten, Cel.ok x := by
  intro x hx
  obtain ⟨r, hr, hxr⟩ := List.mem_flatten.1 hx
  obtain ⟨i, hi, rfl⟩ := List.mem_iff_getElem.1 hr
  have hi2 : i < n := by have := h.hlen; omega
  obtain ⟨b, off, v, _, _, a', n', c', _, hw⟩ := h.cells i hi2
  have : nthS rs i = rs[i] := by simp [nthS, List.getD_eq_getElem?_getD, hi]
  rw [this] at hw
  exact hw.wf x hxr
theorem idx_of {m : Nat} (hm : 0 < m) (u : Int) : ∃ k : Nat, u % (m : Int) = (k : Int) ∧ k < m := by
  have g1 := Int.emod_nonneg u (show (m : Int) ≠ 0 by omega)
  have g2 := Int.emod_lt_of_pos u (show (0 : Int) < (m : Int) by omega)
  exact ⟨(u % (m : Int)).toNat, by omega, by omega⟩
theorem mem_bef {host : Int} {rs : List (List Rp)} (hv : validF host rs = true) {x : Rp} (hx : x ∈ rs.flatten) : hasF rs x.r x.a = true ∧ 1 ≤ x.r ∧ x.r ≤ 200 := by
  obtain ⟨r, hr, hxr⟩ := List.mem_flatten.1 hx
  obtain ⟨k, hk, rfl⟩ := List.mem_iff_getElem.1 hr
  have hN : nthS rs k = rs[k] := by simp [nthS, List.getD_eq_getElem?_getD, hk]
  have hf := valid_fits hv hk
  rw [hN] at hf
  obtain ⟨i, hi, rfl⟩ := List.mem_iff_getElem.1 hxr
  have hp := right_parts (fits_right hf hi)
  rw [nthR_get hi] at hp
  have h200 : rs.length ≤ 200 := by
    unfold validF at hv
    simp only [Bool.and_eq_true, decide_eq_true_eq] at hv
    exact hv.2.1
  have hr1 := hp.2.1
  refine ⟨?_, by omega, by omega⟩
  unfold hasF
  rw [hr1]
  simp only [Bool.and_eq_true, inC_iff]
  refine ⟨by omega, ?_⟩
  rw [show ((k : Int) + 1 - 1).toNat = k by omega, hN]
  exact List.any_eq_true.2 ⟨_, List.getElem_mem hi, by simp⟩
theorem bef_mem {host : Int} {rs : List (List Rp)} (hv : validF host rs = true) {x y : Rp} (hx : x ∈ rs.flatten) (hy : y ∈ rs.flatten) : befB host rs x.r x.a y.r y.a = decide (x.r < y.r) ∧ befE host rs x.r x.a y.r y.a = 0 := by
  have h1 := (mem_bef hv hx).1
  have h2 := (mem_bef hv hy).1
  unfold befB befE befOk
  simp [hv, h1, h2]

set_option maxHeartbeats 40000000 in
theorem cbefore_law (host : Int) (a : Option Addr) (n c : Nat) (rs : List (List Rp)) (one two three : Int) (w : World) (hho : (Lit.int .i64 host).wf = true) (h1 : Rws w a n c rs) (ho1 : 0 ≤ one ∧ one ≤ 255) (ho2 : 0 ≤ two ∧ two ≤ 255) (ho3 : 0 ≤ three ∧ three ≤ 255) (ht : TB w) :
    Calls Tryd.prog 7 #[.agg #[.int .i64 host, .slice a n c], .int .u8 one, .int .u8 two, .int .u8 three] w (Yes w) := by
  have bd := h1.bd
  have HT := Lib.hid ht
  have HL := Lib.hid h1.hlen
  clear ht
  have hC : ChB (w.alloc (.cells #[.int .i64 host, .slice a n c] 24)) w.heap.size host a n c := ChB.new w host a n c
  have hE : Ext w (w.alloc (.cells #[.int .i64 host, .slice a n c] 24)) := (Ext.refl w).alloc _
  rcases hf : fewB rs with _ | _
  · have HF := Lib.hid hf
    clear hf
    go_enter Tryd.func7, Tryd.ntmps7
    go_upto_region 1 with fail
    generalize w.alloc (.cells #[.int .i64 host, .slice a n c] 24) = W at *
    generalize w.heap.size = bc at *
    go_wp2_with fail
    refine (chead_any W (TB.ext HT.out hE)).mono ?_
    rintro e w1 ⟨rfl, hx⟩
    replace hC := hC.ext hx
    replace hE := hE.trans hx
    clear hx
    have c0 := hC.c0
    have c1 := hC.c1
    go_wp2_with fail
    refine (few12_any _ (n) c rs w1 (h1.ext hE)).mono ?_
    rintro e wf ⟨rfl, rfl⟩
    rw [HF.out]

    go_wp2_with fail
    go_ret
    exact ⟨rfl, hE⟩
  have HF := Lib.hid hf
  obtain ⟨hsh, h60, htot⟩ := fewB_short hf
  have HSS := Lib.hid hsh
  have HTOT := Lib.hid htot
  have hn : n ≤ 60 := by have := HL.out; omega
  clear hf hsh h60 htot
  rcases hv : validF host rs with _ | _
  · have HV := Lib.hid hv
    clear hv
    go_enter Tryd.func7, Tryd.ntmps7
    go_upto_region 1 with fail
    generalize w.alloc (.cells #[.int .i64 host, .slice a n c] 24) = W at *
    generalize w.heap.size = bc at *
    go_wp2_with fail
    refine (chead_any W (TB.ext HT.out hE)).mono ?_
    rintro e w1 ⟨rfl, hx⟩
    replace hC := hC.ext hx
    replace hE := hE.trans hx
    clear hx
    have c0 := hC.c0
    have c1 := hC.c1
    go_wp2_with fail
    refine (few12_any _ (n) c rs w1 (h1.ext hE)).mono ?_
    rintro e wf ⟨rfl, rfl⟩
    rw [HF.out]

    go_wp2_with fail
    refine (rvalid_any host hho _ n c rs w1 (h1.ext hE) (fun _ => HSS.out)).mono ?_
    rintro e w2 ⟨rfl, hx⟩
    rw [HV.out]
    clear c0 c1
    replace hC := hC.ext hx
    replace hE := hE.trans hx
    clear hx
    have c0 := hC.c0
    have c1 := hC.c1

    go_wp2_with fail
    go_ret
    exact ⟨rfl, hE⟩
  have HV := Lib.hid hv
  clear hv
  go_enter Tryd.func7, Tryd.ntmps7
  go_upto_region 1 with fail
  generalize w.alloc (.cells #[.int .i64 host, .slice a n c] 24) = W at *
  generalize w.heap.size = bc at *
  go_wp2_with fail
  refine (chead_any W (TB.ext HT.out hE)).mono ?_
  rintro e w1 ⟨rfl, hx⟩
  replace hC := hC.ext hx
  replace hE := hE.trans hx
  clear hx
  have c0 := hC.c0
  have c1 := hC.c1
  go_wp2_with fail
  refine (few12_any _ (n) c rs w1 (h1.ext hE)).mono ?_
  rintro e wf ⟨rfl, rfl⟩
  rw [HF.out]

  go_wp2_with fail
  refine (rvalid_any host hho _ n c rs w1 (h1.ext hE) (fun _ => HSS.out)).mono ?_
  rintro e w2 ⟨rfl, hx⟩
  rw [HV.out]
  clear c0 c1
  replace hC := hC.ext hx
  replace hE := hE.trans hx
  clear hx
  have c0 := hC.c0
  have c1 := hC.c1
  go_upto_region 4 with fail
  have HRT0 : Ext w2 w2 := Ext.refl _
  go_wp2_with fail
  go_loopw [10, 40] (fun u i wr => ∃ (k m cc : Nat) (aa : Option Addr), k ≤ n ∧ i = .int .i64 k ∧ u = .slice aa m cc ∧ OwR 39 w2.heap.size wr aa m cc (rs.take k).flatten ∧ Ext w2 wr) (fun _ i _ => n - (intOf i).toNat)
  case atStart => exact ⟨0, 0, 0, none, by omega, rfl, rfl, OwR.nil _ _ _, Ext.refl _⟩
  case round =>
    obtain ⟨k, m, cc, aa, hk, rfl, rfl, ho, hx⟩ := hrel
    have hEw := hE.trans hx
    have hm : m ≤ 200 := by have := ho.1; have := flat_le (rs := rs) k; have := HTOT.out; omega
    have hz := hx.sz
    by_cases hlt : k < n
    · obtain ⟨p1, o1, ha1, hc1⟩ := h1.at (by omega)
      obtain ⟨a', n', c', hcN, hrN⟩ := hc1 k hlt
      have eN := hEw.cell hcN
      have hfl := flat_succ (rs := rs) (k := k) (by rw [HL.out]; exact hlt)
      have hm2 : m + n' ≤ 200 := by have h2 := flat_le (rs := rs) (k + 1); rw [hfl, List.length_append, ho.1, hrN.hlen] at h2; have := HTOT.out; omega
      have HFL := Lib.hid hfl
      have bN := hrN.bd
      clear hc1 hfl
      subst ha1
      go_upto_region 8 with fail
      have e0 := (Boxed.new wr 27 (.slice a' n' c')).cell
      have hE2 : Ext wr (wr.alloc (.cells #[.slice a' n' c'] 27)) := (Ext.refl wr).alloc _
      have ho2 := ho.ext hE2
      have hz2 := hE2.sz
      have hrw2 := hrN.ext (hEw.trans hE2)
      have hx2 := hx.trans hE2
      generalize wr.alloc (.cells #[.slice a' n' c'] 27) = Z at *
      generalize wr.heap.size = zb at *
      go_wp2_with (at_builtin; refine appRs el_rp rfl _ _ rfl _ w2.heap.size _ _ _ _ rfl ho2 a' n' c' _ rfl hrw2 (by omega) (by unfold maxLen; omega) (by omega) ?_; intro g5 c5 w5 ho5 hB5; refine hold ?_)
      refine held ?_
      go_wp2_with fail
      exact ⟨⟨k + 1, m + n', c5, _, by omega, by go_num, rfl, by rw [HFL.out]; exact ho5, Below.trans hx2 hB5⟩, by simp [intOf]; omega⟩
    · obtain rfl : k = n := by omega
      have htk : rs.take k = rs := List.take_of_length_le (by rw [HL.out]; exact Nat.le_refl _)
      rw [htk] at ho
      clear htk c0 c1 hm
      replace hC := hC.ext hx
      have hE := hEw
      clear hx hEw
      have c0 := hC.c0
      have c1 := hC.c1
      rcases Nat.eq_zero_or_pos m with hm | hm
      · subst hm
        go_wp2_with fail
        go_ret
        exact ⟨rfl, hE⟩
      have hm2 : m ≤ 200 := by have := ho.1; have := flat_len2 (rs := rs); have := HTOT.out; omega
      have hm0 : ((m : Int) == 0) = false := by simp; omega
      have hmi : 0 < (m : Int) := by omega
      obtain ⟨g, go, rfl, hcl⟩ := (ho.rw (by omega) (flat_ok h1)).at hm
      obtain ⟨k1, hk1, hk1m⟩ := idx_of (show 0 < m from hm) one
      obtain ⟨k2, hk2, hk2m⟩ := idx_of (show 0 < m from hm) two
      obtain ⟨k3, hk3, hk3m⟩ := idx_of (show 0 < m from hm) three
      have HE1 := Lib.hid hk1
      have HE2 := Lib.hid hk2
      have HE3 := Lib.hid hk3
      have r1 := hcl k1 hk1m
      have r2 := hcl k2 hk2m
      have r3 := hcl k3 hk3m
      have m1 := nthR_mem (xs := rs.flatten) (i := k1) (by rw [ho.1]; exact hk1m)
      have m2 := nthR_mem (xs := rs.flatten) (i := k2) (by rw [ho.1]; exact hk2m)
      have m3 := nthR_mem (xs := rs.flatten) (i := k3) (by rw [ho.1]; exact hk3m)
      clear hcl hk1 hk2 hk3 ho hz
      rw [sz_rp] at r1 r2 r3
      generalize nthR rs.flatten k1 = x at *
      generalize nthR rs.flatten k2 = y at *
      generalize nthR rs.flatten k3 = z at *
      obtain ⟨cx0, cx1, cx2, cx3, cx4, cx5, cx6, cx7, cx8, cx9⟩ := cells_rp r1
      obtain ⟨cy0, cy1, cy2, cy3, cy4, cy5, cy6, cy7, cy8, cy9⟩ := cells_rp r2
      obtain ⟨cz0, cz1, cz2, cz3, cz4, cz5, cz6, cz7, cz8, cz9⟩ := cells_rp r3
      clear r1 r2 r3
      go_upto_region 12 with fail
      generalize wr = V at *
      have hCV := hC
      have hEV := hE
      clear c0 c1
      refine region_relyD (fun W' => Ext V W') [some 53, some 54, some 55, some 56, some 57, some 58, some 59, some 60, some 61, some 62, some 63, some 64, some 65, some 66, some 67, some 68, some 69, some 70, some 71, some 72, some 73, some 74, some 75, some 76, some 13, some 14, some 15, none, none, none] [[], [], [1], [], [3], [1, 2, 3, 4], [0, 1, 2, 3, 4, 5], [0, 1, 2, 3, 4, 5, 6], [], [], [9], [], [11], [9, 10, 11, 12], [8, 9, 10, 11, 12, 13], [8, 9, 10, 11, 12, 13, 14], [], [], [17], [], [19], [17, 18, 19, 20], [16, 17, 18, 19, 20, 21], [16, 17, 18, 19, 20, 21, 22], [], [], [], [0, 1, 2, 3, 4, 5, 6, 7, 24, 25, 26], [0, 1, 2, 3, 4, 5, 6, 7, 8, 9, 10, 11, 12, 13, 14, 15, 24, 25, 26, 27], [0, 1, 2, 3, 4, 5, 6, 7, 8, 9, 10, 11, 12, 13, 14, 15, 16, 17, 18, 19, 20, 21, 22, 23, 24, 25, 26, 27, 28]] [[], [], [1], [], [3], [2, 4], [0, 5], [6], [], [], [9], [], [11], [10, 12], [8, 13], [14], [], [], [17], [], [19], [18, 20], [16, 21], [22], [], [], [], [7, 24], [15, 25], [23, 26]] [none, none, none, none, none, none, none, none, none, none, none, none, none, none, none, none, none, none, none, none, none, none, none, none, none, none, none, some 24, some 25, some 26] [false, false, false, false, false, false, false, false, false, false, false, false, false, false, false, false, false, false, false, false, false, false, false, false, true, true, true, false, false, false] [.one (.slice (some ⟨g, go, none⟩) m cc), .one (.int .u8 one), .one (.int .i64 one), .one (.slice (some ⟨g, go, none⟩) m cc), .one (.int .i64 (m : Int)), .one (.int .i64 (k1 : Int)), .one (.pointer (some ⟨g, go + k1 * 10, none⟩)), .one (.agg #[.int .i64 x.a, .int .i64 x.h, .int .i64 x.r, .int .u64 x.n, .int .i64 x.lo, .int .i64 x.hi, .int .i64 x.k, .int .i64 x.t, .int .i64 x.c, .int .i64 x.s]), .one (.slice (some ⟨g, go, none⟩) m cc), .one (.int .u8 two), .one (.int .i64 two), .one (.slice (some ⟨g, go, none⟩) m cc), .one (.int .i64 (m : Int)), .one (.int .i64 (k2 : Int)), .one (.pointer (some ⟨g, go + k2 * 10, none⟩)), .one (.agg #[.int .i64 y.a, .int .i64 y.h, .int .i64 y.r, .int .u64 y.n, .int .i64 y.lo, .int .i64 y.hi, .int .i64 y.k, .int .i64 y.t, .int .i64 y.c, .int .i64 y.s]), .one (.slice (some ⟨g, go, none⟩) m cc), .one (.int .u8 three), .one (.int .i64 three), .one (.slice (some ⟨g, go, none⟩) m cc), .one (.int .i64 (m : Int)), .one (.int .i64 (k3 : Int)), .one (.pointer (some ⟨g, go + k3 * 10, none⟩)), .one (.agg #[.int .i64 z.a, .int .i64 z.h, .int .i64 z.r, .int .u64 z.n, .int .i64 z.lo, .int .i64 z.hi, .int .i64 z.k, .int .i64 z.t, .int .i64 z.c, .int .i64 z.s]), RNew V.heap.size, RNew V.heap.size, RNew V.heap.size, RStR 24 V.heap.size x, RStR 25 V.heap.size y, RStR 26 V.heap.size z] (by kernel_rfl) (by kernel_rfl) rfl (Ext.refl V).drew ?_ ?_
      · refine stepsD_cons ?_ ?_
        · intro listed vs W' hl hI hd hs hn
          refine hold ?_
          obtain ⟨x0, x1, x2, x3, x4, x5, x6, x7, x8, x9, x10, x11, x12, x13, x14, x15, x16, x17, x18, x19, x20, x21, x22, x23, x24, x25, x26, x27, x28, x29, rfl⟩ := lenlit30 hl; clear hl
          refine held ?_
          simp only [putAll, Act.put, List.setIfInBounds_toArray, List.set_cons_succ, List.set_cons_zero]
          go_wp2_with fail
          exact relyD_done _ rfl rfl (Ext.refl _) hI
        refine stepsD_cons ?_ ?_
        · intro listed vs W' hl hI hd hs hn
          refine hold ?_
          obtain ⟨x0, x1, x2, x3, x4, x5, x6, x7, x8, x9, x10, x11, x12, x13, x14, x15, x16, x17, x18, x19, x20, x21, x22, x23, x24, x25, x26, x27, x28, x29, rfl⟩ := lenlit30 hl; clear hl
          refine held ?_
          simp only [putAll, Act.put, List.setIfInBounds_toArray, List.set_cons_succ, List.set_cons_zero]
          go_wp2_with fail
          exact relyD_done _ rfl rfl (Ext.refl _) hI
        refine stepsD_cons ?_ ?_
        · intro listed vs W' hl hI hd hs hn
          refine hold ?_
          obtain ⟨x0, x1, x2, x3, x4, x5, x6, x7, x8, x9, x10, x11, x12, x13, x14, x15, x16, x17, x18, x19, x20, x21, x22, x23, x24, x25, x26, x27, x28, x29, rfl⟩ := lenlit30 hl; clear hl
          simp only [factsL, atL, refV, List.getElem?_cons_succ, List.getElem?_cons_zero, List.getD_cons_succ, List.getD_cons_zero, RelL.one, RelL.any, RelL.blk, RelL.law, RNew, RStR] at hd
          obtain ⟨rfl, -⟩ := hd
          refine held ?_
          simp only [putAll, Act.put, List.setIfInBounds_toArray, List.set_cons_succ, List.set_cons_zero]
          go_wp2_with fail
          exact relyD_done _ rfl rfl (Ext.refl _) hI
        refine stepsD_cons ?_ ?_
        · intro listed vs W' hl hI hd hs hn
          refine hold ?_
          obtain ⟨x0, x1, x2, x3, x4, x5, x6, x7, x8, x9, x10, x11, x12, x13, x14, x15, x16, x17, x18, x19, x20, x21, x22, x23, x24, x25, x26, x27, x28, x29, rfl⟩ := lenlit30 hl; clear hl
          refine held ?_
          simp only [putAll, Act.put, List.setIfInBounds_toArray, List.set_cons_succ, List.set_cons_zero]
          go_wp2_with fail
          exact relyD_done _ rfl rfl (Ext.refl _) hI
        refine stepsD_cons ?_ ?_
        · intro listed vs W' hl hI hd hs hn
          refine hold ?_
          obtain ⟨x0, x1, x2, x3, x4, x5, x6, x7, x8, x9, x10, x11, x12, x13, x14, x15, x16, x17, x18, x19, x20, x21, x22, x23, x24, x25, x26, x27, x28, x29, rfl⟩ := lenlit30 hl; clear hl
          simp only [factsL, atL, refV, List.getElem?_cons_succ, List.getElem?_cons_zero, List.getD_cons_succ, List.getD_cons_zero, RelL.one, RelL.any, RelL.blk, RelL.law, RNew, RStR] at hd
          obtain ⟨rfl, -⟩ := hd
          refine held ?_
          simp only [putAll, Act.put, List.setIfInBounds_toArray, List.set_cons_succ, List.set_cons_zero]
          go_wp2_with fail
          exact relyD_done _ rfl rfl (Ext.refl _) hI
        refine stepsD_cons ?_ ?_
        · intro listed vs W' hl hI hd hs hn
          refine hold ?_
          obtain ⟨x0, x1, x2, x3, x4, x5, x6, x7, x8, x9, x10, x11, x12, x13, x14, x15, x16, x17, x18, x19, x20, x21, x22, x23, x24, x25, x26, x27, x28, x29, rfl⟩ := lenlit30 hl; clear hl
          simp only [factsL, atL, refV, List.getElem?_cons_succ, List.getElem?_cons_zero, List.getD_cons_succ, List.getD_cons_zero, RelL.one, RelL.any, RelL.blk, RelL.law, RNew, RStR] at hd
          obtain ⟨rfl, rfl, -⟩ := hd
          refine held ?_
          simp only [putAll, Act.put, List.setIfInBounds_toArray, List.set_cons_succ, List.set_cons_zero]
          go_wp2_with fail
          exact relyD_done _ rfl (congrArg (Value.int .i64) HE1.out) (Ext.refl _) hI
        refine stepsD_cons ?_ ?_
        · intro listed vs W' hl hI hd hs hn
          refine hold ?_
          obtain ⟨x0, x1, x2, x3, x4, x5, x6, x7, x8, x9, x10, x11, x12, x13, x14, x15, x16, x17, x18, x19, x20, x21, x22, x23, x24, x25, x26, x27, x28, x29, rfl⟩ := lenlit30 hl; clear hl
          simp only [factsL, atL, refV, List.getElem?_cons_succ, List.getElem?_cons_zero, List.getD_cons_succ, List.getD_cons_zero, RelL.one, RelL.any, RelL.blk, RelL.law, RNew, RStR] at hd
          obtain ⟨rfl, rfl, -⟩ := hd
          refine held ?_
          simp only [putAll, Act.put, List.setIfInBounds_toArray, List.set_cons_succ, List.set_cons_zero]
          go_wp2_with fail
          exact relyD_done _ rfl rfl (Ext.refl _) hI
        refine stepsD_cons ?_ ?_
        · intro listed vs W' hl hI hd hs hn
          refine hold ?_
          obtain ⟨x0, x1, x2, x3, x4, x5, x6, x7, x8, x9, x10, x11, x12, x13, x14, x15, x16, x17, x18, x19, x20, x21, x22, x23, x24, x25, x26, x27, x28, x29, rfl⟩ := lenlit30 hl; clear hl
          simp only [factsL, atL, refV, List.getElem?_cons_succ, List.getElem?_cons_zero, List.getD_cons_succ, List.getD_cons_zero, RelL.one, RelL.any, RelL.blk, RelL.law, RNew, RStR] at hd
          obtain ⟨rfl, -⟩ := hd
          refine held ?_
          simp only [putAll, Act.put, List.setIfInBounds_toArray, List.set_cons_succ, List.set_cons_zero]
          have q0 := hI.cell cx0
          have q1 := hI.cell cx1
          have q2 := hI.cell cx2
          have q3 := hI.cell cx3
          have q4 := hI.cell cx4
          have q5 := hI.cell cx5
          have q6 := hI.cell cx6
          have q7 := hI.cell cx7
          have q8 := hI.cell cx8
          have q9 := hI.cell cx9
          go_wp2_with fail
          exact relyD_done _ rfl rfl (Ext.refl _) hI
        refine stepsD_cons ?_ ?_
        · intro listed vs W' hl hI hd hs hn
          refine hold ?_
          obtain ⟨x0, x1, x2, x3, x4, x5, x6, x7, x8, x9, x10, x11, x12, x13, x14, x15, x16, x17, x18, x19, x20, x21, x22, x23, x24, x25, x26, x27, x28, x29, rfl⟩ := lenlit30 hl; clear hl
          refine held ?_
          simp only [putAll, Act.put, List.setIfInBounds_toArray, List.set_cons_succ, List.set_cons_zero]
          go_wp2_with fail
          exact relyD_done _ rfl rfl (Ext.refl _) hI
        refine stepsD_cons ?_ ?_
        · intro listed vs W' hl hI hd hs hn
          refine hold ?_
          obtain ⟨x0, x1, x2, x3, x4, x5, x6, x7, x8, x9, x10, x11, x12, x13, x14, x15, x16, x17, x18, x19, x20, x21, x22, x23, x24, x25, x26, x27, x28, x29, rfl⟩ := lenlit30 hl; clear hl
          refine held ?_
          simp only [putAll, Act.put, List.setIfInBounds_toArray, List.set_cons_succ, List.set_cons_zero]
          go_wp2_with fail
          exact relyD_done _ rfl rfl (Ext.refl _) hI
        refine stepsD_cons ?_ ?_
        · intro listed vs W' hl hI hd hs hn
          refine hold ?_
          obtain ⟨x0, x1, x2, x3, x4, x5, x6, x7, x8, x9, x10, x11, x12, x13, x14, x15, x16, x17, x18, x19, x20, x21, x22, x23, x24, x25, x26, x27, x28, x29, rfl⟩ := lenlit30 hl; clear hl
          simp only [factsL, atL, refV, List.getElem?_cons_succ, List.getElem?_cons_zero, List.getD_cons_succ, List.getD_cons_zero, RelL.one, RelL.any, RelL.blk, RelL.law, RNew, RStR] at hd
          obtain ⟨rfl, -⟩ := hd
          refine held ?_
          simp only [putAll, Act.put, List.setIfInBounds_toArray, List.set_cons_succ, List.set_cons_zero]
          go_wp2_with fail
          exact relyD_done _ rfl rfl (Ext.refl _) hI
        refine stepsD_cons ?_ ?_
        · intro listed vs W' hl hI hd hs hn
          refine hold ?_
          obtain ⟨x0, x1, x2, x3, x4, x5, x6, x7, x8, x9, x10, x11, x12, x13, x14, x15, x16, x17, x18, x19, x20, x21, x22, x23, x24, x25, x26, x27, x28, x29, rfl⟩ := lenlit30 hl; clear hl
          refine held ?_
          simp only [putAll, Act.put, List.setIfInBounds_toArray, List.set_cons_succ, List.set_cons_zero]
          go_wp2_with fail
          exact relyD_done _ rfl rfl (Ext.refl _) hI
        refine stepsD_cons ?_ ?_
        · intro listed vs W' hl hI hd hs hn
          refine hold ?_
          obtain ⟨x0, x1, x2, x3, x4, x5, x6, x7, x8, x9, x10, x11, x12, x13, x14, x15, x16, x17, x18, x19, x20, x21, x22, x23, x24, x25, x26, x27, x28, x29, rfl⟩ := lenlit30 hl; clear hl
          simp only [factsL, atL, refV, List.getElem?_cons_succ, List.getElem?_cons_zero, List.getD_cons_succ, List.getD_cons_zero, RelL.one, RelL.any, RelL.blk, RelL.law, RNew, RStR] at hd
          obtain ⟨rfl, -⟩ := hd
          refine held ?_
          simp only [putAll, Act.put, List.setIfInBounds_toArray, List.set_cons_succ, List.set_cons_zero]
          go_wp2_with fail
          exact relyD_done _ rfl rfl (Ext.refl _) hI
        refine stepsD_cons ?_ ?_
        · intro listed vs W' hl hI hd hs hn
          refine hold ?_
          obtain ⟨x0, x1, x2, x3, x4, x5, x6, x7, x8, x9, x10, x11, x12, x13, x14, x15, x16, x17, x18, x19, x20, x21, x22, x23, x24, x25, x26, x27, x28, x29, rfl⟩ := lenlit30 hl; clear hl
          simp only [factsL, atL, refV, List.getElem?_cons_succ, List.getElem?_cons_zero, List.getD_cons_succ, List.getD_cons_zero, RelL.one, RelL.any, RelL.blk, RelL.law, RNew, RStR] at hd
          obtain ⟨rfl, rfl, -⟩ := hd
          refine held ?_
          simp only [putAll, Act.put, List.setIfInBounds_toArray, List.set_cons_succ, List.set_cons_zero]
          go_wp2_with fail
          exact relyD_done _ rfl (congrArg (Value.int .i64) HE2.out) (Ext.refl _) hI
        refine stepsD_cons ?_ ?_
        · intro listed vs W' hl hI hd hs hn
          refine hold ?_
          obtain ⟨x0, x1, x2, x3, x4, x5, x6, x7, x8, x9, x10, x11, x12, x13, x14, x15, x16, x17, x18, x19, x20, x21, x22, x23, x24, x25, x26, x27, x28, x29, rfl⟩ := lenlit30 hl; clear hl
          simp only [factsL, atL, refV, List.getElem?_cons_succ, List.getElem?_cons_zero, List.getD_cons_succ, List.getD_cons_zero, RelL.one, RelL.any, RelL.blk, RelL.law, RNew, RStR] at hd
          obtain ⟨rfl, rfl, -⟩ := hd
          refine held ?_
          simp only [putAll, Act.put, List.setIfInBounds_toArray, List.set_cons_succ, List.set_cons_zero]
          go_wp2_with fail
          exact relyD_done _ rfl rfl (Ext.refl _) hI
        refine stepsD_cons ?_ ?_
        · intro listed vs W' hl hI hd hs hn
          refine hold ?_
          obtain ⟨x0, x1, x2, x3, x4, x5, x6, x7, x8, x9, x10, x11, x12, x13, x14, x15, x16, x17, x18, x19, x20, x21, x22, x23, x24, x25, x26, x27, x28, x29, rfl⟩ := lenlit30 hl; clear hl
          simp only [factsL, atL, refV, List.getElem?_cons_succ, List.getElem?_cons_zero, List.getD_cons_succ, List.getD_cons_zero, RelL.one, RelL.any, RelL.blk, RelL.law, RNew, RStR] at hd
          obtain ⟨rfl, -⟩ := hd
          refine held ?_
          simp only [putAll, Act.put, List.setIfInBounds_toArray, List.set_cons_succ, List.set_cons_zero]
          have q0 := hI.cell cy0
          have q1 := hI.cell cy1
          have q2 := hI.cell cy2
          have q3 := hI.cell cy3
          have q4 := hI.cell cy4
          have q5 := hI.cell cy5
          have q6 := hI.cell cy6
          have q7 := hI.cell cy7
          have q8 := hI.cell cy8
          have q9 := hI.cell cy9
          go_wp2_with fail
          exact relyD_done _ rfl rfl (Ext.refl _) hI
        refine stepsD_cons ?_ ?_
        · intro listed vs W' hl hI hd hs hn
          refine hold ?_
          obtain ⟨x0, x1, x2, x3, x4, x5, x6, x7, x8, x9, x10, x11, x12, x13, x14, x15, x16, x17, x18, x19, x20, x21, x22, x23, x24, x25, x26, x27, x28, x29, rfl⟩ := lenlit30 hl; clear hl
          refine held ?_
          simp only [putAll, Act.put, List.setIfInBounds_toArray, List.set_cons_succ, List.set_cons_zero]
          go_wp2_with fail
          exact relyD_done _ rfl rfl (Ext.refl _) hI
        refine stepsD_cons ?_ ?_
        · intro listed vs W' hl hI hd hs hn
          refine hold ?_
          obtain ⟨x0, x1, x2, x3, x4, x5, x6, x7, x8, x9, x10, x11, x12, x13, x14, x15, x16, x17, x18, x19, x20, x21, x22, x23, x24, x25, x26, x27, x28, x29, rfl⟩ := lenlit30 hl; clear hl
          refine held ?_
          simp only [putAll, Act.put, List.setIfInBounds_toArray, List.set_cons_succ, List.set_cons_zero]
          go_wp2_with fail
          exact relyD_done _ rfl rfl (Ext.refl _) hI
        refine stepsD_cons ?_ ?_
        · intro listed vs W' hl hI hd hs hn
          refine hold ?_
          obtain ⟨x0, x1, x2, x3, x4, x5, x6, x7, x8, x9, x10, x11, x12, x13, x14, x15, x16, x17, x18, x19, x20, x21, x22, x23, x24, x25, x26, x27, x28, x29, rfl⟩ := lenlit30 hl; clear hl
          simp only [factsL, atL, refV, List.getElem?_cons_succ, List.getElem?_cons_zero, List.getD_cons_succ, List.getD_cons_zero, RelL.one, RelL.any, RelL.blk, RelL.law, RNew, RStR] at hd
          obtain ⟨rfl, -⟩ := hd
          refine held ?_
          simp only [putAll, Act.put, List.setIfInBounds_toArray, List.set_cons_succ, List.set_cons_zero]
          go_wp2_with fail
          exact relyD_done _ rfl rfl (Ext.refl _) hI
        refine stepsD_cons ?_ ?_
        · intro listed vs W' hl hI hd hs hn
          refine hold ?_
          obtain ⟨x0, x1, x2, x3, x4, x5, x6, x7, x8, x9, x10, x11, x12, x13, x14, x15, x16, x17, x18, x19, x20, x21, x22, x23, x24, x25, x26, x27, x28, x29, rfl⟩ := lenlit30 hl; clear hl
          refine held ?_
          simp only [putAll, Act.put, List.setIfInBounds_toArray, List.set_cons_succ, List.set_cons_zero]
          go_wp2_with fail
          exact relyD_done _ rfl rfl (Ext.refl _) hI
        refine stepsD_cons ?_ ?_
        · intro listed vs W' hl hI hd hs hn
          refine hold ?_
          obtain ⟨x0, x1, x2, x3, x4, x5, x6, x7, x8, x9, x10, x11, x12, x13, x14, x15, x16, x17, x18, x19, x20, x21, x22, x23, x24, x25, x26, x27, x28, x29, rfl⟩ := lenlit30 hl; clear hl
          simp only [factsL, atL, refV, List.getElem?_cons_succ, List.getElem?_cons_zero, List.getD_cons_succ, List.getD_cons_zero, RelL.one, RelL.any, RelL.blk, RelL.law, RNew, RStR] at hd
          obtain ⟨rfl, -⟩ := hd
          refine held ?_
          simp only [putAll, Act.put, List.setIfInBounds_toArray, List.set_cons_succ, List.set_cons_zero]
          go_wp2_with fail
          exact relyD_done _ rfl rfl (Ext.refl _) hI
        refine stepsD_cons ?_ ?_
        · intro listed vs W' hl hI hd hs hn
          refine hold ?_
          obtain ⟨x0, x1, x2, x3, x4, x5, x6, x7, x8, x9, x10, x11, x12, x13, x14, x15, x16, x17, x18, x19, x20, x21, x22, x23, x24, x25, x26, x27, x28, x29, rfl⟩ := lenlit30 hl; clear hl
          simp only [factsL, atL, refV, List.getElem?_cons_succ, List.getElem?_cons_zero, List.getD_cons_succ, List.getD_cons_zero, RelL.one, RelL.any, RelL.blk, RelL.law, RNew, RStR] at hd
          obtain ⟨rfl, rfl, -⟩ := hd
          refine held ?_
          simp only [putAll, Act.put, List.setIfInBounds_toArray, List.set_cons_succ, List.set_cons_zero]
          go_wp2_with fail
          exact relyD_done _ rfl (congrArg (Value.int .i64) HE3.out) (Ext.refl _) hI
        refine stepsD_cons ?_ ?_
        · intro listed vs W' hl hI hd hs hn
          refine hold ?_
          obtain ⟨x0, x1, x2, x3, x4, x5, x6, x7, x8, x9, x10, x11, x12, x13, x14, x15, x16, x17, x18, x19, x20, x21, x22, x23, x24, x25, x26, x27, x28, x29, rfl⟩ := lenlit30 hl; clear hl
          simp only [factsL, atL, refV, List.getElem?_cons_succ, List.getElem?_cons_zero, List.getD_cons_succ, List.getD_cons_zero, RelL.one, RelL.any, RelL.blk, RelL.law, RNew, RStR] at hd
          obtain ⟨rfl, rfl, -⟩ := hd
          refine held ?_
          simp only [putAll, Act.put, List.setIfInBounds_toArray, List.set_cons_succ, List.set_cons_zero]
          go_wp2_with fail
          exact relyD_done _ rfl rfl (Ext.refl _) hI
        refine stepsD_cons ?_ ?_
        · intro listed vs W' hl hI hd hs hn
          refine hold ?_
          obtain ⟨x0, x1, x2, x3, x4, x5, x6, x7, x8, x9, x10, x11, x12, x13, x14, x15, x16, x17, x18, x19, x20, x21, x22, x23, x24, x25, x26, x27, x28, x29, rfl⟩ := lenlit30 hl; clear hl
          simp only [factsL, atL, refV, List.getElem?_cons_succ, List.getElem?_cons_zero, List.getD_cons_succ, List.getD_cons_zero, RelL.one, RelL.any, RelL.blk, RelL.law, RNew, RStR] at hd
          obtain ⟨rfl, -⟩ := hd
          refine held ?_
          simp only [putAll, Act.put, List.setIfInBounds_toArray, List.set_cons_succ, List.set_cons_zero]
          have q0 := hI.cell cz0
          have q1 := hI.cell cz1
          have q2 := hI.cell cz2
          have q3 := hI.cell cz3
          have q4 := hI.cell cz4
          have q5 := hI.cell cz5
          have q6 := hI.cell cz6
          have q7 := hI.cell cz7
          have q8 := hI.cell cz8
          have q9 := hI.cell cz9
          go_wp2_with fail
          exact relyD_done _ rfl rfl (Ext.refl _) hI
        refine stepsD_cons ?_ ?_
        · intro listed vs W' hl hI hd hs hn
          refine hold ?_
          obtain ⟨x0, x1, x2, x3, x4, x5, x6, x7, x8, x9, x10, x11, x12, x13, x14, x15, x16, x17, x18, x19, x20, x21, x22, x23, x24, x25, x26, x27, x28, x29, rfl⟩ := lenlit30 hl; clear hl
          refine held ?_
          simp only [putAll, Act.put, List.setIfInBounds_toArray, List.set_cons_succ, List.set_cons_zero]
          go_wp2_with fail
          exact relyD_new rfl ⟨_, ⟨0, 0, 0, 0, 0, 0, 0, 0, 0, 0⟩, rfl, hI.sz, RpB.new W' ⟨0, 0, 0, 0, 0, 0, 0, 0, 0, 0⟩⟩ ((Ext.refl _).alloc _) (by simp) (hI.alloc _)
        refine stepsD_cons ?_ ?_
        · intro listed vs W' hl hI hd hs hn
          refine hold ?_
          obtain ⟨x0, x1, x2, x3, x4, x5, x6, x7, x8, x9, x10, x11, x12, x13, x14, x15, x16, x17, x18, x19, x20, x21, x22, x23, x24, x25, x26, x27, x28, x29, rfl⟩ := lenlit30 hl; clear hl
          refine held ?_
          simp only [putAll, Act.put, List.setIfInBounds_toArray, List.set_cons_succ, List.set_cons_zero]
          go_wp2_with fail
          exact relyD_new rfl ⟨_, ⟨0, 0, 0, 0, 0, 0, 0, 0, 0, 0⟩, rfl, hI.sz, RpB.new W' ⟨0, 0, 0, 0, 0, 0, 0, 0, 0, 0⟩⟩ ((Ext.refl _).alloc _) (by simp) (hI.alloc _)
        refine stepsD_cons ?_ ?_
        · intro listed vs W' hl hI hd hs hn
          refine hold ?_
          obtain ⟨x0, x1, x2, x3, x4, x5, x6, x7, x8, x9, x10, x11, x12, x13, x14, x15, x16, x17, x18, x19, x20, x21, x22, x23, x24, x25, x26, x27, x28, x29, rfl⟩ := lenlit30 hl; clear hl
          refine held ?_
          simp only [putAll, Act.put, List.setIfInBounds_toArray, List.set_cons_succ, List.set_cons_zero]
          go_wp2_with fail
          exact relyD_new rfl ⟨_, ⟨0, 0, 0, 0, 0, 0, 0, 0, 0, 0⟩, rfl, hI.sz, RpB.new W' ⟨0, 0, 0, 0, 0, 0, 0, 0, 0, 0⟩⟩ ((Ext.refl _).alloc _) (by simp) (hI.alloc _)
        refine stepsD_cons ?_ ?_
        · intro listed vs W' hl hI hd hs hn
          refine hold ?_
          obtain ⟨x0, x1, x2, x3, x4, x5, x6, x7, x8, x9, x10, x11, x12, x13, x14, x15, x16, x17, x18, x19, x20, x21, x22, x23, x24, x25, x26, x27, x28, x29, rfl⟩ := lenlit30 hl; clear hl
          simp only [factsL, atL, refV, List.getElem?_cons_succ, List.getElem?_cons_zero, List.getD_cons_succ, List.getD_cons_zero, RelL.one, RelL.any, RelL.blk, RelL.law, RNew, RStR] at hd
          obtain ⟨rfl, ⟨b24, y24, rfl, hb24, hB24⟩, -⟩ := hd
          refine held ?_
          simp only [putAll, Act.put, List.setIfInBounds_toArray, List.set_cons_succ, List.set_cons_zero]
          have f0 := free_of_block hB24 0
          have f1 := free_of_block hB24 1
          have f2 := free_of_block hB24 2
          have f3 := free_of_block hB24 3
          have f4 := free_of_block hB24 4
          have f5 := free_of_block hB24 5
          have f6 := free_of_block hB24 6
          have f7 := free_of_block hB24 7
          have f8 := free_of_block hB24 8
          have f9 := free_of_block hB24 9
          obtain ⟨g0, g1, g2, g3, g4, g5, g6, g7, g8, g9⟩ := hB24.cells
          have hst := hB24.stored x
          have hI2 := stW_ext hI hb24 x
          have n25 := hn 25 24 rfl rfl (by decide) (hs 25 (by decide)) (hs 24 (by decide))
          have n26 := hn 26 24 rfl rfl (by decide) (hs 26 (by decide)) (hs 24 (by decide))
          go_wp2_with fail
          exact relyD_store undef rfl ⟨b24, rfl, hb24, hst⟩ (Nat.le_of_eq (stW_size _ _ _).symm) ⟨fun _ _ h => h, fun _ _ h => h, fun _ _ h => h, fun _ _ h => h, fun _ _ h => h, fun _ _ h => h, fun _ _ h => h, fun _ _ h => h, fun _ _ h => h, fun _ _ h => h, fun _ _ h => h, fun _ _ h => h, fun _ _ h => h, fun _ _ h => h, fun _ _ h => h, fun _ _ h => h, fun _ _ h => h, fun _ _ h => h, fun _ _ h => h, fun _ _ h => h, fun _ _ h => h, fun _ _ h => h, fun _ _ h => h, fun _ _ h => h, fun _ _ h => RNew.keep h hB24, fun _ _ h => RNew.keep h hB24, fun _ _ h => RNew.keep h hB24, fun _ hk _ => absurd rfl hk, fun _ _ h => RStR.keep n25 h, fun _ _ h => RStR.keep n26 h, trivial⟩ hI2
        refine stepsD_cons ?_ ?_
        · intro listed vs W' hl hI hd hs hn
          refine hold ?_
          obtain ⟨x0, x1, x2, x3, x4, x5, x6, x7, x8, x9, x10, x11, x12, x13, x14, x15, x16, x17, x18, x19, x20, x21, x22, x23, x24, x25, x26, x27, x28, x29, rfl⟩ := lenlit30 hl; clear hl
          simp only [factsL, atL, refV, List.getElem?_cons_succ, List.getElem?_cons_zero, List.getD_cons_succ, List.getD_cons_zero, RelL.one, RelL.any, RelL.blk, RelL.law, RNew, RStR] at hd
          obtain ⟨rfl, ⟨b25, y25, rfl, hb25, hB25⟩, -⟩ := hd
          refine held ?_
          simp only [putAll, Act.put, List.setIfInBounds_toArray, List.set_cons_succ, List.set_cons_zero]
          have f0 := free_of_block hB25 0
          have f1 := free_of_block hB25 1
          have f2 := free_of_block hB25 2
          have f3 := free_of_block hB25 3
          have f4 := free_of_block hB25 4
          have f5 := free_of_block hB25 5
          have f6 := free_of_block hB25 6
          have f7 := free_of_block hB25 7
          have f8 := free_of_block hB25 8
          have f9 := free_of_block hB25 9
          obtain ⟨g0, g1, g2, g3, g4, g5, g6, g7, g8, g9⟩ := hB25.cells
          have hst := hB25.stored y
          have hI2 := stW_ext hI hb25 y
          have n24 := hn 24 25 rfl rfl (by decide) (hs 24 (by decide)) (hs 25 (by decide))
          have n26 := hn 26 25 rfl rfl (by decide) (hs 26 (by decide)) (hs 25 (by decide))
          go_wp2_with fail
          exact relyD_store undef rfl ⟨b25, rfl, hb25, hst⟩ (Nat.le_of_eq (stW_size _ _ _).symm) ⟨fun _ _ h => h, fun _ _ h => h, fun _ _ h => h, fun _ _ h => h, fun _ _ h => h, fun _ _ h => h, fun _ _ h => h, fun _ _ h => h, fun _ _ h => h, fun _ _ h => h, fun _ _ h => h, fun _ _ h => h, fun _ _ h => h, fun _ _ h => h, fun _ _ h => h, fun _ _ h => h, fun _ _ h => h, fun _ _ h => h, fun _ _ h => h, fun _ _ h => h, fun _ _ h => h, fun _ _ h => h, fun _ _ h => h, fun _ _ h => h, fun _ _ h => RNew.keep h hB25, fun _ _ h => RNew.keep h hB25, fun _ _ h => RNew.keep h hB25, fun _ _ h => RStR.keep n24 h, fun _ hk _ => absurd rfl hk, fun _ _ h => RStR.keep n26 h, trivial⟩ hI2
        refine stepsD_cons ?_ ?_
        · intro listed vs W' hl hI hd hs hn
          refine hold ?_
          obtain ⟨x0, x1, x2, x3, x4, x5, x6, x7, x8, x9, x10, x11, x12, x13, x14, x15, x16, x17, x18, x19, x20, x21, x22, x23, x24, x25, x26, x27, x28, x29, rfl⟩ := lenlit30 hl; clear hl
          simp only [factsL, atL, refV, List.getElem?_cons_succ, List.getElem?_cons_zero, List.getD_cons_succ, List.getD_cons_zero, RelL.one, RelL.any, RelL.blk, RelL.law, RNew, RStR] at hd
          obtain ⟨rfl, ⟨b26, y26, rfl, hb26, hB26⟩, -⟩ := hd
          refine held ?_
          simp only [putAll, Act.put, List.setIfInBounds_toArray, List.set_cons_succ, List.set_cons_zero]
          have f0 := free_of_block hB26 0
          have f1 := free_of_block hB26 1
          have f2 := free_of_block hB26 2
          have f3 := free_of_block hB26 3
          have f4 := free_of_block hB26 4
          have f5 := free_of_block hB26 5
          have f6 := free_of_block hB26 6
          have f7 := free_of_block hB26 7
          have f8 := free_of_block hB26 8
          have f9 := free_of_block hB26 9
          obtain ⟨g0, g1, g2, g3, g4, g5, g6, g7, g8, g9⟩ := hB26.cells
          have hst := hB26.stored z
          have hI2 := stW_ext hI hb26 z
          have n24 := hn 24 26 rfl rfl (by decide) (hs 24 (by decide)) (hs 26 (by decide))
          have n25 := hn 25 26 rfl rfl (by decide) (hs 25 (by decide)) (hs 26 (by decide))
          go_wp2_with fail
          exact relyD_store undef rfl ⟨b26, rfl, hb26, hst⟩ (Nat.le_of_eq (stW_size _ _ _).symm) ⟨fun _ _ h => h, fun _ _ h => h, fun _ _ h => h, fun _ _ h => h, fun _ _ h => h, fun _ _ h => h, fun _ _ h => h, fun _ _ h => h, fun _ _ h => h, fun _ _ h => h, fun _ _ h => h, fun _ _ h => h, fun _ _ h => h, fun _ _ h => h, fun _ _ h => h, fun _ _ h => h, fun _ _ h => h, fun _ _ h => h, fun _ _ h => h, fun _ _ h => h, fun _ _ h => h, fun _ _ h => h, fun _ _ h => h, fun _ _ h => h, fun _ _ h => RNew.keep h hB26, fun _ _ h => RNew.keep h hB26, fun _ _ h => RNew.keep h hB26, fun _ _ h => RStR.keep n24 h, fun _ _ h => RStR.keep n25 h, fun _ hk _ => absurd rfl hk, trivial⟩ hI2
        exact trivial
      · intro vs W' hl hI hd hn
        obtain ⟨x0, x1, x2, x3, x4, x5, x6, x7, x8, x9, x10, x11, x12, x13, x14, x15, x16, x17, x18, x19, x20, x21, x22, x23, x24, x25, x26, x27, x28, x29, rfl⟩ := lenlit30 hl; clear hl
        simp only [List.length_cons, List.length_nil, List.range, List.range.loop, Nat.zero_add, Nat.reduceAdd, factsL, atL, refV, List.getElem?_cons_succ, List.getElem?_cons_zero, List.getD_cons_succ, List.getD_cons_zero, RelL.one, RelL.any, RelL.blk, RelL.law, RNew, RStR] at hd
        obtain ⟨rfl, rfl, rfl, rfl, rfl, rfl, rfl, rfl, rfl, rfl, rfl, rfl, rfl, rfl, rfl, rfl, rfl, rfl, rfl, rfl, rfl, rfl, rfl, rfl, ⟨b24, y24, rfl, hb24, hB24⟩, ⟨b25, y25, rfl, hb25, hB25⟩, ⟨b26, y26, rfl, hb26, hB26⟩, ⟨d0, e0, hd0, hD0⟩, ⟨d1, e1, hd1, hD1⟩, ⟨d2, e2, hd2, hD2⟩, -⟩ := hd
        simp only [putAll, Act.put, List.setIfInBounds_toArray, List.set_cons_succ, List.set_cons_zero]
        have hE := hEV.trans hI
        have hC := hCV.ext hI
        obtain rfl : b24 = d0 := by simpa using e0
        obtain rfl : b25 = d1 := by simpa using e1
        obtain rfl : b26 = d2 := by simpa using e2
        clear hB24 hB25 hB26 e0 e1 e2 hn hI hCV hEV cx0 cx1 cx2 cx3 cx4 cx5 cx6 cx7 cx8 cx9 cy0 cy1 cy2 cy3 cy4 cy5 cy6 cy7 cy8 cy9 cz0 cz1 cz2 cz3 cz4 cz5 cz6 cz7 cz8 cz9
        have hxr := (mem_bef HV.out m1).2
        have hyr := (mem_bef HV.out m2).2
        have hzr := (mem_bef HV.out m3).2
        obtain ⟨P, hP⟩ : ∃ P : Bool, decide (x.r < y.r) = P := ⟨_, rfl⟩
        obtain ⟨Q, hQ⟩ : ∃ P : Bool, decide (y.r < x.r) = P := ⟨_, rfl⟩
        obtain ⟨S, hS⟩ : ∃ P : Bool, decide (y.r < z.r) = P := ⟨_, rfl⟩
        obtain ⟨T, hT⟩ : ∃ P : Bool, decide (x.r < z.r) = P := ⟨_, rfl⟩
        have hXX := bef_mem HV.out m1 m1
        have hXY := bef_mem HV.out m1 m2
        have hYX := bef_mem HV.out m2 m1
        have hYZ := bef_mem HV.out m2 m3
        have hXZ := bef_mem HV.out m1 m3
        rw [show decide (x.r < x.r) = false by simp] at hXX
        rw [hP] at hXY
        rw [hQ] at hYX
        rw [hS] at hYZ
        rw [hT] at hXZ
        have HXX := Lib.hid hXX
        have HXY := Lib.hid hXY
        have HYX := Lib.hid hYX
        have HYZ := Lib.hid hYZ
        have HXZ := Lib.hid hXZ
        have HP := Lib.hid hP
        have HQ := Lib.hid hQ
        have HS := Lib.hid hS
        have HT2 := Lib.hid hT
        clear hXX hXY hYX hYZ hXZ hP hQ hS hT m1 m2 m3 HE1 HE2 HE3 hm0 hmi hk1m hk2m hk3m
        obtain ⟨xa, -, xr, -⟩ := hD0.cells
        obtain ⟨ya, -, yr, -⟩ := hD1.cells
        obtain ⟨za, -, zr, -⟩ := hD2.cells
        obtain ⟨c0, c1⟩ := And.intro hC.c0 hC.c1
        generalize x.r = X at *
        generalize y.r = Y at *
        generalize z.r = Z at *
        generalize x.a = XA at *
        generalize y.a = YA at *
        generalize z.a = ZA at *
        go_wp2_with fail
        refine (before_any host hho _ k c rs X XA X XA (by omega) (by omega) _ (h1.ext hE) (fun _ => HSS.out) (TB.ext HT.out hE)).mono ?_
        rintro e wq ⟨rfl, hx⟩
        rw [HXX.out.1, HXX.out.2]
        clear c0 c1
        replace hC := hC.ext hx
        replace hE := hE.trans hx
        replace xa := hx.cell xa
        replace xr := hx.cell xr
        replace ya := hx.cell ya
        replace yr := hx.cell yr
        replace za := hx.cell za
        replace zr := hx.cell zr
        clear hx
        have c0 := hC.c0
        have c1 := hC.c1
        go_wp2_with fail
        refine (before_any host hho _ k c rs X XA Y YA (by omega) (by omega) _ (h1.ext hE) (fun _ => HSS.out) (TB.ext HT.out hE)).mono ?_
        rintro e wq ⟨rfl, hx⟩
        rw [HXY.out.1, HXY.out.2]
        clear c0 c1
        replace hC := hC.ext hx
        replace hE := hE.trans hx
        replace xa := hx.cell xa
        replace xr := hx.cell xr
        replace ya := hx.cell ya
        replace yr := hx.cell yr
        replace za := hx.cell za
        replace zr := hx.cell zr
        clear hx
        have c0 := hC.c0
        have c1 := hC.c1
        go_wp2_with fail
        refine (before_any host hho _ k c rs Y YA X XA (by omega) (by omega) _ (h1.ext hE) (fun _ => HSS.out) (TB.ext HT.out hE)).mono ?_
        rintro e wq ⟨rfl, hx⟩
        rw [HYX.out.1, HYX.out.2]
        clear c0 c1
        replace hC := hC.ext hx
        replace hE := hE.trans hx
        replace xa := hx.cell xa
        replace xr := hx.cell xr
        replace ya := hx.cell ya
        replace yr := hx.cell yr
        replace za := hx.cell za
        replace zr := hx.cell zr
        clear hx
        have c0 := hC.c0
        have c1 := hC.c1
        go_wp2_with fail
        refine (before_any host hho _ k c rs Y YA Z ZA (by omega) (by omega) _ (h1.ext hE) (fun _ => HSS.out) (TB.ext HT.out hE)).mono ?_
        rintro e wq ⟨rfl, hx⟩
        rw [HYZ.out.1, HYZ.out.2]
        clear c0 c1
        replace hC := hC.ext hx
        replace hE := hE.trans hx
        replace xa := hx.cell xa
        replace xr := hx.cell xr
        replace ya := hx.cell ya
        replace yr := hx.cell yr
        replace za := hx.cell za
        replace zr := hx.cell zr
        clear hx
        have c0 := hC.c0
        have c1 := hC.c1
        go_wp2_with fail
        refine (before_any host hho _ k c rs X XA Z ZA (by omega) (by omega) _ (h1.ext hE) (fun _ => HSS.out) (TB.ext HT.out hE)).mono ?_
        rintro e wq ⟨rfl, hx⟩
        rw [HXZ.out.1, HXZ.out.2]
        clear c0 c1
        replace hC := hC.ext hx
        replace hE := hE.trans hx
        replace xa := hx.cell xa
        replace xr := hx.cell xr
        replace ya := hx.cell ya
        replace yr := hx.cell yr
        replace za := hx.cell za
        replace zr := hx.cell zr
        clear hx
        have c0 := hC.c0
        have c1 := hC.c1
        go_upto_region 18 with fail
        rcases P with _ | _ <;> rcases Q with _ | _ <;> rcases S with _ | _ <;> rcases T with _ | _
        · obtain rfl : X = Y := by have q1 := HP.out; have q2 := HQ.out; simp at q1 q2; omega
          go_wp2_with fail
          go_ret
          exact ⟨rfl, hE⟩
        · exfalso; have q1 := HP.out; have q2 := HQ.out; have q3 := HS.out; have q4 := HT2.out; simp at q1 q2 q3 q4; omega
        · exfalso; have q1 := HP.out; have q2 := HQ.out; have q3 := HS.out; have q4 := HT2.out; simp at q1 q2 q3 q4; omega
        · obtain rfl : X = Y := by have q1 := HP.out; have q2 := HQ.out; simp at q1 q2; omega
          go_wp2_with fail
          go_ret
          exact ⟨rfl, hE⟩
        · have q5 : X ≠ Y := by have q1 := HP.out; have q2 := HQ.out; simp at q1 q2; omega
          go_wp2_with fail
          go_ret
          exact ⟨rfl, hE⟩
        · exfalso; have q1 := HP.out; have q2 := HQ.out; have q3 := HS.out; have q4 := HT2.out; simp at q1 q2 q3 q4; omega
        · have q5 : X ≠ Y := by have q1 := HP.out; have q2 := HQ.out; simp at q1 q2; omega
          go_wp2_with fail
          go_ret
          exact ⟨rfl, hE⟩
        · have q5 : X ≠ Y := by have q1 := HP.out; have q2 := HQ.out; simp at q1 q2; omega
          go_wp2_with fail
          go_ret
          exact ⟨rfl, hE⟩
        · have q5 : X ≠ Y := by have q1 := HP.out; have q2 := HQ.out; simp at q1 q2; omega
          go_wp2_with fail
          go_ret
          exact ⟨rfl, hE⟩
        · have q5 : X ≠ Y := by have q1 := HP.out; have q2 := HQ.out; simp at q1 q2; omega
          go_wp2_with fail
          go_ret
          exact ⟨rfl, hE⟩
        · exfalso; have q1 := HP.out; have q2 := HQ.out; have q3 := HS.out; have q4 := HT2.out; simp at q1 q2 q3 q4; omega
        · have q5 : X ≠ Y := by have q1 := HP.out; have q2 := HQ.out; simp at q1 q2; omega
          go_wp2_with fail
          go_ret
          exact ⟨rfl, hE⟩
        · exfalso; have q1 := HP.out; have q2 := HQ.out; have q3 := HS.out; have q4 := HT2.out; simp at q1 q2 q3 q4; omega
        · exfalso; have q1 := HP.out; have q2 := HQ.out; have q3 := HS.out; have q4 := HT2.out; simp at q1 q2 q3 q4; omega
        · exfalso; have q1 := HP.out; have q2 := HQ.out; have q3 := HS.out; have q4 := HT2.out; simp at q1 q2 q3 q4; omega
        · exfalso; have q1 := HP.out; have q2 := HQ.out; have q3 := HS.out; have q4 := HT2.out; simp at q1 q2 q3 q4; omega
end Go.Proofs.YtfohekfhcolnfaaDoor
