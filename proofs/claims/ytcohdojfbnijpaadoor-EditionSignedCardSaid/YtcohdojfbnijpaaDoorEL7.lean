/-
  The law EditionSigned. Written by wip/gen_el7.py.
-/
import Derived.Test.YtcohdojfbnijpaaDoorEL1
namespace Go.Proofs.YtcohdojfbnijpaaDoor
open Go.RowKit Go.Sort Go.Shelf
set_option linter.unusedSimpArgs false
set_option linter.unusedVariables false
set_option maxRecDepth 100000

theorem lenlit11 {vs : List Value} (h : vs.length = 11) : ∃ x0 x1 x2 x3 x4 x5 x6 x7 x8 x9 x10 : Value, vs = [x0, x1, x2, x3, x4, x5, x6, x7, x8, x9, x10] := by
  obtain ⟨x0, v0, rfl, h0⟩ := len_cons h
  obtain ⟨x1, v1, rfl, h1⟩ := len_cons h0
  obtain ⟨x2, v2, rfl, h2⟩ := len_cons h1
  obtain ⟨x3, v3, rfl, h3⟩ := len_cons h2
  obtain ⟨x4, v4, rfl, h4⟩ := len_cons h3
  obtain ⟨x5, v5, rfl, h5⟩ := len_cons h4
  obtain ⟨x6, v6, rfl, h6⟩ := len_cons h5
  obtain ⟨x7, v7, rfl, h7⟩ := len_cons h6
  obtain ⟨x8, v8, rfl, h8⟩ := len_cons h7
  obtain ⟨x9, v9, rfl, h9⟩ := len_cons h8
  obtain ⟨x10, v10, rfl, h10⟩ := len_cons h9
  obtain rfl := len_nil h10
  exact ⟨x0, x1, x2, x3, x4, x5, x6, x7, x8, x9, x10, rfl⟩

theorem lenlit13 {vs : List Value} (h : vs.length = 13) : ∃ x0 x1 x2 x3 x4 x5 x6 x7 x8 x9 x10 x11 x12 : Value, vs = [x0, x1, x2, x3, x4, x5, x6, x7, x8, x9, x10, x11, x12] := by
  obtain ⟨x0, v0, rfl, h0⟩ := len_cons h
  obtain ⟨x1, v1, rfl, h1⟩ := len_cons h0
  obtain ⟨x2, v2, rfl, h2⟩ := len_cons h1
  obtain ⟨x3, v3, rfl, h3⟩ := len_cons h2
  obtain ⟨x4, v4, rfl, h4⟩ := len_cons h3
  obtain ⟨x5, v5, rfl, h5⟩ := len_cons h4
  obtain ⟨x6, v6, rfl, h6⟩ := len_cons h5
  obtain ⟨x7, v7, rfl, h7⟩ := len_cons h6
  obtain ⟨x8, v8, rfl, h8⟩ := len_cons h7
  obtain ⟨x9, v9, rfl, h9⟩ := len_cons h8
  obtain ⟨x10, v10, rfl, h10⟩ := len_cons h9
  obtain ⟨x11, v11, rfl, h11⟩ := len_cons h10
  obtain ⟨x12, v12, rfl, h12⟩ := len_cons h11
  obtain rfl := len_nil h12
  exact ⟨x0, x1, x2, x3, x4, x5, x6, x7, x8, x9, x10, x11, x12, rfl⟩

def RwN (W : World) (a : Option Addr) (n c : Nat) (xs : List Lp) (p : Nat) : Prop := Rw W a n c xs ∧ ∀ bb off, a = some ⟨bb, off, none⟩ → 0 < n → bb ≠ p
theorem RwN.set {W : World} {a : Option Addr} {n c : Nat} {xs : List Lp} {p : Nat} (h : RwN W a n c xs p) (i : Nat) (v : Value) : RwN (W.setCell ⟨p, i, none⟩ v) a n c xs p :=
  ⟨h.1.below (fun bb off ha hn => heap_setCell_other W ⟨p, i, none⟩ bb v (by have := h.2 bb off ha hn; simp only; omega)), h.2⟩
theorem RwN.six {W : World} {a : Option Addr} {n c : Nat} {xs : List Lp} {p : Nat} (h : RwN W a n c xs p) (v0 v1 v2 v3 v4 v5 : Value) :
    Rw ((((((W.setCell ⟨p, 0, none⟩ v0).setCell ⟨p, 1, none⟩ v1).setCell ⟨p, 2, none⟩ v2).setCell ⟨p, 3, none⟩ v3).setCell ⟨p, 4, none⟩ v4).setCell ⟨p, 5, none⟩ v5) a n c xs :=
  ((((((h.set 0 v0).set 1 v1).set 2 v2).set 3 v3).set 4 v4).set 5 v5).1
theorem RwN.of {W : World} {a : Option Addr} {n c : Nat} {xs : List Lp} {p : Nat} (h : Rw W a n c xs) (hv : validL xs = true) (hB : Bk W p 27 #[.int .i64 0, .int .i64 0, .int .i64 0, .slice none 0 0, .int .i64 0, .int .i64 0]) : RwN W a n c xs p := by
  refine ⟨h, fun bb off ha h0 hbb => ?_⟩
  subst hbb
  obtain ⟨b2, off2, he, hc⟩ := h.cells 0 h0
  rw [ha] at he
  simp at he
  obtain ⟨rfl, rfl⟩ := he
  have h1 := hc 1 (.int .i64 (nthR xs 0).s) rfl
  rw [Nat.zero_mul, Nat.add_zero] at h1
  have hs : (nthR xs 0).s = 1 ∨ (nthR xs 0).s = -1 := by
    have := vfrom_gt (validL_from hv) (nthR xs 0) (nthR_mem (by rw [h.hlen]; exact h0))
    omega
  generalize hk : off + 1 = k at h1
  have hk6 : k < 6 := by
    rcases Nat.lt_or_ge k 6 with h6 | h6
    · exact h6
    · exfalso
      have hb : W.heap[bb]? = _ := hB
      simp [World.cell?, hb] at h1
      rw [List.getElem?_eq_none (by simpa using h6)] at h1
      cases h1
  have hz : ∀ v, (#[.int .i64 0, .int .i64 0, .int .i64 0, .slice none 0 0, .int .i64 0, .int .i64 0] : Array Value)[k]? = some v → v = .int .i64 (nthR xs 0).s := fun v hv2 => by
    have := hB.c k v hv2
    rw [this] at h1
    simpa using h1
  have hk' : k = 0 ∨ k = 1 ∨ k = 2 ∨ k = 3 ∨ k = 4 ∨ k = 5 := by omega
  rcases hk' with rfl | rfl | rfl | rfl | rfl | rfl <;> (have := hz _ rfl; simp at this; try omega)
theorem RwN.fresh {W : World} {a : Option Addr} {n c : Nat} {xs : List Lp} {p : Nat} (h : Rw W a n c xs) (hp : W.heap.size ≤ p) : RwN W a n c xs p := by
  refine ⟨h, fun bb off ha h0 hbb => ?_⟩
  obtain ⟨b2, off2, he, hc⟩ := h.cells 0 h0
  rw [ha] at he
  simp at he
  obtain ⟨rfl, rfl⟩ := he
  have := lt_of_cell (hc 0 (.int .i64 (nthR xs 0).d) rfl)
  simp only at this
  omega
theorem ver_bd {x : Int} (h : 0 ≤ x ∧ x ≤ 65535) : 1 ≤ wrap64 (1 + (wrap64 x).tmod 1000) ∧ wrap64 (1 + (wrap64 x).tmod 1000) ≤ 1000 := by
  have e : wrap64 x = x := by unfold wrap64; omega
  rw [e, Int.tmod_eq_emod_of_nonneg h.1]
  unfold wrap64; omega
theorem Rw.setS {W : World} {g n c : Nat} {xs : List Lp} (h : Rw W (some ⟨g, 0, none⟩) n c xs) {j : Nat} (hj : j < n) {s : Int} (hs : (Lit.int .i64 s).wf = true) :
    Rw (W.setCell ⟨g, j * 2 + 1, none⟩ (.int .i64 s)) (some ⟨g, 0, none⟩) n c (xs.set j ⟨(nthR xs j).d, s⟩) := by
  have hN : ∀ i, nthR (xs.set j ⟨(nthR xs j).d, s⟩) i = if i = j then ⟨(nthR xs j).d, s⟩ else nthR xs i := fun i => by
    unfold nthR
    rw [List.getD_eq_getElem?_getD, List.getElem?_set]
    by_cases hij : j = i
    · subst hij
      rw [if_pos rfl, if_pos (by rw [h.hlen]; exact hj), if_pos rfl]; rfl
    · rw [if_neg hij, if_neg (fun e => hij e.symm), List.getD_eq_getElem?_getD]
  refine ⟨by rw [List.length_set]; exact h.hlen, h.le, h.max, h.lim, fun i hi => ⟨g, 0, rfl, fun t v hv => ?_⟩, fun x hx => ?_⟩
  · obtain ⟨b2, off2, he, hc⟩ := h.cells i hi
    simp at he
    obtain ⟨rfl, rfl⟩ := he
    rw [hN] at hv
    have hsz : Cel.sz Lp = 2 := sz_lp
    rw [hsz] at hc ⊢
    by_cases hij : i = j
    · subst hij
      rw [if_pos rfl] at hv
      have ht2 : t = 0 ∨ t = 1 := by
        have := (List.getElem?_eq_some_iff.1 hv).1
        change t < 2 at this
        omega
      rcases ht2 with rfl | rfl
      · have h0 := hc 0 (.int .i64 (nthR xs i).d) rfl
        have : v = .int .i64 (nthR xs i).d := by
          have : some (Value.int .i64 (nthR xs i).d) = some v := hv
          simpa using this.symm
        rw [this, World.cell?_setCell_other _ _ _ _ (by intro e; simp only [Addr.mk.injEq] at e; omega)]
        exact h0
      · have h0 := hc 1 (.int .i64 (nthR xs i).s) rfl
        have : v = .int .i64 s := by
          have : some (Value.int .i64 s) = some v := hv
          simpa using this.symm
        rw [this, show 0 + i * 2 + 1 = i * 2 + 1 by omega]
        rw [show 0 + i * 2 + 1 = i * 2 + 1 by omega] at h0
        exact World.cell?_setCell_same _ _ _ h0
    · rw [if_neg hij] at hv
      have ht2 : t = 0 ∨ t = 1 := by
        have := (List.getElem?_eq_some_iff.1 hv).1
        change t < 2 at this
        omega
      rw [World.cell?_setCell_other _ _ _ _ (by intro e; simp only [Addr.mk.injEq] at e; omega)]
      exact hc t v hv
  · rcases List.mem_or_eq_of_mem_set hx with hx | rfl
    · exact h.wf x hx
    · exact ⟨(h.wfAt hj).1, hs⟩
theorem vfrom_set : ∀ {l : List Lp} {last : Int} {j : Nat} {s : Int}, vfrom last l = true → j < l.length → (s = 1 ∨ s = -1) → vfrom last (l.set j ⟨(nthR l j).d, s⟩) = true
  | [], _, _, _, _, h, _ => by simp at h
  | x :: l, last, 0, s, h, _, hs => by
    simp only [vfrom, Bool.and_eq_true, goodL_iff] at h
    simp only [List.set_cons_zero, vfrom, Bool.and_eq_true, goodL_iff]
    exact ⟨⟨h.1.1, h.1.2.1, hs⟩, h.2⟩
  | x :: l, last, j + 1, s, h, hj, hs => by
    simp only [vfrom, Bool.and_eq_true] at h
    simp only [List.set_cons_succ, vfrom, Bool.and_eq_true]
    exact ⟨h.1, vfrom_set h.2 (by simpa using hj) hs⟩
theorem validL_set {l : List Lp} {j : Nat} {s : Int} (h : validL l = true) (hj : j < l.length) (hs : s = 1 ∨ s = -1) : validL (l.set j ⟨(nthR l j).d, s⟩) = true := by
  unfold validL
  rw [Bool.and_eq_true]
  exact ⟨vfrom_set (validL_from h) hj hs, decide_eq_true (by rw [List.length_set]; exact validL_len h)⟩
theorem idx_bd {x : Int} {n : Nat} (h : 0 ≤ x ∧ x ≤ 255) (h0 : 0 < n) : ∃ J : Nat, (wrap64 x).tmod (n : Int) = (J : Int) ∧ J < n := by
  have e : wrap64 x = x := by unfold wrap64; omega
  rw [e, Int.tmod_eq_emod_of_nonneg h.1]
  have e1 := Int.emod_nonneg x (show (n : Int) ≠ 0 by omega)
  have e2 := Int.emod_lt_of_pos x (show 0 < (n : Int) by omega)
  exact ⟨(x % n).toNat, by omega, by omega⟩
def RSg (E : Option Addr → Nat → Nat → Value) (l : List Lp) : RelL Ext := ⟨none, fun _ v W => ∃ a n c, v = .tuple #[E a n c, .int .i64 0] ∧ Rw W a n c l, fun _ v W W' ⟨a, n, c, h1, h2⟩ hE => ⟨a, n, c, h1, h2.ext hE⟩⟩
def RSu (j : Nat) : RelL Ext := ⟨some j, fun u v _ => v = u ∧ ∃ x, v = .tuple #[x, .int .i64 0], fun _ _ _ _ h _ => h⟩
def RSe (E : Option Addr → Nat → Nat → Value) (l : List Lp) : RelL Ext := ⟨none, fun _ v W => ∃ a n c, v = E a n c ∧ Rw W a n c l, fun _ v W W' ⟨a, n, c, h1, h2⟩ hE => ⟨a, n, c, h1, h2.ext hE⟩⟩
def RSv (B : Nat) : RelL Ext := ⟨none, fun _ v W => ∃ b, v = .pointer (some ⟨b, 0, none⟩) ∧ B ≤ b ∧ Bk W b 27 #[.int .i64 0, .int .i64 0, .int .i64 0, .slice none 0 0, .int .i64 0, .int .i64 0], fun _ v W W' ⟨b, h1, h2, h3⟩ hE => ⟨b, h1, h2, h3.ext hE⟩⟩
def RSt (j B : Nat) (E : Option Addr → Nat → Nat → Array Value) (l : List Lp) : RelL Ext := ⟨some j, fun u _ W => ∃ b a n c, u = .pointer (some ⟨b, 0, none⟩) ∧ B ≤ b ∧ Bk W b 27 (E a n c) ∧ Rw W a n c l, fun u v W W' ⟨b, a, n, c, h1, h2, h3, h4⟩ hE => ⟨b, a, n, c, h1, h2, h3.ext hE, h4.ext hE⟩⟩
theorem SgP.yes7 {key once v f u : Int} {l : List Lp} {w w' : World} {e : Ending} (h : SgP key once v f u l w e w') (h1 : frmB v f u l = true) (h2 : sgOk key once = true) :
    Ext w w' ∧ ∃ a' n' c', e = .returned (.tuple #[.agg #[.int .i64 v, .int .i64 f, .int .i64 u, .slice a' n' c', .int .i64 (sgC key once (msgE v f u l)), .int .i64 (sgS key once (msgE v f u l))], .int .i64 0]) ∧ Rw w' a' n' c' l := by
  obtain ⟨hE, h | h⟩ := h
  · exact ⟨hE, h.2.2⟩
  · rcases h.1 with h | h
    · rw [h1] at h; cases h
    · rw [h2] at h; cases h

theorem sec_of7 (n : Int) (hn : 0 ≤ n ∧ n ≤ 18446744073709551615) : ∃ k : Nat, 1 + n % 1073741788 = (k : Int) ∧ Sec k := ⟨(1 + n % 1073741788).toNat, by omega, by omega, by omega⟩
set_option maxHeartbeats 16000000 in
theorem esigned_law (pv pf pu : Int) (pa : Option Addr) (pn pc : Nat) (pl : List Lp) (pC pS : Int) (key once by_ which : Int) (hk0 : 0 ≤ key ∧ key ≤ 18446744073709551615) (ho0 : 0 ≤ once ∧ once ≤ 18446744073709551615) (hb0 : 0 ≤ by_ ∧ by_ ≤ 65535) (hw0 : 0 ≤ which ∧ which ≤ 255) (w : World) (hp : Rw w pa pn pc pl) (ht : TB w) :
    Calls Tryd.prog 4 #[.agg #[.int .i64 pv, .int .i64 pf, .int .i64 pu, .slice pa pn pc, .int .i64 pC, .int .i64 pS], .int .u64 key, .int .u64 once, .int .u16 by_, .int .u8 which] w (Yes w) := by
  have HT := Lib.hid ht
  have HBY := Lib.hid hb0
  have HWH := Lib.hid hw0
  have HKY := Lib.hid hk0
  have HON := Lib.hid ho0
  clear ht hb0 hw0 hk0 ho0
  have hP := Bk.new w 27 #[.int .i64 pv, .int .i64 pf, .int .i64 pu, .slice pa pn pc, .int .i64 pC, .int .i64 pS]
  have hE : Ext w (w.alloc (.cells #[.int .i64 pv, .int .i64 pf, .int .i64 pu, .slice pa pn pc, .int .i64 pC, .int .i64 pS] 27)) := (Ext.refl w).alloc _
  go_enter Tryd.func4, Tryd.ntmps4
  go_upto_region 1 with fail
  generalize w.alloc (.cells #[.int .i64 pv, .int .i64 pf, .int .i64 pu, .slice pa pn pc, .int .i64 pC, .int .i64 pS] 27) = W at *
  generalize w.heap.size = pb at hP ⊢
  have p0 := hP.c 0 _ rfl
  have p1 := hP.c 1 _ rfl
  have p2 := hP.c 2 _ rfl
  have p3 := hP.c 3 _ rfl
  have p4 := hP.c 4 _ rfl
  have p5 := hP.c 5 _ rfl
  go_wp2_with fail
  refine (ehead_any W (TB.ext HT.out hE)).mono ?_
  rintro _ w1 ⟨rfl, hx⟩
  replace hP := hP.ext hx
  replace hE := hE.trans hx
  clear hx p0 p1 p2 p3 p4 p5
  have p0 := hP.c 0 _ rfl
  have p1 := hP.c 1 _ rfl
  have p2 := hP.c 2 _ rfl
  have p3 := hP.c 3 _ rfl
  have p4 := hP.c 4 _ rfl
  have p5 := hP.c 5 _ rfl
  by_cases hn : pn ≤ 110
  rotate_left
  · have n1 : 110 < (pn : Int) := by omega
    have n2 := decide_eq_true n1
    clear hn
    go_wp2_with fail
    go_ret
    exact ⟨rfl, hE⟩
  have n1 : ¬ 110 < (pn : Int) := by omega
  have n2 := decide_eq_false n1
  have HN := Lib.hid hn
  clear hn
  go_wp2_with fail
  refine (rformed_any pv pf pu pa pn pc pl pC pS w1 (hp.ext hE)).mono ?_
  rintro _ w2 ⟨rfl, hx⟩
  replace hP := hP.ext hx
  replace hE := hE.trans hx
  clear hx p0 p1 p2 p3 p4 p5
  have p0 := hP.c 0 _ rfl
  have p1 := hP.c 1 _ rfl
  have p2 := hP.c 2 _ rfl
  have p3 := hP.c 3 _ rfl
  have p4 := hP.c 4 _ rfl
  have p5 := hP.c 5 _ rfl
  rcases hv : frmB pv pf pu pl with _ | _
  · clear hv
    go_wp2_with fail
    go_ret
    exact ⟨rfl, hE⟩
  have HF := Lib.hid hv
  clear hv
  clear n1 n2
  obtain ⟨k, hk, sk⟩ := sec_of7 key HKY.out
  obtain ⟨o, ho, so⟩ := sec_of7 once HON.out
  have HK := Lib.hid sk
  have HO := Lib.hid so
  have HOE := Lib.hid ho
  clear sk so ho
  go_wp2_with fail
  refine (rsecret_any key HKY.out w2).mono ?_
  rintro _ w' ⟨rfl, hw⟩
  rw [hw, hk]
  clear hw hk w'
  go_wp2_with fail
  refine (rpublic_any k (by have := HK.out.lt; omega) w2).mono ?_
  rintro _ w' ⟨rfl, hw⟩
  rw [hw]
  clear hw w'
  have HSO : Hid (sgOk (k : Int) (o : Int) = true) := Lib.hid (by unfold sgOk; rw [HK.out.inQ, HO.out.inQ]; rfl)
  obtain ⟨SC, hSC⟩ : ∃ z, sgC (k : Int) (o : Int) (msgE pv pf pu pl) = z := ⟨_, rfl⟩
  obtain ⟨SS, hSS⟩ : ∃ z, sgS (k : Int) (o : Int) (msgE pv pf pu pl) = z := ⟨_, rfl⟩
  have HSC := Lib.hid hSC
  have HSS := Lib.hid hSS
  clear hSC hSS
  have HVL := Lib.hid (frmB_iff.1 HF.out).2.2.2.2.2
  go_upto_region 6 with fail
  refine region_relyL (S := Ext) (fun W' => Ext w2 W') [some 38, some 39, some 40, some 41, some 42, some 37, some 43, some 44, some 14, none, some 15] [[], [], [1], [], [0, 1, 2, 3], [0, 1, 2, 3, 4], [0, 1, 2, 3, 4, 5], [0, 1, 2, 3, 4, 5], [], [0, 1, 2, 3, 4, 5, 6, 8], [0, 1, 2, 3, 4, 5, 6, 7, 8, 9]] [[], [], [1], [], [0, 2, 3], [4], [4, 5], [5], [], [6, 8], [7]] [none, none, none, none, none, some 4, none, none, none, some 8, none] [[], [], [], [], [], [], [], [], [], [4, 6, 8, 9], []] [7, 9, 10] [.one (.int .i64 (k : Int)), .one (.int .u64 once), .one (.int .i64 (o : Int)), .one (.agg #[.int .i64 pv, .int .i64 pf, .int .i64 pu, .slice pa pn pc, .int .i64 pC, .int .i64 pS]), RSg (fun a n c => .agg #[.int .i64 pv, .int .i64 pf, .int .i64 pu, .slice a n c, .int .i64 SC, .int .i64 SS]) pl, RSu 4, RSe (fun a n c => .agg #[.int .i64 pv, .int .i64 pf, .int .i64 pu, .slice a n c, .int .i64 SC, .int .i64 SS]) pl, .one (.int .i64 0), RSv w2.heap.size, RSt 8 w2.heap.size (fun a n c => #[.int .i64 pv, .int .i64 pf, .int .i64 pu, .slice a n c, .int .i64 SC, .int .i64 SS]) pl, .one (.int .i64 0)] (by kernel_rfl) (by kernel_rfl) rfl (by kernel_rfl) (Ext.refl w2).drew ?_ ?_
  · refine stepsL_cons ?_ ?_
    · intro vs W' hl hI hd
      refine hold ?_
      obtain ⟨x0, x1, x2, x3, x4, x5, x6, x7, x8, x9, x10, rfl⟩ := lenlit11 hl; clear hl
      refine held ?_
      simp only [putAll, Act.put, List.setIfInBounds_toArray, List.set_cons_succ, List.set_cons_zero]
      go_wp2_with fail
      exact relyL_done _ rfl rfl (Ext.refl _) hI
    refine stepsL_cons ?_ ?_
    · intro vs W' hl hI hd
      refine hold ?_
      obtain ⟨x0, x1, x2, x3, x4, x5, x6, x7, x8, x9, x10, rfl⟩ := lenlit11 hl; clear hl
      refine held ?_
      simp only [putAll, Act.put, List.setIfInBounds_toArray, List.set_cons_succ, List.set_cons_zero]
      go_wp2_with fail
      exact relyL_done _ rfl rfl (Ext.refl _) hI
    refine stepsL_cons ?_ ?_
    · intro vs W' hl hI hd
      refine hold ?_
      obtain ⟨x0, x1, x2, x3, x4, x5, x6, x7, x8, x9, x10, rfl⟩ := lenlit11 hl; clear hl
      simp only [factsL, atL, refV, List.getElem?_cons_succ, List.getElem?_cons_zero, List.getD_cons_succ, List.getD_cons_zero, RelL.one, RelL.any, RelL.blk, RelL.law, RSg, RSu, RSe, RSv, RSt] at hd
      obtain ⟨rfl, -⟩ := hd
      refine held ?_
      simp only [putAll, Act.put, List.setIfInBounds_toArray, List.set_cons_succ, List.set_cons_zero]
      go_wp2_with fail
      refine (rsecret_any once HON.out W').mono ?_
      rintro _ w' ⟨rfl, hw⟩
      rw [hw, HOE.out]
      clear hw w'
      go_wp2_with fail
      exact relyL_done _ rfl rfl (Ext.refl _) hI
    refine stepsL_cons ?_ ?_
    · intro vs W' hl hI hd
      refine hold ?_
      obtain ⟨x0, x1, x2, x3, x4, x5, x6, x7, x8, x9, x10, rfl⟩ := lenlit11 hl; clear hl
      refine held ?_
      simp only [putAll, Act.put, List.setIfInBounds_toArray, List.set_cons_succ, List.set_cons_zero]
      have q0 := hI.cell p0
      have q1 := hI.cell p1
      have q2 := hI.cell p2
      have q3 := hI.cell p3
      have q4 := hI.cell p4
      have q5 := hI.cell p5
      go_wp2_with fail
      exact relyL_done _ rfl rfl (Ext.refl _) hI
    refine stepsL_cons ?_ ?_
    · intro vs W' hl hI hd
      refine hold ?_
      obtain ⟨x0, x1, x2, x3, x4, x5, x6, x7, x8, x9, x10, rfl⟩ := lenlit11 hl; clear hl
      simp only [factsL, atL, refV, List.getElem?_cons_succ, List.getElem?_cons_zero, List.getD_cons_succ, List.getD_cons_zero, RelL.one, RelL.any, RelL.blk, RelL.law, RSg, RSu, RSe, RSv, RSt] at hd
      obtain ⟨rfl, rfl, rfl, -⟩ := hd
      refine held ?_
      simp only [putAll, Act.put, List.setIfInBounds_toArray, List.set_cons_succ, List.set_cons_zero]
      go_wp2_with fail
      refine (esgn_any k o pv pf pu pa pn pc pl pC pS W' ((hp.ext hE).ext hI) (TB.ext HT.out (hE.trans hI))).mono ?_
      rintro _ w4 hsg
      obtain ⟨hx4, a4, n4, c4, rfl, hr4⟩ := hsg.yes7 HF.out HSO.out
      rw [HSC.out, HSS.out]
      clear hsg
      go_wp2_with fail
      exact relyL_done _ rfl ⟨_, _, _, rfl, hr4⟩ hx4 (hI.trans hx4)
    refine stepsL_cons ?_ ?_
    · intro vs W' hl hI hd
      refine hold ?_
      obtain ⟨x0, x1, x2, x3, x4, x5, x6, x7, x8, x9, x10, rfl⟩ := lenlit11 hl; clear hl
      simp only [factsL, atL, refV, List.getElem?_cons_succ, List.getElem?_cons_zero, List.getD_cons_succ, List.getD_cons_zero, RelL.one, RelL.any, RelL.blk, RelL.law, RSg, RSu, RSe, RSv, RSt] at hd
      obtain ⟨⟨a4, n4, c4, rfl, hr4⟩, -⟩ := hd
      refine held ?_
      simp only [putAll, Act.put, List.setIfInBounds_toArray, List.set_cons_succ, List.set_cons_zero]
      go_wp2_with fail
      exact relyL_done _ rfl ⟨rfl, _, rfl⟩ (Ext.refl _) hI
    refine stepsL_cons ?_ ?_
    · intro vs W' hl hI hd
      refine hold ?_
      obtain ⟨x0, x1, x2, x3, x4, x5, x6, x7, x8, x9, x10, rfl⟩ := lenlit11 hl; clear hl
      simp only [factsL, atL, refV, List.getElem?_cons_succ, List.getElem?_cons_zero, List.getD_cons_succ, List.getD_cons_zero, RelL.one, RelL.any, RelL.blk, RelL.law, RSg, RSu, RSe, RSv, RSt] at hd
      obtain ⟨⟨a4, n4, c4, rfl, hr4⟩, ⟨h5, y5, h5b⟩, -⟩ := hd
      refine held ?_
      simp only [putAll, Act.put, List.setIfInBounds_toArray, List.set_cons_succ, List.set_cons_zero]
      subst h5
      clear h5b y5
      go_wp2_with fail
      exact relyL_done _ rfl ⟨_, _, _, rfl, hr4⟩ (Ext.refl _) hI
    refine stepsL_cons ?_ ?_
    · intro vs W' hl hI hd
      refine hold ?_
      obtain ⟨x0, x1, x2, x3, x4, x5, x6, x7, x8, x9, x10, rfl⟩ := lenlit11 hl; clear hl
      simp only [factsL, atL, refV, List.getElem?_cons_succ, List.getElem?_cons_zero, List.getD_cons_succ, List.getD_cons_zero, RelL.one, RelL.any, RelL.blk, RelL.law, RSg, RSu, RSe, RSv, RSt] at hd
      obtain ⟨⟨h5, y5, h5b⟩, -⟩ := hd
      refine held ?_
      simp only [putAll, Act.put, List.setIfInBounds_toArray, List.set_cons_succ, List.set_cons_zero]
      subst h5b
      clear h5
      go_wp2_with fail
      exact relyL_done _ rfl rfl (Ext.refl _) hI
    refine stepsL_cons ?_ ?_
    · intro vs W' hl hI hd
      refine hold ?_
      obtain ⟨x0, x1, x2, x3, x4, x5, x6, x7, x8, x9, x10, rfl⟩ := lenlit11 hl; clear hl
      refine held ?_
      simp only [putAll, Act.put, List.setIfInBounds_toArray, List.set_cons_succ, List.set_cons_zero]
      go_wp2_with fail
      exact relyL_done _ rfl ⟨_, rfl, hI.sz, Bk.new _ _ _⟩ ((Ext.refl _).alloc _) (hI.alloc _)
    refine stepsL_cons ?_ ?_
    · intro vs W' hl hI hd
      refine hold ?_
      obtain ⟨x0, x1, x2, x3, x4, x5, x6, x7, x8, x9, x10, rfl⟩ := lenlit11 hl; clear hl
      simp only [factsL, atL, refV, List.getElem?_cons_succ, List.getElem?_cons_zero, List.getD_cons_succ, List.getD_cons_zero, RelL.one, RelL.any, RelL.blk, RelL.law, RSg, RSu, RSe, RSv, RSt] at hd
      obtain ⟨⟨a6, n6, c6, rfl, hr6⟩, ⟨b8, rfl, hb8, hB8⟩, -⟩ := hd
      refine held ?_
      simp only [putAll, Act.put, List.setIfInBounds_toArray, List.set_cons_succ, List.set_cons_zero]
      have f0 := hB8.free 0
      have g0 := hB8.c 0 _ rfl
      have f1 := hB8.free 1
      have g1 := hB8.c 1 _ rfl
      have f2 := hB8.free 2
      have g2 := hB8.c 2 _ rfl
      have f3 := hB8.free 3
      have g3 := hB8.c 3 _ rfl
      have f4 := hB8.free 4
      have g4 := hB8.c 4 _ rfl
      have f5 := hB8.free 5
      have g5 := hB8.c 5 _ rfl
      have hN := (RwN.of hr6 HVL.out hB8).six (.int .i64 pv) (.int .i64 pf) (.int .i64 pu) (.slice a6 n6 c6) (.int .i64 SC) (.int .i64 SS)
      have hS := hB8.set6 (.int .i64 pv) (.int .i64 pf) (.int .i64 pu) (.slice a6 n6 c6) (.int .i64 SC) (.int .i64 SS)
      have hI2 := ((((((hI.setCell (p := ⟨b8, 0, none⟩) hb8 (.int .i64 pv)).setCell (p := ⟨b8, 1, none⟩) hb8 (.int .i64 pf)).setCell (p := ⟨b8, 2, none⟩) hb8 (.int .i64 pu)).setCell (p := ⟨b8, 3, none⟩) hb8 (.slice a6 n6 c6)).setCell (p := ⟨b8, 4, none⟩) hb8 (.int .i64 SC)).setCell (p := ⟨b8, 5, none⟩) hb8 (.int .i64 SS))
      go_wp2_with fail
      exact relyL_lose undef rfl ⟨b8, a6, n6, c6, rfl, hb8, hS, hN⟩ (keepsL_of ⟨.inr (fun _ _ h => h), .inr (fun _ _ h => h), .inr (fun _ _ h => h), .inr (fun _ _ h => h), .inl (by decide), .inr (fun _ _ h => h), .inl (by decide), .inr (fun _ _ h => h), .inl (by decide), .inl (by decide), .inr (fun _ _ h => h), trivial⟩) hI2
    refine stepsL_cons ?_ ?_
    · intro vs W' hl hI hd
      refine hold ?_
      obtain ⟨x0, x1, x2, x3, x4, x5, x6, x7, x8, x9, x10, rfl⟩ := lenlit11 hl; clear hl
      simp only [factsL, atL, refV, List.getElem?_cons_succ, List.getElem?_cons_zero, List.getD_cons_succ, List.getD_cons_zero, RelL.one, RelL.any, RelL.blk, RelL.law, RSg, RSu, RSe, RSv, RSt] at hd
      obtain ⟨rfl, -⟩ := hd
      refine held ?_
      simp only [putAll, Act.put, List.setIfInBounds_toArray, List.set_cons_succ, List.set_cons_zero]
      go_wp2_with fail
      exact relyL_done _ rfl rfl (Ext.refl _) hI
    exact trivial
  · intro vs W' hl hI hd
    obtain ⟨x0, x1, x2, x3, x4, x5, x6, x7, x8, x9, x10, rfl⟩ := lenlit11 hl; clear hl
    simp only [factsL, atL, refV, List.getElem?_cons_succ, List.getElem?_cons_zero, List.getD_cons_succ, List.getD_cons_zero, RelL.one, RelL.any, RelL.blk, RelL.law, RSg, RSu, RSe, RSv, RSt] at hd
    obtain ⟨rfl, ⟨b8, a8, n8, c8, rfl, hb8, hS8, hr8⟩, rfl, -⟩ := hd
    simp only [putAll, Act.put, List.setIfInBounds_toArray, List.set_cons_succ, List.set_cons_zero]
    clear p0 p1 p2 p3 p4 p5
    replace hP := hP.ext hI
    replace hE := hE.trans hI
    clear hI
    generalize W' = V at *
    have p0 := hP.c 0 _ rfl
    have p1 := hP.c 1 _ rfl
    have p2 := hP.c 2 _ rfl
    have p3 := hP.c 3 _ rfl
    have p4 := hP.c 4 _ rfl
    have p5 := hP.c 5 _ rfl
    have s0 := hS8.c 0 _ rfl
    have s1 := hS8.c 1 _ rfl
    have s2 := hS8.c 2 _ rfl
    have s3 := hS8.c 3 _ rfl
    have s4 := hS8.c 4 _ rfl
    have s5 := hS8.c 5 _ rfl
    have HR1 : Hid (rgtF (pw 2147483579 4 k : Nat) pv pf pu pl SC SS = (true, 0)) := Lib.hid (by
      unfold rgtF
      rw [if_pos HF.out, ← HSC.out, ← HSS.out, (verB_sign HK.out HO.out (msgE pv pf pu pl) (msgE pv pf pu pl)).1, (verB_sign HK.out HO.out (msgE pv pf pu pl) (msgE pv pf pu pl)).2, beq_self_eq_true])
    go_wp2_with fail
    refine (ergt_any (pw 2147483579 4 k : Nat) pv pf pu a8 n8 c8 pl SC SS V hr8 (TB.ext HT.out hE)).mono ?_
    rintro _ w7 ⟨rfl, hx⟩
    rw [HR1.out]
    replace hP := hP.ext hx
    replace hS8 := hS8.ext hx
    replace hr8 := hr8.ext hx
    replace hE := hE.trans hx
    clear hx p0 p1 p2 p3 p4 p5 s0 s1 s2 s3 s4 s5
    have p0 := hP.c 0 _ rfl
    have p1 := hP.c 1 _ rfl
    have p2 := hP.c 2 _ rfl
    have p3 := hP.c 3 _ rfl
    have p4 := hP.c 4 _ rfl
    have p5 := hP.c 5 _ rfl
    have s0 := hS8.c 0 _ rfl
    have s1 := hS8.c 1 _ rfl
    have s2 := hS8.c 2 _ rfl
    have s3 := hS8.c 3 _ rfl
    have s4 := hS8.c 4 _ rfl
    have s5 := hS8.c 5 _ rfl
    go_wp2_with fail
    refine (r17same_any a8 n8 c8 pl pa pn pc pl w7 hr8 (hp.ext hE)).mono ?_
    rintro _ w8 ⟨rfl, hx⟩
    rw [decide_eq_true rfl]
    replace hP := hP.ext hx
    replace hS8 := hS8.ext hx
    replace hr8 := hr8.ext hx
    replace hE := hE.trans hx
    clear hx p0 p1 p2 p3 p4 p5 s0 s1 s2 s3 s4 s5
    have p0 := hP.c 0 _ rfl
    have p1 := hP.c 1 _ rfl
    have p2 := hP.c 2 _ rfl
    have p3 := hP.c 3 _ rfl
    have p4 := hP.c 4 _ rfl
    have p5 := hP.c 5 _ rfl
    have s0 := hS8.c 0 _ rfl
    have s1 := hS8.c 1 _ rfl
    have s2 := hS8.c 2 _ rfl
    have s3 := hS8.c 3 _ rfl
    have s4 := hS8.c 4 _ rfl
    have s5 := hS8.c 5 _ rfl
    go_upto_region 11 with fail
    have hT := Bk.new w8 27 #[.int .i64 pv, .int .i64 pf, .int .i64 pu, .slice a8 n8 c8, .int .i64 SC, .int .i64 SS]
    have hx := (Ext.refl w8).alloc (.cells #[.int .i64 pv, .int .i64 pf, .int .i64 pu, .slice a8 n8 c8, .int .i64 SC, .int .i64 SS] 27)
    generalize w8.alloc (.cells #[.int .i64 pv, .int .i64 pf, .int .i64 pu, .slice a8 n8 c8, .int .i64 SC, .int .i64 SS] 27) = V9 at *
    have hrn : ∀ bb off, a8 = some ⟨bb, off, none⟩ → 0 < n8 → bb ≠ w8.heap.size := (RwN.fresh hr8 (Nat.le_refl _)).2
    have hTs : w.heap.size ≤ w8.heap.size := hE.sz
    have hTg : pb < w8.heap.size ∧ b8 < w8.heap.size := ⟨hP.lt, hS8.lt⟩
    generalize w8.heap.size = bt at *
    replace hP := hP.ext hx
    replace hS8 := hS8.ext hx
    replace hr8 := hr8.ext hx
    replace hE := hE.trans hx
    clear hx p0 p1 p2 p3 p4 p5 s0 s1 s2 s3 s4 s5
    have p0 := hP.c 0 _ rfl
    have p1 := hP.c 1 _ rfl
    have p2 := hP.c 2 _ rfl
    have p3 := hP.c 3 _ rfl
    have p4 := hP.c 4 _ rfl
    have p5 := hP.c 5 _ rfl
    have s0 := hS8.c 0 _ rfl
    have s1 := hS8.c 1 _ rfl
    have s2 := hS8.c 2 _ rfl
    have s3 := hS8.c 3 _ rfl
    have s4 := hS8.c 4 _ rfl
    have s5 := hS8.c 5 _ rfl
    have t0 := hT.c 0 _ rfl
    have t1 := hT.c 1 _ rfl
    have t2 := hT.c 2 _ rfl
    have t3 := hT.c 3 _ rfl
    have t4 := hT.c 4 _ rfl
    have t5 := hT.c 5 _ rfl
    have ft := hT.free 0
    go_upto_region 12 with fail
    have HVV := Lib.hid (ver_bd HBY.out)
    generalize wrap64 (1 + (wrap64 by_).tmod 1000) = VV at HVV ⊢
    have hT1 : Bk (V9.setCell ⟨bt, 0, none⟩ (.int .i64 VV)) bt 27 #[.int .i64 VV, .int .i64 pf, .int .i64 pu, .slice a8 n8 c8, .int .i64 SC, .int .i64 SS] := hT.set 0 (.int .i64 VV)
    have hP1 := hP.otherE (p := bt) (by omega) 0 (.int .i64 VV)
    have hS1 := hS8.otherE (p := bt) (by omega) 0 (.int .i64 VV)
    have hr1 := (RwN.set ⟨hr8, hrn⟩ 0 (.int .i64 VV)).1
    have hE1 := hE.setCell (p := ⟨bt, 0, none⟩) hTs (.int .i64 VV)
    generalize V9.setCell ⟨bt, 0, none⟩ (.int .i64 VV) = V10 at *
    clear p0 p1 p2 p3 p4 p5 s0 s1 s2 s3 s4 s5 t0 t1 t2 t3 t4 t5 ft hP hS8 hT hr8 hE
    have HBK : Hid (∀ W, Calls Tryd.prog 30 #[.int .i64 (pw 2147483579 4 k : Nat), .agg #[.int .i64 SC, .int .i64 SS]] W fun e w' => e = .returned (.int .i64 (pw 2147483579 4 o : Nat)) ∧ Ext W w') := Lib.hid (fun W => by
      obtain ⟨cc, hc1, hc2, hc3⟩ := sgS_ok HK.out HO.out (msgE pv pf pu pl)
      have hb := rback_any (pw 2147483579 4 k) cc ((o + cc * k) % 1073741789) (pw_lt (by omega)) hc2 (Nat.mod_lt _ (by omega)) W
      rw [back_sign k o cc hc2 HO.out.lt] at hb
      rw [← HSC.out, ← HSS.out, sgC_ok HK.out HO.out, hc1, hc3]
      exact hb)
    have HWK : Hid ((Lit.int .i64 (pw 2147483579 4 o : Nat)).wf = true ∧ (Lit.int .i64 (pw 2147483579 4 k : Nat)).wf = true) := Lib.hid ⟨wfN (pw_lt (by omega)), wfN (pw_lt (by omega))⟩
    have HSCE : Hid (chal (pw 2147483579 4 o : Nat) (pw 2147483579 4 k : Nat) (msgE pv pf pu pl) = SC) := Lib.hid (by rw [← HSC.out, sgC_ok HK.out HO.out])
    by_cases hgo : 0 < n8 ∧ which.tmod 2 = 1
    rotate_left
    · have HFT : Hid (frmB VV pf pu pl = true) := Lib.hid (frmB_iff.2 ⟨HVV.out.1, HVV.out.2, (frmB_iff.1 HF.out).2.2⟩)
      by_cases hz : 0 < n8
      · have z0 : ¬ which.tmod 2 = 1 := fun h => hgo ⟨hz, h⟩
        have z1 := decide_eq_false z0
        have z2 := beq_eq_false_iff_ne.2 z0
        have z3 : decide (0 < (n8 : Int)) = true := decide_eq_true (by omega)
        clear hgo
        have HRT2 : Hid (rgtF (pw 2147483579 4 k : Nat) VV pf pu pl SC SS = (chal (pw 2147483579 4 o : Nat) (pw 2147483579 4 k : Nat) (msgE VV pf pu pl) == SC, 0)) := Lib.hid (by
          have hv := verB_sign HK.out HO.out (msgE pv pf pu pl) (msgE VV pf pu pl)
          rw [HSCE.out, HSC.out, HSS.out] at hv
          unfold rgtF
          rw [if_pos HFT.out, hv.1, hv.2])
        have HMW : Hid ((Lit.int .i64 VV).wf = true ∧ (Lit.int .i64 pf).wf = true ∧ (Lit.int .i64 pu).wf = true) := Lib.hid (by
          have := frmB_iff.1 HF.out
          have := HVV.out
          exact ⟨wf_of (by omega) (by omega), wf_of (by omega) (by omega), wf_of (by omega) (by omega)⟩)
        have HMS := Lib.hid (msgE_wf HMW.out.1 HMW.out.2.1 HMW.out.2.2 hr1.wf)
        have HN8 : Hid (n8 ≤ 110 ∧ pl.length = n8) := Lib.hid ⟨by have := validL_len (frmB_iff.1 HFT.out).2.2.2.2.2; rw [hr1.hlen] at this; omega, hr1.hlen⟩
        obtain ⟨CH, hCH⟩ : ∃ z, chal (pw 2147483579 4 o : Nat) (pw 2147483579 4 k : Nat) (msgE VV pf pu pl) = z := ⟨_, rfl⟩
        rw [hCH] at HRT2
        have HCH := Lib.hid hCH
        clear hCH
        have p0 := hP1.c 0 _ rfl
        have p1 := hP1.c 1 _ rfl
        have p2 := hP1.c 2 _ rfl
        have p3 := hP1.c 3 _ rfl
        have p4 := hP1.c 4 _ rfl
        have p5 := hP1.c 5 _ rfl
        have s0 := hS1.c 0 _ rfl
        have s1 := hS1.c 1 _ rfl
        have s2 := hS1.c 2 _ rfl
        have s3 := hS1.c 3 _ rfl
        have s4 := hS1.c 4 _ rfl
        have s5 := hS1.c 5 _ rfl
        have t0 := hT1.c 0 _ rfl
        have t1 := hT1.c 1 _ rfl
        have t2 := hT1.c 2 _ rfl
        have t3 := hT1.c 3 _ rfl
        have t4 := hT1.c 4 _ rfl
        have t5 := hT1.c 5 _ rfl
        go_upto_region 15 with fail
        refine region_rely (S := Ext) (fun W' => Ext V10 W') [some 124, some 125, some 126, some 127, some 128, some 129, some 130, some 131, some 132, some 133, some 134, some 135, some 19] [[], [], [1], [0, 2], [], [], [5], [3, 4, 6], [], [8], [9], [7, 10], [11]] [[], [], [], [], [], [], [], [], [], [], [], [], []] [.one (.int .i64 (pw 2147483579 4 k : Nat)), .one (.pointer (some ⟨b8, 4, none⟩)), .one (.agg #[.int .i64 SC, .int .i64 SS]), .one (.int .i64 (pw 2147483579 4 o : Nat)), .one (.int .i64 (pw 2147483579 4 k : Nat)), .one (.agg #[.int .i64 VV, .int .i64 pf, .int .i64 pu, .slice a8 n8 c8, .int .i64 SC, .int .i64 SS]), RMs (3 + 2 * pl.length) (msgE VV pf pu pl), .one (.int .i64 CH), .one (.pointer (some ⟨b8, 4, none⟩)), .one (.pointer (some ⟨b8, 4, none⟩)), .one (.int .i64 SC), .one (.bool (CH == SC)), .one (.bool (CH == SC))] (by kernel_rfl) (by kernel_rfl) (Ext.refl V10).drew ?_ ?_
        · refine stepsR_cons ?_ ?_
          · intro vs W' hl hI hd ho
            refine hold ?_
            obtain ⟨x0, x1, x2, x3, x4, x5, x6, x7, x8, x9, x10, x11, x12, rfl⟩ := lenlit13 hl; clear hl
            refine held ?_
            simp only [putAll, Act.put, List.setIfInBounds_toArray, List.set_cons_succ, List.set_cons_zero]
            go_wp2_with fail
            exact rely_done _ rfl rfl (Ext.refl _) hI
          refine stepsR_cons ?_ ?_
          · intro vs W' hl hI hd ho
            refine hold ?_
            obtain ⟨x0, x1, x2, x3, x4, x5, x6, x7, x8, x9, x10, x11, x12, rfl⟩ := lenlit13 hl; clear hl
            refine held ?_
            simp only [putAll, Act.put, List.setIfInBounds_toArray, List.set_cons_succ, List.set_cons_zero]
            go_wp2_with fail
            exact rely_done _ rfl rfl (Ext.refl _) hI
          refine stepsR_cons ?_ ?_
          · intro vs W' hl hI hd ho
            refine hold ?_
            obtain ⟨x0, x1, x2, x3, x4, x5, x6, x7, x8, x9, x10, x11, x12, rfl⟩ := lenlit13 hl; clear hl
            simp only [factsR, atR, List.getElem?_cons_succ, List.getElem?_cons_zero, Rel.one, Rel.blk, RMs] at hd
            obtain ⟨rfl, -⟩ := hd
            refine held ?_
            simp only [putAll, Act.put, List.setIfInBounds_toArray, List.set_cons_succ, List.set_cons_zero]
            have q4 := hI.cell s4
            have q5 := hI.cell s5
            go_wp2_with fail
            exact rely_done _ rfl rfl (Ext.refl _) hI
          refine stepsR_cons ?_ ?_
          · intro vs W' hl hI hd ho
            refine hold ?_
            obtain ⟨x0, x1, x2, x3, x4, x5, x6, x7, x8, x9, x10, x11, x12, rfl⟩ := lenlit13 hl; clear hl
            simp only [factsR, atR, List.getElem?_cons_succ, List.getElem?_cons_zero, Rel.one, Rel.blk, RMs] at hd
            obtain ⟨rfl, rfl, -⟩ := hd
            refine held ?_
            simp only [putAll, Act.put, List.setIfInBounds_toArray, List.set_cons_succ, List.set_cons_zero]
            go_wp2_with fail
            refine (HBK.out W').mono ?_
            rintro e w5 ⟨rfl, hx5⟩
            go_wp2_with fail
            exact rely_done _ rfl rfl hx5 (hI.trans hx5)
          refine stepsR_cons ?_ ?_
          · intro vs W' hl hI hd ho
            refine hold ?_
            obtain ⟨x0, x1, x2, x3, x4, x5, x6, x7, x8, x9, x10, x11, x12, rfl⟩ := lenlit13 hl; clear hl
            refine held ?_
            simp only [putAll, Act.put, List.setIfInBounds_toArray, List.set_cons_succ, List.set_cons_zero]
            go_wp2_with fail
            exact rely_done _ rfl rfl (Ext.refl _) hI
          refine stepsR_cons ?_ ?_
          · intro vs W' hl hI hd ho
            refine hold ?_
            obtain ⟨x0, x1, x2, x3, x4, x5, x6, x7, x8, x9, x10, x11, x12, rfl⟩ := lenlit13 hl; clear hl
            refine held ?_
            simp only [putAll, Act.put, List.setIfInBounds_toArray, List.set_cons_succ, List.set_cons_zero]
            have q0 := hI.cell t0
            have q1 := hI.cell t1
            have q2 := hI.cell t2
            have q3 := hI.cell t3
            have q4 := hI.cell t4
            have q5 := hI.cell t5
            go_wp2_with fail
            exact rely_done _ rfl rfl (Ext.refl _) hI
          refine stepsR_cons ?_ ?_
          · intro vs W' hl hI hd ho
            refine hold ?_
            obtain ⟨x0, x1, x2, x3, x4, x5, x6, x7, x8, x9, x10, x11, x12, rfl⟩ := lenlit13 hl; clear hl
            simp only [factsR, atR, List.getElem?_cons_succ, List.getElem?_cons_zero, Rel.one, Rel.blk, RMs] at hd
            obtain ⟨rfl, -⟩ := hd
            refine held ?_
            simp only [putAll, Act.put, List.setIfInBounds_toArray, List.set_cons_succ, List.set_cons_zero]
            go_wp2_with fail
            refine (rmsg_any VV pf pu a8 n8 c8 pl SC SS W' (hr1.ext hI) HN8.out.1 HMW.out.1 HMW.out.2.1 HMW.out.2.2).mono ?_
            rintro e w4 ⟨a4, n4, c4, rfl, hn4, ho4, hx4⟩
            obtain ⟨hq, HN4⟩ : True ∧ Hid (n4 = 3 + 2 * pl.length) := ⟨trivial, Lib.hid hn4⟩
            clear hq hn4
            go_wp2_with fail
            exact rely_done _ rfl ⟨_, _, _, rfl, HN4.out, ho4.sl HMS.out⟩ hx4 (hI.trans hx4)
          refine stepsR_cons ?_ ?_
          · intro vs W' hl hI hd ho
            refine hold ?_
            obtain ⟨x0, x1, x2, x3, x4, x5, x6, x7, x8, x9, x10, x11, x12, rfl⟩ := lenlit13 hl; clear hl
            simp only [factsR, atR, List.getElem?_cons_succ, List.getElem?_cons_zero, Rel.one, Rel.blk, RMs] at hd
            obtain ⟨rfl, rfl, ⟨a4, _, c4, rfl, rfl, hs4⟩, -⟩ := hd
            refine held ?_
            simp only [putAll, Act.put, List.setIfInBounds_toArray, List.set_cons_succ, List.set_cons_zero]
            go_wp2_with fail
            refine (rchallenge_any _ _ HWK.out.1 HWK.out.2 a4 _ c4 (msgE VV pf pu pl) W' hs4 (by have := HN8.out; omega)).mono ?_
            rintro e w5 ⟨rfl, hx5⟩
            rw [HCH.out]
            go_wp2_with fail
            exact rely_done _ rfl rfl hx5 (hI.trans hx5)
          refine stepsR_cons ?_ ?_
          · intro vs W' hl hI hd ho
            refine hold ?_
            obtain ⟨x0, x1, x2, x3, x4, x5, x6, x7, x8, x9, x10, x11, x12, rfl⟩ := lenlit13 hl; clear hl
            refine held ?_
            simp only [putAll, Act.put, List.setIfInBounds_toArray, List.set_cons_succ, List.set_cons_zero]
            go_wp2_with fail
            exact rely_done _ rfl rfl (Ext.refl _) hI
          refine stepsR_cons ?_ ?_
          · intro vs W' hl hI hd ho
            refine hold ?_
            obtain ⟨x0, x1, x2, x3, x4, x5, x6, x7, x8, x9, x10, x11, x12, rfl⟩ := lenlit13 hl; clear hl
            simp only [factsR, atR, List.getElem?_cons_succ, List.getElem?_cons_zero, Rel.one, Rel.blk, RMs] at hd
            obtain ⟨rfl, -⟩ := hd
            refine held ?_
            simp only [putAll, Act.put, List.setIfInBounds_toArray, List.set_cons_succ, List.set_cons_zero]
            go_wp2_with fail
            exact rely_done _ rfl rfl (Ext.refl _) hI
          refine stepsR_cons ?_ ?_
          · intro vs W' hl hI hd ho
            refine hold ?_
            obtain ⟨x0, x1, x2, x3, x4, x5, x6, x7, x8, x9, x10, x11, x12, rfl⟩ := lenlit13 hl; clear hl
            simp only [factsR, atR, List.getElem?_cons_succ, List.getElem?_cons_zero, Rel.one, Rel.blk, RMs] at hd
            obtain ⟨rfl, -⟩ := hd
            refine held ?_
            simp only [putAll, Act.put, List.setIfInBounds_toArray, List.set_cons_succ, List.set_cons_zero]
            have q4 := hI.cell s4
            go_wp2_with fail
            exact rely_done _ rfl rfl (Ext.refl _) hI
          refine stepsR_cons ?_ ?_
          · intro vs W' hl hI hd ho
            refine hold ?_
            obtain ⟨x0, x1, x2, x3, x4, x5, x6, x7, x8, x9, x10, x11, x12, rfl⟩ := lenlit13 hl; clear hl
            simp only [factsR, atR, List.getElem?_cons_succ, List.getElem?_cons_zero, Rel.one, Rel.blk, RMs] at hd
            obtain ⟨rfl, rfl, -⟩ := hd
            refine held ?_
            simp only [putAll, Act.put, List.setIfInBounds_toArray, List.set_cons_succ, List.set_cons_zero]
            go_wp2_with fail
            exact rely_done _ rfl rfl (Ext.refl _) hI
          refine stepsR_cons ?_ ?_
          · intro vs W' hl hI hd ho
            refine hold ?_
            obtain ⟨x0, x1, x2, x3, x4, x5, x6, x7, x8, x9, x10, x11, x12, rfl⟩ := lenlit13 hl; clear hl
            simp only [factsR, atR, List.getElem?_cons_succ, List.getElem?_cons_zero, Rel.one, Rel.blk, RMs] at hd
            obtain ⟨rfl, -⟩ := hd
            refine held ?_
            simp only [putAll, Act.put, List.setIfInBounds_toArray, List.set_cons_succ, List.set_cons_zero]
            go_wp2_with fail
            exact rely_done _ rfl rfl (Ext.refl _) hI
          exact trivial
        · intro vs W' hl hI hd
          obtain ⟨x0, x1, x2, x3, x4, x5, x6, x7, x8, x9, x10, x11, x12, rfl⟩ := lenlit13 hl; clear hl
          simp only [List.length_cons, List.length_nil, List.range, List.range.loop, Nat.zero_add, Nat.reduceAdd, factsR, atR, List.getElem?_cons_succ, List.getElem?_cons_zero, Rel.one, Rel.blk, RMs] at hd
          obtain ⟨rfl, rfl, rfl, rfl, rfl, rfl, ⟨a4, _, c4, rfl, rfl, hs4⟩, rfl, rfl, rfl, rfl, rfl, rfl, -⟩ := hd
          simp only [putAll, Act.put, List.setIfInBounds_toArray, List.set_cons_succ, List.set_cons_zero]
          replace hT1 := hT1.ext hI
          replace hr1 := hr1.ext hI
          replace hE1 := hE1.trans hI
          clear hI p0 p1 p2 p3 p4 p5 s0 s1 s2 s3 s4 s5 t0 t1 t2 t3 t4 t5
          have t0 := hT1.c 0 _ rfl
          have t1 := hT1.c 1 _ rfl
          have t2 := hT1.c 2 _ rfl
          have t3 := hT1.c 3 _ rfl
          have t4 := hT1.c 4 _ rfl
          have t5 := hT1.c 5 _ rfl
          go_wp2_with fail
          refine (ergt_any (pw 2147483579 4 k : Nat) VV pf pu a8 n8 c8 pl SC SS W' hr1 (TB.ext HT.out hE1)).mono ?_
          rintro _ wz ⟨rfl, hx⟩
          rw [HRT2.out]
          replace hE1 := hE1.trans hx
          go_wp2_with fail
          go_ret
          exact ⟨rfl, hE1⟩
      · have z0 : ¬ 0 < (n8 : Int) := by omega
        have z3 := decide_eq_false z0
        have z4 : n8 = 0 := by omega
        have Z4 := Lib.hid z4
        clear hgo z4 hz
        have HRT2 : Hid (rgtF (pw 2147483579 4 k : Nat) VV pf pu pl SC SS = (chal (pw 2147483579 4 o : Nat) (pw 2147483579 4 k : Nat) (msgE VV pf pu pl) == SC, 0)) := Lib.hid (by
          have hv := verB_sign HK.out HO.out (msgE pv pf pu pl) (msgE VV pf pu pl)
          rw [HSCE.out, HSC.out, HSS.out] at hv
          unfold rgtF
          rw [if_pos HFT.out, hv.1, hv.2])
        have HMW : Hid ((Lit.int .i64 VV).wf = true ∧ (Lit.int .i64 pf).wf = true ∧ (Lit.int .i64 pu).wf = true) := Lib.hid (by
          have := frmB_iff.1 HF.out
          have := HVV.out
          exact ⟨wf_of (by omega) (by omega), wf_of (by omega) (by omega), wf_of (by omega) (by omega)⟩)
        have HMS := Lib.hid (msgE_wf HMW.out.1 HMW.out.2.1 HMW.out.2.2 hr1.wf)
        have HN8 : Hid (n8 ≤ 110 ∧ pl.length = n8) := Lib.hid ⟨by have := validL_len (frmB_iff.1 HFT.out).2.2.2.2.2; rw [hr1.hlen] at this; omega, hr1.hlen⟩
        obtain ⟨CH, hCH⟩ : ∃ z, chal (pw 2147483579 4 o : Nat) (pw 2147483579 4 k : Nat) (msgE VV pf pu pl) = z := ⟨_, rfl⟩
        rw [hCH] at HRT2
        have HCH := Lib.hid hCH
        clear hCH
        have p0 := hP1.c 0 _ rfl
        have p1 := hP1.c 1 _ rfl
        have p2 := hP1.c 2 _ rfl
        have p3 := hP1.c 3 _ rfl
        have p4 := hP1.c 4 _ rfl
        have p5 := hP1.c 5 _ rfl
        have s0 := hS1.c 0 _ rfl
        have s1 := hS1.c 1 _ rfl
        have s2 := hS1.c 2 _ rfl
        have s3 := hS1.c 3 _ rfl
        have s4 := hS1.c 4 _ rfl
        have s5 := hS1.c 5 _ rfl
        have t0 := hT1.c 0 _ rfl
        have t1 := hT1.c 1 _ rfl
        have t2 := hT1.c 2 _ rfl
        have t3 := hT1.c 3 _ rfl
        have t4 := hT1.c 4 _ rfl
        have t5 := hT1.c 5 _ rfl
        go_upto_region 15 with fail
        refine region_rely (S := Ext) (fun W' => Ext V10 W') [some 124, some 125, some 126, some 127, some 128, some 129, some 130, some 131, some 132, some 133, some 134, some 135, some 19] [[], [], [1], [0, 2], [], [], [5], [3, 4, 6], [], [8], [9], [7, 10], [11]] [[], [], [], [], [], [], [], [], [], [], [], [], []] [.one (.int .i64 (pw 2147483579 4 k : Nat)), .one (.pointer (some ⟨b8, 4, none⟩)), .one (.agg #[.int .i64 SC, .int .i64 SS]), .one (.int .i64 (pw 2147483579 4 o : Nat)), .one (.int .i64 (pw 2147483579 4 k : Nat)), .one (.agg #[.int .i64 VV, .int .i64 pf, .int .i64 pu, .slice a8 n8 c8, .int .i64 SC, .int .i64 SS]), RMs (3 + 2 * pl.length) (msgE VV pf pu pl), .one (.int .i64 CH), .one (.pointer (some ⟨b8, 4, none⟩)), .one (.pointer (some ⟨b8, 4, none⟩)), .one (.int .i64 SC), .one (.bool (CH == SC)), .one (.bool (CH == SC))] (by kernel_rfl) (by kernel_rfl) (Ext.refl V10).drew ?_ ?_
        · refine stepsR_cons ?_ ?_
          · intro vs W' hl hI hd ho
            refine hold ?_
            obtain ⟨x0, x1, x2, x3, x4, x5, x6, x7, x8, x9, x10, x11, x12, rfl⟩ := lenlit13 hl; clear hl
            refine held ?_
            simp only [putAll, Act.put, List.setIfInBounds_toArray, List.set_cons_succ, List.set_cons_zero]
            go_wp2_with fail
            exact rely_done _ rfl rfl (Ext.refl _) hI
          refine stepsR_cons ?_ ?_
          · intro vs W' hl hI hd ho
            refine hold ?_
            obtain ⟨x0, x1, x2, x3, x4, x5, x6, x7, x8, x9, x10, x11, x12, rfl⟩ := lenlit13 hl; clear hl
            refine held ?_
            simp only [putAll, Act.put, List.setIfInBounds_toArray, List.set_cons_succ, List.set_cons_zero]
            go_wp2_with fail
            exact rely_done _ rfl rfl (Ext.refl _) hI
          refine stepsR_cons ?_ ?_
          · intro vs W' hl hI hd ho
            refine hold ?_
            obtain ⟨x0, x1, x2, x3, x4, x5, x6, x7, x8, x9, x10, x11, x12, rfl⟩ := lenlit13 hl; clear hl
            simp only [factsR, atR, List.getElem?_cons_succ, List.getElem?_cons_zero, Rel.one, Rel.blk, RMs] at hd
            obtain ⟨rfl, -⟩ := hd
            refine held ?_
            simp only [putAll, Act.put, List.setIfInBounds_toArray, List.set_cons_succ, List.set_cons_zero]
            have q4 := hI.cell s4
            have q5 := hI.cell s5
            go_wp2_with fail
            exact rely_done _ rfl rfl (Ext.refl _) hI
          refine stepsR_cons ?_ ?_
          · intro vs W' hl hI hd ho
            refine hold ?_
            obtain ⟨x0, x1, x2, x3, x4, x5, x6, x7, x8, x9, x10, x11, x12, rfl⟩ := lenlit13 hl; clear hl
            simp only [factsR, atR, List.getElem?_cons_succ, List.getElem?_cons_zero, Rel.one, Rel.blk, RMs] at hd
            obtain ⟨rfl, rfl, -⟩ := hd
            refine held ?_
            simp only [putAll, Act.put, List.setIfInBounds_toArray, List.set_cons_succ, List.set_cons_zero]
            go_wp2_with fail
            refine (HBK.out W').mono ?_
            rintro e w5 ⟨rfl, hx5⟩
            go_wp2_with fail
            exact rely_done _ rfl rfl hx5 (hI.trans hx5)
          refine stepsR_cons ?_ ?_
          · intro vs W' hl hI hd ho
            refine hold ?_
            obtain ⟨x0, x1, x2, x3, x4, x5, x6, x7, x8, x9, x10, x11, x12, rfl⟩ := lenlit13 hl; clear hl
            refine held ?_
            simp only [putAll, Act.put, List.setIfInBounds_toArray, List.set_cons_succ, List.set_cons_zero]
            go_wp2_with fail
            exact rely_done _ rfl rfl (Ext.refl _) hI
          refine stepsR_cons ?_ ?_
          · intro vs W' hl hI hd ho
            refine hold ?_
            obtain ⟨x0, x1, x2, x3, x4, x5, x6, x7, x8, x9, x10, x11, x12, rfl⟩ := lenlit13 hl; clear hl
            refine held ?_
            simp only [putAll, Act.put, List.setIfInBounds_toArray, List.set_cons_succ, List.set_cons_zero]
            have q0 := hI.cell t0
            have q1 := hI.cell t1
            have q2 := hI.cell t2
            have q3 := hI.cell t3
            have q4 := hI.cell t4
            have q5 := hI.cell t5
            go_wp2_with fail
            exact rely_done _ rfl rfl (Ext.refl _) hI
          refine stepsR_cons ?_ ?_
          · intro vs W' hl hI hd ho
            refine hold ?_
            obtain ⟨x0, x1, x2, x3, x4, x5, x6, x7, x8, x9, x10, x11, x12, rfl⟩ := lenlit13 hl; clear hl
            simp only [factsR, atR, List.getElem?_cons_succ, List.getElem?_cons_zero, Rel.one, Rel.blk, RMs] at hd
            obtain ⟨rfl, -⟩ := hd
            refine held ?_
            simp only [putAll, Act.put, List.setIfInBounds_toArray, List.set_cons_succ, List.set_cons_zero]
            go_wp2_with fail
            refine (rmsg_any VV pf pu a8 n8 c8 pl SC SS W' (hr1.ext hI) HN8.out.1 HMW.out.1 HMW.out.2.1 HMW.out.2.2).mono ?_
            rintro e w4 ⟨a4, n4, c4, rfl, hn4, ho4, hx4⟩
            obtain ⟨hq, HN4⟩ : True ∧ Hid (n4 = 3 + 2 * pl.length) := ⟨trivial, Lib.hid hn4⟩
            clear hq hn4
            go_wp2_with fail
            exact rely_done _ rfl ⟨_, _, _, rfl, HN4.out, ho4.sl HMS.out⟩ hx4 (hI.trans hx4)
          refine stepsR_cons ?_ ?_
          · intro vs W' hl hI hd ho
            refine hold ?_
            obtain ⟨x0, x1, x2, x3, x4, x5, x6, x7, x8, x9, x10, x11, x12, rfl⟩ := lenlit13 hl; clear hl
            simp only [factsR, atR, List.getElem?_cons_succ, List.getElem?_cons_zero, Rel.one, Rel.blk, RMs] at hd
            obtain ⟨rfl, rfl, ⟨a4, _, c4, rfl, rfl, hs4⟩, -⟩ := hd
            refine held ?_
            simp only [putAll, Act.put, List.setIfInBounds_toArray, List.set_cons_succ, List.set_cons_zero]
            go_wp2_with fail
            refine (rchallenge_any _ _ HWK.out.1 HWK.out.2 a4 _ c4 (msgE VV pf pu pl) W' hs4 (by have := HN8.out; omega)).mono ?_
            rintro e w5 ⟨rfl, hx5⟩
            rw [HCH.out]
            go_wp2_with fail
            exact rely_done _ rfl rfl hx5 (hI.trans hx5)
          refine stepsR_cons ?_ ?_
          · intro vs W' hl hI hd ho
            refine hold ?_
            obtain ⟨x0, x1, x2, x3, x4, x5, x6, x7, x8, x9, x10, x11, x12, rfl⟩ := lenlit13 hl; clear hl
            refine held ?_
            simp only [putAll, Act.put, List.setIfInBounds_toArray, List.set_cons_succ, List.set_cons_zero]
            go_wp2_with fail
            exact rely_done _ rfl rfl (Ext.refl _) hI
          refine stepsR_cons ?_ ?_
          · intro vs W' hl hI hd ho
            refine hold ?_
            obtain ⟨x0, x1, x2, x3, x4, x5, x6, x7, x8, x9, x10, x11, x12, rfl⟩ := lenlit13 hl; clear hl
            simp only [factsR, atR, List.getElem?_cons_succ, List.getElem?_cons_zero, Rel.one, Rel.blk, RMs] at hd
            obtain ⟨rfl, -⟩ := hd
            refine held ?_
            simp only [putAll, Act.put, List.setIfInBounds_toArray, List.set_cons_succ, List.set_cons_zero]
            go_wp2_with fail
            exact rely_done _ rfl rfl (Ext.refl _) hI
          refine stepsR_cons ?_ ?_
          · intro vs W' hl hI hd ho
            refine hold ?_
            obtain ⟨x0, x1, x2, x3, x4, x5, x6, x7, x8, x9, x10, x11, x12, rfl⟩ := lenlit13 hl; clear hl
            simp only [factsR, atR, List.getElem?_cons_succ, List.getElem?_cons_zero, Rel.one, Rel.blk, RMs] at hd
            obtain ⟨rfl, -⟩ := hd
            refine held ?_
            simp only [putAll, Act.put, List.setIfInBounds_toArray, List.set_cons_succ, List.set_cons_zero]
            have q4 := hI.cell s4
            go_wp2_with fail
            exact rely_done _ rfl rfl (Ext.refl _) hI
          refine stepsR_cons ?_ ?_
          · intro vs W' hl hI hd ho
            refine hold ?_
            obtain ⟨x0, x1, x2, x3, x4, x5, x6, x7, x8, x9, x10, x11, x12, rfl⟩ := lenlit13 hl; clear hl
            simp only [factsR, atR, List.getElem?_cons_succ, List.getElem?_cons_zero, Rel.one, Rel.blk, RMs] at hd
            obtain ⟨rfl, rfl, -⟩ := hd
            refine held ?_
            simp only [putAll, Act.put, List.setIfInBounds_toArray, List.set_cons_succ, List.set_cons_zero]
            go_wp2_with fail
            exact rely_done _ rfl rfl (Ext.refl _) hI
          refine stepsR_cons ?_ ?_
          · intro vs W' hl hI hd ho
            refine hold ?_
            obtain ⟨x0, x1, x2, x3, x4, x5, x6, x7, x8, x9, x10, x11, x12, rfl⟩ := lenlit13 hl; clear hl
            simp only [factsR, atR, List.getElem?_cons_succ, List.getElem?_cons_zero, Rel.one, Rel.blk, RMs] at hd
            obtain ⟨rfl, -⟩ := hd
            refine held ?_
            simp only [putAll, Act.put, List.setIfInBounds_toArray, List.set_cons_succ, List.set_cons_zero]
            go_wp2_with fail
            exact rely_done _ rfl rfl (Ext.refl _) hI
          exact trivial
        · intro vs W' hl hI hd
          obtain ⟨x0, x1, x2, x3, x4, x5, x6, x7, x8, x9, x10, x11, x12, rfl⟩ := lenlit13 hl; clear hl
          simp only [List.length_cons, List.length_nil, List.range, List.range.loop, Nat.zero_add, Nat.reduceAdd, factsR, atR, List.getElem?_cons_succ, List.getElem?_cons_zero, Rel.one, Rel.blk, RMs] at hd
          obtain ⟨rfl, rfl, rfl, rfl, rfl, rfl, ⟨a4, _, c4, rfl, rfl, hs4⟩, rfl, rfl, rfl, rfl, rfl, rfl, -⟩ := hd
          simp only [putAll, Act.put, List.setIfInBounds_toArray, List.set_cons_succ, List.set_cons_zero]
          replace hT1 := hT1.ext hI
          replace hr1 := hr1.ext hI
          replace hE1 := hE1.trans hI
          clear hI p0 p1 p2 p3 p4 p5 s0 s1 s2 s3 s4 s5 t0 t1 t2 t3 t4 t5
          have t0 := hT1.c 0 _ rfl
          have t1 := hT1.c 1 _ rfl
          have t2 := hT1.c 2 _ rfl
          have t3 := hT1.c 3 _ rfl
          have t4 := hT1.c 4 _ rfl
          have t5 := hT1.c 5 _ rfl
          go_wp2_with fail
          refine (ergt_any (pw 2147483579 4 k : Nat) VV pf pu a8 n8 c8 pl SC SS W' hr1 (TB.ext HT.out hE1)).mono ?_
          rintro _ wz ⟨rfl, hx⟩
          rw [HRT2.out]
          replace hE1 := hE1.trans hx
          go_wp2_with fail
          go_ret
          exact ⟨rfl, hE1⟩
    · have z0 := hgo.2
      have z1 := decide_eq_true z0
      have z2 := beq_iff_eq.2 z0
      have z3 : decide (0 < (n8 : Int)) = true := decide_eq_true (by have := hgo.1; omega)
      have HGO := Lib.hid hgo.1
      have hn8 : n8 ≤ 100 := by rw [← hr1.hlen]; exact validL_len HVL.out
      clear hgo
      have p0 := hP1.c 0 _ rfl
      have p1 := hP1.c 1 _ rfl
      have p2 := hP1.c 2 _ rfl
      have p3 := hP1.c 3 _ rfl
      have p4 := hP1.c 4 _ rfl
      have p5 := hP1.c 5 _ rfl
      have s0 := hS1.c 0 _ rfl
      have s1 := hS1.c 1 _ rfl
      have s2 := hS1.c 2 _ rfl
      have s3 := hS1.c 3 _ rfl
      have s4 := hS1.c 4 _ rfl
      have s5 := hS1.c 5 _ rfl
      have t0 := hT1.c 0 _ rfl
      have t1 := hT1.c 1 _ rfl
      have t2 := hT1.c 2 _ rfl
      have t3 := hT1.c 3 _ rfl
      have t4 := hT1.c 4 _ rfl
      have t5 := hT1.c 5 _ rfl
      go_upto_region 13 with fail
      clear z0 z1 z2 z3 p0 p1 p2 p3 p4 p5 s0 s1 s2 s3 s4 s5 t0 t1 t2 t3 t4 t5
      have hx0 := (Ext.refl V10).alloc (.cells #[] 52)
      have s3 := (hS1.ext hx0).c 3 _ rfl
      have ho0 := OwR.litNilL (base := V10.heap.size) V10 (Nat.le_refl _)
      have h2 := hr1.ext hx0
      have hsz := hx0.sz
      go_wp2_with (at_builtin; refine appRs el_lp rfl _ _ rfl _ V10.heap.size _ _ _ _ rfl ho0 _ _ _ _ rfl h2 hsz (by unfold maxLen; omega) (by omega) ?_; intro a9 c9 w9 ho hB; refine hold ?_)
      refine held ?_
      simp only [Nat.zero_add, List.nil_append] at ho ⊢
      have hx : Ext V10 w9 := Below.trans hx0 hB
      have hT2 := hT1.ext hx
      have t3 := hT2.c 3 _ rfl
      have f3 := hT2.free 3
      have hT9 := hT1.lt
      have hbs : w.heap.size ≤ bt := hTs
      go_upto_region 14 with fail
      have ho3 := ho.setOther (p := bt) (by omega) 3 (.slice a9 n8 c9)
      have hT3 := hT2.set3x (.slice a9 n8 c9)
      have hP3 := (hP1.ext hx).otherE (p := bt) (by omega) 3 (.slice a9 n8 c9)
      have hS3 := (hS1.ext hx).otherE (p := bt) (by omega) 3 (.slice a9 n8 c9)
      have hE3 := (hE1.trans hx).setCell (p := ⟨bt, 3, none⟩) hbs (.slice a9 n8 c9)
      have HWF := Lib.hid hr1.wf
      clear t3 f3 s3 hT2 hT1 hP1 hS1 hE1 ho0 h2 hr1 ho hB hx0 hsz hx
      generalize w9.setCell ⟨bt, 3, none⟩ (.slice a9 n8 c9) = V13 at *
      have hr3 := ho3.rw (by omega) HWF.out
      have hB9 : w.heap.size ≤ V10.heap.size := by omega
      rcases ho3.2.2 with ⟨hv, _⟩ | ⟨g, cap, cur, hv, hg9, hb9, _⟩
      · simp only [Value.slice.injEq] at hv
        have := HGO.out
        omega
      simp only [Value.slice.injEq] at hv
      obtain ⟨rfl, -, rfl⟩ := hv
      clear ho3
      obtain ⟨J, hJ, hJn⟩ := idx_bd HWH.out HGO.out
      obtain ⟨sv, hsv⟩ : ∃ z, (nthR pl J).s = z := ⟨_, rfl⟩
      have hs1 : sv = 1 ∨ sv = -1 := by
        have := vfrom_gt (validL_from HVL.out) (nthR pl J) (nthR_mem (by rw [hr3.hlen]; exact hJn))
        omega
      obtain ⟨b2, off2, he, hc⟩ := hr3.cells J hJn
      simp at he
      obtain ⟨rfl, rfl⟩ := he
      have x1 := hc 1 (.int .i64 (nthR pl J).s) rfl
      rw [hsv, sz_lp] at x1
      have x2 : V13.cell? ⟨g, J * 2 + 1, none⟩ = some (.int .i64 sv) := by rw [← x1]; congr 2; omega
      clear x1 hc
      have HSV := Lib.hid hsv
      have HS1 := Lib.hid hs1
      clear hsv hs1
      have n0 : ¬ ((n8 : Int) = 0) := by have := HGO.out; omega
      have n1 : (J : Int) < (n8 : Int) := by omega
      refine region_tail 14 (by kernel_rfl) (by kernel_rfl) ?_
      simp only [List.take_succ_cons, List.take_zero, List.drop_succ_cons, List.drop_zero]
      have t3 := hT3.c 3 _ rfl
      have s3 := hS3.c 3 _ rfl
      have tl := hT3.lt
      have sl := hS3.lt
      have xl := lt_of_cell x2
      have hgc := @grow_cell
      repeat (go_big_quiet_step (fail))
      refine wpQuiet_nil ?_
      intro w1 hE0
      clear hgc t3 s3 tl sl xl n0 n1
      have x3 := hE0.cell x2
      have xf := free_of_block ((hE0.block g (Array.getElem?_eq_some_iff.1 hb9).1).trans hb9)
      have hws : wrap64 (-sv) = 1 ∨ wrap64 (-sv) = -1 := by
        have := HS1.out
        unfold wrap64
        omega
      have hr4 := (hr3.ext hE0).setS hJn (s := wrap64 (-sv)) (by rcases hws with h | h <;> rw [h] <;> decide)
      have hvt := validL_set HVL.out (show J < pl.length by rw [hr3.hlen]; exact hJn) hws
      have hP1 := (hP3.ext hE0).otherE (p := g) (by omega) (J * 2 + 1) (.int .i64 (wrap64 (-sv)))
      have hS1 := (hS3.ext hE0).otherE (p := g) (by omega) (J * 2 + 1) (.int .i64 (wrap64 (-sv)))
      have hT1 := (hT3.ext hE0).otherE (p := g) (by omega) (J * 2 + 1) (.int .i64 (wrap64 (-sv)))
      have hE1 := (hE3.trans hE0).setCell (p := ⟨g, J * 2 + 1, none⟩) (show w.heap.size ≤ g by omega) (.int .i64 (wrap64 (-sv)))
      have HFT : Hid (frmB VV pf pu (pl.set J ⟨(nthR pl J).d, wrap64 (-sv)⟩) = true) := Lib.hid (frmB_iff.2 ⟨HVV.out.1, HVV.out.2, (frmB_iff.1 HF.out).2.2.1, (frmB_iff.1 HF.out).2.2.2.1, (frmB_iff.1 HF.out).2.2.2.2.1, hvt⟩)
      clear hws hvt
      generalize pl.set J ⟨(nthR pl J).d, wrap64 (-sv)⟩ = tl at *
      go_upto_region 15 with fail
      generalize w1.setCell ⟨g, J * 2 + 1, none⟩ (.int .i64 (wrap64 (-sv))) = V14 at *
      clear x2 x3 xf hP3 hS3 hT3 hE3 hE0 hr3 hb9
      have HRT2 : Hid (rgtF (pw 2147483579 4 k : Nat) VV pf pu tl SC SS = (chal (pw 2147483579 4 o : Nat) (pw 2147483579 4 k : Nat) (msgE VV pf pu tl) == SC, 0)) := Lib.hid (by
        have hv := verB_sign HK.out HO.out (msgE pv pf pu pl) (msgE VV pf pu tl)
        rw [HSCE.out, HSC.out, HSS.out] at hv
        unfold rgtF
        rw [if_pos HFT.out, hv.1, hv.2])
      have HMW : Hid ((Lit.int .i64 VV).wf = true ∧ (Lit.int .i64 pf).wf = true ∧ (Lit.int .i64 pu).wf = true) := Lib.hid (by
        have := frmB_iff.1 HF.out
        have := HVV.out
        exact ⟨wf_of (by omega) (by omega), wf_of (by omega) (by omega), wf_of (by omega) (by omega)⟩)
      have HMS := Lib.hid (msgE_wf HMW.out.1 HMW.out.2.1 HMW.out.2.2 hr4.wf)
      have HN8 : Hid (n8 ≤ 110 ∧ tl.length = n8) := Lib.hid ⟨by have := validL_len (frmB_iff.1 HFT.out).2.2.2.2.2; rw [hr4.hlen] at this; omega, hr4.hlen⟩
      obtain ⟨CH, hCH⟩ : ∃ z, chal (pw 2147483579 4 o : Nat) (pw 2147483579 4 k : Nat) (msgE VV pf pu tl) = z := ⟨_, rfl⟩
      rw [hCH] at HRT2
      have HCH := Lib.hid hCH
      clear hCH
      have p0 := hP1.c 0 _ rfl
      have p1 := hP1.c 1 _ rfl
      have p2 := hP1.c 2 _ rfl
      have p3 := hP1.c 3 _ rfl
      have p4 := hP1.c 4 _ rfl
      have p5 := hP1.c 5 _ rfl
      have s0 := hS1.c 0 _ rfl
      have s1 := hS1.c 1 _ rfl
      have s2 := hS1.c 2 _ rfl
      have s3 := hS1.c 3 _ rfl
      have s4 := hS1.c 4 _ rfl
      have s5 := hS1.c 5 _ rfl
      have t0 := hT1.c 0 _ rfl
      have t1 := hT1.c 1 _ rfl
      have t2 := hT1.c 2 _ rfl
      have t3 := hT1.c 3 _ rfl
      have t4 := hT1.c 4 _ rfl
      have t5 := hT1.c 5 _ rfl
      refine region_rely (S := Ext) (fun W' => Ext V14 W') [some 124, some 125, some 126, some 127, some 128, some 129, some 130, some 131, some 132, some 133, some 134, some 135, some 19] [[], [], [1], [0, 2], [], [], [5], [3, 4, 6], [], [8], [9], [7, 10], [11]] [[], [], [], [], [], [], [], [], [], [], [], [], []] [.one (.int .i64 (pw 2147483579 4 k : Nat)), .one (.pointer (some ⟨b8, 4, none⟩)), .one (.agg #[.int .i64 SC, .int .i64 SS]), .one (.int .i64 (pw 2147483579 4 o : Nat)), .one (.int .i64 (pw 2147483579 4 k : Nat)), .one (.agg #[.int .i64 VV, .int .i64 pf, .int .i64 pu, .slice (some ⟨g, 0, none⟩) n8 c9, .int .i64 SC, .int .i64 SS]), RMs (3 + 2 * tl.length) (msgE VV pf pu tl), .one (.int .i64 CH), .one (.pointer (some ⟨b8, 4, none⟩)), .one (.pointer (some ⟨b8, 4, none⟩)), .one (.int .i64 SC), .one (.bool (CH == SC)), .one (.bool (CH == SC))] (by kernel_rfl) (by kernel_rfl) (Ext.refl V14).drew ?_ ?_
      · refine stepsR_cons ?_ ?_
        · intro vs W' hl hI hd ho
          refine hold ?_
          obtain ⟨x0, x1, x2, x3, x4, x5, x6, x7, x8, x9, x10, x11, x12, rfl⟩ := lenlit13 hl; clear hl
          refine held ?_
          simp only [putAll, Act.put, List.setIfInBounds_toArray, List.set_cons_succ, List.set_cons_zero]
          go_wp2_with fail
          exact rely_done _ rfl rfl (Ext.refl _) hI
        refine stepsR_cons ?_ ?_
        · intro vs W' hl hI hd ho
          refine hold ?_
          obtain ⟨x0, x1, x2, x3, x4, x5, x6, x7, x8, x9, x10, x11, x12, rfl⟩ := lenlit13 hl; clear hl
          refine held ?_
          simp only [putAll, Act.put, List.setIfInBounds_toArray, List.set_cons_succ, List.set_cons_zero]
          go_wp2_with fail
          exact rely_done _ rfl rfl (Ext.refl _) hI
        refine stepsR_cons ?_ ?_
        · intro vs W' hl hI hd ho
          refine hold ?_
          obtain ⟨x0, x1, x2, x3, x4, x5, x6, x7, x8, x9, x10, x11, x12, rfl⟩ := lenlit13 hl; clear hl
          simp only [factsR, atR, List.getElem?_cons_succ, List.getElem?_cons_zero, Rel.one, Rel.blk, RMs] at hd
          obtain ⟨rfl, -⟩ := hd
          refine held ?_
          simp only [putAll, Act.put, List.setIfInBounds_toArray, List.set_cons_succ, List.set_cons_zero]
          have q4 := hI.cell s4
          have q5 := hI.cell s5
          go_wp2_with fail
          exact rely_done _ rfl rfl (Ext.refl _) hI
        refine stepsR_cons ?_ ?_
        · intro vs W' hl hI hd ho
          refine hold ?_
          obtain ⟨x0, x1, x2, x3, x4, x5, x6, x7, x8, x9, x10, x11, x12, rfl⟩ := lenlit13 hl; clear hl
          simp only [factsR, atR, List.getElem?_cons_succ, List.getElem?_cons_zero, Rel.one, Rel.blk, RMs] at hd
          obtain ⟨rfl, rfl, -⟩ := hd
          refine held ?_
          simp only [putAll, Act.put, List.setIfInBounds_toArray, List.set_cons_succ, List.set_cons_zero]
          go_wp2_with fail
          refine (HBK.out W').mono ?_
          rintro e w5 ⟨rfl, hx5⟩
          go_wp2_with fail
          exact rely_done _ rfl rfl hx5 (hI.trans hx5)
        refine stepsR_cons ?_ ?_
        · intro vs W' hl hI hd ho
          refine hold ?_
          obtain ⟨x0, x1, x2, x3, x4, x5, x6, x7, x8, x9, x10, x11, x12, rfl⟩ := lenlit13 hl; clear hl
          refine held ?_
          simp only [putAll, Act.put, List.setIfInBounds_toArray, List.set_cons_succ, List.set_cons_zero]
          go_wp2_with fail
          exact rely_done _ rfl rfl (Ext.refl _) hI
        refine stepsR_cons ?_ ?_
        · intro vs W' hl hI hd ho
          refine hold ?_
          obtain ⟨x0, x1, x2, x3, x4, x5, x6, x7, x8, x9, x10, x11, x12, rfl⟩ := lenlit13 hl; clear hl
          refine held ?_
          simp only [putAll, Act.put, List.setIfInBounds_toArray, List.set_cons_succ, List.set_cons_zero]
          have q0 := hI.cell t0
          have q1 := hI.cell t1
          have q2 := hI.cell t2
          have q3 := hI.cell t3
          have q4 := hI.cell t4
          have q5 := hI.cell t5
          go_wp2_with fail
          exact rely_done _ rfl rfl (Ext.refl _) hI
        refine stepsR_cons ?_ ?_
        · intro vs W' hl hI hd ho
          refine hold ?_
          obtain ⟨x0, x1, x2, x3, x4, x5, x6, x7, x8, x9, x10, x11, x12, rfl⟩ := lenlit13 hl; clear hl
          simp only [factsR, atR, List.getElem?_cons_succ, List.getElem?_cons_zero, Rel.one, Rel.blk, RMs] at hd
          obtain ⟨rfl, -⟩ := hd
          refine held ?_
          simp only [putAll, Act.put, List.setIfInBounds_toArray, List.set_cons_succ, List.set_cons_zero]
          go_wp2_with fail
          refine (rmsg_any VV pf pu (some ⟨g, 0, none⟩) n8 c9 tl SC SS W' (hr4.ext hI) HN8.out.1 HMW.out.1 HMW.out.2.1 HMW.out.2.2).mono ?_
          rintro e w4 ⟨a4, n4, c4, rfl, hn4, ho4, hx4⟩
          obtain ⟨hq, HN4⟩ : True ∧ Hid (n4 = 3 + 2 * tl.length) := ⟨trivial, Lib.hid hn4⟩
          clear hq hn4
          go_wp2_with fail
          exact rely_done _ rfl ⟨_, _, _, rfl, HN4.out, ho4.sl HMS.out⟩ hx4 (hI.trans hx4)
        refine stepsR_cons ?_ ?_
        · intro vs W' hl hI hd ho
          refine hold ?_
          obtain ⟨x0, x1, x2, x3, x4, x5, x6, x7, x8, x9, x10, x11, x12, rfl⟩ := lenlit13 hl; clear hl
          simp only [factsR, atR, List.getElem?_cons_succ, List.getElem?_cons_zero, Rel.one, Rel.blk, RMs] at hd
          obtain ⟨rfl, rfl, ⟨a4, _, c4, rfl, rfl, hs4⟩, -⟩ := hd
          refine held ?_
          simp only [putAll, Act.put, List.setIfInBounds_toArray, List.set_cons_succ, List.set_cons_zero]
          go_wp2_with fail
          refine (rchallenge_any _ _ HWK.out.1 HWK.out.2 a4 _ c4 (msgE VV pf pu tl) W' hs4 (by have := HN8.out; omega)).mono ?_
          rintro e w5 ⟨rfl, hx5⟩
          rw [HCH.out]
          go_wp2_with fail
          exact rely_done _ rfl rfl hx5 (hI.trans hx5)
        refine stepsR_cons ?_ ?_
        · intro vs W' hl hI hd ho
          refine hold ?_
          obtain ⟨x0, x1, x2, x3, x4, x5, x6, x7, x8, x9, x10, x11, x12, rfl⟩ := lenlit13 hl; clear hl
          refine held ?_
          simp only [putAll, Act.put, List.setIfInBounds_toArray, List.set_cons_succ, List.set_cons_zero]
          go_wp2_with fail
          exact rely_done _ rfl rfl (Ext.refl _) hI
        refine stepsR_cons ?_ ?_
        · intro vs W' hl hI hd ho
          refine hold ?_
          obtain ⟨x0, x1, x2, x3, x4, x5, x6, x7, x8, x9, x10, x11, x12, rfl⟩ := lenlit13 hl; clear hl
          simp only [factsR, atR, List.getElem?_cons_succ, List.getElem?_cons_zero, Rel.one, Rel.blk, RMs] at hd
          obtain ⟨rfl, -⟩ := hd
          refine held ?_
          simp only [putAll, Act.put, List.setIfInBounds_toArray, List.set_cons_succ, List.set_cons_zero]
          go_wp2_with fail
          exact rely_done _ rfl rfl (Ext.refl _) hI
        refine stepsR_cons ?_ ?_
        · intro vs W' hl hI hd ho
          refine hold ?_
          obtain ⟨x0, x1, x2, x3, x4, x5, x6, x7, x8, x9, x10, x11, x12, rfl⟩ := lenlit13 hl; clear hl
          simp only [factsR, atR, List.getElem?_cons_succ, List.getElem?_cons_zero, Rel.one, Rel.blk, RMs] at hd
          obtain ⟨rfl, -⟩ := hd
          refine held ?_
          simp only [putAll, Act.put, List.setIfInBounds_toArray, List.set_cons_succ, List.set_cons_zero]
          have q4 := hI.cell s4
          go_wp2_with fail
          exact rely_done _ rfl rfl (Ext.refl _) hI
        refine stepsR_cons ?_ ?_
        · intro vs W' hl hI hd ho
          refine hold ?_
          obtain ⟨x0, x1, x2, x3, x4, x5, x6, x7, x8, x9, x10, x11, x12, rfl⟩ := lenlit13 hl; clear hl
          simp only [factsR, atR, List.getElem?_cons_succ, List.getElem?_cons_zero, Rel.one, Rel.blk, RMs] at hd
          obtain ⟨rfl, rfl, -⟩ := hd
          refine held ?_
          simp only [putAll, Act.put, List.setIfInBounds_toArray, List.set_cons_succ, List.set_cons_zero]
          go_wp2_with fail
          exact rely_done _ rfl rfl (Ext.refl _) hI
        refine stepsR_cons ?_ ?_
        · intro vs W' hl hI hd ho
          refine hold ?_
          obtain ⟨x0, x1, x2, x3, x4, x5, x6, x7, x8, x9, x10, x11, x12, rfl⟩ := lenlit13 hl; clear hl
          simp only [factsR, atR, List.getElem?_cons_succ, List.getElem?_cons_zero, Rel.one, Rel.blk, RMs] at hd
          obtain ⟨rfl, -⟩ := hd
          refine held ?_
          simp only [putAll, Act.put, List.setIfInBounds_toArray, List.set_cons_succ, List.set_cons_zero]
          go_wp2_with fail
          exact rely_done _ rfl rfl (Ext.refl _) hI
        exact trivial
      · intro vs W' hl hI hd
        obtain ⟨x0, x1, x2, x3, x4, x5, x6, x7, x8, x9, x10, x11, x12, rfl⟩ := lenlit13 hl; clear hl
        simp only [List.length_cons, List.length_nil, List.range, List.range.loop, Nat.zero_add, Nat.reduceAdd, factsR, atR, List.getElem?_cons_succ, List.getElem?_cons_zero, Rel.one, Rel.blk, RMs] at hd
        obtain ⟨rfl, rfl, rfl, rfl, rfl, rfl, ⟨a4, _, c4, rfl, rfl, hs4⟩, rfl, rfl, rfl, rfl, rfl, rfl, -⟩ := hd
        simp only [putAll, Act.put, List.setIfInBounds_toArray, List.set_cons_succ, List.set_cons_zero]
        replace hT1 := hT1.ext hI
        replace hr4 := hr4.ext hI
        replace hE1 := hE1.trans hI
        clear hI p0 p1 p2 p3 p4 p5 s0 s1 s2 s3 s4 s5 t0 t1 t2 t3 t4 t5
        have t0 := hT1.c 0 _ rfl
        have t1 := hT1.c 1 _ rfl
        have t2 := hT1.c 2 _ rfl
        have t3 := hT1.c 3 _ rfl
        have t4 := hT1.c 4 _ rfl
        have t5 := hT1.c 5 _ rfl
        go_wp2_with fail
        refine (ergt_any (pw 2147483579 4 k : Nat) VV pf pu (some ⟨g, 0, none⟩) n8 c9 tl SC SS W' hr4 (TB.ext HT.out hE1)).mono ?_
        rintro _ wz ⟨rfl, hx⟩
        rw [HRT2.out]
        replace hE1 := hE1.trans hx
        go_wp2_with fail
        go_ret
        exact ⟨rfl, hE1⟩
end Go.Proofs.YtcohdojfbnijpaaDoor
