/-
  Package commit, walked: copied. Written by wip/gen_qu.py.
-/
import Derived.Test.YtacicanjmleikaaQT
namespace Go.Proofs.Ytacicanjmleikaa
open Go.RowKit Go.Sort Go.Shelf
set_option linter.unusedSimpArgs false
set_option linter.unusedVariables false
set_option maxRecDepth 100000

theorem OwR.setOff {α : Type} [Cel α] {E : TypeId} {base : Nat} {W : World} {a : Option Addr} {n c : Nat} {xs : List α} (h : OwR E base W a n c xs) {b : Nat} (hb : b < base) (i : Nat) (v : Value) : OwR E base (W.setCell ⟨b, i, none⟩ v) a n c xs := by
  obtain ⟨h0, h1, h2⟩ := h
  refine ⟨h0, h1, ?_⟩
  rcases h2 with h2 | ⟨g, cap, cur, hv, hg, hh, r⟩
  · exact .inl h2
  · exact .inr ⟨g, cap, cur, hv, hg, (heap_setCell_other W ⟨b, i, none⟩ g v (by simp only; omega)).trans hh, r⟩
theorem OwR.set4o {α : Type} [Cel α] {E : TypeId} {base : Nat} {W : World} {a : Option Addr} {n c : Nat} {xs : List α} (h : OwR E base W a n c xs) {b : Nat} (hb : b < base) (v0 v1 v2 v3 : Value) : OwR E base ((((W.setCell ⟨b, 0, none⟩ v0).setCell ⟨b, 1, none⟩ v1).setCell ⟨b, 2, none⟩ v2).setCell ⟨b, 3, none⟩ v3) a n c xs :=
  (((h.setOff hb 0 v0).setOff hb 1 v1).setOff hb 2 v2).setOff hb 3 v3
/-- A row of its own, somewhere. -/
def RelRw {α : Type} [Cel α] (E : TypeId) (base n : Nat) (l : List α) : RelL Ext := ⟨none, fun _ v W => ∃ a c, v = .slice a n c ∧ OwR E base W a n c l, fun _ v W W' ⟨a, c, h1, h2⟩ hE => ⟨a, c, h1, h2.ext hE⟩⟩
/-- What is so while a transaction is copied. -/
structure CopI (w : World) (tb rb base : Nat) (id ts : Int) (ra : Option Addr) (rn rc : Nat) (wa : Option Addr) (wn wc : Nat) (xr : List Sn) (xw : List Wr) (listed : Nat → Bool) (W : World) : Prop where
  ext : Ext w W
  sz : base ≤ W.heap.size
  r : Bk W rb 26 #[.int .i64 0, .int .i64 0, .slice none 0 0, .slice none 0 0]
  a : listed 7 = false → Bk W tb 26 #[.int .i64 id, .int .i64 ts, .slice ra rn rc, .slice wa wn wc]
  b : listed 7 = true → listed 9 = false → ∃ a1 c1, Bk W tb 26 #[.int .i64 id, .int .i64 ts, .slice a1 rn c1, .slice wa wn wc] ∧ OwR 77 base W a1 rn c1 xr
  c : listed 9 = true → ∃ a1 c1 a2 c2, Bk W tb 26 #[.int .i64 id, .int .i64 ts, .slice a1 rn c1, .slice a2 wn c2] ∧ OwR 77 base W a1 rn c1 xr ∧ OwR 60 base W a2 wn c2 xw
theorem CopI.other {w : World} {tb rb base : Nat} {id ts : Int} {ra : Option Addr} {rn rc : Nat} {wa : Option Addr} {wn wc : Nat} {xr : List Sn} {xw : List Wr} {listed : Nat → Bool} {W W' : World} (h : CopI w tb rb base id ts ra rn rc wa wn wc xr xw listed W) {i : Nat} (h1 : i ≠ 7) (h2 : i ≠ 9) (hx : Ext W W') : CopI w tb rb base id ts ra rn rc wa wn wc xr xw (updE listed i) W' := by
  have e1 : updE listed i 7 = listed 7 := by simp [updE, h1.symm]
  have e2 : updE listed i 9 = listed 9 := by simp [updE, h2.symm]
  refine ⟨h.ext.trans hx, Nat.le_trans h.sz hx.sz, h.r.ext hx, ?_, ?_, ?_⟩
  · rw [e1]; exact fun q => (h.a q).ext hx
  · rw [e1, e2]; exact fun q q' => let ⟨a1, c1, p1, p2⟩ := h.b q q'; ⟨a1, c1, p1.ext hx, p2.ext hx⟩
  · rw [e2]; exact fun q => let ⟨a1, c1, a2, c2, p1, p2, p3⟩ := h.c q; ⟨a1, c1, a2, c2, p1.ext hx, p2.ext hx, p3.ext hx⟩

theorem res_copied (W : World) (b : Nat) (v0 v1 v2 v3  : Value) (tmps : Array Value) (hb : tmps[2]?.getD undef = .pointer (some ⟨b, 0, none⟩))  (h : Bk W b 26 #[v0, v1, v2, v3]) :
    (results Try.f32 tmps).run Try.prog W = .ok (.agg #[v0, v1, v2, v3]) W := by
  have c0 := h.c 0 _ rfl
  have c1 := h.c 1 _ rfl
  have c2 := h.c 2 _ rfl
  have c3 := h.c 3 _ rfl
  simp [results, Try.results32, go_sem, hb, c0, c1, c2, c3]

theorem lenlit10 {vs : List Value} (h : vs.length = 10) : ∃ x0 x1 x2 x3 x4 x5 x6 x7 x8 x9 : Value, vs = [x0, x1, x2, x3, x4, x5, x6, x7, x8, x9] := by
  obtain ⟨x0, v0, rfl, h0⟩ := len_cons h
  obtain ⟨x1, v1, rfl, h1⟩ := len_cons h0
  obtain ⟨x2, v2, rfl, h2⟩ := len_cons h1
  obtain ⟨x3, v3, rfl, h3⟩ := len_cons h2
  obtain ⟨x4, v4, rfl, h4⟩ := len_cons h3
  obtain ⟨x5, v5, rfl, h5⟩ := len_cons h4
  obtain ⟨x6, v6, rfl, h6⟩ := len_cons h5
  obtain ⟨x7, v7, rfl, h7⟩ := len_cons h6
  obtain ⟨x8, v8, rfl, h8⟩ := len_cons h7
  obtain ⟨x9, v9, rfl, h9⟩ := len_cons h8
  obtain rfl := len_nil h9
  exact ⟨x0, x1, x2, x3, x4, x5, x6, x7, x8, x9, rfl⟩

set_option maxHeartbeats 4000000 in
theorem copied_any (r : TxR) (t : Tx) (w : World) (h : TxL w r t) (hrn : r.rn ≤ 1000000) (hwn : r.wn ≤ 1000000) :
    Calls Try.prog 32 #[valT r] w fun e w' => ∃ a1 c1 a2 c2, e = .returned (valT ⟨r.id, r.ts, a1, r.rn, c1, a2, r.wn, c2⟩) ∧ OwR 77 w.heap.size w' a1 r.rn c1 t.rd ∧ OwR 60 w.heap.size w' a2 r.wn c2 t.wr ∧ Ext w w' := by
  obtain ⟨id, ts, ra, rn, rc, wa, wn, wc⟩ := r
  obtain ⟨id2, ts2, xr, xw⟩ := t
  obtain ⟨e1, e2, hrd, hwr⟩ := h
  simp only at e1 e2 hrd hwr hrn hwn
  subst e1 e2
  unfold valT
  have HRD := Lib.hid (fun (W : World) (hx : Ext w W) => hrd.ext hx)
  have HWR := Lib.hid (fun (W : World) (hx : Ext w W) => hwr.ext hx)
  clear hrd hwr
  have hB := (Bk.new w 26 #[.int .i64 id, .int .i64 ts, .slice ra rn rc, .slice wa wn wc]).ext ((Ext.refl _).alloc (.cells #[.int .i64 0, .int .i64 0, .slice none 0 0, .slice none 0 0] 26))
  have hR := Bk.new (w.alloc (.cells #[.int .i64 id, .int .i64 ts, .slice ra rn rc, .slice wa wn wc] 26)) 26 #[.int .i64 0, .int .i64 0, .slice none 0 0, .slice none 0 0]
  have hE : Ext w ((w.alloc (.cells #[.int .i64 id, .int .i64 ts, .slice ra rn rc, .slice wa wn wc] 26)).alloc (.cells #[.int .i64 0, .int .i64 0, .slice none 0 0, .slice none 0 0] 26)) := ((Ext.refl w).alloc _).alloc _
  go_enter Try.func32, Try.ntmps32
  go_upto_region 1 with fail
  simp only [World.size_alloc] at hR
  generalize (w.alloc (.cells #[.int .i64 id, .int .i64 ts, .slice ra rn rc, .slice wa wn wc] 26)).alloc (.cells #[.int .i64 0, .int .i64 0, .slice none 0 0, .slice none 0 0] 26) = V at *
  obtain ⟨tb, htb0⟩ : ∃ tb, w.heap.size = tb := ⟨_, rfl⟩
  obtain ⟨rb, hrb0⟩ : ∃ rb, w.heap.size + 1 = rb := ⟨_, rfl⟩
  have hbs : Hid (w.heap.size ≤ V.heap.size) := Lib.hid hE.sz
  rw [hrb0] at hR ⊢
  rw [htb0] at hB ⊢
  have htb : tb < V.heap.size := hB.lt
  have hrb : rb < V.heap.size := hR.lt
  have htw : w.heap.size ≤ tb := by omega
  have hrw : w.heap.size ≤ rb := by omega
  have hne : tb ≠ rb := by omega
  have HI : CopI w tb rb V.heap.size id ts ra rn rc wa wn wc xr xw (fun _ => false) { V with drawn := V.drawn + 1 } :=
    ⟨hE.drew, Nat.le_refl _, hR.ext (Ext.refl V).drew, fun _ => hB.ext (Ext.refl V).drew, (fun h => by cases h), (fun h => by cases h)⟩
  clear hE hB hR
  refine region_relyF (CopI w tb rb V.heap.size id ts ra rn rc wa wn wc xr xw) [some 3, some 4, some 5, some 6, some 7, some 8, some 9, none, some 10, none] [[], [0], [0, 1], [], [3], [0, 1, 2, 3, 4], [0, 1, 2, 3, 4], [0, 1, 2, 3, 4, 5, 6], [0, 1, 2, 3, 4, 5, 6, 7], [0, 1, 2, 3, 4, 5, 6, 7, 8]] [[], [0], [1], [], [3], [4], [], [2, 6], [], [5, 8]] [none, none, none, none, none, none, none, none, none, none] [false, false, false, false, false, false, false, false, false, false] [.one ((.pointer (some ⟨tb, 2, none⟩))), .one ((.slice ra rn rc)), RelRw 77 V.heap.size rn xr, .one ((.pointer (some ⟨tb, 3, none⟩))), .one ((.slice wa wn wc)), RelRw 60 V.heap.size wn xw, .one ((.pointer (some ⟨tb, 2, none⟩))), .any, .one ((.pointer (some ⟨tb, 3, none⟩))), .any] (by kernel_rfl) (by kernel_rfl) rfl HI ?_ ?_
  · refine stepsF_cons ?_ ?_
    · intro listed vs W' hl hI hd hs hn hu hz ho9
      refine hold ?_
      obtain ⟨x0, x1, x2, x3, x4, x5, x6, x7, x8, x9, rfl⟩ := lenlit10 hl; clear hl
      refine held ?_
      simp only [putAll, Act.put, List.setIfInBounds_toArray, List.set_cons_succ, List.set_cons_zero]
      go_wp2_with fail
      exact relyE_done _ rfl rfl (Ext.refl _) (hI.other (by decide) (by decide) (Ext.refl _))
    refine stepsF_cons ?_ ?_
    · intro listed vs W' hl hI hd hs hn hu hz ho9
      refine hold ?_
      obtain ⟨x0, x1, x2, x3, x4, x5, x6, x7, x8, x9, rfl⟩ := lenlit10 hl; clear hl
      simp only [factsL, atL, refV, List.getElem?_cons_succ, List.getElem?_cons_zero, List.getD_cons_succ, List.getD_cons_zero, RelL.one, RelL.any, RelL.blk, RelL.law, RelRw] at hd
      obtain ⟨rfl, -⟩ := hd
      refine held ?_
      simp only [putAll, Act.put, List.setIfInBounds_toArray, List.set_cons_succ, List.set_cons_zero]
      have h7 : listed 7 = false := by cases h : listed 7 with | false => rfl | true => exact absurd (by decide) (hu 7 h)
      have c2 := (hI.a h7).c 2 _ rfl
      go_wp2_with fail
      exact relyE_done _ rfl rfl (Ext.refl _) (hI.other (by decide) (by decide) (Ext.refl _))
    refine stepsF_cons ?_ ?_
    · intro listed vs W' hl hI hd hs hn hu hz ho9
      refine hold ?_
      obtain ⟨x0, x1, x2, x3, x4, x5, x6, x7, x8, x9, rfl⟩ := lenlit10 hl; clear hl
      simp only [factsL, atL, refV, List.getElem?_cons_succ, List.getElem?_cons_zero, List.getD_cons_succ, List.getD_cons_zero, RelL.one, RelL.any, RelL.blk, RelL.law, RelRw] at hd
      obtain ⟨rfl, -⟩ := hd
      refine held ?_
      simp only [putAll, Act.put, List.setIfInBounds_toArray, List.set_cons_succ, List.set_cons_zero]
      go_wp2_with fail
      refine (cloneSn_any ra rn rc xr W' (HRD.out W' hI.ext) hrn).mono ?_
      rintro e w' ⟨a', c', rfl, ho, hx⟩
      go_wp2_with fail
      exact relyE_done _ rfl ⟨a', c', rfl, ho.monoB hI.sz⟩ hx (hI.other (by decide) (by decide) hx)
    refine stepsF_cons ?_ ?_
    · intro listed vs W' hl hI hd hs hn hu hz ho9
      refine hold ?_
      obtain ⟨x0, x1, x2, x3, x4, x5, x6, x7, x8, x9, rfl⟩ := lenlit10 hl; clear hl
      refine held ?_
      simp only [putAll, Act.put, List.setIfInBounds_toArray, List.set_cons_succ, List.set_cons_zero]
      go_wp2_with fail
      exact relyE_done _ rfl rfl (Ext.refl _) (hI.other (by decide) (by decide) (Ext.refl _))
    refine stepsF_cons ?_ ?_
    · intro listed vs W' hl hI hd hs hn hu hz ho9
      refine hold ?_
      obtain ⟨x0, x1, x2, x3, x4, x5, x6, x7, x8, x9, rfl⟩ := lenlit10 hl; clear hl
      simp only [factsL, atL, refV, List.getElem?_cons_succ, List.getElem?_cons_zero, List.getD_cons_succ, List.getD_cons_zero, RelL.one, RelL.any, RelL.blk, RelL.law, RelRw] at hd
      obtain ⟨rfl, -⟩ := hd
      refine held ?_
      simp only [putAll, Act.put, List.setIfInBounds_toArray, List.set_cons_succ, List.set_cons_zero]
      have h7 : listed 7 = false := by cases h : listed 7 with | false => rfl | true => exact absurd (by decide) (hu 7 h)
      have c3 := (hI.a h7).c 3 _ rfl
      go_wp2_with fail
      exact relyE_done _ rfl rfl (Ext.refl _) (hI.other (by decide) (by decide) (Ext.refl _))
    refine stepsF_cons ?_ ?_
    · intro listed vs W' hl hI hd hs hn hu hz ho9
      refine hold ?_
      obtain ⟨x0, x1, x2, x3, x4, x5, x6, x7, x8, x9, rfl⟩ := lenlit10 hl; clear hl
      simp only [factsL, atL, refV, List.getElem?_cons_succ, List.getElem?_cons_zero, List.getD_cons_succ, List.getD_cons_zero, RelL.one, RelL.any, RelL.blk, RelL.law, RelRw] at hd
      obtain ⟨rfl, -⟩ := hd
      refine held ?_
      simp only [putAll, Act.put, List.setIfInBounds_toArray, List.set_cons_succ, List.set_cons_zero]
      go_wp2_with fail
      refine (cloneWr_any wa wn wc xw W' (HWR.out W' hI.ext) hwn).mono ?_
      rintro e w' ⟨a', c', rfl, ho, hx⟩
      go_wp2_with fail
      exact relyE_done _ rfl ⟨a', c', rfl, ho.monoB hI.sz⟩ hx (hI.other (by decide) (by decide) hx)
    refine stepsF_cons ?_ ?_
    · intro listed vs W' hl hI hd hs hn hu hz ho9
      refine hold ?_
      obtain ⟨x0, x1, x2, x3, x4, x5, x6, x7, x8, x9, rfl⟩ := lenlit10 hl; clear hl
      refine held ?_
      simp only [putAll, Act.put, List.setIfInBounds_toArray, List.set_cons_succ, List.set_cons_zero]
      go_wp2_with fail
      exact relyE_done _ rfl rfl (Ext.refl _) (hI.other (by decide) (by decide) (Ext.refl _))
    refine stepsF_cons ?_ ?_
    · intro listed vs W' hl hI hd hs hn hu hz ho9
      refine hold ?_
      obtain ⟨x0, x1, x2, x3, x4, x5, x6, x7, x8, x9, rfl⟩ := lenlit10 hl; clear hl
      simp only [factsL, atL, refV, List.getElem?_cons_succ, List.getElem?_cons_zero, List.getD_cons_succ, List.getD_cons_zero, RelL.one, RelL.any, RelL.blk, RelL.law, RelRw] at hd
      obtain ⟨⟨a1, c1, rfl, ho1⟩, rfl, -⟩ := hd
      refine held ?_
      simp only [putAll, Act.put, List.setIfInBounds_toArray, List.set_cons_succ, List.set_cons_zero]
      have c2 := (hI.a hz).c 2 _ rfl
      have hf := (hI.a hz).free
      go_wp2_with fail
      exact relyE_store undef rfl trivial (by simp) ⟨fun _ _ h => h, fun _ _ h => h, fun _ _ ⟨a, c, e, h⟩ => ⟨a, c, e, h.setOff htb _ _⟩, fun _ _ h => h, fun _ _ h => h, fun _ _ ⟨a, c, e, h⟩ => ⟨a, c, e, h.setOff htb _ _⟩, fun _ _ h => h, fun _ _ h => h, fun _ _ h => h, fun _ _ h => h, trivial⟩ ⟨hI.ext.setCell (p := ⟨tb, 2, none⟩) htw _, by simp [World.setCell]; have := hI.sz; omega, hI.r.otherB hne 2 _, fun h => by simp [updE] at h, fun _ _ => ⟨a1, c1, (hI.a hz).set 2 _, ho1.setOff htb _ _⟩, fun h => by simp [updE] at h; exact absurd (by decide) (hu 9 h)⟩
    refine stepsF_cons ?_ ?_
    · intro listed vs W' hl hI hd hs hn hu hz ho9
      refine hold ?_
      obtain ⟨x0, x1, x2, x3, x4, x5, x6, x7, x8, x9, rfl⟩ := lenlit10 hl; clear hl
      refine held ?_
      simp only [putAll, Act.put, List.setIfInBounds_toArray, List.set_cons_succ, List.set_cons_zero]
      go_wp2_with fail
      exact relyE_done _ rfl rfl (Ext.refl _) (hI.other (by decide) (by decide) (Ext.refl _))
    refine stepsF_cons ?_ ?_
    · intro listed vs W' hl hI hd hs hn hu hz ho9
      refine hold ?_
      obtain ⟨x0, x1, x2, x3, x4, x5, x6, x7, x8, x9, rfl⟩ := lenlit10 hl; clear hl
      simp only [factsL, atL, refV, List.getElem?_cons_succ, List.getElem?_cons_zero, List.getD_cons_succ, List.getD_cons_zero, RelL.one, RelL.any, RelL.blk, RelL.law, RelRw] at hd
      obtain ⟨⟨a2, c2, rfl, ho2⟩, rfl, -⟩ := hd
      refine held ?_
      simp only [putAll, Act.put, List.setIfInBounds_toArray, List.set_cons_succ, List.set_cons_zero]
      have h7 := hs 7 (by decide)
      obtain ⟨a1, c1, p1, p2⟩ := hI.b h7 hz
      have c3 := p1.c 3 _ rfl
      have hf := p1.free
      go_wp2_with fail
      exact relyE_store undef rfl trivial (by simp) ⟨fun _ _ h => h, fun _ _ h => h, fun _ _ ⟨a, c, e, h⟩ => ⟨a, c, e, h.setOff htb _ _⟩, fun _ _ h => h, fun _ _ h => h, fun _ _ ⟨a, c, e, h⟩ => ⟨a, c, e, h.setOff htb _ _⟩, fun _ _ h => h, fun _ _ h => h, fun _ _ h => h, fun _ _ h => h, trivial⟩ ⟨hI.ext.setCell (p := ⟨tb, 3, none⟩) htw _, by simp [World.setCell]; have := hI.sz; omega, hI.r.otherB hne 3 _, fun h => by simp [updE, h7] at h, fun _ h => by simp [updE] at h, fun _ => ⟨a1, c1, a2, c2, p1.set 3 _, p2.setOff htb _ _, ho2.setOff htb _ _⟩⟩
    exact trivial
  · intro listed vs W' hl hall hI hd hn
    obtain ⟨x0, x1, x2, x3, x4, x5, x6, x7, x8, x9, rfl⟩ := lenlit10 hl; clear hl
    simp only [List.length_cons, List.length_nil, List.range, List.range.loop, Nat.zero_add, Nat.reduceAdd, factsL, atL, refV, List.getElem?_cons_succ, List.getElem?_cons_zero, List.getD_cons_succ, List.getD_cons_zero, RelL.one, RelL.any, RelL.blk, RelL.law, RelRw] at hd
    obtain ⟨rfl, rfl, ⟨a1, c1, rfl, ho1⟩, rfl, rfl, ⟨a2, c2, rfl, ho2⟩, rfl, -, rfl, -, -⟩ := hd
    simp only [putAll, Act.put, List.setIfInBounds_toArray, List.set_cons_succ, List.set_cons_zero]
    obtain ⟨a1, c1, a2, c2, p1, p2, p3⟩ := hI.c (hall 9 (by decide))
    have hR := hI.r
    have hE := hI.ext
    clear hall hn hI
    have q0 := p1.c 0 _ rfl
    have q1 := p1.c 1 _ rfl
    have q2 := p1.c 2 _ rfl
    have q3 := p1.c 3 _ rfl
    have z0 := hR.c 0 _ rfl
    have z1 := hR.c 1 _ rfl
    have z2 := hR.c 2 _ rfl
    have z3 := hR.c 3 _ rfl
    have hf := hR.free
    go_wp2_with fail
    refine bodyPost_ret (res_copied _ rb _ _ _ _ _ (by rfl) (hR.set4 _ _ _ _)) rfl ?_
    exact ⟨a1, c1, a2, c2, rfl, (p2.set4o hrb _ _ _ _).monoB hbs.out, (p3.set4o hrb _ _ _ _).monoB hbs.out, hE.set4 hrw _ _ _ _⟩
end Go.Proofs.Ytacicanjmleikaa
