/-
  Stamp of package commit, walked. Written by wip/gen_rd.py.
-/
import Derived.Test.YtacicanjmleikaaRC
import Derived.Test.YtacicanjmleikaaLibG
namespace Go.Proofs.Ytacicanjmleikaa
open Go.RowKit Go.Sort Go.Shelf
set_option linter.unusedSimpArgs false
set_option linter.unusedVariables false
set_option maxRecDepth 100000

theorem res_fail (W : World) (b b2 : Nat) (v0 v1 v2 u0 u1 u2 u3 y1 : Value) (tmps : Array Value) (hb : tmps[2]?.getD undef = .pointer (some ⟨b, 0, none⟩)) (hb2 : tmps[3]?.getD undef = .pointer (some ⟨b2, 0, none⟩)) (h4 : tmps[4]?.getD undef = y1) (h : Bk W b 36 #[v0, v1, v2]) (h' : Bk W b2 26 #[u0, u1, u2, u3]) :
    (results Try.f26 tmps).run Try.prog W = .ok (.tuple #[.agg #[v0, v1, v2], .agg #[u0, u1, u2, u3], y1]) W := by
  have c0 := h.c 0 _ rfl
  have c1 := h.c 1 _ rfl
  have c2 := h.c 2 _ rfl
  have d0 := h'.c 0 _ rfl
  have d1 := h'.c 1 _ rfl
  have d2 := h'.c 2 _ rfl
  have d3 := h'.c 3 _ rfl
  simp [results, Try.results26, go_sem, hb, hb2, h4, c0, c1, c2, d0, d1, d2, d3]

set_option maxHeartbeats 1000000 in
theorem fail_any (E : Int) (w : World) : Calls Try.prog 26 #[.int .i64 E] w fun e w' => e = .returned (.tuple #[.agg #[.int .i64 0, .slice none 0 0, .slice none 0 0], .agg #[.int .i64 0, .int .i64 0, .slice none 0 0, .slice none 0 0], .int .i64 E]) ∧ Ext w w' := by
  have hR := (Bk.new w 36 #[.int .i64 0, .slice none 0 0, .slice none 0 0]).ext ((Ext.refl _).alloc (.cells #[.int .i64 0, .int .i64 0, .slice none 0 0, .slice none 0 0] 26))
  have hQ := Bk.new (w.alloc (.cells #[.int .i64 0, .slice none 0 0, .slice none 0 0] 36)) 26 #[.int .i64 0, .int .i64 0, .slice none 0 0, .slice none 0 0]
  have hE : Ext w ((w.alloc (.cells #[.int .i64 0, .slice none 0 0, .slice none 0 0] 36)).alloc (.cells #[.int .i64 0, .int .i64 0, .slice none 0 0, .slice none 0 0] 26)) := ((Ext.refl w).alloc _).alloc _
  simp only [World.size_alloc] at hQ
  go_enter Try.func26, Try.ntmps26
  go_upto_region 1 with fail
  generalize (w.alloc (.cells #[.int .i64 0, .slice none 0 0, .slice none 0 0] 36)).alloc (.cells #[.int .i64 0, .int .i64 0, .slice none 0 0, .slice none 0 0] 26) = V at *
  obtain ⟨rb, hrb⟩ : ∃ rb, w.heap.size = rb := ⟨_, rfl⟩
  obtain ⟨qb, hqb⟩ : ∃ qb, w.heap.size + 1 = qb := ⟨_, rfl⟩
  have hwr : w.heap.size ≤ rb := by omega
  have hwq : w.heap.size ≤ qb := by omega
  have hne : rb ≠ qb := by omega
  rw [hqb] at hQ ⊢
  rw [hrb] at hR ⊢
  clear hrb hqb
  have r0 := hR.c 0 _ rfl
  have r1 := hR.c 1 _ rfl
  have r2 := hR.c 2 _ rfl
  have q0 := hQ.c 0 _ rfl
  have q1 := hQ.c 1 _ rfl
  have q2 := hQ.c 2 _ rfl
  have q3 := hQ.c 3 _ rfl
  have rf := hR.free
  have qf := hQ.free
  go_wp2_with fail
  refine bodyPost_ret (res_fail _ rb qb _ _ _ _ _ _ _ (.int .i64 E) _ (by rfl) (by rfl) (by rfl) ((hR.set3 (.int .i64 0) (.slice none 0 0) (.slice none 0 0)).other4 (by omega) _ _ _ _) ((hQ.other3 (by omega) _ _ _).set4 (.int .i64 0) (.int .i64 0) (.slice none 0 0) (.slice none 0 0))) rfl ?_
  exact ⟨rfl, (hE.set3 hwr _ _ _).set4 hwq _ _ _ _⟩

def stE (l : Ld) (t : Tx) (hi : Int) (B : Bool) : Int := if formB t = true ∧ t.ts = 0 then (if B = true then 60 else if l.op.length = 2000 ∨ 4000 < sizeL l + t.wr.length then 2 else if 3000000000000000 < max (l.last + 1) hi then 3 else 0) else 1
/-- A leader that shares nothing: its slices, and theirs, lie from 'base' on. -/
structure LdD (base : Nat) (W : World) (r : LdR) (l : Ld) : Prop where
  last : r.last = l.last
  st : OwR 47 base W r.sa r.sn r.sc l.st
  op : OwD base W r.oa r.on r.oc l.op

theorem res_stamp (W : World) (b b2 : Nat) (v0 v1 v2 u0 u1 u2 u3 y1 : Value) (tmps : Array Value) (hb : tmps[6]?.getD undef = .pointer (some ⟨b, 0, none⟩)) (hb2 : tmps[7]?.getD undef = .pointer (some ⟨b2, 0, none⟩)) (h8 : tmps[8]?.getD undef = y1) (h : Bk W b 36 #[v0, v1, v2]) (h' : Bk W b2 26 #[u0, u1, u2, u3]) :
    (results Try.f11 tmps).run Try.prog W = .ok (.tuple #[.agg #[v0, v1, v2], .agg #[u0, u1, u2, u3], y1]) W := by
  have c0 := h.c 0 _ rfl
  have c1 := h.c 1 _ rfl
  have c2 := h.c 2 _ rfl
  have d0 := h'.c 0 _ rfl
  have d1 := h'.c 1 _ rfl
  have d2 := h'.c 2 _ rfl
  have d3 := h'.c 3 _ rfl
  simp [results, Try.results11, go_sem, hb, hb2, h8, c0, c1, c2, d0, d1, d2, d3]

theorem OwR.same {α : Type} [Cel α] {E : TypeId} {W W' : World} {base : Nat} {a : Option Addr} {n c : Nat} {xs : List α} (h : OwR E base W a n c xs) (hs : ∀ g, a = some ⟨g, 0, none⟩ → W'.heap[g]? = W.heap[g]?) : OwR E base W' a n c xs := by
  obtain ⟨h0, h1, h2⟩ := h
  refine ⟨h0, h1, ?_⟩
  rcases h2 with h2 | ⟨g, cap, cur, hv, hg, hh, r⟩
  · exact .inl h2
  · have e : a = some ⟨g, 0, none⟩ := by simp only [Value.slice.injEq] at hv; exact hv.1
    exact .inr ⟨g, cap, cur, hv, hg, (hs g e).trans hh, r⟩
theorem keep_app {base : Nat} {W W' : World} {a4 a7 : Option Addr} {sn c4 on c7 : Nat} {st : List Vn} {op : List Tx} (h : OwR 47 base W a4 sn c4 st) (h7 : OwD base W a7 on c7 op) (hg : W.grownBy W' (Value.slice a7 on c7).ownBlock) (hne : ∀ g, a4 = some ⟨g, 0, none⟩ → a7 ≠ some ⟨g, 0, none⟩) : OwR 47 base W' a4 sn c4 st := by
  refine h.same fun g e => ?_
  have hlt : g < W.heap.size := by
    rcases h.headAt with ⟨h1, _⟩ | ⟨g', h1, _, h2⟩
    · rw [h1] at e; cases e
    · rw [h1] at e; simp only [Option.some.injEq, Addr.mk.injEq, and_true] at e; omega
  refine hg.block g hlt ?_
  rcases h7.headAt with ⟨h1, _⟩ | ⟨g', h1, _⟩
  · rw [h1]; simp [Value.ownBlock]
  · rw [h1]
    simp only [Value.ownBlock]
    intro e2
    have e3 := Option.some.inj e2
    subst e3
    exact hne g e h1
theorem ne_new {base : Nat} {W W' : World} {a4 a7 : Option Addr} {sn c4 on c7 : Nat} {st : List Vn} {op : List Tx} (h : OwR 47 base W a4 sn c4 st) (h7 : OwD W.heap.size W' a7 on c7 op) : ∀ g, a4 = some ⟨g, 0, none⟩ → a7 ≠ some ⟨g, 0, none⟩ := by
  intro g e e7
  rcases h.headAt with ⟨h1, _⟩ | ⟨g', h1, _, h2⟩
  · rw [h1] at e; cases e
  · rw [h1] at e
    simp only [Option.some.injEq, Addr.mk.injEq, and_true] at e
    rcases h7.headAt with ⟨h3, _⟩ | ⟨g2, h3, h4, _⟩
    · rw [h3] at e7; cases e7
    · rw [h3] at e7
      simp only [Option.some.injEq, Addr.mk.injEq, and_true] at e7
      omega
theorem row_lt {base : Nat} {W : World} {a7 : Option Addr} {on c7 : Nat} {op : List Tx} (h : OwD base W a7 on c7 op) : ∀ g o, a7 = some ⟨g, o, none⟩ → g < W.heap.size := by
  intro g o e
  rcases h.headAt with ⟨h3, _⟩ | ⟨g2, h3, _, h4⟩
  · rw [h3] at e; cases e
  · rw [h3] at e
    simp only [Option.some.injEq, Addr.mk.injEq, and_true] at e
    omega
theorem own_lt {α : Type} [Cel α] {E : TypeId} {W : World} {base : Nat} {a : Option Addr} {n c : Nat} {xs : List α} (h : OwR E base W a n c xs) : ∀ g, a = some ⟨g, 0, none⟩ → g < W.heap.size := by
  intro g e
  rcases h.headAt with ⟨h3, _⟩ | ⟨g2, h3, _, h4⟩
  · rw [h3] at e; cases e
  · rw [h3] at e
    simp only [Option.some.injEq, Addr.mk.injEq, and_true] at e
    omega
theorem rangeT {W : World} {b : Nat} {r : TxR} (h : W.heap[b]? = some (.cells (Cel.enc r).toArray 26 (0, 0))) : W.rangeAt b 0 (Cel.enc r) := by
  intro j v hv
  rw [Nat.zero_add]
  exact cell_of_block h j v (by simpa using hv)
theorem notL {listed : Nat → Bool} {DP : List (List Nat)} {i : Nat} (hu : ∀ j, listed j = true → i ∉ DP.getD j []) (j : Nat) (h : i ∈ DP.getD j []) : listed j = false := by
  cases hl : listed j with
  | false => rfl
  | true => exact absurd h (hu j hl)
theorem upd_ne {listed : Nat → Bool} {i k : Nat} (h : i ≠ k) : updE listed i k = listed k := by simp [updE, h.symm]

def RelR7 (B sn : Nat) (st : List Vn) (on : Nat) (op : List Tx) : RelL Ext := ⟨some 4, fun u v W => ∃ a4 c4 a7 c7, u = .slice a4 sn c4 ∧ v = .slice a7 on c7 ∧ OwR 47 B W a4 sn c4 st ∧ OwD B W a7 on c7 op ∧ ∀ g, a4 = some ⟨g, 0, none⟩ → a7 ≠ some ⟨g, 0, none⟩,
  fun u v W W' ⟨a4, c4, a7, c7, e1, e2, h1, h2, h3⟩ hx => ⟨a4, c4, a7, c7, e1, e2, h1.ext hx, h2.ext hx, h3⟩⟩
def RelR9 (B on : Nat) (tx : Tx) : RelL Ext := ⟨some 7, fun u v W => ∃ a7 c7 r, u = .slice a7 on c7 ∧ v = valT r ∧ TxO a7 W r tx ∧ Hi B r, fun u v W W' ⟨a7, c7, r, e1, e2, h1, h2⟩ hx => ⟨a7, c7, r, e1, e2, h1.ext hx, h2⟩⟩
def RelR10 (B on : Nat) (tx : Tx) : RelL Ext := ⟨some 7, fun u v W => ∃ a7 c7 r b, u = .slice a7 on c7 ∧ v = .slice (some ⟨b, 0, none⟩) 1 1 ∧ TxO a7 W r tx ∧ Hi B r ∧ W.heap[b]? = some (.cells (Cel.enc r).toArray 26 (0, 0)),
  fun u v W W' ⟨a7, c7, r, b, e1, e2, h1, h2, h3⟩ hx => ⟨a7, c7, r, b, e1, e2, h1.ext hx, h2, (hx.block b (Array.getElem?_eq_some_iff.1 h3).1).trans h3⟩⟩
def RelR11 (B sn : Nat) (st : List Vn) (on : Nat) (opx : List Tx) : RelL Ext := ⟨some 4, fun u v W => ∃ a4 c4 a c, u = .slice a4 sn c4 ∧ v = .slice a (on + 1) c ∧ OwR 47 B W a4 sn c4 st ∧ OwD B W a (on + 1) c opx,
  fun u v W W' ⟨a4, c4, a, c, e1, e2, h1, h2⟩ hx => ⟨a4, c4, a, c, e1, e2, h1.ext hx, h2.ext hx⟩⟩
def RelR12 (B : Nat) (M : Int) (sn : Nat) (st : List Vn) (on : Nat) (opx : List Tx) : RelL Ext := ⟨none, fun _ v W => ∃ a4 c4 a c, v = .agg #[.int .i64 M, .slice a4 sn c4, .slice a (on + 1) c] ∧ OwR 47 B W a4 sn c4 st ∧ OwD B W a (on + 1) c opx,
  fun _ v W W' ⟨a4, c4, a, c, e1, h1, h2⟩ hx => ⟨a4, c4, a, c, e1, h1.ext hx, h2.ext hx⟩⟩

/-- How the blocks of Stamp lie. -/
structure StL (w : World) (B B9 tb xb rb qb : Nat) (a1 a2 : Option Addr) : Prop where
  t : tb < B9
  x : xb < B9
  r : rb < B9
  q : qb < B9
  b : B9 ≤ B
  wr : w.heap.size ≤ rb
  wq : w.heap.size ≤ qb
  rq : rb ≠ qb
  tr : tb ≠ rb
  tq : tb ≠ qb
  xr : xb ≠ rb
  xq : xb ≠ qb
  a1 : ∀ g, a1 = some ⟨g, 0, none⟩ → g < B
  a2 : ∀ g, a2 = some ⟨g, 0, none⟩ → g < B
/-- What is so at the end of Stamp. -/
structure StI (w : World) (B B9 tb xb rb qb : Nat) (last : Int) (sa : Option Addr) (sn sc : Nat) (oa : Option Addr) (on oc : Nat) (id M : Int) (a1 : Option Addr) (rn c1 : Nat) (a2 : Option Addr) (wn c2 : Nat) (xr : List Sn) (xw : List Wr) (st : List Vn) (opx : List Tx) (listed : Nat → Bool) (W : World) : Prop where
  e : Ext w W
  sz : B ≤ W.heap.size
  t : Bk W tb 36 #[.int .i64 last, .slice sa sn sc, .slice oa on oc]
  x : Bk W xb 26 #[.int .i64 id, .int .i64 M, .slice a1 rn c1, .slice a2 wn c2]
  r : listed 14 = false → Bk W rb 36 #[.int .i64 0, .slice none 0 0, .slice none 0 0]
  q : listed 15 = false → Bk W qb 26 #[.int .i64 0, .int .i64 0, .slice none 0 0, .slice none 0 0]
  s : OwR 77 B9 W a1 rn c1 xr
  v : OwR 60 B9 W a2 wn c2 xw
  d : listed 14 = true → ∃ a4 c4 a c, Bk W rb 36 #[.int .i64 M, .slice a4 sn c4, .slice a (on + 1) c] ∧ OwR 47 B W a4 sn c4 st ∧ OwD B W a (on + 1) c opx
  f : listed 15 = true → Bk W qb 26 #[.int .i64 id, .int .i64 M, .slice a1 rn c1, .slice a2 wn c2]
section
variable {w : World} {B B9 tb xb rb qb : Nat} {last : Int} {sa : Option Addr} {sn sc : Nat} {oa : Option Addr} {on oc : Nat} {id M : Int} {a1 : Option Addr} {rn c1 : Nat} {a2 : Option Addr} {wn c2 : Nat} {xr : List Sn} {xw : List Wr} {st : List Vn} {opx : List Tx} {listed : Nat → Bool} {W W' : World}
theorem StI.other (h : StI w B B9 tb xb rb qb last sa sn sc oa on oc id M a1 rn c1 a2 wn c2 xr xw st opx listed W) {i : Nat} (h1 : i ≠ 14) (h2 : i ≠ 15) (hx : Ext W W') : StI w B B9 tb xb rb qb last sa sn sc oa on oc id M a1 rn c1 a2 wn c2 xr xw st opx (updE listed i) W' := by
  refine ⟨h.e.trans hx, Nat.le_trans h.sz hx.sz, h.t.ext hx, h.x.ext hx, ?_, ?_, h.s.ext hx, h.v.ext hx, ?_, ?_⟩
  · rw [upd_ne h1]; exact fun q => (h.r q).ext hx
  · rw [upd_ne h2]; exact fun q => (h.q q).ext hx
  · rw [upd_ne h1]; exact fun q => let ⟨a4, c4, a, c, p1, p2, p3⟩ := h.d q; ⟨a4, c4, a, c, p1.ext hx, p2.ext hx, p3.ext hx⟩
  · rw [upd_ne h2]; exact fun q => (h.f q).ext hx
theorem Bk.below {b base : Nat} {T : TypeId} {cs : Array Value} (h : Bk W b T cs) (hx : Below base W W') (hb : b < base) : Bk W' b T cs := (hx.block _ hb).trans h
theorem StI.app (h : StI w B B9 tb xb rb qb last sa sn sc oa on oc id M a1 rn c1 a2 wn c2 xr xw st opx listed W) (L : StL w B B9 tb xb rb qb a1 a2) {i : Nat} (h1 : i ≠ 14) (h2 : i ≠ 15) (hx : Below B W W') (n14 : listed 14 = false) (n15 : listed 15 = false) : StI w B B9 tb xb rb qb last sa sn sc oa on oc id M a1 rn c1 a2 wn c2 xr xw st opx (updE listed i) W' := by
  obtain ⟨l1, l2, l3, l4, l5, l6, l7, l8, l9, l10, l11, l12, l13, l14⟩ := L
  refine ⟨Below.trans h.e (Below.mono hx (by omega)), Nat.le_trans h.sz hx.size, h.t.below hx (by omega), h.x.below hx (by omega), fun _ => (h.r n14).below hx (by omega), fun _ => (h.q n15).below hx (by omega), h.s.same (fun g e => hx.block g (l13 g e)), h.v.same (fun g e => hx.block g (l14 g e)), ?_, ?_⟩
  · rw [upd_ne h1, n14]; exact fun q => by cases q
  · rw [upd_ne h2, n15]; exact fun q => by cases q
theorem StI.st14 (h : StI w B B9 tb xb rb qb last sa sn sc oa on oc id M a1 rn c1 a2 wn c2 xr xw st opx listed W) (L : StL w B B9 tb xb rb qb a1 a2) (a4 : Option Addr) (c4 : Nat) (a : Option Addr) (c : Nat) (hv : OwR 47 B W a4 sn c4 st) (ho : OwD B W a (on + 1) c opx) (n14 : listed 14 = false) (n15 : listed 15 = false) :
    StI w B B9 tb xb rb qb last sa sn sc oa on oc id M a1 rn c1 a2 wn c2 xr xw st opx (updE listed 14) (((W.setCell ⟨rb, 0, none⟩ (.int .i64 M)).setCell ⟨rb, 1, none⟩ (.slice a4 sn c4)).setCell ⟨rb, 2, none⟩ (.slice a (on + 1) c)) := by
  obtain ⟨l1, l2, l3, l4, l5, l6, l7, l8, l9, l10, l11, l12, l13, l14⟩ := L
  refine ⟨h.e.set3 l6 _ _ _, by have := h.sz; simp [World.setCell]; omega, h.t.other3 (Ne.symm l9) _ _ _, h.x.other3 (Ne.symm l11) _ _ _, ?_, ?_, h.s.keepHi (keep_set3 l3 _ _ _), h.v.keepHi (keep_set3 l3 _ _ _), ?_, ?_⟩
  · intro q; simp [updE] at q
  · intro _; exact (h.q n15).other3 l8 _ _ _
  · intro _; exact ⟨a4, c4, a, c, (h.r n14).set3 _ _ _, hv.keepHi (keep_set3 (by omega) _ _ _), ho.keepHi (keep_set3 (by omega) _ _ _)⟩
  · rw [upd_ne (by decide), n15]; exact fun q => by cases q
theorem StI.st15 (h : StI w B B9 tb xb rb qb last sa sn sc oa on oc id M a1 rn c1 a2 wn c2 xr xw st opx listed W) (L : StL w B B9 tb xb rb qb a1 a2) (n15 : listed 15 = false) (y14 : listed 14 = true) :
    StI w B B9 tb xb rb qb last sa sn sc oa on oc id M a1 rn c1 a2 wn c2 xr xw st opx (updE listed 15) ((((W.setCell ⟨qb, 0, none⟩ (.int .i64 id)).setCell ⟨qb, 1, none⟩ (.int .i64 M)).setCell ⟨qb, 2, none⟩ (.slice a1 rn c1)).setCell ⟨qb, 3, none⟩ (.slice a2 wn c2)) := by
  obtain ⟨l1, l2, l3, l4, l5, l6, l7, l8, l9, l10, l11, l12, l13, l14⟩ := L
  obtain ⟨a4, c4, a, c, p1, p2, p3⟩ := h.d y14
  refine ⟨h.e.set4 l7 _ _ _ _, by have := h.sz; simp [World.setCell]; omega, h.t.other4 (Ne.symm l10) _ _ _ _, h.x.other4 (Ne.symm l12) _ _ _ _, ?_, ?_, h.s.keepHi (keep_set4 l4 _ _ _ _), h.v.keepHi (keep_set4 l4 _ _ _ _), ?_, ?_⟩
  · rw [upd_ne (by decide), y14]; exact fun q => by cases q
  · intro q; simp [updE] at q
  · intro _; exact ⟨a4, c4, a, c, p1.other4 (Ne.symm l8) _ _ _ _, p2.keepHi (keep_set4 (by omega) _ _ _ _), p3.keepHi (keep_set4 (by omega) _ _ _ _)⟩
  · intro _; exact (h.q n15).set4 _ _ _ _
theorem StI.txl (h : StI w B B9 tb xb rb qb last sa sn sc oa on oc id M a1 rn c1 a2 wn c2 xr xw st opx listed W) (hk : (∀ x ∈ xr, Cel.ok x) ∧ (∀ x ∈ xw, Cel.ok x) ∧ rn ≤ 1000000 ∧ wn ≤ 1000000) : TxL W ⟨id, M, a1, rn, c1, a2, wn, c2⟩ ⟨id, M, xr, xw⟩ :=
  ⟨rfl, rfl, h.s.rw (by have := hk.2.2.1; show rn ≤ _; omega) hk.1, h.v.rw (by have := hk.2.2.2; show wn ≤ _; omega) hk.2.1⟩
end

/-- What Stamp answers: whether there is a conflict is some bool. -/
def StP (l : Ld) (q : TxR) (t : Tx) (hi : Int) (w : World) (e : Ending) (w' : World) : Prop := ∃ B : Bool, (q.rn = 0 → B = false) ∧
      ((stE l t hi B ≠ 0 ∧ e = .returned (.tuple #[.agg #[.int .i64 0, .slice none 0 0, .slice none 0 0], .agg #[.int .i64 0, .int .i64 0, .slice none 0 0, .slice none 0 0], .int .i64 (stE l t hi B)]) ∧ Ext w w') ∨
       (stE l t hi B = 0 ∧ ∃ r' a1 c1 a2 c2, e = .returned (.tuple #[valL r', valT ⟨q.id, max (l.last + 1) hi, a1, q.rn, c1, a2, q.wn, c2⟩, .int .i64 0]) ∧ LdD w.heap.size w' r' (stampL l t hi) ∧ OwR 77 w.heap.size w' a1 q.rn c1 t.rd ∧ OwR 60 w.heap.size w' a2 q.wn c2 t.wr ∧ Ext w w'))

set_option maxHeartbeats 8000000 in
theorem cstamp_any (r : LdR) (l : Ld) (q : TxR) (t : Tx) (lo hi : Int) (w : World) (h : LdL w r l) (hv : ValL l) (ht : TxL w q t) (g1 : ivB lo hi = true) (hrn : q.rn ≤ 1000000) (hwn : q.wn ≤ 1000000) :
    Calls Try.prog 11 #[valL r, valT q, .agg #[.int .i64 lo, .int .i64 hi]] w (StP l q t hi w) := by
  have HVA := Lib.hid (fun (V : World) (hx : Ext w V) => cvalid_any r l V (h.ext hx) hv)
  have hiv := fun (V : World) => ivalid_any lo hi V
  rw [g1] at hiv
  have HIV := Lib.hid hiv
  have HFO := Lib.hid (fun (V : World) (hx : Ext w V) => formed_any q t V (ht.ext hx))
  have HNW := Lib.hid (fun (V : World) (hx : Ext w V) => cnewest_any r l V (h.ext hx) hv)
  have HSI := Lib.hid (fun (V : World) (hx : Ext w V) => csize_any r l V (h.ext hx) (by have := hv.sz; omega))
  have HCP := Lib.hid (fun (V : World) (hx : Ext w V) => copied_any q t V (ht.ext hx) hrn hwn)
  have HFA := Lib.hid (fun (E : Int) (V : World) => fail_any E V)
  have hsn4 : r.sn ≤ 4000 := by rw [← h.st.hlen]; exact (validV_iff.1 hv.st).2.2
  have HCV0 := Lib.hid (fun (V : World) (hx : Ext w V) => cloneV_any r.sa r.sn r.sc l.st V (h.st.ext hx) (by omega))
  have hon4 : r.on ≤ 2000 := by rw [← h.op.hlen]; exact hv.nop
  have HCD0 := Lib.hid (fun (V : World) (hx : Ext w V) => copiesD_any r.oa r.on r.oc l.op V (h.op.ext hx) (by omega) (fun t ht => by
    have h1 := hv.good.form t ht
    simp only [formB, Bool.and_eq_true, decide_eq_true_iff] at h1
    omega))
  have HSA := Lib.hid (fun (V : World) (hx : Ext w V) (Bm b N : Nat) (hm : Bk V Bm 73 #[.map (some b)]) (hi : IsM V b N) => scontains_any q.ra q.rn q.rc t.rd Bm b N V (ht.rd.ext hx) hm hi)
  have HLAST := hv.last
  have HIVB := ivB_iff.1 g1
  have HSZ0 := hv.sz
  have HOKW : Hid ((∀ x ∈ t.rd, Cel.ok x) ∧ (∀ x ∈ t.wr, Cel.ok x)) := Lib.hid ⟨ht.rd.wf, ht.wr.wf⟩
  have HWL := Lib.hid ht.wr.hlen
  have HOL := Lib.hid h.op.hlen
  have HSTD : Hid (∀ B, stE l t hi B = if formB t = true ∧ t.ts = 0 then (if B = true then 60 else if l.op.length = 2000 ∨ 4000 < sizeL l + t.wr.length then 2 else if 3000000000000000 < max (l.last + 1) hi then 3 else 0) else 1) := Lib.hid (fun B => rfl)
  have HIDW : Hid (formB t = true → (Lit.int .i64 q.id).wf = true) := Lib.hid (fun hf => by
    simp only [formB, Bool.and_eq_true, inT_iff] at hf
    rw [ht.id]
    simp [Lit.wf, IntKind.min, IntKind.max, IntKind.bits, IntKind.signed]; omega)
  clear hiv g1
  have HLA := Lib.hid h.last
  have HTI := Lib.hid ht.id
  have HTT := Lib.hid ht.ts
  have b1 := h.st.bd
  have b2 := h.op.bd
  have b3 := ht.rd.bd
  have b4 := ht.wr.bd
  clear h ht hv
  obtain ⟨Z, hZ⟩ : ∃ Z, sizeL l = Z := ⟨_, rfl⟩
  rw [hZ] at HSI HSTD HSZ0
  clear hZ
  obtain ⟨last, sa, sn, sc, oa, on, oc⟩ := r
  obtain ⟨id, ts, ra, rn, rc, wa, wn, wc⟩ := q
  obtain ⟨last2, st, op⟩ := l
  obtain ⟨id2, ts2, xr, xw⟩ := t
  simp only at *
  have e1 := HLA.out
  have e2 := HTI.out
  have e3 := HTT.out
  subst e1 e2 e3
  clear HLA HTI HTT
  rw [HOL.out, HWL.out] at HSTD
  unfold valL valT at *
  simp only at *
  have e9 : IntKind.i64.wrap (last + 1) = last + 1 := by rw [IntKind.wrap_i64]; omega
  have e8 : IntKind.i64.wrap ((Z : Int) + (wn : Int)) = (Z : Int) + (wn : Int) := by rw [IntKind.wrap_i64]; omega
  generalize hFB : formB ⟨id, ts, xr, xw⟩ = FB at *
  have HFB := Lib.hid hFB
  clear hFB
  have hmf : ∀ (fn : Fn) (first cap : Array Value) (w : World), (Instr.makeFunc fn first cap).run Try.prog w = .ok (.func fn first cap) w := fun _ _ _ _ => rfl
  have hsm : ∀ (ad : Addr) (b : Option Nat) (m : Mode) (W : World), (store ad (.map b) m).run Try.prog W = stored Try.prog W ad (.map b) m := fun ad b m W => run_store Try.prog W ad _ m rfl
  have hB := ((((Bk.new w 36 #[.int .i64 last, .slice sa sn sc, .slice oa on oc]).ext ((Ext.refl _).alloc (.cells #[.int .i64 id, .int .i64 ts, .slice ra rn rc, .slice wa wn wc] 26))).ext ((Ext.refl _).alloc (.cells #[.int .i64 lo, .int .i64 hi] 41))).ext ((Ext.refl _).alloc (.cells #[.int .i64 0, .slice none 0 0, .slice none 0 0] 36))).ext ((Ext.refl _).alloc (.cells #[.int .i64 0, .int .i64 0, .slice none 0 0, .slice none 0 0] 26))
  have hX := (((Bk.new (w.alloc (.cells #[.int .i64 last, .slice sa sn sc, .slice oa on oc] 36)) 26 #[.int .i64 id, .int .i64 ts, .slice ra rn rc, .slice wa wn wc]).ext ((Ext.refl _).alloc (.cells #[.int .i64 lo, .int .i64 hi] 41))).ext ((Ext.refl _).alloc (.cells #[.int .i64 0, .slice none 0 0, .slice none 0 0] 36))).ext ((Ext.refl _).alloc (.cells #[.int .i64 0, .int .i64 0, .slice none 0 0, .slice none 0 0] 26))
  have hI := ((Bk.new ((w.alloc (.cells #[.int .i64 last, .slice sa sn sc, .slice oa on oc] 36)).alloc (.cells #[.int .i64 id, .int .i64 ts, .slice ra rn rc, .slice wa wn wc] 26)) 41 #[.int .i64 lo, .int .i64 hi]).ext ((Ext.refl _).alloc (.cells #[.int .i64 0, .slice none 0 0, .slice none 0 0] 36))).ext ((Ext.refl _).alloc (.cells #[.int .i64 0, .int .i64 0, .slice none 0 0, .slice none 0 0] 26))
  have hR := (Bk.new (((w.alloc (.cells #[.int .i64 last, .slice sa sn sc, .slice oa on oc] 36)).alloc (.cells #[.int .i64 id, .int .i64 ts, .slice ra rn rc, .slice wa wn wc] 26)).alloc (.cells #[.int .i64 lo, .int .i64 hi] 41)) 36 #[.int .i64 0, .slice none 0 0, .slice none 0 0]).ext ((Ext.refl _).alloc (.cells #[.int .i64 0, .int .i64 0, .slice none 0 0, .slice none 0 0] 26))
  have hQ := Bk.new ((((w.alloc (.cells #[.int .i64 last, .slice sa sn sc, .slice oa on oc] 36)).alloc (.cells #[.int .i64 id, .int .i64 ts, .slice ra rn rc, .slice wa wn wc] 26)).alloc (.cells #[.int .i64 lo, .int .i64 hi] 41)).alloc (.cells #[.int .i64 0, .slice none 0 0, .slice none 0 0] 36)) 26 #[.int .i64 0, .int .i64 0, .slice none 0 0, .slice none 0 0]
  have hE : Ext w (((((w.alloc (.cells #[.int .i64 last, .slice sa sn sc, .slice oa on oc] 36)).alloc (.cells #[.int .i64 id, .int .i64 ts, .slice ra rn rc, .slice wa wn wc] 26)).alloc (.cells #[.int .i64 lo, .int .i64 hi] 41)).alloc (.cells #[.int .i64 0, .slice none 0 0, .slice none 0 0] 36)).alloc (.cells #[.int .i64 0, .int .i64 0, .slice none 0 0, .slice none 0 0] 26)) := (((((Ext.refl w).alloc _).alloc _).alloc _).alloc _).alloc _
  simp only [World.size_alloc] at hX hI hR hQ
  go_enter Try.func11, Try.ntmps11
  go_upto_region 1 with fail
  generalize ((((w.alloc (.cells #[.int .i64 last, .slice sa sn sc, .slice oa on oc] 36)).alloc (.cells #[.int .i64 id, .int .i64 ts, .slice ra rn rc, .slice wa wn wc] 26)).alloc (.cells #[.int .i64 lo, .int .i64 hi] 41)).alloc (.cells #[.int .i64 0, .slice none 0 0, .slice none 0 0] 36)).alloc (.cells #[.int .i64 0, .int .i64 0, .slice none 0 0, .slice none 0 0] 26) = V at *
  obtain ⟨tb, htb⟩ : ∃ tb, w.heap.size = tb := ⟨_, rfl⟩
  obtain ⟨xb, hxb⟩ : ∃ xb, w.heap.size + 1 = xb := ⟨_, rfl⟩
  obtain ⟨ib, hib⟩ : ∃ ib, w.heap.size + 1 + 1 = ib := ⟨_, rfl⟩
  obtain ⟨rb, hrb⟩ : ∃ rb, w.heap.size + 1 + 1 + 1 = rb := ⟨_, rfl⟩
  obtain ⟨qb, hqb⟩ : ∃ qb, w.heap.size + 1 + 1 + 1 + 1 = qb := ⟨_, rfl⟩
  have hwr : w.heap.size ≤ rb := by omega
  have hwq : w.heap.size ≤ qb := by omega
  have hwx : w.heap.size ≤ xb := by omega
  have hne : tb < xb ∧ xb < ib ∧ ib < rb ∧ rb < qb := by omega
  rw [hqb] at hQ ⊢
  rw [hrb] at hR ⊢
  rw [hib] at hI ⊢
  rw [hxb] at hX ⊢
  rw [htb] at hB ⊢
  clear htb hxb hib hrb hqb
  have k0 := hB.c 0 _ rfl
  have k1 := hB.c 1 _ rfl
  have k2 := hB.c 2 _ rfl
  have x0 := hX.c 0 _ rfl
  have x1 := hX.c 1 _ rfl
  have x2 := hX.c 2 _ rfl
  have x3 := hX.c 3 _ rfl
  have i0 := hI.c 0 _ rfl
  have i1 := hI.c 1 _ rfl
  go_wp2_with (go_at_call 17; refine (HVA.out V hE).mono ?_; rintro e V1 ⟨rfl, hx⟩; refine hold ?_)
  refine held ?_
  replace hB := hB.ext hx
  replace hX := hX.ext hx
  replace hI := hI.ext hx
  replace hR := hR.ext hx
  replace hQ := hQ.ext hx
  replace hE := hE.trans hx
  clear hx k0 k1 k2 x0 x1 x2 x3 i0 i1
  have k0 := hB.c 0 _ rfl
  have k1 := hB.c 1 _ rfl
  have k2 := hB.c 2 _ rfl
  have x0 := hX.c 0 _ rfl
  have x1 := hX.c 1 _ rfl
  have x2 := hX.c 2 _ rfl
  have x3 := hX.c 3 _ rfl
  have i0 := hI.c 0 _ rfl
  have i1 := hI.c 1 _ rfl
  go_wp2_with (go_at_call 18; refine (HIV.out V1).mono ?_; rintro e V2 ⟨rfl, hx⟩; refine hold ?_)
  refine held ?_
  replace hB := hB.ext hx
  replace hX := hX.ext hx
  replace hI := hI.ext hx
  replace hR := hR.ext hx
  replace hQ := hQ.ext hx
  replace hE := hE.trans hx
  clear hx k0 k1 k2 x0 x1 x2 x3 i0 i1
  have k0 := hB.c 0 _ rfl
  have k1 := hB.c 1 _ rfl
  have k2 := hB.c 2 _ rfl
  have x0 := hX.c 0 _ rfl
  have x1 := hX.c 1 _ rfl
  have x2 := hX.c 2 _ rfl
  have x3 := hX.c 3 _ rfl
  have i0 := hI.c 0 _ rfl
  have i1 := hI.c 1 _ rfl
  go_wp2_with (go_at_call 27; refine (HFO.out V2 hE).mono ?_; rintro e V3 ⟨rfl, hx⟩; refine hold ?_)
  refine held ?_
  replace hB := hB.ext hx
  replace hX := hX.ext hx
  replace hI := hI.ext hx
  replace hR := hR.ext hx
  replace hQ := hQ.ext hx
  replace hE := hE.trans hx
  clear hx k0 k1 k2 x0 x1 x2 x3 i0 i1
  have k0 := hB.c 0 _ rfl
  have k1 := hB.c 1 _ rfl
  have k2 := hB.c 2 _ rfl
  have x0 := hX.c 0 _ rfl
  have x1 := hX.c 1 _ rfl
  have x2 := hX.c 2 _ rfl
  have x3 := hX.c 3 _ rfl
  have i0 := hI.c 0 _ rfl
  have i1 := hI.c 1 _ rfl
  cases FB with
  | false =>
    obtain ⟨B, hBr⟩ : ∃ B : Bool, (rn = 0 → B = false) := ⟨false, fun _ => rfl⟩
    have HST : Hid (stE ⟨last, st, op⟩ ⟨id, ts, xr, xw⟩ hi B = 1) := Lib.hid (by rw [HSTD.out, if_neg (by simp)])
    go_wp2_with (go_at_call 26; refine (HFA.out 1 _).mono ?_; rintro e V9 ⟨rfl, hx⟩; refine hold ?_)
    refine held ?_
    replace hB := hB.ext hx
    replace hX := hX.ext hx
    replace hI := hI.ext hx
    replace hR := hR.ext hx
    replace hQ := hQ.ext hx
    replace hE := hE.trans hx
    clear hx k0 k1 k2 x0 x1 x2 x3 i0 i1
    have k0 := hB.c 0 _ rfl
    have k1 := hB.c 1 _ rfl
    have k2 := hB.c 2 _ rfl
    have x0 := hX.c 0 _ rfl
    have x1 := hX.c 1 _ rfl
    have x2 := hX.c 2 _ rfl
    have x3 := hX.c 3 _ rfl
    have i0 := hI.c 0 _ rfl
    have i1 := hI.c 1 _ rfl
    have r0 := hR.c 0 _ rfl
    have r1 := hR.c 1 _ rfl
    have r2 := hR.c 2 _ rfl
    have q0 := hQ.c 0 _ rfl
    have q1 := hQ.c 1 _ rfl
    have q2 := hQ.c 2 _ rfl
    have q3 := hQ.c 3 _ rfl
    have rf := hR.free
    have qf := hQ.free
    go_wp2_with fail
    refine bodyPost_ret (res_stamp _ rb qb _ _ _ _ _ _ _ (.int .i64 1) _ (by rfl) (by rfl) (by rfl) ((hR.set3 (.int .i64 0) (.slice none 0 0) (.slice none 0 0)).other4 (by omega) _ _ _ _) ((hQ.other3 (by omega) _ _ _).set4 (.int .i64 0) (.int .i64 0) (.slice none 0 0) (.slice none 0 0))) rfl ?_
    unfold StP
    exact ⟨B, hBr, .inl ⟨by rw [HST.out]; decide, by rw [HST.out], (hE.set3 hwr _ _ _).set4 hwq _ _ _ _⟩⟩
  | true =>
    by_cases hts : ts = 0
    · subst hts
      go_wp2_with (go_at_call 28; refine (HNW.out V3 hE).mono ?_; rintro e V4 ⟨mk, rfl, him, hx⟩; refine hold ?_)
      refine held ?_
      replace hB := hB.ext hx
      replace hX := hX.ext hx
      replace hI := hI.ext hx
      replace hR := hR.ext hx
      replace hQ := hQ.ext hx
      replace hE := hE.trans hx
      clear hx k0 k1 k2 x0 x1 x2 x3 i0 i1
      have k0 := hB.c 0 _ rfl
      have k1 := hB.c 1 _ rfl
      have k2 := hB.c 2 _ rfl
      have x0 := hX.c 0 _ rfl
      have x1 := hX.c 1 _ rfl
      have x2 := hX.c 2 _ rfl
      have x3 := hX.c 3 _ rfl
      have i0 := hI.c 0 _ rfl
      have i1 := hI.c 1 _ rfl
      have hmb := Bk.new V4 73 #[.map (some mk)]
      have hx : Ext V4 (V4.alloc (.cells #[.map (some mk)] 73)) := (Ext.refl V4).alloc _
      go_upto_region 5 with fail
      replace him := him.ext hx
      replace hB := hB.ext hx
      replace hX := hX.ext hx
      replace hI := hI.ext hx
      replace hR := hR.ext hx
      replace hQ := hQ.ext hx
      replace hE := hE.trans hx
      clear hx k0 k1 k2 x0 x1 x2 x3 i0 i1
      have k0 := hB.c 0 _ rfl
      have k1 := hB.c 1 _ rfl
      have k2 := hB.c 2 _ rfl
      have x0 := hX.c 0 _ rfl
      have x1 := hX.c 1 _ rfl
      have x2 := hX.c 2 _ rfl
      have x3 := hX.c 3 _ rfl
      have i0 := hI.c 0 _ rfl
      have i1 := hI.c 1 _ rfl
      generalize V4.alloc (.cells #[.map (some mk)] 73) = V5 at *
      have HMB := Lib.hid hmb
      have HIM := Lib.hid him
      clear hmb him
      go_wp2_with (go_at_call 29; refine (HSA.out V5 hE _ mk 100000 HMB.out HIM.out).mono ?_; rintro e V6 ⟨B, rfl, hBr, hx⟩; refine hold ?_)
      refine held ?_
      replace hB := hB.ext hx
      replace hX := hX.ext hx
      replace hI := hI.ext hx
      replace hR := hR.ext hx
      replace hQ := hQ.ext hx
      replace hE := hE.trans hx
      clear hx k0 k1 k2 x0 x1 x2 x3 i0 i1
      have k0 := hB.c 0 _ rfl
      have k1 := hB.c 1 _ rfl
      have k2 := hB.c 2 _ rfl
      have x0 := hX.c 0 _ rfl
      have x1 := hX.c 1 _ rfl
      have x2 := hX.c 2 _ rfl
      have x3 := hX.c 3 _ rfl
      have i0 := hI.c 0 _ rfl
      have i1 := hI.c 1 _ rfl
      have HBR := Lib.hid hBr
      clear HMB HIM HNW HSA hBr
      cases B with
      | true =>
        obtain ⟨B, hBr, hBT⟩ : ∃ B : Bool, (rn = 0 → B = false) ∧ B = true := ⟨true, HBR.out, rfl⟩
        have HST : Hid (stE ⟨last, st, op⟩ ⟨id, 0, xr, xw⟩ hi B = 60) := Lib.hid (by rw [HSTD.out, hBT, if_pos (by simp), if_pos rfl])
        clear hBT
        go_wp2_with (go_at_call 26; refine (HFA.out 60 _).mono ?_; rintro e V9 ⟨rfl, hx⟩; refine hold ?_)
        refine held ?_
        replace hB := hB.ext hx
        replace hX := hX.ext hx
        replace hI := hI.ext hx
        replace hR := hR.ext hx
        replace hQ := hQ.ext hx
        replace hE := hE.trans hx
        clear hx k0 k1 k2 x0 x1 x2 x3 i0 i1
        have k0 := hB.c 0 _ rfl
        have k1 := hB.c 1 _ rfl
        have k2 := hB.c 2 _ rfl
        have x0 := hX.c 0 _ rfl
        have x1 := hX.c 1 _ rfl
        have x2 := hX.c 2 _ rfl
        have x3 := hX.c 3 _ rfl
        have i0 := hI.c 0 _ rfl
        have i1 := hI.c 1 _ rfl
        have r0 := hR.c 0 _ rfl
        have r1 := hR.c 1 _ rfl
        have r2 := hR.c 2 _ rfl
        have q0 := hQ.c 0 _ rfl
        have q1 := hQ.c 1 _ rfl
        have q2 := hQ.c 2 _ rfl
        have q3 := hQ.c 3 _ rfl
        have rf := hR.free
        have qf := hQ.free
        go_wp2_with fail
        refine bodyPost_ret (res_stamp _ rb qb _ _ _ _ _ _ _ (.int .i64 60) _ (by rfl) (by rfl) (by rfl) ((hR.set3 (.int .i64 0) (.slice none 0 0) (.slice none 0 0)).other4 (by omega) _ _ _ _) ((hQ.other3 (by omega) _ _ _).set4 (.int .i64 0) (.int .i64 0) (.slice none 0 0) (.slice none 0 0))) rfl ?_
        unfold StP
        exact ⟨B, hBr, .inl ⟨by rw [HST.out]; decide, by rw [HST.out], (hE.set3 hwr _ _ _).set4 hwq _ _ _ _⟩⟩
      | false =>
        obtain ⟨B, hBr, hBT⟩ : ∃ B : Bool, (rn = 0 → B = false) ∧ B = false := ⟨false, HBR.out, rfl⟩
        have HSTA : Hid (stE ⟨last, st, op⟩ ⟨id, 0, xr, xw⟩ hi B = if on = 2000 ∨ 4000 < Z + wn then 2 else if 3000000000000000 < max (last + 1) hi then 3 else 0) := Lib.hid (by rw [HSTD.out, hBT, if_pos (by simp), if_neg (by simp)])
        clear hBT HSTD
        have l1 := hB.lt
        have l2 := hX.lt
        have hg := @grow_cell
        by_cases hon : on = 2000
        · have HST : Hid (stE ⟨last, st, op⟩ ⟨id, 0, xr, xw⟩ hi B = 2) := Lib.hid (by rw [HSTA.out, if_pos (.inl hon)])
          have ho1 : ((on : Int) == 2000) = true := by simp; omega
          have ho2 : (on : Int) = 2000 := by omega
          go_upto_region 7 with fail
          refine region_ext (by kernel_rfl) (by kernel_rfl) ?_
          repeat (go_big_quiet_step (fail))
          refine wpQuiet_nil ?_
          intro V7 hx
          replace hB := hB.ext hx
          replace hX := hX.ext hx
          replace hI := hI.ext hx
          replace hR := hR.ext hx
          replace hQ := hQ.ext hx
          replace hE := hE.trans hx
          clear hx k0 k1 k2 x0 x1 x2 x3 i0 i1
          have k0 := hB.c 0 _ rfl
          have k1 := hB.c 1 _ rfl
          have k2 := hB.c 2 _ rfl
          have x0 := hX.c 0 _ rfl
          have x1 := hX.c 1 _ rfl
          have x2 := hX.c 2 _ rfl
          have x3 := hX.c 3 _ rfl
          have i0 := hI.c 0 _ rfl
          have i1 := hI.c 1 _ rfl
          go_wp2_with (go_at_call 26; refine (HFA.out 2 _).mono ?_; rintro e V9 ⟨rfl, hx⟩; refine hold ?_)
          refine held ?_
          replace hB := hB.ext hx
          replace hX := hX.ext hx
          replace hI := hI.ext hx
          replace hR := hR.ext hx
          replace hQ := hQ.ext hx
          replace hE := hE.trans hx
          clear hx k0 k1 k2 x0 x1 x2 x3 i0 i1
          have k0 := hB.c 0 _ rfl
          have k1 := hB.c 1 _ rfl
          have k2 := hB.c 2 _ rfl
          have x0 := hX.c 0 _ rfl
          have x1 := hX.c 1 _ rfl
          have x2 := hX.c 2 _ rfl
          have x3 := hX.c 3 _ rfl
          have i0 := hI.c 0 _ rfl
          have i1 := hI.c 1 _ rfl
          have r0 := hR.c 0 _ rfl
          have r1 := hR.c 1 _ rfl
          have r2 := hR.c 2 _ rfl
          have q0 := hQ.c 0 _ rfl
          have q1 := hQ.c 1 _ rfl
          have q2 := hQ.c 2 _ rfl
          have q3 := hQ.c 3 _ rfl
          have rf := hR.free
          have qf := hQ.free
          go_wp2_with fail
          refine bodyPost_ret (res_stamp _ rb qb _ _ _ _ _ _ _ (.int .i64 2) _ (by rfl) (by rfl) (by rfl) ((hR.set3 (.int .i64 0) (.slice none 0 0) (.slice none 0 0)).other4 (by omega) _ _ _ _) ((hQ.other3 (by omega) _ _ _).set4 (.int .i64 0) (.int .i64 0) (.slice none 0 0) (.slice none 0 0))) rfl ?_
          unfold StP
          exact ⟨B, hBr, .inl ⟨by rw [HST.out]; decide, by rw [HST.out], (hE.set3 hwr _ _ _).set4 hwq _ _ _ _⟩⟩
        · have ho1 : ((on : Int) == 2000) = false := by simp; omega
          have ho2 : ¬ ((on : Int) = 2000) := by omega
          by_cases hzw : 4000 < Z + wn
          · have HST : Hid (stE ⟨last, st, op⟩ ⟨id, 0, xr, xw⟩ hi B = 2) := Lib.hid (by rw [HSTA.out, if_pos (.inr hzw)])
            have hz1 : (4000 : Int) < (Z : Int) + (wn : Int) := by omega
            have hz2 : decide ((4000 : Int) < (Z : Int) + (wn : Int)) = true := decide_eq_true hz1
            go_upto_region 7 with fail
            refine region_ext (by kernel_rfl) (by kernel_rfl) ?_
            repeat (go_big_quiet_step ((go_at_call 31; exact Calls.regrown_of (HSI.out _ (hE.trans (ext_grow _ _ _))))))
            refine wpQuiet_nil ?_
            intro V7 hx
            replace hB := hB.ext hx
            replace hX := hX.ext hx
            replace hI := hI.ext hx
            replace hR := hR.ext hx
            replace hQ := hQ.ext hx
            replace hE := hE.trans hx
            clear hx k0 k1 k2 x0 x1 x2 x3 i0 i1
            have k0 := hB.c 0 _ rfl
            have k1 := hB.c 1 _ rfl
            have k2 := hB.c 2 _ rfl
            have x0 := hX.c 0 _ rfl
            have x1 := hX.c 1 _ rfl
            have x2 := hX.c 2 _ rfl
            have x3 := hX.c 3 _ rfl
            have i0 := hI.c 0 _ rfl
            have i1 := hI.c 1 _ rfl
            go_wp2_with (go_at_call 26; refine (HFA.out 2 _).mono ?_; rintro e V9 ⟨rfl, hx⟩; refine hold ?_)
            refine held ?_
            replace hB := hB.ext hx
            replace hX := hX.ext hx
            replace hI := hI.ext hx
            replace hR := hR.ext hx
            replace hQ := hQ.ext hx
            replace hE := hE.trans hx
            clear hx k0 k1 k2 x0 x1 x2 x3 i0 i1
            have k0 := hB.c 0 _ rfl
            have k1 := hB.c 1 _ rfl
            have k2 := hB.c 2 _ rfl
            have x0 := hX.c 0 _ rfl
            have x1 := hX.c 1 _ rfl
            have x2 := hX.c 2 _ rfl
            have x3 := hX.c 3 _ rfl
            have i0 := hI.c 0 _ rfl
            have i1 := hI.c 1 _ rfl
            have r0 := hR.c 0 _ rfl
            have r1 := hR.c 1 _ rfl
            have r2 := hR.c 2 _ rfl
            have q0 := hQ.c 0 _ rfl
            have q1 := hQ.c 1 _ rfl
            have q2 := hQ.c 2 _ rfl
            have q3 := hQ.c 3 _ rfl
            have rf := hR.free
            have qf := hQ.free
            go_wp2_with fail
            refine bodyPost_ret (res_stamp _ rb qb _ _ _ _ _ _ _ (.int .i64 2) _ (by rfl) (by rfl) (by rfl) ((hR.set3 (.int .i64 0) (.slice none 0 0) (.slice none 0 0)).other4 (by omega) _ _ _ _) ((hQ.other3 (by omega) _ _ _).set4 (.int .i64 0) (.int .i64 0) (.slice none 0 0) (.slice none 0 0))) rfl ?_
            unfold StP
            exact ⟨B, hBr, .inl ⟨by rw [HST.out]; decide, by rw [HST.out], (hE.set3 hwr _ _ _).set4 hwq _ _ _ _⟩⟩
          · have HSTB : Hid (stE ⟨last, st, op⟩ ⟨id, 0, xr, xw⟩ hi B = if 3000000000000000 < max (last + 1) hi then 3 else 0) := Lib.hid (by rw [HSTA.out, if_neg (by rintro (h | h); exact hon h; exact hzw h)])
            have hz1 : ¬ ((4000 : Int) < (Z : Int) + (wn : Int)) := by omega
            have hz2 : decide ((4000 : Int) < (Z : Int) + (wn : Int)) = false := decide_eq_false hz1
            go_upto_region 7 with fail
            refine region_ext (by kernel_rfl) (by kernel_rfl) ?_
            repeat (go_big_quiet_step ((go_at_call 31; exact Calls.regrown_of (HSI.out _ (hE.trans (ext_grow _ _ _))))))
            refine wpQuiet_nil ?_
            intro V7 hx
            replace hB := hB.ext hx
            replace hX := hX.ext hx
            replace hI := hI.ext hx
            replace hR := hR.ext hx
            replace hQ := hQ.ext hx
            replace hE := hE.trans hx
            clear hx k0 k1 k2 x0 x1 x2 x3 i0 i1
            have k0 := hB.c 0 _ rfl
            have k1 := hB.c 1 _ rfl
            have k2 := hB.c 2 _ rfl
            have x0 := hX.c 0 _ rfl
            have x1 := hX.c 1 _ rfl
            have x2 := hX.c 2 _ rfl
            have x3 := hX.c 3 _ rfl
            have i0 := hI.c 0 _ rfl
            have i1 := hI.c 1 _ rfl
            clear hz1 hz2 ho1 ho2 hg l1 l2 HSTA HSI
            have HB9 : Hid (tb < V7.heap.size ∧ xb < V7.heap.size ∧ rb < V7.heap.size ∧ qb < V7.heap.size ∧ True) := Lib.hid ⟨hB.lt, hX.lt, hR.lt, hQ.lt, trivial⟩
            go_wp2_with (go_at_call 32; refine (HCP.out V7 hE).mono ?_; rintro e V8 ⟨a1, c1, a2, c2, rfl, p1, p2, hx⟩; refine hold ?_)
            refine held ?_
            have HS8 : Hid (V7.heap.size ≤ V8.heap.size) := Lib.hid hx.sz
            obtain ⟨B9, hB9⟩ : ∃ B9, V7.heap.size = B9 := ⟨_, rfl⟩
            rw [hB9] at HB9 p1 p2 HS8
            replace hB := hB.ext hx
            replace hX := hX.ext hx
            replace hI := hI.ext hx
            replace hR := hR.ext hx
            replace hQ := hQ.ext hx
            replace hE := hE.trans hx
            clear hx k0 k1 k2 x0 x1 x2 x3 i0 i1
            have k0 := hB.c 0 _ rfl
            have k1 := hB.c 1 _ rfl
            have k2 := hB.c 2 _ rfl
            have x0 := hX.c 0 _ rfl
            have x1 := hX.c 1 _ rfl
            have x2 := hX.c 2 _ rfl
            have x3 := hX.c 3 _ rfl
            have i0 := hI.c 0 _ rfl
            have i1 := hI.c 1 _ rfl
            clear hB9
            have hf := hX.free
            go_upto_region 10 with fail
            replace hX := hX.set4 (.int .i64 id) (.int .i64 0) (.slice a1 rn c1) (.slice a2 wn c2)
            replace hB := hB.other4 (p := xb) (by omega) (.int .i64 id) (.int .i64 0) (.slice a1 rn c1) (.slice a2 wn c2)
            replace hI := hI.other4 (p := xb) (by omega) (.int .i64 id) (.int .i64 0) (.slice a1 rn c1) (.slice a2 wn c2)
            replace hR := hR.other4 (p := xb) (by omega) (.int .i64 id) (.int .i64 0) (.slice a1 rn c1) (.slice a2 wn c2)
            replace hQ := hQ.other4 (p := xb) (by omega) (.int .i64 id) (.int .i64 0) (.slice a1 rn c1) (.slice a2 wn c2)
            replace hE := hE.set4 hwx (.int .i64 id) (.int .i64 0) (.slice a1 rn c1) (.slice a2 wn c2)
            replace p1 := p1.keepHi (keep_set4 HB9.out.2.1 (.int .i64 id) (.int .i64 0) (.slice a1 rn c1) (.slice a2 wn c2))
            replace p2 := p2.keepHi (keep_set4 HB9.out.2.1 (.int .i64 id) (.int .i64 0) (.slice a1 rn c1) (.slice a2 wn c2))
            have HS9 : Hid (B9 ≤ ((((V8.setCell ⟨xb, 0, none⟩ (.int .i64 id)).setCell ⟨xb, 1, none⟩ (.int .i64 0)).setCell ⟨xb, 2, none⟩ (.slice a1 rn c1)).setCell ⟨xb, 3, none⟩ (.slice a2 wn c2)).heap.size) := Lib.hid (by simp [World.setCell]; exact HS8.out)
            generalize (((V8.setCell ⟨xb, 0, none⟩ (.int .i64 id)).setCell ⟨xb, 1, none⟩ (.int .i64 0)).setCell ⟨xb, 2, none⟩ (.slice a1 rn c1)).setCell ⟨xb, 3, none⟩ (.slice a2 wn c2) = V9 at *
            clear hf k0 k1 k2 x0 x1 x2 x3 i0 i1
            have k0 := hB.c 0 _ rfl
            have k1 := hB.c 1 _ rfl
            have k2 := hB.c 2 _ rfl
            have x0 := hX.c 0 _ rfl
            have x1 := hX.c 1 _ rfl
            have x2 := hX.c 2 _ rfl
            have x3 := hX.c 3 _ rfl
            have i0 := hI.c 0 _ rfl
            have i1 := hI.c 1 _ rfl
            obtain ⟨M, hMif⟩ : ∃ M : Int, (if last + 1 < hi then hi else last + 1) = M := ⟨_, rfl⟩
            have HMQ : Hid (max (last + 1) hi = M) := Lib.hid (by rw [← hMif]; split <;> omega)
            have hf := hX.free
            go_upto_region 11 with fail
            replace hX : Bk (V9.setCell ⟨xb, 1, none⟩ (.int .i64 (M))) xb 26 #[.int .i64 id, .int .i64 (M), .slice a1 rn c1, .slice a2 wn c2] := hX.set 1 (.int .i64 (M))
            replace hB := hB.otherB (p := xb) (by omega) 1 (.int .i64 (M))
            replace hI := hI.otherB (p := xb) (by omega) 1 (.int .i64 (M))
            replace hR := hR.otherB (p := xb) (by omega) 1 (.int .i64 (M))
            replace hQ := hQ.otherB (p := xb) (by omega) 1 (.int .i64 (M))
            replace hE := hE.setCell (p := ⟨xb, 1, none⟩) hwx (.int .i64 (M))
            replace p1 := p1.setOff HB9.out.2.1 1 (.int .i64 (M))
            replace p2 := p2.setOff HB9.out.2.1 1 (.int .i64 (M))
            have hsz9 : B9 ≤ (V9.setCell ⟨xb, 1, none⟩ (.int .i64 (M))).heap.size := by simp [World.setCell]; exact HS9.out
            generalize V9.setCell ⟨xb, 1, none⟩ (.int .i64 (M)) = U at *
            clear hf k0 k1 k2 x0 x1 x2 x3 i0 i1 hMif
            have hX2 : Bk U xb 26 #[.int .i64 id, .int .i64 M, .slice a1 rn c1, .slice a2 wn c2] := hX
            have x1 := hX.c 1 _ rfl
            by_cases hMX : 3000000000000000 < M
            · have HST : Hid (stE ⟨last, st, op⟩ ⟨id, 0, xr, xw⟩ hi B = 3) := Lib.hid (by rw [HSTB.out, if_pos (by rw [HMQ.out]; exact hMX)])
              clear x1
              have k0 := hB.c 0 _ rfl
              have k1 := hB.c 1 _ rfl
              have k2 := hB.c 2 _ rfl
              have x0 := hX.c 0 _ rfl
              have x1 := hX.c 1 _ rfl
              have x2 := hX.c 2 _ rfl
              have x3 := hX.c 3 _ rfl
              have i0 := hI.c 0 _ rfl
              have i1 := hI.c 1 _ rfl
              go_wp2_with (go_at_call 26; refine (HFA.out 3 _).mono ?_; rintro e V9 ⟨rfl, hx⟩; refine hold ?_)
              refine held ?_
              replace hB := hB.ext hx
              replace hX := hX.ext hx
              replace hI := hI.ext hx
              replace hR := hR.ext hx
              replace hQ := hQ.ext hx
              replace hE := hE.trans hx
              clear hx k0 k1 k2 x0 x1 x2 x3 i0 i1
              have k0 := hB.c 0 _ rfl
              have k1 := hB.c 1 _ rfl
              have k2 := hB.c 2 _ rfl
              have x0 := hX.c 0 _ rfl
              have x1 := hX.c 1 _ rfl
              have x2 := hX.c 2 _ rfl
              have x3 := hX.c 3 _ rfl
              have i0 := hI.c 0 _ rfl
              have i1 := hI.c 1 _ rfl
              have r0 := hR.c 0 _ rfl
              have r1 := hR.c 1 _ rfl
              have r2 := hR.c 2 _ rfl
              have q0 := hQ.c 0 _ rfl
              have q1 := hQ.c 1 _ rfl
              have q2 := hQ.c 2 _ rfl
              have q3 := hQ.c 3 _ rfl
              have rf := hR.free
              have qf := hQ.free
              go_wp2_with fail
              refine bodyPost_ret (res_stamp _ rb qb _ _ _ _ _ _ _ (.int .i64 3) _ (by rfl) (by rfl) (by rfl) ((hR.set3 (.int .i64 0) (.slice none 0 0) (.slice none 0 0)).other4 (by omega) _ _ _ _) ((hQ.other3 (by omega) _ _ _).set4 (.int .i64 0) (.int .i64 0) (.slice none 0 0) (.slice none 0 0))) rfl ?_
              unfold StP
              exact ⟨B, hBr, .inl ⟨by rw [HST.out]; decide, by rw [HST.out], (hE.set3 hwr _ _ _).set4 hwq _ _ _ _⟩⟩
            · have HST : Hid (stE ⟨last, st, op⟩ ⟨id, 0, xr, xw⟩ hi B = 0) := Lib.hid (by rw [HSTB.out, if_neg (by rw [HMQ.out]; exact hMX)])
              have HMM : Hid (¬ (3000000000000000 < M)) := Lib.hid hMX
              have hMd : decide ((3000000000000000 : Int) < M) = false := decide_eq_false hMX
              go_upto_region 13 with fail
              clear x1 hMX hMd hX
              have HSL : Hid (stampL ⟨last, st, op⟩ ⟨id, 0, xr, xw⟩ hi = ⟨M, st, op ++ [(⟨id, M, xr, xw⟩ : Tx)]⟩) := Lib.hid (by simp only [stampL, stampT, HMQ.out])
              have HOKT : Hid ((Lit.int .i64 id).wf = true ∧ (Lit.int .i64 M).wf = true) := Lib.hid ⟨HIDW.out (by simp), by have h1 := HMM.out; have h2 := HMQ.out; simp [Lit.wf, IntKind.min, IntKind.max, IntKind.bits, IntKind.signed]; omega⟩
              have HKX : Hid ((∀ x ∈ xr, Cel.ok x) ∧ (∀ x ∈ xw, Cel.ok x) ∧ rn ≤ 1000000 ∧ wn ≤ 1000000) := Lib.hid ⟨HOKW.out.1, HOKW.out.2, hrn, hwn⟩
              have HR8 : Hid (rn ≤ 1000000 ∧ wn ≤ 1000000) := Lib.hid ⟨hrn, hwn⟩
              have HON : Hid (on ≤ 2000) := Lib.hid hon4
              have HLT : Hid (StL w U.heap.size B9 tb xb rb qb a1 a2) := Lib.hid ⟨HB9.out.1, HB9.out.2.1, HB9.out.2.2.1, HB9.out.2.2.2.1, hsz9, hwr, hwq, by omega, by omega, by omega, by omega, by omega, own_lt p1, own_lt p2⟩
              have HWB : Hid (w.heap.size ≤ B9 ∧ w.heap.size ≤ U.heap.size) := Lib.hid ⟨by have := HB9.out.2.2.1; omega, hE.sz⟩
              have HII : StI w U.heap.size B9 tb xb rb qb last sa sn sc oa on oc id M a1 rn c1 a2 wn c2 xr xw st (op ++ [(⟨id, M, xr, xw⟩ : Tx)]) (fun _ => false) { U with drawn := U.drawn + 1 } := ⟨hE.drew, Nat.le_refl _, hB.ext (Ext.refl U).drew, hX2.ext (Ext.refl U).drew, fun _ => hR.ext (Ext.refl U).drew, fun _ => hQ.ext (Ext.refl U).drew, p1.ext (Ext.refl U).drew, p2.ext (Ext.refl U).drew, (fun h => by cases h), (fun h => by cases h)⟩
              clear hB hX2 hI hR hQ hE p1 p2 hsz9
              refine region_relyG (StI w U.heap.size B9 tb xb rb qb last sa sn sc oa on oc id M a1 rn c1 a2 wn c2 xr xw st (op ++ [(⟨id, M, xr, xw⟩ : Tx)])) [some 81, some 82, some 83, some 84, some 85, some 86, some 87, some 88, some 89, some 90, some 91, some 92, some 93, some 94, none, none, some 8] [[], [0], [], [2], [2, 3], [], [5], [2, 3, 4, 5, 6], [], [2, 3, 4, 5, 6, 7, 8], [2, 3, 4, 5, 6, 7, 8, 9], [2, 3, 4, 5, 6, 7, 8, 9, 10], [0, 1, 2, 3, 4, 5, 6, 7, 8, 9, 10, 11], [], [0, 1, 2, 3, 4, 5, 6, 7, 8, 9, 10, 11, 12], [0, 1, 2, 3, 4, 5, 6, 7, 8, 9, 10, 11, 12, 13, 14], [0, 1, 2, 3, 4, 5, 6, 7, 8, 9, 10, 11, 12, 13, 14, 15]] [[], [0], [], [2], [3], [], [5], [6, 4], [], [8, 7], [9], [7, 10], [1, 11], [], [12], [13], []] [none, none, none, none, none, none, none, some 4, none, some 7, some 7, some 4, none, none, none, none, none] [false, false, false, false, false, false, false, false, false, false, false, false, false, false, false, false, false] [[], [], [], [], [], [], [], [], [], [], [], [4, 7, 9, 10], [], [], [4, 7, 9, 10, 11, 12], [4, 7, 9, 10, 11, 12], []] [16] [.one ((.pointer (some ⟨xb, 1, none⟩))), .one ((.int .i64 M)), .one ((.pointer (some ⟨tb, 1, none⟩))), .one ((.slice sa sn sc)), RelRw 47 U.heap.size sn st, .one ((.pointer (some ⟨tb, 2, none⟩))), .one ((.slice oa on oc)), RelR7 U.heap.size sn st on op, .one ((.agg #[.int .i64 id, .int .i64 M, .slice a1 rn c1, .slice a2 wn c2])), RelR9 U.heap.size on (⟨id, M, xr, xw⟩ : Tx), RelR10 U.heap.size on (⟨id, M, xr, xw⟩ : Tx), RelR11 U.heap.size sn st on (op ++ [(⟨id, M, xr, xw⟩ : Tx)]), RelR12 U.heap.size M sn st on (op ++ [(⟨id, M, xr, xw⟩ : Tx)]), .one ((.agg #[.int .i64 id, .int .i64 M, .slice a1 rn c1, .slice a2 wn c2])), .any, .any, .one ((.int .i64 0))] (by kernel_rfl) (by kernel_rfl) (by kernel_rfl) rfl HII ?_ ?_
              · refine stepsG_cons ?_ ?_
                · intro listed vs W' hl hI hd hs hn hu hz ho9
                  refine hold ?_
                  obtain ⟨x0, x1, x2, x3, x4, x5, x6, x7, x8, x9, x10, x11, x12, x13, x14, x15, x16, rfl⟩ := lenlit17 hl; clear hl
                  refine held ?_
                  simp only [putAll, Act.put, List.setIfInBounds_toArray, List.set_cons_succ, List.set_cons_zero]
                  go_wp2_with fail
                  exact relyG_done _ rfl rfl (Ext.refl _) (hI.other (by decide) (by decide) (Ext.refl _))
                refine stepsG_cons ?_ ?_
                · intro listed vs W' hl hI hd hs hn hu hz ho9
                  refine hold ?_
                  obtain ⟨x0, x1, x2, x3, x4, x5, x6, x7, x8, x9, x10, x11, x12, x13, x14, x15, x16, rfl⟩ := lenlit17 hl; clear hl
                  simp only [factsL, atL, refV, List.getElem?_cons_succ, List.getElem?_cons_zero, List.getD_cons_succ, List.getD_cons_zero, RelL.one, RelL.any, RelL.blk, RelL.law, RelRow, RelR7, RelR9, RelR10, RelR11, RelR12] at hd
                  obtain ⟨rfl, -⟩ := hd
                  refine held ?_
                  simp only [putAll, Act.put, List.setIfInBounds_toArray, List.set_cons_succ, List.set_cons_zero]
                  have y0 := hI.x.c 0 _ rfl
                  have y1 := hI.x.c 1 _ rfl
                  have y2 := hI.x.c 2 _ rfl
                  have y3 := hI.x.c 3 _ rfl
                  go_wp2_with fail
                  exact relyG_done _ rfl rfl (Ext.refl _) (hI.other (by decide) (by decide) (Ext.refl _))
                refine stepsG_cons ?_ ?_
                · intro listed vs W' hl hI hd hs hn hu hz ho9
                  refine hold ?_
                  obtain ⟨x0, x1, x2, x3, x4, x5, x6, x7, x8, x9, x10, x11, x12, x13, x14, x15, x16, rfl⟩ := lenlit17 hl; clear hl
                  refine held ?_
                  simp only [putAll, Act.put, List.setIfInBounds_toArray, List.set_cons_succ, List.set_cons_zero]
                  go_wp2_with fail
                  exact relyG_done _ rfl rfl (Ext.refl _) (hI.other (by decide) (by decide) (Ext.refl _))
                refine stepsG_cons ?_ ?_
                · intro listed vs W' hl hI hd hs hn hu hz ho9
                  refine hold ?_
                  obtain ⟨x0, x1, x2, x3, x4, x5, x6, x7, x8, x9, x10, x11, x12, x13, x14, x15, x16, rfl⟩ := lenlit17 hl; clear hl
                  simp only [factsL, atL, refV, List.getElem?_cons_succ, List.getElem?_cons_zero, List.getD_cons_succ, List.getD_cons_zero, RelL.one, RelL.any, RelL.blk, RelL.law, RelRow, RelR7, RelR9, RelR10, RelR11, RelR12] at hd
                  obtain ⟨rfl, -⟩ := hd
                  refine held ?_
                  simp only [putAll, Act.put, List.setIfInBounds_toArray, List.set_cons_succ, List.set_cons_zero]
                  have t0 := hI.t.c 0 _ rfl
                  have t1 := hI.t.c 1 _ rfl
                  have t2 := hI.t.c 2 _ rfl
                  go_wp2_with fail
                  exact relyG_done _ rfl rfl (Ext.refl _) (hI.other (by decide) (by decide) (Ext.refl _))
                refine stepsG_cons ?_ ?_
                · intro listed vs W' hl hI hd hs hn hu hz ho9
                  refine hold ?_
                  obtain ⟨x0, x1, x2, x3, x4, x5, x6, x7, x8, x9, x10, x11, x12, x13, x14, x15, x16, rfl⟩ := lenlit17 hl; clear hl
                  simp only [factsL, atL, refV, List.getElem?_cons_succ, List.getElem?_cons_zero, List.getD_cons_succ, List.getD_cons_zero, RelL.one, RelL.any, RelL.blk, RelL.law, RelRow, RelR7, RelR9, RelR10, RelR11, RelR12] at hd
                  obtain ⟨rfl, -⟩ := hd
                  refine held ?_
                  simp only [putAll, Act.put, List.setIfInBounds_toArray, List.set_cons_succ, List.set_cons_zero]
                  go_wp2_with fail
                  refine (HCV0.out W' hI.e).mono ?_
                  rintro e w' ⟨a', c', rfl, ho, hx⟩
                  go_wp2_with fail
                  exact relyG_done _ rfl ⟨a', c', rfl, ho.monoB hI.sz⟩ hx (hI.other (by decide) (by decide) hx)
                refine stepsG_cons ?_ ?_
                · intro listed vs W' hl hI hd hs hn hu hz ho9
                  refine hold ?_
                  obtain ⟨x0, x1, x2, x3, x4, x5, x6, x7, x8, x9, x10, x11, x12, x13, x14, x15, x16, rfl⟩ := lenlit17 hl; clear hl
                  refine held ?_
                  simp only [putAll, Act.put, List.setIfInBounds_toArray, List.set_cons_succ, List.set_cons_zero]
                  go_wp2_with fail
                  exact relyG_done _ rfl rfl (Ext.refl _) (hI.other (by decide) (by decide) (Ext.refl _))
                refine stepsG_cons ?_ ?_
                · intro listed vs W' hl hI hd hs hn hu hz ho9
                  refine hold ?_
                  obtain ⟨x0, x1, x2, x3, x4, x5, x6, x7, x8, x9, x10, x11, x12, x13, x14, x15, x16, rfl⟩ := lenlit17 hl; clear hl
                  simp only [factsL, atL, refV, List.getElem?_cons_succ, List.getElem?_cons_zero, List.getD_cons_succ, List.getD_cons_zero, RelL.one, RelL.any, RelL.blk, RelL.law, RelRow, RelR7, RelR9, RelR10, RelR11, RelR12] at hd
                  obtain ⟨rfl, -⟩ := hd
                  refine held ?_
                  simp only [putAll, Act.put, List.setIfInBounds_toArray, List.set_cons_succ, List.set_cons_zero]
                  have t0 := hI.t.c 0 _ rfl
                  have t1 := hI.t.c 1 _ rfl
                  have t2 := hI.t.c 2 _ rfl
                  go_wp2_with fail
                  exact relyG_done _ rfl rfl (Ext.refl _) (hI.other (by decide) (by decide) (Ext.refl _))
                refine stepsG_cons ?_ ?_
                · intro listed vs W' hl hI hd hs hn hu hz ho9
                  refine hold ?_
                  obtain ⟨x0, x1, x2, x3, x4, x5, x6, x7, x8, x9, x10, x11, x12, x13, x14, x15, x16, rfl⟩ := lenlit17 hl; clear hl
                  simp only [factsL, atL, refV, List.getElem?_cons_succ, List.getElem?_cons_zero, List.getD_cons_succ, List.getD_cons_zero, RelL.one, RelL.any, RelL.blk, RelL.law, RelRow, RelR7, RelR9, RelR10, RelR11, RelR12] at hd
                  obtain ⟨rfl, ⟨a4, c4, rfl, ho4⟩, -⟩ := hd
                  refine held ?_
                  simp only [putAll, Act.put, List.setIfInBounds_toArray, List.set_cons_succ, List.set_cons_zero]
                  go_wp2_with fail
                  refine (HCD0.out W' hI.e).mono ?_
                  rintro e w' ⟨a', c', rfl, ho, hx⟩
                  go_wp2_with fail
                  exact relyG_done _ rfl ⟨a4, c4, a', c', rfl, rfl, ho4.ext hx, ho.mono hI.sz, ne_new ho4 ho⟩ hx (hI.other (by decide) (by decide) hx)
                refine stepsG_cons ?_ ?_
                · intro listed vs W' hl hI hd hs hn hu hz ho9
                  refine hold ?_
                  obtain ⟨x0, x1, x2, x3, x4, x5, x6, x7, x8, x9, x10, x11, x12, x13, x14, x15, x16, rfl⟩ := lenlit17 hl; clear hl
                  refine held ?_
                  simp only [putAll, Act.put, List.setIfInBounds_toArray, List.set_cons_succ, List.set_cons_zero]
                  have y0 := hI.x.c 0 _ rfl
                  have y1 := hI.x.c 1 _ rfl
                  have y2 := hI.x.c 2 _ rfl
                  have y3 := hI.x.c 3 _ rfl
                  go_wp2_with fail
                  exact relyG_done _ rfl rfl (Ext.refl _) (hI.other (by decide) (by decide) (Ext.refl _))
                refine stepsG_cons ?_ ?_
                · intro listed vs W' hl hI hd hs hn hu hz ho9
                  refine hold ?_
                  obtain ⟨x0, x1, x2, x3, x4, x5, x6, x7, x8, x9, x10, x11, x12, x13, x14, x15, x16, rfl⟩ := lenlit17 hl; clear hl
                  simp only [factsL, atL, refV, List.getElem?_cons_succ, List.getElem?_cons_zero, List.getD_cons_succ, List.getD_cons_zero, RelL.one, RelL.any, RelL.blk, RelL.law, RelRow, RelR7, RelR9, RelR10, RelR11, RelR12] at hd
                  obtain ⟨rfl, ⟨a4, c4, a7, c7, rfl, rfl, hv7, ho7, hne7⟩, -⟩ := hd
                  refine held ?_
                  simp only [putAll, Act.put, List.setIfInBounds_toArray, List.set_cons_succ, List.set_cons_zero]
                  go_wp2_with fail
                  have hcp := copied_any ⟨id, M, a1, rn, c1, a2, wn, c2⟩ ⟨id, M, xr, xw⟩ W' (hI.txl HKX.out) HR8.out.1 HR8.out.2
                  unfold valT at hcp
                  refine hcp.mono ?_
                  rintro e w' ⟨a1', c1', a2', c2', rfl, p1, p2, hx⟩
                  go_wp2_with fail
                  exact relyG_done _ rfl ⟨a7, c7, _, rfl, rfl, copied_o (hI.txl HKX.out) ⟨HOKT.out.1, HOKT.out.2⟩ HR8.out.1 HR8.out.2 p1 p2 (row_lt ho7), hi_new p1 p2 hI.sz⟩ hx (hI.other (by decide) (by decide) hx)
                refine stepsG_cons ?_ ?_
                · intro listed vs W' hl hI hd hs hn hu hz ho9
                  refine hold ?_
                  obtain ⟨x0, x1, x2, x3, x4, x5, x6, x7, x8, x9, x10, x11, x12, x13, x14, x15, x16, rfl⟩ := lenlit17 hl; clear hl
                  simp only [factsL, atL, refV, List.getElem?_cons_succ, List.getElem?_cons_zero, List.getD_cons_succ, List.getD_cons_zero, RelL.one, RelL.any, RelL.blk, RelL.law, RelRow, RelR7, RelR9, RelR10, RelR11, RelR12] at hd
                  obtain ⟨⟨a7, c7, r9, rfl, rfl, ht9, hh9⟩, -⟩ := hd
                  refine held ?_
                  simp only [putAll, Act.put, List.setIfInBounds_toArray, List.set_cons_succ, List.set_cons_zero]
                  unfold valT
                  go_wp2_with fail
                  exact relyG_done _ rfl ⟨a7, c7, r9, _, rfl, rfl, ht9.ext ((Ext.refl _).alloc _), hh9, World.alloc_heap_new _ _⟩ ((Ext.refl _).alloc _) (hI.other (by decide) (by decide) ((Ext.refl _).alloc _))
                refine stepsG_cons ?_ ?_
                · intro listed vs W' hl hI hd hs hn hu hz ho9
                  refine hold ?_
                  obtain ⟨x0, x1, x2, x3, x4, x5, x6, x7, x8, x9, x10, x11, x12, x13, x14, x15, x16, rfl⟩ := lenlit17 hl; clear hl
                  simp only [factsL, atL, refV, List.getElem?_cons_succ, List.getElem?_cons_zero, List.getD_cons_succ, List.getD_cons_zero, RelL.one, RelL.any, RelL.blk, RelL.law, RelRow, RelR7, RelR9, RelR10, RelR11, RelR12] at hd
                  obtain ⟨⟨a4, c4, a7, c7, rfl, rfl, hv7, ho7, hne7⟩, ⟨a7x, c7x, r9, b9, e7, rfl, ht9, hh9, hb9⟩, -⟩ := hd
                  refine held ?_
                  simp only [putAll, Act.put, List.setIfInBounds_toArray, List.set_cons_succ, List.set_cons_zero]
                  have hrg := rangeT hb9
                  cases e7
                  go_wp2_with (at_builtin; refine appDb el_tx rfl _ _ rfl W' U.heap.size _ _ _ _ rfl ho7 b9 1 r9 ⟨id, M, xr, xw⟩ rfl hrg ht9 hh9 hI.sz (by have := HON.out; unfold maxLen; omega) (by have := HON.out; omega) ?_; intro g3 c3 w4 ho3 hB3 hG3; refine hold ?_)
                  refine held ?_
                  go_wp2_with fail
                  exact relyG_store _ rfl ⟨a4, c4, _, c3, rfl, rfl, keep_app hv7 ho7 hG3 hne7, ho3⟩ hB3.size ⟨(fun _ _ _ h => h), (fun _ _ _ h => h), (fun _ _ _ h => h), (fun _ _ _ h => h), (fun h => by simp at h), (fun _ _ _ h => h), (fun _ _ _ h => h), (fun h => by simp at h), (fun _ _ _ h => h), (fun h => by simp at h), (fun h => by simp at h), (fun _ _ h _ => absurd rfl h), (fun _ hl _ _ => absurd (by decide) (hu 12 hl)), (fun _ _ _ h => h), (fun _ _ _ h => h), (fun _ _ _ h => h), (fun _ _ _ h => h), trivial⟩ (hI.app HLT.out (by decide) (by decide) hB3 (notL hu 14 (by decide)) (notL hu 15 (by decide)))
                refine stepsG_cons ?_ ?_
                · intro listed vs W' hl hI hd hs hn hu hz ho9
                  refine hold ?_
                  obtain ⟨x0, x1, x2, x3, x4, x5, x6, x7, x8, x9, x10, x11, x12, x13, x14, x15, x16, rfl⟩ := lenlit17 hl; clear hl
                  simp only [factsL, atL, refV, List.getElem?_cons_succ, List.getElem?_cons_zero, List.getD_cons_succ, List.getD_cons_zero, RelL.one, RelL.any, RelL.blk, RelL.law, RelRow, RelR7, RelR9, RelR10, RelR11, RelR12] at hd
                  obtain ⟨rfl, ⟨a4, c4, a11, c11, rfl, rfl, hv11, ho11⟩, -⟩ := hd
                  refine held ?_
                  simp only [putAll, Act.put, List.setIfInBounds_toArray, List.set_cons_succ, List.set_cons_zero]
                  go_wp2_with fail
                  exact relyG_done _ rfl ⟨a4, c4, a11, c11, rfl, hv11, ho11⟩ (Ext.refl _) (hI.other (by decide) (by decide) (Ext.refl _))
                refine stepsG_cons ?_ ?_
                · intro listed vs W' hl hI hd hs hn hu hz ho9
                  refine hold ?_
                  obtain ⟨x0, x1, x2, x3, x4, x5, x6, x7, x8, x9, x10, x11, x12, x13, x14, x15, x16, rfl⟩ := lenlit17 hl; clear hl
                  refine held ?_
                  simp only [putAll, Act.put, List.setIfInBounds_toArray, List.set_cons_succ, List.set_cons_zero]
                  have y0 := hI.x.c 0 _ rfl
                  have y1 := hI.x.c 1 _ rfl
                  have y2 := hI.x.c 2 _ rfl
                  have y3 := hI.x.c 3 _ rfl
                  go_wp2_with fail
                  exact relyG_done _ rfl rfl (Ext.refl _) (hI.other (by decide) (by decide) (Ext.refl _))
                refine stepsG_cons ?_ ?_
                · intro listed vs W' hl hI hd hs hn hu hz ho9
                  refine hold ?_
                  obtain ⟨x0, x1, x2, x3, x4, x5, x6, x7, x8, x9, x10, x11, x12, x13, x14, x15, x16, rfl⟩ := lenlit17 hl; clear hl
                  simp only [factsL, atL, refV, List.getElem?_cons_succ, List.getElem?_cons_zero, List.getD_cons_succ, List.getD_cons_zero, RelL.one, RelL.any, RelL.blk, RelL.law, RelRow, RelR7, RelR9, RelR10, RelR11, RelR12] at hd
                  obtain ⟨⟨a4, c4, a12, c12, rfl, hv12, ho12⟩, -⟩ := hd
                  refine held ?_
                  simp only [putAll, Act.put, List.setIfInBounds_toArray, List.set_cons_succ, List.set_cons_zero]
                  have r0 := (hI.r hz).c 0 _ rfl
                  have r1 := (hI.r hz).c 1 _ rfl
                  have r2 := (hI.r hz).c 2 _ rfl
                  have hf := (hI.r hz).free
                  go_wp2_with fail
                  exact relyG_store undef rfl trivial (by simp) ⟨(fun _ _ _ => fun h => h), (fun _ _ _ => fun h => h), (fun _ _ _ => fun h => h), (fun _ _ _ => fun h => h), (fun h => by simp at h), (fun _ _ _ => fun h => h), (fun _ _ _ => fun h => h), (fun h => by simp at h), (fun _ _ _ => fun h => h), (fun h => by simp at h), (fun h => by simp at h), (fun h => by simp at h), (fun h => by simp at h), (fun _ _ _ => fun h => h), (fun _ _ _ => fun h => h), (fun _ _ _ => fun h => h), (fun _ _ _ => fun h => h), trivial⟩ (hI.st14 HLT.out a4 c4 a12 c12 hv12 ho12 hz (notL hu 15 (by decide)))
                refine stepsG_cons ?_ ?_
                · intro listed vs W' hl hI hd hs hn hu hz ho9
                  refine hold ?_
                  obtain ⟨x0, x1, x2, x3, x4, x5, x6, x7, x8, x9, x10, x11, x12, x13, x14, x15, x16, rfl⟩ := lenlit17 hl; clear hl
                  simp only [factsL, atL, refV, List.getElem?_cons_succ, List.getElem?_cons_zero, List.getD_cons_succ, List.getD_cons_zero, RelL.one, RelL.any, RelL.blk, RelL.law, RelRow, RelR7, RelR9, RelR10, RelR11, RelR12] at hd
                  obtain ⟨rfl, -⟩ := hd
                  refine held ?_
                  simp only [putAll, Act.put, List.setIfInBounds_toArray, List.set_cons_succ, List.set_cons_zero]
                  have q0 := (hI.q hz).c 0 _ rfl
                  have q1 := (hI.q hz).c 1 _ rfl
                  have q2 := (hI.q hz).c 2 _ rfl
                  have q3 := (hI.q hz).c 3 _ rfl
                  have hf := (hI.q hz).free
                  go_wp2_with fail
                  exact relyG_store undef rfl trivial (by simp) ⟨(fun _ _ _ => fun h => h), (fun _ _ _ => fun h => h), (fun _ _ _ => fun h => h), (fun _ _ _ => fun h => h), (fun h => by simp at h), (fun _ _ _ => fun h => h), (fun _ _ _ => fun h => h), (fun h => by simp at h), (fun _ _ _ => fun h => h), (fun h => by simp at h), (fun h => by simp at h), (fun h => by simp at h), (fun h => by simp at h), (fun _ _ _ => fun h => h), (fun _ _ _ => fun h => h), (fun _ _ _ => fun h => h), (fun _ _ _ => fun h => h), trivial⟩ (hI.st15 HLT.out hz (hs 14 (by decide)))
                refine stepsG_cons ?_ ?_
                · intro listed vs W' hl hI hd hs hn hu hz ho9
                  refine hold ?_
                  obtain ⟨x0, x1, x2, x3, x4, x5, x6, x7, x8, x9, x10, x11, x12, x13, x14, x15, x16, rfl⟩ := lenlit17 hl; clear hl
                  refine held ?_
                  simp only [putAll, Act.put, List.setIfInBounds_toArray, List.set_cons_succ, List.set_cons_zero]
                  go_wp2_with fail
                  exact relyG_done _ rfl rfl (Ext.refl _) (hI.other (by decide) (by decide) (Ext.refl _))
                exact trivial
              · intro listed vs W' hl hall hI hd hn
                obtain ⟨x0, x1, x2, x3, x4, x5, x6, x7, x8, x9, x10, x11, x12, x13, x14, x15, x16, rfl⟩ := lenlit17 hl; clear hl
                simp only [List.length_cons, List.length_nil, factsL, atL, refV, List.getElem?_cons_succ, List.getElem?_cons_zero, List.getD_cons_succ, List.getD_cons_zero, RelL.one, RelL.any, RelL.blk, RelL.law, RelRow, RelR7, RelR9, RelR10, RelR11, RelR12] at hd
                obtain ⟨rfl, -⟩ := hd
                simp only [putAll, Act.put, List.setIfInBounds_toArray, List.set_cons_succ, List.set_cons_zero]
                obtain ⟨a4, c4, aD, cD, r1, r2, r3⟩ := hI.d (hall 14 (by decide))
                have q1 := hI.f (hall 15 (by decide))
                have hs9 := hI.s
                have hv9 := hI.v
                have hE := hI.e
                clear hall hn hI
                go_wp2_with fail
                refine bodyPost_ret (res_stamp _ rb qb _ _ _ _ _ _ _ (.int .i64 0) _ (by rfl) (by rfl) (by rfl) r1 q1) rfl ?_
                unfold StP
                refine ⟨B, hBr, .inr ⟨HST.out, ⟨M, a4, sn, c4, aD, on + 1, cD⟩, a1, c1, a2, c2, by rw [HMQ.out]; rfl, ?_, hs9.monoB HWB.out.1, hv9.monoB HWB.out.1, hE⟩⟩
                rw [HSL.out]
                exact ⟨rfl, r2.monoB HWB.out.2, r3.mono HWB.out.2⟩
    · have hts2 : (ts == 0) = false := by simp [hts]
      have hts3 : (ts != 0) = true := by simp [hts]
      have HTS := Lib.hid hts
      obtain ⟨B, hBr⟩ : ∃ B : Bool, (rn = 0 → B = false) := ⟨false, fun _ => rfl⟩
      have HST : Hid (stE ⟨last, st, op⟩ ⟨id, ts, xr, xw⟩ hi B = 1) := Lib.hid (by rw [HSTD.out, if_neg (fun e => HTS.out e.2)])
      go_wp2_with (go_at_call 26; refine (HFA.out 1 _).mono ?_; rintro e V9 ⟨rfl, hx⟩; refine hold ?_)
      refine held ?_
      replace hB := hB.ext hx
      replace hX := hX.ext hx
      replace hI := hI.ext hx
      replace hR := hR.ext hx
      replace hQ := hQ.ext hx
      replace hE := hE.trans hx
      clear hx k0 k1 k2 x0 x1 x2 x3 i0 i1
      have k0 := hB.c 0 _ rfl
      have k1 := hB.c 1 _ rfl
      have k2 := hB.c 2 _ rfl
      have x0 := hX.c 0 _ rfl
      have x1 := hX.c 1 _ rfl
      have x2 := hX.c 2 _ rfl
      have x3 := hX.c 3 _ rfl
      have i0 := hI.c 0 _ rfl
      have i1 := hI.c 1 _ rfl
      have r0 := hR.c 0 _ rfl
      have r1 := hR.c 1 _ rfl
      have r2 := hR.c 2 _ rfl
      have q0 := hQ.c 0 _ rfl
      have q1 := hQ.c 1 _ rfl
      have q2 := hQ.c 2 _ rfl
      have q3 := hQ.c 3 _ rfl
      have rf := hR.free
      have qf := hQ.free
      go_wp2_with fail
      refine bodyPost_ret (res_stamp _ rb qb _ _ _ _ _ _ _ (.int .i64 1) _ (by rfl) (by rfl) (by rfl) ((hR.set3 (.int .i64 0) (.slice none 0 0) (.slice none 0 0)).other4 (by omega) _ _ _ _) ((hQ.other3 (by omega) _ _ _).set4 (.int .i64 0) (.int .i64 0) (.slice none 0 0) (.slice none 0 0))) rfl ?_
      unfold StP
      exact ⟨B, hBr, .inl ⟨by rw [HST.out]; decide, by rw [HST.out], (hE.set3 hwr _ _ _).set4 hwq _ _ _ _⟩⟩
end Go.Proofs.Ytacicanjmleikaa
