
import Derived.Test.YtacicanjmleikaaGreatDoorGr15
import Derived.Maps.Own
/- A part of the proof. -/
namespace Go.Proofs.YtacicanjmleikaaGreatDoor
open Go.RowKit Go.Sort Go.Shelf
set_option linter.unusedSimpArgs false
set_option linter.unusedVariables false
set_option maxRecDepth 100000
structure RcR where
 h : Hd
 i : Nat
 e : En
 pa : Option Addr
 pn : Nat
 pc : Nat
def rc0 : RcR := ⟨⟨0, 0, 0, 0, 0⟩, 0, ⟨0, 0, 0⟩, none, 0, 0⟩
structure HpR where
 h : Hd
 ga : Option Addr
 gc : Nat
 rc : RcR
def HpR.enc (q : HpR) : List Value := [.int .i64 q.h.o, .int .i64 q.h.s, .int .u64 q.h.r, .int .i64 q.h.C, .int .i64 q.h.S, .slice q.ga 0 q.gc, .int .i64 q.rc.h.o, .int .i64 q.rc.h.s, .int .u64 q.rc.h.r, .int .i64 q.rc.h.C, .int .i64 q.rc.h.S, .int .i64 q.rc.i, .int .u64 q.rc.e.d, .int .i64 q.rc.e.lo, .int .i64 q.rc.e.hi, .slice q.rc.pa q.rc.pn q.rc.pc]
instance : Cel HpR where
 dflt := ⟨⟨0, 0, 0, 0, 0⟩, none, 0, rc0⟩
 sz := 16
 enc := HpR.enc
 ok := fun _ => True
 len := fun _ => rfl
 pos := by decide
 one := by intro x v hv; simp [HpR.enc] at hv; rcases hv with rfl | rfl | rfl | rfl | rfl | rfl | rfl | rfl | rfl | rfl | rfl | rfl | rfl | rfl | rfl | rfl <;> rfl
theorem sz_hp : Cel.sz HpR = 16 := rfl
def stR (r : RcR) (qs : List HpR) : Nat → RcR
 | 0 => r
 | k + 1 => (nthR qs k).rc
structure PrOk (w : World) (a : Option Addr) (n c : Nat) (ps : List Int) (r1 r2 : RcR) (ha : Option Addr) (hn hcap : Nat) (qs : List HpR) : Prop where
 first : ∃ path, RcOk w a n c ps r1.h r1.i r1.e r1.pa r1.pn r1.pc path
 last : ∃ path, RcOk w a n c ps r2.h r2.i r2.e r2.pa r2.pn r2.pc path
 row : Rw (α := HpR) w ha hn hcap qs
 few : hn ≤ 16
 hop : ∀ k, k < hn → (nthR qs k).h = (stR r1 qs k).h ∧ ∃ path, HopOk w a n c ps (nthR qs k).h (nthR qs k).ga (nthR qs k).gc (nthR qs k).rc.h (nthR qs k).rc.i (nthR qs k).rc.e (nthR qs k).rc.pa (nthR qs k).rc.pn (nthR qs k).rc.pc path
 fin : (stR r1 qs hn).h = r2.h
 idx : (stR r1 qs hn).i < r2.i
def prV (r1 r2 : RcR) (ha : Option Addr) (hn hcap : Nat) : Value := .agg #[.int .i64 r1.h.o, .int .i64 r1.h.s, .int .u64 r1.h.r, .int .i64 r1.h.C, .int .i64 r1.h.S, .int .i64 r1.i, .int .u64 r1.e.d, .int .i64 r1.e.lo, .int .i64 r1.e.hi, .slice r1.pa r1.pn r1.pc, .slice ha hn hcap, .slice none 0 0, .int .i64 r2.h.o, .int .i64 r2.h.s, .int .u64 r2.h.r, .int .i64 r2.h.C, .int .i64 r2.h.S, .int .i64 r2.i, .int .u64 r2.e.d, .int .i64 r2.e.lo, .int .i64 r2.e.hi, .slice r2.pa r2.pn r2.pc]
theorem cells_hp {W : World} {b o : Nat} {q : HpR} (h : W.rangeAt b o (Cel.enc q)) : W.cell? ⟨b, o, none⟩ = some (.int .i64 q.h.o) ∧ W.cell? ⟨b, o + 1, none⟩ = some (.int .i64 q.h.s) ∧ W.cell? ⟨b, o + 2, none⟩ = some (.int .u64 q.h.r) ∧ W.cell? ⟨b, o + 3, none⟩ = some (.int .i64 q.h.C) ∧ W.cell? ⟨b, o + 4, none⟩ = some (.int .i64 q.h.S) ∧ W.cell? ⟨b, o + 5, none⟩ = some (.slice q.ga 0 q.gc) ∧ W.cell? ⟨b, o + 6, none⟩ = some (.int .i64 q.rc.h.o) ∧ W.cell? ⟨b, o + 7, none⟩ = some (.int .i64 q.rc.h.s) ∧ W.cell? ⟨b, o + 8, none⟩ = some (.int .u64 q.rc.h.r) ∧ W.cell? ⟨b, o + 9, none⟩ = some (.int .i64 q.rc.h.C) ∧ W.cell? ⟨b, o + 10, none⟩ = some (.int .i64 q.rc.h.S) ∧ W.cell? ⟨b, o + 11, none⟩ = some (.int .i64 q.rc.i) ∧ W.cell? ⟨b, o + 12, none⟩ = some (.int .u64 q.rc.e.d) ∧ W.cell? ⟨b, o + 13, none⟩ = some (.int .i64 q.rc.e.lo) ∧ W.cell? ⟨b, o + 14, none⟩ = some (.int .i64 q.rc.e.hi) ∧ W.cell? ⟨b, o + 15, none⟩ = some (.slice q.rc.pa q.rc.pn q.rc.pc) :=
 ⟨by simpa using h 0 _ rfl, h 1 _ rfl, h 2 _ rfl, h 3 _ rfl, h 4 _ rfl, h 5 _ rfl, h 6 _ rfl, h 7 _ rfl, h 8 _ rfl, h 9 _ rfl, h 10 _ rfl, h 11 _ rfl, h 12 _ rfl, h 13 _ rfl, h 14 _ rfl, h 15 _ rfl⟩
def RHb (V : World) : RelL Ext := ⟨none, fun _ v W => ∃ b u0 u1 u2 u3 u4, v = .pointer (some ⟨b, 0, none⟩) ∧ V.heap.size ≤ b ∧ Bk W b 34 #[u0, u1, u2, u3, u4], fun _ v W W' ⟨b, u0, u1, u2, u3, u4, h1, h2, h3⟩ hE => ⟨b, u0, u1, u2, u3, u4, h1, h2, h3.ext hE⟩⟩
def RHs (j : Nat) (h : Hd) : RelL Ext := ⟨some j, fun u _ W => ∃ b, u = .pointer (some ⟨b, 0, none⟩) ∧ Bk W b 34 #[.int .i64 h.o, .int .i64 h.s, .int .u64 h.r, .int .i64 h.C, .int .i64 h.S], fun u _ W W' ⟨b, h1, h2⟩ hE => ⟨b, h1, h2.ext hE⟩⟩
theorem lenlit9 {vs : List Value} (h : vs.length = 9) : ∃ x0 x1 x2 x3 x4 x5 x6 x7 x8 : Value, vs = [x0, x1, x2, x3, x4, x5, x6, x7, x8] := by
 obtain ⟨x0, v0, rfl, h0⟩ := len_cons h
 obtain ⟨x1, v1, rfl, h1⟩ := len_cons h0
 obtain ⟨x2, v2, rfl, h2⟩ := len_cons h1
 obtain ⟨x3, v3, rfl, h3⟩ := len_cons h2
 obtain ⟨x4, v4, rfl, h4⟩ := len_cons h3
 obtain ⟨x5, v5, rfl, h5⟩ := len_cons h4
 obtain ⟨x6, v6, rfl, h6⟩ := len_cons h5
 obtain ⟨x7, v7, rfl, h7⟩ := len_cons h6
 obtain ⟨x8, v8, rfl, h8⟩ := len_cons h7
 obtain rfl := len_nil h8
 exact ⟨x0, x1, x2, x3, x4, x5, x6, x7, x8, rfl⟩
theorem keepHb {V W : World} {v : Value} (h : ∃ b u0 u1 u2 u3 u4, v = .pointer (some ⟨b, 0, none⟩) ∧ V.heap.size ≤ b ∧ Bk W b 34 #[u0, u1, u2, u3, u4]) (p : Nat) (v0 v1 v2 v3 v4 : Value) :
  ∃ b u0 u1 u2 u3 u4, v = .pointer (some ⟨b, 0, none⟩) ∧ V.heap.size ≤ b ∧ Bk (((((W.setCell ⟨p, 0, none⟩ v0).setCell ⟨p, 1, none⟩ v1).setCell ⟨p, 2, none⟩ v2).setCell ⟨p, 3, none⟩ v3).setCell ⟨p, 4, none⟩ v4) b 34 #[u0, u1, u2, u3, u4] := by
 obtain ⟨b, u0, u1, u2, u3, u4, h1, h2, h3⟩ := h
 by_cases e : p = b
 ·subst e
  exact ⟨_, _, _, _, _, _, h1, h2, h3.set5 v0 v1 v2 v3 v4⟩
 ·exact ⟨_, _, _, _, _, _, h1, h2, h3.other5 e v0 v1 v2 v3 v4⟩
theorem keepHs {W : World} {u : Value} {h : Hd} (H : ∃ b, u = .pointer (some ⟨b, 0, none⟩) ∧ Bk W b 34 #[.int .i64 h.o, .int .i64 h.s, .int .u64 h.r, .int .i64 h.C, .int .i64 h.S]) (p : Nat) (hne : u ≠ .pointer (some ⟨p, 0, none⟩)) (v0 v1 v2 v3 v4 : Value) :
  ∃ b, u = .pointer (some ⟨b, 0, none⟩) ∧ Bk (((((W.setCell ⟨p, 0, none⟩ v0).setCell ⟨p, 1, none⟩ v1).setCell ⟨p, 2, none⟩ v2).setCell ⟨p, 3, none⟩ v3).setCell ⟨p, 4, none⟩ v4) b 34 #[.int .i64 h.o, .int .i64 h.s, .int .u64 h.r, .int .i64 h.C, .int .i64 h.S] := by
 obtain ⟨b, h1, h2⟩ := H
 exact ⟨b, h1, h2.other5 (fun e => hne (by rw [h1, e])) v0 v1 v2 v3 v4⟩
theorem lt_alloc (W : World) (b : Obj) : W.heap.size < (W.alloc b).heap.size := by
 show _ < (Array.push _ _).size
 rw [Array.size_push]
 omega
set_option maxHeartbeats 8000000 in
theorem pcheck_yes {a : Option Addr} {n c : Nat} {ps : List Int} {r1 r2 : RcR} {ha : Option Addr} {hn hcap : Nat} {qs : List HpR} {w : World} (H : PrOk w a n c ps r1 r2 ha hn hcap qs) (ht : TB w) :
  Calls Tryz.prog 14 #[.slice a n c, prV r1 r2 ha hn hcap] w fun e9 w' => e9 = .returned (.tuple #[.bool true, .int .i64 0]) ∧ Ext w w' := by
 obtain ⟨path1, HR1⟩ := H.first
 obtain ⟨path2, HR2⟩ := H.last
 have bd := HR1.keys.bd
 have hmany := HR1.many
 have bh := H.row.bd
 have hfew := H.few
 have H1 := Lib.hid (fun (W : World) (hx : Ext w W) => oright38_yes (HR1.ext hx) (ht.ext hx))
 have H2 := Lib.hid (fun (W : World) (hx : Ext w W) => oright38_yes (HR2.ext hx) (ht.ext hx))
 have HCN := Lib.hid (fun (W : World) (hx : Ext w W) => ocont_no a n c ps W (HR1.keys.ext hx) HR1.pub (ht.ext hx))
 have HHP := Lib.hid (fun (k : Nat) (hk : k < hn) => H.hop k hk)
 have HCC := Lib.hid (fun (k : Nat) (hk : k < hn) (W : World) (hx : Ext w W) => (by
  obtain ⟨_, path, hok⟩ := H.hop k hk
  exact ccheck_yes (hok.ext hx) (ht.ext hx) : Calls Tryz.prog 42 #[.slice a n c, hdV (nthR qs k).h, hopV (nthR qs k).h (nthR qs k).ga (nthR qs k).gc (nthR qs k).rc.h (nthR qs k).rc.i (nthR qs k).rc.e (nthR qs k).rc.pa (nthR qs k).rc.pn (nthR qs k).rc.pc] W fun e9 w' => e9 = .returned (.tuple #[.bool true, .int .i64 0]) ∧ Ext W w'))
 have HROW := Lib.hid H.row
 have HFIN := Lib.hid H.fin
 have HIDX := Lib.hid H.idx
 have HOK2 := Lib.hid HR2.one.ok
 have HTB := Lib.hid ht
 unfold rcV at H1 H2
 clear H HR1 HR2 ht
 unfold prV
 have hP := Bk.new w 47 #[.int .i64 r1.h.o, .int .i64 r1.h.s, .int .u64 r1.h.r, .int .i64 r1.h.C, .int .i64 r1.h.S, .int .i64 r1.i, .int .u64 r1.e.d, .int .i64 r1.e.lo, .int .i64 r1.e.hi, .slice r1.pa r1.pn r1.pc, .slice ha hn hcap, .slice none 0 0, .int .i64 r2.h.o, .int .i64 r2.h.s, .int .u64 r2.h.r, .int .i64 r2.h.C, .int .i64 r2.h.S, .int .i64 r2.i, .int .u64 r2.e.d, .int .i64 r2.e.lo, .int .i64 r2.e.hi, .slice r2.pa r2.pn r2.pc]
 have hx : Ext w (w.alloc (.cells #[.int .i64 r1.h.o, .int .i64 r1.h.s, .int .u64 r1.h.r, .int .i64 r1.h.C, .int .i64 r1.h.S, .int .i64 r1.i, .int .u64 r1.e.d, .int .i64 r1.e.lo, .int .i64 r1.e.hi, .slice r1.pa r1.pn r1.pc, .slice ha hn hcap, .slice none 0 0, .int .i64 r2.h.o, .int .i64 r2.h.s, .int .u64 r2.h.r, .int .i64 r2.h.C, .int .i64 r2.h.S, .int .i64 r2.i, .int .u64 r2.e.d, .int .i64 r2.e.lo, .int .i64 r2.e.hi, .slice r2.pa r2.pn r2.pc] 47)) := (Ext.refl w).alloc _
 go_enter Tryz.func14, Tryz.ntmps14
 go_upto_region 1 with fail
 generalize w.alloc (.cells #[.int .i64 r1.h.o, .int .i64 r1.h.s, .int .u64 r1.h.r, .int .i64 r1.h.C, .int .i64 r1.h.S, .int .i64 r1.i, .int .u64 r1.e.d, .int .i64 r1.e.lo, .int .i64 r1.e.hi, .slice r1.pa r1.pn r1.pc, .slice ha hn hcap, .slice none 0 0, .int .i64 r2.h.o, .int .i64 r2.h.s, .int .u64 r2.h.r, .int .i64 r2.h.C, .int .i64 r2.h.S, .int .i64 r2.i, .int .u64 r2.e.d, .int .i64 r2.e.lo, .int .i64 r2.e.hi, .slice r2.pa r2.pn r2.pc] 47) = V at *
 obtain ⟨b3, hb3⟩ : ∃ b, w.heap.size = b := ⟨_, rfl⟩
 have HB3 := Lib.hid hb3
 rw [hb3] at hP ⊢
 clear hb3
 have g1 : ¬ ((16 : Int) < (hn : Int)) := by omega
 have g2 : decide ((16 : Int) < (hn : Int)) = false := decide_eq_false g1
 have g3 : ¬ (16 < hn) := by omega
 have p10 := hP.c 10 _ rfl
 have p11 := hP.c 11 _ rfl
 go_upto_region 3 with fail
 clear g1 g2 g3 p10 p11
 have p0 := hP.c 0 _ rfl
 have p1 := hP.c 1 _ rfl
 have p2 := hP.c 2 _ rfl
 have p3 := hP.c 3 _ rfl
 have p4 := hP.c 4 _ rfl
 have p5 := hP.c 5 _ rfl
 have p6 := hP.c 6 _ rfl
 have p7 := hP.c 7 _ rfl
 have p8 := hP.c 8 _ rfl
 have p9 := hP.c 9 _ rfl
 go_wp2_with (go_at_call 38; refine (H1.out _ hx).mono ?_; rintro e9 w1 ⟨rfl, hx1⟩; refine hold ?_)
 refine held ?_
 replace hx := hx.trans hx1
 replace hP := hP.ext hx1
 clear hx1 H1
 clear p0 p1 p2 p3 p4 p5 p6 p7 p8 p9
 have p12 := hP.c 12 _ rfl
 have p13 := hP.c 13 _ rfl
 have p14 := hP.c 14 _ rfl
 have p15 := hP.c 15 _ rfl
 have p16 := hP.c 16 _ rfl
 have p17 := hP.c 17 _ rfl
 have p18 := hP.c 18 _ rfl
 have p19 := hP.c 19 _ rfl
 have p20 := hP.c 20 _ rfl
 have p21 := hP.c 21 _ rfl
 go_wp2_with (go_at_call 38; refine (H2.out _ hx).mono ?_; rintro e9 w2 ⟨rfl, hx1⟩; refine hold ?_)
 refine held ?_
 replace hx := hx.trans hx1
 replace hP := hP.ext hx1
 clear hx1 H2
 clear p12 p13 p14 p15 p16 p17 p18 p19 p20 p21
 go_wp2_with (go_at_call 39; refine (HCN.out _ hx).mono ?_; rintro e9 w3 ⟨rfl, hx1⟩; refine hold ?_)
 refine held ?_
 replace hx := hx.trans hx1
 replace hP := hP.ext hx1
 clear hx1 HCN
 have g1 : ¬ ((16 : Int) < (n : Int)) := by omega
 have g2 : decide ((16 : Int) < (n : Int)) = false := decide_eq_false g1
 have g3 : ¬ (16 < n) := by omega
 go_upto_region 9 with fail
 clear g1 g2 g3
 have p0 := hP.c 0 _ rfl
 have p1 := hP.c 1 _ rfl
 have p2 := hP.c 2 _ rfl
 have p3 := hP.c 3 _ rfl
 have p4 := hP.c 4 _ rfl
 have p5 := hP.c 5 _ rfl
 have p6 := hP.c 6 _ rfl
 have p7 := hP.c 7 _ rfl
 have p8 := hP.c 8 _ rfl
 have p9 := hP.c 9 _ rfl
 have hA := Bk.new w3 44 #[.int .i64 r1.h.o, .int .i64 r1.h.s, .int .u64 r1.h.r, .int .i64 r1.h.C, .int .i64 r1.h.S, .int .i64 r1.i, .int .u64 r1.e.d, .int .i64 r1.e.lo, .int .i64 r1.e.hi, .slice r1.pa r1.pn r1.pc]
 have hx1 : Ext w3 (w3.alloc (.cells #[.int .i64 r1.h.o, .int .i64 r1.h.s, .int .u64 r1.h.r, .int .i64 r1.h.C, .int .i64 r1.h.S, .int .i64 r1.i, .int .u64 r1.e.d, .int .i64 r1.e.lo, .int .i64 r1.e.hi, .slice r1.pa r1.pn r1.pc] 44)) := (Ext.refl w3).alloc _
 go_upto_region 10 with fail
 replace hx := hx.trans hx1
 clear p0 p1 p2 p3 p4 p5 p6 p7 p8 p9
 have HPB : Hid (b3 < w3.heap.size ∧ w.heap.size ≤ w3.heap.size) := Lib.hid ⟨hP.lt, by have := HB3.out; have := hP.lt; omega⟩
 replace hP := hP.ext hx1
 clear hx1
 generalize w3.alloc (.cells #[.int .i64 r1.h.o, .int .i64 r1.h.s, .int .u64 r1.h.r, .int .i64 r1.h.C, .int .i64 r1.h.S, .int .i64 r1.i, .int .u64 r1.e.d, .int .i64 r1.e.lo, .int .i64 r1.e.hi, .slice r1.pa r1.pn r1.pc] 44) = V4 at *
 obtain ⟨b12, hb12⟩ : ∃ b, w3.heap.size = b := ⟨_, rfl⟩
 have HB12 : Hid (b3 < b12 ∧ w.heap.size ≤ b12) := Lib.hid (by have := HPB.out; omega)
 rw [hb12] at hA ⊢
 clear hb12
 have p10 := hP.c 10 _ rfl
 go_wp2_with fail
 clear p10
 go_loopw [11, 68] (fun u ix wr => ∃ (k : Nat), k ≤ hn ∧ u = .bool true ∧ ix = .int .i64 k ∧ Bk wr b12 44 #[.int .i64 (stR r1 qs k).h.o, .int .i64 (stR r1 qs k).h.s, .int .u64 (stR r1 qs k).h.r, .int .i64 (stR r1 qs k).h.C, .int .i64 (stR r1 qs k).h.S, .int .i64 (stR r1 qs k).i, .int .u64 (stR r1 qs k).e.d, .int .i64 (stR r1 qs k).e.lo, .int .i64 (stR r1 qs k).e.hi, .slice (stR r1 qs k).pa (stR r1 qs k).pn (stR r1 qs k).pc] ∧ Bk wr b3 47 #[.int .i64 r1.h.o, .int .i64 r1.h.s, .int .u64 r1.h.r, .int .i64 r1.h.C, .int .i64 r1.h.S, .int .i64 r1.i, .int .u64 r1.e.d, .int .i64 r1.e.lo, .int .i64 r1.e.hi, .slice r1.pa r1.pn r1.pc, .slice ha hn hcap, .slice none 0 0, .int .i64 r2.h.o, .int .i64 r2.h.s, .int .u64 r2.h.r, .int .i64 r2.h.C, .int .i64 r2.h.S, .int .i64 r2.i, .int .u64 r2.e.d, .int .i64 r2.e.lo, .int .i64 r2.e.hi, .slice r2.pa r2.pn r2.pc] ∧ Hid (Ext w wr)) (fun _ ix _ => hn - (intOf ix).toNat)
 case atStart => exact ⟨0, by omega, rfl, rfl, hA, hP, Lib.hid hx⟩
 case round =>
  clear hA hP hx
  obtain ⟨k, hk, rfl, rfl, hA, hP, hx⟩ := hrel
  by_cases hlt : k < hn
  ·obtain ⟨x1, o1, rfl, hc1⟩ := HROW.out.at (by omega)
   have hr := rangeAt_ext (hc1 k hlt) hx.out
   rw [sz_hp] at hr
   have hqr := (HHP.out k hlt).1
   have HC := Lib.hid (HCC.out k hlt)
   have HST : Hid (stR r1 qs (k + 1) = (nthR qs k).rc) := Lib.hid rfl
   clear hc1
   generalize stR r1 qs k = r at *
   generalize nthR qs k = q at *
   rw [← hqr] at hA
   clear hqr
   unfold hdV hopV at HC
   obtain ⟨d0, d1, d2, d3, d4, d5, d6, d7, d8, d9, d10, d11, d12, d13, d14, d15⟩ := cells_hp hr
   clear hr
   have hQ := Bk.new wr 98 #[.int .i64 q.h.o, .int .i64 q.h.s, .int .u64 q.h.r, .int .i64 q.h.C, .int .i64 q.h.S, .slice q.ga 0 q.gc, .int .i64 q.rc.h.o, .int .i64 q.rc.h.s, .int .u64 q.rc.h.r, .int .i64 q.rc.h.C, .int .i64 q.rc.h.S, .int .i64 q.rc.i, .int .u64 q.rc.e.d, .int .i64 q.rc.e.lo, .int .i64 q.rc.e.hi, .slice q.rc.pa q.rc.pn q.rc.pc]
   have hx1 : Ext wr (wr.alloc (.cells #[.int .i64 q.h.o, .int .i64 q.h.s, .int .u64 q.h.r, .int .i64 q.h.C, .int .i64 q.h.S, .slice q.ga 0 q.gc, .int .i64 q.rc.h.o, .int .i64 q.rc.h.s, .int .u64 q.rc.h.r, .int .i64 q.rc.h.C, .int .i64 q.rc.h.S, .int .i64 q.rc.i, .int .u64 q.rc.e.d, .int .i64 q.rc.e.lo, .int .i64 q.rc.e.hi, .slice q.rc.pa q.rc.pn q.rc.pc] 98)) := (Ext.refl wr).alloc _
   go_upto_region 13 with fail
   clear d0 d1 d2 d3 d4 d5 d6 d7 d8 d9 d10 d11 d12 d13 d14 d15
   replace hx := Lib.hid (hx.out.trans hx1)
   replace hA := hA.ext hx1
   replace hP := hP.ext hx1
   clear hx1
   generalize wr.alloc (.cells #[.int .i64 q.h.o, .int .i64 q.h.s, .int .u64 q.h.r, .int .i64 q.h.C, .int .i64 q.h.S, .slice q.ga 0 q.gc, .int .i64 q.rc.h.o, .int .i64 q.rc.h.s, .int .u64 q.rc.h.r, .int .i64 q.rc.h.C, .int .i64 q.rc.h.S, .int .i64 q.rc.i, .int .u64 q.rc.e.d, .int .i64 q.rc.e.lo, .int .i64 q.rc.e.hi, .slice q.rc.pa q.rc.pn q.rc.pc] 98) = V5 at *
   obtain ⟨b14, hb14⟩ : ∃ b, wr.heap.size = b := ⟨_, rfl⟩
   rw [hb14] at hQ ⊢
   clear hb14
   have a0 := hA.c 0 _ rfl
   have a1 := hA.c 1 _ rfl
   have a2 := hA.c 2 _ rfl
   have a3 := hA.c 3 _ rfl
   have a4 := hA.c 4 _ rfl
   have q0 := hQ.c 0 _ rfl
   have q1 := hQ.c 1 _ rfl
   have q2 := hQ.c 2 _ rfl
   have q3 := hQ.c 3 _ rfl
   have q4 := hQ.c 4 _ rfl
   have q5 := hQ.c 5 _ rfl
   have q6 := hQ.c 6 _ rfl
   have q7 := hQ.c 7 _ rfl
   have q8 := hQ.c 8 _ rfl
   have q9 := hQ.c 9 _ rfl
   have q10 := hQ.c 10 _ rfl
   have q11 := hQ.c 11 _ rfl
   have q12 := hQ.c 12 _ rfl
   have q13 := hQ.c 13 _ rfl
   have q14 := hQ.c 14 _ rfl
   have q15 := hQ.c 15 _ rfl
   go_wp2_with (go_at_call 42; refine (HC.out _ hx.out).mono ?_; rintro e9 w6 ⟨rfl, hx1⟩; refine hold ?_)
   refine held ?_
   replace hx := Lib.hid (hx.out.trans hx1)
   replace hA := hA.ext hx1
   replace hP := hP.ext hx1
   replace hQ := hQ.ext hx1
   clear hx1 HC a0 a1 a2 a3 a4 q0 q1 q2 q3 q4 q5 q6 q7 q8 q9 q10 q11 q12 q13 q14 q15
   go_upto_region 16 with fail
   have q6 := hQ.c 6 _ rfl
   have q7 := hQ.c 7 _ rfl
   have q8 := hQ.c 8 _ rfl
   have q9 := hQ.c 9 _ rfl
   have q10 := hQ.c 10 _ rfl
   have q11 := hQ.c 11 _ rfl
   have q12 := hQ.c 12 _ rfl
   have q13 := hQ.c 13 _ rfl
   have q14 := hQ.c 14 _ rfl
   have q15 := hQ.c 15 _ rfl
   have hl0 := hQ.lt
   have hg := @grow_cell
   refine region_tail 7 (by kernel_rfl) (by kernel_rfl) ?_
   simp only [List.take_succ_cons, List.take_zero, List.drop_succ_cons, List.drop_zero]
   repeat (go_big_quiet_step (fail))
   refine wpQuiet_nil ?_
   intro w7 hx1
   replace hx := Lib.hid (hx.out.trans hx1)
   replace hA := hA.ext hx1
   replace hP := hP.ext hx1
   clear hx1 hg hl0 hQ q6 q7 q8 q9 q10 q11 q12 q13 q14 q15
   have a0 := hA.c 0 _ rfl
   have a1 := hA.c 1 _ rfl
   have a2 := hA.c 2 _ rfl
   have a3 := hA.c 3 _ rfl
   have a4 := hA.c 4 _ rfl
   have a5 := hA.c 5 _ rfl
   have a6 := hA.c 6 _ rfl
   have a7 := hA.c 7 _ rfl
   have a8 := hA.c 8 _ rfl
   have a9 := hA.c 9 _ rfl
   have af := hA.free
   go_wp2_with fail
   refine ⟨⟨k + 1, by omega, rfl, by go_num, ?_, ?_, Lib.hid ?_⟩, by simp only [intOf]; omega⟩
   ·rw [HST.out]; exact hA.set10 _ _ _ _ _ _ _ _ _ _
   ·exact hP.other10 (by have := HB12.out; omega) _ _ _ _ _ _ _ _ _ _
   ·exact hx.out.set10 HB12.out.2 _ _ _ _ _ _ _ _ _ _
  ·obtain rfl : hn = k := by omega
   have hfin := HFIN.out
   have hidx := HIDX.out
   generalize stR r1 qs hn = r at *
   rw [hfin] at hA
   obtain ⟨hh, hhh⟩ : ∃ hh, r2.h = hh := ⟨_, rfl⟩
   have HHH := Lib.hid hhh
   rw [hhh] at hA hP hfin HOK2
   clear hhh
   go_wp2_with fail
   go_upto_region 18 with fail
   refine region_relyE (fun _ W => Ext wr W) [some 89, some 90, some 91, some 92, some 93, some 17, some 18, none, none] [[], [0], [], [2], [2, 3], [], [], [0, 1, 5, 6], [0, 1, 2, 3, 4, 5, 6, 7]] [[], [0], [], [2], [3], [], [], [1, 5], [4, 6]] [none, none, none, none, none, none, none, some 5, some 6] [false, false, false, false, false, true, true, false, false] [.one ((.pointer (some ⟨b12, 0, none⟩))), .one ((.agg #[.int .i64 hh.o, .int .i64 hh.s, .int .u64 hh.r, .int .i64 hh.C, .int .i64 hh.S])), .one ((.pointer (some ⟨b3, 12, none⟩))), .one ((.pointer (some ⟨b3, 12, none⟩))), .one ((.agg #[.int .i64 hh.o, .int .i64 hh.s, .int .u64 hh.r, .int .i64 hh.C, .int .i64 hh.S])), RHb wr, RHb wr, RHs 5 hh, RHs 6 hh] (by kernel_rfl) (by kernel_rfl) rfl (Ext.refl wr).drew ?_ ?_
   ·refine stepsE_cons ?_ ?_
    ·intro listed vs W' hl hI hd hs hn hu hz
     refine hold ?_
     obtain ⟨x0, x1, x2, x3, x4, x5, x6, x7, x8, rfl⟩ := lenlit9 hl; clear hl
     refine held ?_
     simp only [putAll, Act.put, List.setIfInBounds_toArray, List.set_cons_succ, List.set_cons_zero]
     go_wp2_with fail
     exact relyE_done _ rfl rfl (Ext.refl _) hI
    refine stepsE_cons ?_ ?_
    ·intro listed vs W' hl hI hd hs hn hu hz
     refine hold ?_
     obtain ⟨x0, x1, x2, x3, x4, x5, x6, x7, x8, rfl⟩ := lenlit9 hl; clear hl
     simp only [factsL, atL, refV, List.getElem?_cons_succ, List.getElem?_cons_zero, List.getD_cons_succ, List.getD_cons_zero, RelL.one, RelL.any, RelL.blk, RelL.law, RHb, RHs] at hd
     obtain ⟨rfl, -⟩ := hd
     refine held ?_
     simp only [putAll, Act.put, List.setIfInBounds_toArray, List.set_cons_succ, List.set_cons_zero]
     have hA9 := hA.ext hI
     have r0 := hA9.c 0 _ rfl
     have r1 := hA9.c 1 _ rfl
     have r2 := hA9.c 2 _ rfl
     have r3 := hA9.c 3 _ rfl
     have r4 := hA9.c 4 _ rfl
     go_wp2_with fail
     exact relyE_done _ rfl rfl (Ext.refl _) hI
    refine stepsE_cons ?_ ?_
    ·intro listed vs W' hl hI hd hs hn hu hz
     refine hold ?_
     obtain ⟨x0, x1, x2, x3, x4, x5, x6, x7, x8, rfl⟩ := lenlit9 hl; clear hl
     refine held ?_
     simp only [putAll, Act.put, List.setIfInBounds_toArray, List.set_cons_succ, List.set_cons_zero]
     go_wp2_with fail
     exact relyE_done _ rfl rfl (Ext.refl _) hI
    refine stepsE_cons ?_ ?_
    ·intro listed vs W' hl hI hd hs hn hu hz
     refine hold ?_
     obtain ⟨x0, x1, x2, x3, x4, x5, x6, x7, x8, rfl⟩ := lenlit9 hl; clear hl
     simp only [factsL, atL, refV, List.getElem?_cons_succ, List.getElem?_cons_zero, List.getD_cons_succ, List.getD_cons_zero, RelL.one, RelL.any, RelL.blk, RelL.law, RHb, RHs] at hd
     obtain ⟨rfl, -⟩ := hd
     refine held ?_
     simp only [putAll, Act.put, List.setIfInBounds_toArray, List.set_cons_succ, List.set_cons_zero]
     go_wp2_with fail
     exact relyE_done _ rfl rfl (Ext.refl _) hI
    refine stepsE_cons ?_ ?_
    ·intro listed vs W' hl hI hd hs hn hu hz
     refine hold ?_
     obtain ⟨x0, x1, x2, x3, x4, x5, x6, x7, x8, rfl⟩ := lenlit9 hl; clear hl
     simp only [factsL, atL, refV, List.getElem?_cons_succ, List.getElem?_cons_zero, List.getD_cons_succ, List.getD_cons_zero, RelL.one, RelL.any, RelL.blk, RelL.law, RHb, RHs] at hd
     obtain ⟨rfl, -⟩ := hd
     refine held ?_
     simp only [putAll, Act.put, List.setIfInBounds_toArray, List.set_cons_succ, List.set_cons_zero]
     have hP9 := hP.ext hI
     have p12 := hP9.c 12 _ rfl
     have p13 := hP9.c 13 _ rfl
     have p14 := hP9.c 14 _ rfl
     have p15 := hP9.c 15 _ rfl
     have p16 := hP9.c 16 _ rfl
     go_wp2_with fail
     exact relyE_done _ rfl rfl (Ext.refl _) hI
    refine stepsE_cons ?_ ?_
    ·intro listed vs W' hl hI hd hs hn hu hz
     refine hold ?_
     obtain ⟨x0, x1, x2, x3, x4, x5, x6, x7, x8, rfl⟩ := lenlit9 hl; clear hl
     refine held ?_
     simp only [putAll, Act.put, List.setIfInBounds_toArray, List.set_cons_succ, List.set_cons_zero]
     go_wp2_with fail
     exact relyE_new rfl ⟨_, _, _, _, _, _, rfl, hI.sz, Bk.new _ _ _⟩ ((Ext.refl _).alloc _) (lt_alloc _ _) (hI.alloc _)
    refine stepsE_cons ?_ ?_
    ·intro listed vs W' hl hI hd hs hn hu hz
     refine hold ?_
     obtain ⟨x0, x1, x2, x3, x4, x5, x6, x7, x8, rfl⟩ := lenlit9 hl; clear hl
     refine held ?_
     simp only [putAll, Act.put, List.setIfInBounds_toArray, List.set_cons_succ, List.set_cons_zero]
     go_wp2_with fail
     exact relyE_new rfl ⟨_, _, _, _, _, _, rfl, hI.sz, Bk.new _ _ _⟩ ((Ext.refl _).alloc _) (lt_alloc _ _) (hI.alloc _)
    refine stepsE_cons ?_ ?_
    ·intro listed vs W' hl hI hd hs hn hu hz
     refine hold ?_
     obtain ⟨x0, x1, x2, x3, x4, x5, x6, x7, x8, rfl⟩ := lenlit9 hl; clear hl
     simp only [factsL, atL, refV, List.getElem?_cons_succ, List.getElem?_cons_zero, List.getD_cons_succ, List.getD_cons_zero, RelL.one, RelL.any, RelL.blk, RelL.law, RHb, RHs] at hd
     obtain ⟨rfl, ⟨b17, u0, u1, u2, u3, u4, e5, hge5, hb17⟩, -⟩ := hd
     refine held ?_
     simp only [putAll, Act.put, List.setIfInBounds_toArray, List.set_cons_succ, List.set_cons_zero]
     subst e5
     have us0 := hb17.c 0 _ rfl
     have us1 := hb17.c 1 _ rfl
     have us2 := hb17.c 2 _ rfl
     have us3 := hb17.c 3 _ rfl
     have us4 := hb17.c 4 _ rfl
     have fz := hb17.free
     go_wp2_with fail
     exact relyE_store undef rfl ⟨b17, rfl, hb17.set5 (.int .i64 hh.o) (.int .i64 hh.s) (.int .u64 hh.r) (.int .i64 hh.C) (.int .i64 hh.S)⟩ (by simp [World.setCell]) ⟨(fun _ _ h => h), (fun _ _ h => h), (fun _ _ h => h), (fun _ _ h => h), (fun _ _ h => h), (fun _ _ h9 => keepHb h9 b17 (.int .i64 hh.o) (.int .i64 hh.s) (.int .u64 hh.r) (.int .i64 hh.C) (.int .i64 hh.S)), (fun _ _ h9 => keepHb h9 b17 (.int .i64 hh.o) (.int .i64 hh.s) (.int .u64 hh.r) (.int .i64 hh.C) (.int .i64 hh.S)), (fun _ _ _ => absurd rfl (by assumption)), (fun hl _ _ => absurd (by decide) (hu 8 hl)), trivial⟩ (hI.set5 hge5 _ _ _ _ _)
    refine stepsE_cons ?_ ?_
    ·intro listed vs W' hl hI hd hs hn hu hz
     refine hold ?_
     obtain ⟨x0, x1, x2, x3, x4, x5, x6, x7, x8, rfl⟩ := lenlit9 hl; clear hl
     simp only [factsL, atL, refV, List.getElem?_cons_succ, List.getElem?_cons_zero, List.getD_cons_succ, List.getD_cons_zero, RelL.one, RelL.any, RelL.blk, RelL.law, RHb, RHs] at hd
     obtain ⟨rfl, ⟨b18, v0, v1, v2, v3, v4, e6, hge6, hb18⟩, -⟩ := hd
     refine held ?_
     simp only [putAll, Act.put, List.setIfInBounds_toArray, List.set_cons_succ, List.set_cons_zero]
     subst e6
     have vs0 := hb18.c 0 _ rfl
     have vs1 := hb18.c 1 _ rfl
     have vs2 := hb18.c 2 _ rfl
     have vs3 := hb18.c 3 _ rfl
     have vs4 := hb18.c 4 _ rfl
     have fz := hb18.free
     go_wp2_with fail
     exact relyE_store undef rfl ⟨b18, rfl, hb18.set5 (.int .i64 hh.o) (.int .i64 hh.s) (.int .u64 hh.r) (.int .i64 hh.C) (.int .i64 hh.S)⟩ (by simp [World.setCell]) ⟨(fun _ _ h => h), (fun _ _ h => h), (fun _ _ h => h), (fun _ _ h => h), (fun _ _ h => h), (fun _ _ h9 => keepHb h9 b18 (.int .i64 hh.o) (.int .i64 hh.s) (.int .u64 hh.r) (.int .i64 hh.C) (.int .i64 hh.S)), (fun _ _ h9 => keepHb h9 b18 (.int .i64 hh.o) (.int .i64 hh.s) (.int .u64 hh.r) (.int .i64 hh.C) (.int .i64 hh.S)), (fun hl _ h9 => keepHs h9 _ (fun e9 => hn 5 6 rfl rfl (by decide) (hs 5 (by decide)) (hs 6 (by decide)) (by exact e9)) (.int .i64 hh.o) (.int .i64 hh.s) (.int .u64 hh.r) (.int .i64 hh.C) (.int .i64 hh.S)), (fun _ _ _ => absurd rfl (by assumption)), trivial⟩ (hI.set5 hge6 _ _ _ _ _)
    exact trivial
   ·intro listed vs W' hl hall hI hd hn
    obtain ⟨x0, x1, x2, x3, x4, x5, x6, x7, x8, rfl⟩ := lenlit9 hl; clear hl
    simp only [List.length_cons, List.length_nil, List.range, List.range.loop, Nat.zero_add, Nat.reduceAdd, factsL, atL, refV, List.getElem?_cons_succ, List.getElem?_cons_zero, List.getD_cons_succ, List.getD_cons_zero, RelL.one, RelL.any, RelL.blk, RelL.law, RHb, RHs] at hd
    obtain ⟨rfl, rfl, rfl, rfl, rfl, ⟨b17, u0, u1, u2, u3, u4, e5, hge5, hb17⟩, ⟨b18, v0, v1, v2, v3, v4, e6, hge6, hb18⟩, ⟨c17, e7, hc17⟩, ⟨c18, e8, hc18⟩, -⟩ := hd
    simp only [putAll, Act.put, List.setIfInBounds_toArray, List.set_cons_succ, List.set_cons_zero]
    refine hold ?_
    have hP9 := hP.ext hI
    have hA9 := hA.ext hI
    have hxx := hx.out.trans hI
    have hok := HOK2.out
    have hss := hok.s
    obtain ⟨s, hs⟩ : ∃ s : Nat, hh.s = s := ⟨hh.s.toNat, by omega⟩
    have HX := Lib.hid (textended_any hh.r hh.r hok.r hok.r s s (by omega) (Nat.le_refl _) (by omega) none 0 0 [] W' (Sl.none_nil _ _) (by omega) (HTB.out.ext hxx))
    rw [show exV hh.r hh.r s s [] = true by unfold exV; rw [if_pos rfl]; simp] at HX
    rw [← hs] at HX
    clear hok hss hs hP hA hx hI hn hall HTB HOK2 HCC HHP HROW HHH HPB HB12 HB3 HFIN HIDX e5 e6 hb17 hb18 hge5 hge6 hfin
    have g1 : (r.i : Int) < (r2.i : Int) := by omega
    have g2 : decide ((r.i : Int) < (r2.i : Int)) = true := decide_eq_true g1
    have g3 : ¬ (hh.s < hh.s) := by omega
    have g4 : decide (hh.s < hh.s) = false := decide_eq_false g3
    clear hidx
    subst e7 e8
    have s0 := hc17.c 0 _ rfl
    have t0 := hc18.c 0 _ rfl
    have s1 := hc17.c 1 _ rfl
    have t1 := hc18.c 1 _ rfl
    have s2 := hc17.c 2 _ rfl
    have t2 := hc18.c 2 _ rfl
    have p12 := hP9.c 12 _ rfl
    have p17 := hP9.c 17 _ rfl
    have p11 := hP9.c 11 _ rfl
    have a5 := hA9.c 5 _ rfl
    refine held ?_
    go_wp2_with (go_at_call 24; refine HX.out.mono ?_; rintro e9 w9 ⟨rfl, hx9⟩)
    go_ret2
    exact ⟨rfl, hxx.trans hx9⟩
open Go.RowKit Go.Sort Go.Shelf
def fkV (a b : Int) (m n : Nat) (ps : List Int) : Bool :=
 if m = n then decide (ps.length = 0) && decide (a ≠ b) else if ps.length = 0 then false else if nth ps 0 = a then false else exV (nth ps 0) b m n (ps.drop 1)
set_option maxHeartbeats 8000000 in
theorem forks_yes (pub : Int) (hp : pub ≠ 1) (hm : memB pub = true) (h g : Hd) (hk : h.Ok) (gk : g.Ok) (hr : rightH pub h = true) (gr : rightH pub g = true) (ho : h.o = g.o)
  (m n : Nat) (hs : h.s = m) (gs : g.s = n) (hmn : m ≤ n) (pa : Option Addr) (pn pc : Nat) (ps : List Int) (w : World) (hsl : Sl .u64 w pa pn pc ps) (hpn : pn ≤ 21) (ht : TB w) :
  Calls Tryz.prog 18 #[.int .i64 pub, hdV h, hdV g, .slice pa pn pc] w fun e w' => e = .returned (.tuple #[.bool (fkV h.r g.r m n ps), .int .i64 0]) ∧ Ext w w' := by
 have H1 := Lib.hid (fun (W : World) (hx : Ext w W) => oright_any pub hp hm h hk W (ht.ext hx))
 have H2 := Lib.hid (fun (W : World) (hx : Ext w W) => oright_any pub hp hm g gk W (ht.ext hx))
 rw [hr] at H1
 rw [gr] at H2
 have HSL := Lib.hid hsl
 have HTB := Lib.hid ht
 have bd := hsl.bd
 have hlen := hsl.hlen
 have hk3 := hk.s
 have gk3 := gk.s
 have hm1 : 1 ≤ m := by omega
 have hn1 : n ≤ 4096 := by omega
 have HRB := Lib.hid gk.r
 unfold hdV at H1 H2 ⊢
 have hA := Bk.new w 34 #[.int .i64 h.o, .int .i64 h.s, .int .u64 h.r, .int .i64 h.C, .int .i64 h.S]
 have hx : Ext w (w.alloc (.cells #[.int .i64 h.o, .int .i64 h.s, .int .u64 h.r, .int .i64 h.C, .int .i64 h.S] 34)) := (Ext.refl w).alloc _
 have hB := Bk.new (w.alloc (.cells #[.int .i64 h.o, .int .i64 h.s, .int .u64 h.r, .int .i64 h.C, .int .i64 h.S] 34)) 34 #[.int .i64 g.o, .int .i64 g.s, .int .u64 g.r, .int .i64 g.C, .int .i64 g.S]
 rw [show (w.alloc (.cells #[.int .i64 h.o, .int .i64 h.s, .int .u64 h.r, .int .i64 h.C, .int .i64 h.S] 34)).heap.size = w.heap.size + 1 from Array.size_push _] at hB
 replace hA := hA.ext ((Ext.refl _).alloc (.cells #[.int .i64 g.o, .int .i64 g.s, .int .u64 g.r, .int .i64 g.C, .int .i64 g.S] 34))
 replace hx := hx.alloc (.cells #[.int .i64 g.o, .int .i64 g.s, .int .u64 g.r, .int .i64 g.C, .int .i64 g.S] 34)
 have HEQ := Lib.hid (And.intro ho (And.intro hs gs))
 have g4 : ¬ (g.s < h.s) := by omega
 have g6 : (h.o == g.o) = true := by simp [ho]
 clear hsl ht hk gk hr gr hp hm hs gs ho hk3 gk3
 go_enter Tryz.func18, Tryz.ntmps18
 go_upto_region 1 with fail
 generalize (w.alloc (.cells #[.int .i64 h.o, .int .i64 h.s, .int .u64 h.r, .int .i64 h.C, .int .i64 h.S] 34)).alloc (.cells #[.int .i64 g.o, .int .i64 g.s, .int .u64 g.r, .int .i64 g.C, .int .i64 g.S] 34) = V at *
 obtain ⟨b5, hb5⟩ : ∃ b, w.heap.size = b := ⟨_, rfl⟩
 rw [hb5] at hA hB ⊢
 obtain ⟨b6, hb6⟩ : ∃ b, b5 + 1 = b := ⟨_, rfl⟩
 rw [hb6] at hB ⊢
 clear hb5 hb6
 have a0 := hA.c 0 _ rfl
 have b0 := hB.c 0 _ rfl
 have a1 := hA.c 1 _ rfl
 have b1 := hB.c 1 _ rfl
 have a2 := hA.c 2 _ rfl
 have b2 := hB.c 2 _ rfl
 have a3 := hA.c 3 _ rfl
 have b3 := hB.c 3 _ rfl
 have a4 := hA.c 4 _ rfl
 have b4 := hB.c 4 _ rfl
 go_wp2_with (go_at_call 48; refine (H1.out _ hx).mono ?_; rintro e9 w1 ⟨rfl, hx1⟩; refine hold ?_)
 refine held ?_
 replace hx := hx.trans hx1
 replace hA := hA.ext hx1
 replace hB := hB.ext hx1
 clear hx1 H1
 clear a0 b0 a1 b1 a2 b2 a3 b3 a4 b4
 have a0 := hA.c 0 _ rfl
 have b0 := hB.c 0 _ rfl
 have a1 := hA.c 1 _ rfl
 have b1 := hB.c 1 _ rfl
 have a2 := hA.c 2 _ rfl
 have b2 := hB.c 2 _ rfl
 have a3 := hA.c 3 _ rfl
 have b3 := hB.c 3 _ rfl
 have a4 := hA.c 4 _ rfl
 have b4 := hB.c 4 _ rfl
 go_wp2_with (go_at_call 48; refine (H2.out _ hx).mono ?_; rintro e9 w2 ⟨rfl, hx1⟩; refine hold ?_)
 refine held ?_
 replace hx := hx.trans hx1
 replace hA := hA.ext hx1
 replace hB := hB.ext hx1
 clear hx1 H2
 clear a0 b0 a1 b1 a2 b2 a3 b3 a4 b4
 have a0 := hA.c 0 _ rfl
 have b0 := hB.c 0 _ rfl
 have a1 := hA.c 1 _ rfl
 have b1 := hB.c 1 _ rfl
 have a2 := hA.c 2 _ rfl
 have b2 := hB.c 2 _ rfl
 have a3 := hA.c 3 _ rfl
 have b3 := hB.c 3 _ rfl
 have a4 := hA.c 4 _ rfl
 have b4 := hB.c 4 _ rfl
 have g1 : ¬ ((21 : Int) < (pn : Int)) := by omega
 have g2 : decide ((21 : Int) < (pn : Int)) = false := decide_eq_false g1
 have g3 : ¬ (21 < pn) := by omega
 have g5 : decide (g.s < h.s) = false := decide_eq_false (by omega)
 go_upto_region 7 with fail
 exact absurd HEQ.out.1 (by assumption)
 clear g1 g2 g3 g4 g5 g6
 by_cases heq : m = n
 ·have k1 : (h.s == g.s) = true := by simp [HEQ.out.2.1, HEQ.out.2.2, heq]
  by_cases h0 : pn = 0
  ·subst h0
   go_wp2_with fail
   go_ret2
   refine ⟨?_, hx⟩
   unfold fkV
   rw [if_pos heq, hlen]
   by_cases he : h.r = g.r <;> simp [he]
  ·have k3 : ((pn : Int) == 0) = false := by simp; omega
   have k4 : (pn == 0) = false := by simp; omega
   go_wp2_with fail
   go_ret2
   refine ⟨?_, hx⟩
   unfold fkV
   rw [if_pos heq, hlen]
   simp [h0]
 ·have k1 : (h.s == g.s) = false := by rw [HEQ.out.2.1, HEQ.out.2.2]; simp; omega
  have k2 : ¬ (h.s = g.s) := by rw [HEQ.out.2.1, HEQ.out.2.2]; omega
  by_cases h0 : pn = 0
  ·subst h0
   go_upto_region 9 with fail
   refine region_ext (by kernel_rfl) (by kernel_rfl) ?_
   repeat (go_big_quiet_step (fail))
   refine wpQuiet_nil ?_
   intro w3 hx1
   clear a0 a1 a2 a3 a4 b0 b1 b2 b3 b4
   go_wp2_with fail
   go_ret2
   refine ⟨?_, hx.trans hx1⟩
   unfold fkV
   rw [if_neg heq, hlen]
   rfl
  ·have k3 : ((pn : Int) == 0) = false := by simp; omega
   have k4 : (pn == 0) = false := by simp; omega
   obtain ⟨x1, o1, rfl, hc1⟩ := (HSL.out.ext hx).at (by omega)
   have d0 := hc1 0 (by omega)
   have hwf := HSL.out.wfAt (i := 0) (by omega)
   have HVR : Hid (0 ≤ nth ps 0 ∧ nth ps 0 ≤ 18446744073709551615) := Lib.hid (by simpa [Lit.wf, IntKind.min, IntKind.max, IntKind.bits, IntKind.signed] using hwf)
   clear hwf hc1
   have HFK : Hid (fkV h.r g.r m n ps = if nth ps 0 = h.r then false else exV (nth ps 0) g.r m n (ps.drop 1)) := Lib.hid (by unfold fkV; rw [if_neg heq, hlen, if_neg h0])
   obtain ⟨z, hz⟩ : ∃ z, nth ps 0 = z := ⟨_, rfl⟩
   rw [hz] at HFK HVR d0
   clear hz
   rw [Nat.add_zero] at d0
   have k9 : 0 < pn := by omega
   have k10 : (0 : Int) < (pn : Int) := by omega
   go_upto_region 9 with fail
   by_cases hzr : z = h.r
   ·have k5 : (z == h.r) = true := by simp [hzr]
    go_upto_region 9 with fail
    have hg := @grow_cell
    have hl0 := hA.lt
    have hl1 := hB.lt
    have hbx := lt_of_cell d0
    simp only at hbx
    refine region_ext (by kernel_rfl) (by kernel_rfl) ?_
    repeat (go_big_quiet_step (fail))
    refine wpQuiet_nil ?_
    intro w3 hx1
    replace d0 := hx1.cell d0
    replace hx := hx.trans hx1
    replace hA := hA.ext hx1
    replace hB := hB.ext hx1
    clear hx1 hg hl0 hl1 hbx
    clear a0 b0 a1 b1 a2 b2 a3 b3 a4 b4
    have a0 := hA.c 0 _ rfl
    have b0 := hB.c 0 _ rfl
    have a1 := hA.c 1 _ rfl
    have b1 := hB.c 1 _ rfl
    have a2 := hA.c 2 _ rfl
    have b2 := hB.c 2 _ rfl
    have a3 := hA.c 3 _ rfl
    have b3 := hB.c 3 _ rfl
    have a4 := hA.c 4 _ rfl
    have b4 := hB.c 4 _ rfl
    go_wp2_with fail
    go_ret2
    refine ⟨?_, hx⟩
    rw [HFK.out, if_pos hzr]
    rfl
   ·have k5 : (z == h.r) = false := by simp [hzr]
    have HZR := Lib.hid hzr
    have HX := Lib.hid (fun (W : World) (hx9 : Ext w W) => textended_any z g.r HVR.out HRB.out m n hm1 hmn hn1 _ _ _ _ W ((HSL.out.ext hx9).from (m := 1) (by omega)) (by omega) (HTB.out.ext hx9))
    rw [← HEQ.out.2.1, ← HEQ.out.2.2] at HX
    generalize exV z g.r m n (ps.drop 1) = EV at HX HFK
    have k7 : ¬ ((pn : Int) < 1) := by omega
    have k8 : ¬ (pn < 1) := by omega
    go_upto_region 9 with fail
    have hg := @grow_cell
    have hl0 := hA.lt
    have hl1 := hB.lt
    have hbx := lt_of_cell d0
    simp only at hbx
    refine region_ext (by kernel_rfl) (by kernel_rfl) ?_
    repeat (go_big_quiet_step (fail))
    refine wpQuiet_nil ?_
    intro w3 hx1
    replace d0 := hx1.cell d0
    replace hx := hx.trans hx1
    replace hA := hA.ext hx1
    replace hB := hB.ext hx1
    clear hx1 hg hl0 hl1 hbx
    clear a0 b0 a1 b1 a2 b2 a3 b3 a4 b4
    have a0 := hA.c 0 _ rfl
    have b0 := hB.c 0 _ rfl
    have a1 := hA.c 1 _ rfl
    have b1 := hB.c 1 _ rfl
    have a2 := hA.c 2 _ rfl
    have b2 := hB.c 2 _ rfl
    have a3 := hA.c 3 _ rfl
    have b3 := hB.c 3 _ rfl
    have a4 := hA.c 4 _ rfl
    have b4 := hB.c 4 _ rfl
    by_cases hqc : pc = 1
    ·rw [show subA (some ⟨x1, o1, none⟩) pc 1 = some ⟨x1, o1, none⟩ by simp [subA, hqc, Addr.add]] at HX
     rw [show pc - 1 = 0 by omega] at HX
     clear hzr
     go_upto_region 11 with fail
     have hg := @grow_cell
     have hl0 := hA.lt
     have hl1 := hB.lt
     have hbx := lt_of_cell d0
     simp only at hbx
     have HX2 := Lib.hid (fun d os => HX.out (grow (redrawn w3 d) os) (hx.trans (ext_grow w3 d os)))
     refine region_ext (by kernel_rfl) (by kernel_rfl) ?_
     repeat (go_big_quiet_step ((go_at_call 24; exact Calls.regrown_of (HX2.out _ _))))
     refine wpQuiet_nil ?_
     intro w4 hx1
     clear hg hl0 hl1 hbx d0 a0 a1 a2 a3 a4 b0 b1 b2 b3 b4
     go_wp2_with fail
     go_ret2
     refine ⟨?_, hx.trans hx1⟩
     rw [HFK.out, if_neg HZR.out]
     rfl
    ·rw [show subA (some ⟨x1, o1, none⟩) pc 1 = some ⟨x1, o1 + 1, none⟩ by simp [subA, hqc, Addr.add]] at HX
     clear hzr
     go_upto_region 11 with fail
     have hg := @grow_cell
     have hl0 := hA.lt
     have hl1 := hB.lt
     have hbx := lt_of_cell d0
     simp only at hbx
     have HX2 := Lib.hid (fun d os => HX.out (grow (redrawn w3 d) os) (hx.trans (ext_grow w3 d os)))
     refine region_ext (by kernel_rfl) (by kernel_rfl) ?_
     repeat (go_big_quiet_step ((go_at_call 24; exact Calls.regrown_of (HX2.out _ _))))
     refine wpQuiet_nil ?_
     intro w4 hx1
     clear hg hl0 hl1 hbx d0 a0 a1 a2 a3 a4 b0 b1 b2 b3 b4
     go_wp2_with fail
     go_ret2
     refine ⟨?_, hx.trans hx1⟩
     rw [HFK.out, if_neg HZR.out]
     rfl
open Go.RowKit Go.Sort Go.Shelf Go.Maps
open Go.WideElems (Fit rd rg pl rd_val)
open Go.ChangeMaps Go.MapKept
structure OfR where
 id : Int
 a : Option Addr
 n : Nat
 c : Nat
def ofV (o : OfR) : Value := .agg #[.int .i64 o.id, .slice o.a o.n o.c]
def OfR.enc (o : OfR) : List Value := [.int .i64 o.id, .slice o.a o.n o.c]
instance : Cel OfR where
 dflt := ⟨0, none, 0, 0⟩
 sz := 2
 enc := OfR.enc
 ok := fun o => (Lit.int .i64 o.id).wf = true
 len := fun _ => rfl
 pos := by decide
 one := by intro x v hv; simp [OfR.enc] at hv; rcases hv with rfl | rfl <;> rfl
theorem sz_of : Cel.sz OfR = 2 := rfl
def of0 : Value := .agg #[.int .i64 0, .slice none 0 0]
def mapE (os : List OfR) (j : Nat) : MapEntry := ⟨.int .i64 (nthR os j).id, ofV (nthR os j), j⟩
def mapA (os : List OfR) (k : Nat) : Array MapEntry := ((List.range k).map (mapE os)).toArray
theorem mapA_succ (os : List OfR) (k : Nat) : mapA os (k + 1) = (mapA os k).push (mapE os k) := by
 unfold mapA
 rw [List.range_succ, List.map_append]
 simp
theorem mapA_mem {os : List OfR} {k : Nat} {x : MapEntry} : x ∈ (mapA os k).toList ↔ ∃ j, j < k ∧ mapE os j = x := by
 unfold mapA
 simp
def idR (v : Value) : Option (DataW Unit × List MemPlace) := some (.lit (.bool true), [])
abbrev MT : TypeId := 93
theorem olaw : Keyed Tryz.prog 3 := int_keyed Tryz.underlying3
theorem ozero (w : World) : (zeroValue 24).run Tryz.prog w = .ok of0 w := by kernel_rfl
def Apart (os : List OfR) (k : Nat) : Prop := ∀ j, j < k → (Lit.int .i64 (nthR os j).id).wf = true ∧ ∀ i, i < j → (nthR os i).id ≠ (nthR os j).id
theorem Apart.mono {os : List OfR} {k k' : Nat} (h : Apart os k) (hk : k' ≤ k) : Apart os k' := fun j hj => h j (by omega)
theorem mapA_fit {os : List OfR} : ∀ {k : Nat}, Apart os k → k ≤ maxLen → Fit Tryz.prog 3 idR (mapA os k) k
 | 0, _, _ => ⟨by simp [mapA], stamped_empty 0, by simp [mapA]⟩
 | k + 1, h, hk => by
  have F := mapA_fit (h.mono (Nat.le_succ k)) (by omega)
  refine ⟨by simp [mapA]; exact hk, ?_, ?_⟩
  ·rw [mapA_succ]
   refine stamped_push F.stamped ?_
   intro x hx e
   obtain ⟨j, hj, rfl⟩ := mapA_mem.1 hx
   have := (h k (Nat.lt_succ_self k)).2 j hj
   simp only [mapE, Value.int.injEq, true_and] at e
   exact this e
  ·intro x hx
   obtain ⟨j, hj, rfl⟩ := mapA_mem.1 hx
   exact ⟨_, WideElems.rd_mk (keyOf_int_mk Tryz.underlying3 (h j hj).1) rfl⟩
def OMap (W : World) (b : Nat) (os : List OfR) (k : Nat) : Prop := W.heap[b]? = some (.map (mapA os k) k)
theorem OMap.lt {W : World} {b k : Nat} {os : List OfR} (h : OMap W b os k) : b < W.heap.size := (Array.getElem?_eq_some_iff.1 h).1
theorem OMap.ext {W W' : World} {b k : Nat} {os : List OfR} (h : OMap W b os k) (hx : Ext W W') : OMap W' b os k := (hx.block b h.lt).trans h
theorem OMap.look {W : World} {b k : Nat} {os : List OfR} (h : OMap W b os k) (ha : Apart os k) (hk : k ≤ maxLen) (c : Bool) {j : Nat} (hj : j < k) {id : Int} (e : (nthR os j).id = id) :
  (Instr.lookup MT (.map (some b)) (.int .i64 id) c).run Tryz.prog W = .ok (if c then .tuple #[ofV (nthR os j), .bool true] else ofV (nthR os j)) W := by
 subst e
 rcases fit_look c olaw Tryz.underlying93 (ozero W) h (mapA_fit ha hk) (keyOf_int_mk Tryz.underlying3 (ha j hj).1) with ⟨_, h2, _⟩ | ⟨e0, y, hm, hkey, hrun, _⟩
 ·exact absurd rfl (h2 _ (mapA_mem.2 ⟨j, hj, rfl⟩))
 ·obtain ⟨i, hi, rfl⟩ := mapA_mem.1 hm
  simp only [mapE, Value.int.injEq, true_and] at hkey
  obtain rfl : i = j := by
   rcases Nat.lt_trichotomy i j with hlt | heq | hlt
   ·exact absurd hkey ((ha j hj).2 i hlt)
   ·exact heq
   ·exact absurd hkey.symm ((ha i hi).2 j hlt)
  exact hrun
def midA (os : List OfR) (k : Nat) : Array MapEntry := (mapA os k).push ⟨.int .i64 (nthR os k).id, of0, k⟩
theorem OMap.entry {W : World} {b k : Nat} {os : List OfR} (h : OMap W b os k) (ha : Apart os (k + 1)) (hk : k ≤ maxLen) :
  (Instr.mapEntry MT (.map (some b)) (.int .i64 (nthR os k).id)).run Tryz.prog W = .ok (.tuple #[of0, .int .i64 k]) (setBlock W b (.map (midA os k) (k + 1))) := by
 have F := mapA_fit (ha.mono (Nat.le_succ k)) hk
 have hkey := keyOf_int_mk (P := Tryz.prog) (k := 3) Tryz.underlying3 (ha k (Nat.lt_succ_self k)).1
 have ht : Tryz.prog.underlying MT = some (.map 3 24) := Tryz.underlying93
 have hb : W.heap[b]? = some (.map (mapA os k) k) := h
 rcases olaw.find W hkey (mapA os k).toList F.keys with ⟨h1, _⟩ | ⟨j, e0, _, h2, h3⟩
 ·simp [Instr.mapEntry, run_underlying ht, MapKept.run_getObj_map hb, olaw.check W false hkey, h1, ozero W, MapKept.run_setObj_map _ hb, Result.andThen, setBlock, midA, goInt]
 ·obtain ⟨i, hi, rfl⟩ := mapA_mem.1 (List.mem_of_getElem? h2)
  simp only [mapE, Value.int.injEq, true_and] at h3
  exact absurd h3 ((ha k (Nat.lt_succ_self k)).2 i hi)
theorem find_last {α : Type} (p : α → Bool) (a : α) : ∀ l : List α, (∀ x ∈ l, p x = false) → p a = true → (l ++ [a]).findIdx? p = some l.length
 | [], _, h => by simp [List.findIdx?_cons, h]
 | b :: r, h1, h2 => by
  rw [List.cons_append, List.findIdx?_cons, h1 b (by simp)]
  simp [find_last p a r (fun x hx => h1 x (by simp [hx])) h2]
theorem mod_last {α : Type} (f : α → α) (a : α) : ∀ l : List α, (l ++ [a]).modify l.length f = l ++ [f a]
 | [] => rfl
 | b :: r => by simp [List.modify_succ_cons, mod_last f a r]
theorem OMap.stored {W : World} {b k : Nat} {os : List OfR} (h : W.heap[b]? = some (.map (midA os k) (k + 1))) :
  (Instr.entryStore MT (.map (some b)) (.int .i64 k) (ofV (nthR os k))).run Tryz.prog W = .ok () (setBlock W b (.map (mapA os (k + 1)) (k + 1))) := by
 have hidx : (midA os k).findIdx? (fun e => (e.born : Int) == (k : Int)) = some k := by
  have e1 : (midA os k).findIdx? (fun e => (e.born : Int) == (k : Int)) = (midA os k).toList.findIdx? (fun e => (e.born : Int) == (k : Int)) := by cases midA os k; simp
  rw [e1]
  have e2 : (midA os k).toList = (List.range k).map (mapE os) ++ [⟨.int .i64 (nthR os k).id, of0, k⟩] := by simp [midA, mapA]
  rw [e2, find_last]
  ·simp
  ·intro x hx
   obtain ⟨j, hj, rfl⟩ := List.mem_map.1 hx
   rw [List.mem_range] at hj
   simp [mapE]
   omega
  ·simp
 have hmod : (midA os k).modify k (fun e => { e with val := ofV (nthR os k) }) = mapA os (k + 1) := by
  apply Array.ext'
  rw [Array.toList_modify]
  have e2 : (midA os k).toList = (List.range k).map (mapE os) ++ [⟨.int .i64 (nthR os k).id, of0, k⟩] := by simp [midA, mapA]
  have e3 : ((List.range k).map (mapE os)).length = k := by simp
  rw [e2]
  have e4 := mod_last (fun e : MapEntry => { e with val := ofV (nthR os k) }) ⟨.int .i64 (nthR os k).id, of0, k⟩ ((List.range k).map (mapE os))
  rw [e3] at e4
  rw [e4, mapA_succ]
  simp [mapA, mapE]
 simp [Instr.entryStore, MapKept.run_getObj_map h, asInt, asIntOf, hidx, hmod, MapKept.run_setObj_map _ h, Result.andThen, setBlock]
theorem grownBy_setBlock {W : World} {b : Nat} {es : Array MapEntry} {c : Nat} (h : W.heap[b]? = some (.map es c)) (o : Obj) : W.grownBy (setBlock W b o) (some b) :=
 ⟨rfl, rfl, rfl, by simp [setBlock], fun i _ hi => heap_setBlock_other h _ (fun e => hi (by rw [e]))⟩
end Go.Proofs.YtacicanjmleikaaGreatDoor
