
import Derived.Test.YtacicanjmleikaaGreatDoorGr13
/- A part of the proof. -/
namespace Go.Proofs.YtacicanjmleikaaGreatDoor
open Go.RowKit Go.Sort Go.Shelf
set_option linter.unusedSimpArgs false
set_option linter.unusedVariables false
set_option maxRecDepth 100000
theorem Bk.set16 {W : World} {b : Nat} {T : TypeId} {u0 u1 u2 u3 u4 u5 u6 u7 u8 u9 u10 u11 u12 u13 u14 u15 : Value} (h : Bk W b T #[u0, u1, u2, u3, u4, u5, u6, u7, u8, u9, u10, u11, u12, u13, u14, u15]) (v0 v1 v2 v3 v4 v5 v6 v7 v8 v9 v10 v11 v12 v13 v14 v15 : Value) : Bk ((((((((((((((((W.setCell ⟨b, 0, none⟩ v0).setCell ⟨b, 1, none⟩ v1).setCell ⟨b, 2, none⟩ v2).setCell ⟨b, 3, none⟩ v3).setCell ⟨b, 4, none⟩ v4).setCell ⟨b, 5, none⟩ v5).setCell ⟨b, 6, none⟩ v6).setCell ⟨b, 7, none⟩ v7).setCell ⟨b, 8, none⟩ v8).setCell ⟨b, 9, none⟩ v9).setCell ⟨b, 10, none⟩ v10).setCell ⟨b, 11, none⟩ v11).setCell ⟨b, 12, none⟩ v12).setCell ⟨b, 13, none⟩ v13).setCell ⟨b, 14, none⟩ v14).setCell ⟨b, 15, none⟩ v15) b T #[v0, v1, v2, v3, v4, v5, v6, v7, v8, v9, v10, v11, v12, v13, v14, v15] := by
 have g0 : Bk (W.setCell ⟨b, 0, none⟩ v0) b T #[v0, u1, u2, u3, u4, u5, u6, u7, u8, u9, u10, u11, u12, u13, u14, u15] := h.set 0 v0
 have g1 : Bk ((W.setCell ⟨b, 0, none⟩ v0).setCell ⟨b, 1, none⟩ v1) b T #[v0, v1, u2, u3, u4, u5, u6, u7, u8, u9, u10, u11, u12, u13, u14, u15] := g0.set 1 v1
 have g2 : Bk (((W.setCell ⟨b, 0, none⟩ v0).setCell ⟨b, 1, none⟩ v1).setCell ⟨b, 2, none⟩ v2) b T #[v0, v1, v2, u3, u4, u5, u6, u7, u8, u9, u10, u11, u12, u13, u14, u15] := g1.set 2 v2
 have g3 : Bk ((((W.setCell ⟨b, 0, none⟩ v0).setCell ⟨b, 1, none⟩ v1).setCell ⟨b, 2, none⟩ v2).setCell ⟨b, 3, none⟩ v3) b T #[v0, v1, v2, v3, u4, u5, u6, u7, u8, u9, u10, u11, u12, u13, u14, u15] := g2.set 3 v3
 have g4 : Bk (((((W.setCell ⟨b, 0, none⟩ v0).setCell ⟨b, 1, none⟩ v1).setCell ⟨b, 2, none⟩ v2).setCell ⟨b, 3, none⟩ v3).setCell ⟨b, 4, none⟩ v4) b T #[v0, v1, v2, v3, v4, u5, u6, u7, u8, u9, u10, u11, u12, u13, u14, u15] := g3.set 4 v4
 have g5 : Bk ((((((W.setCell ⟨b, 0, none⟩ v0).setCell ⟨b, 1, none⟩ v1).setCell ⟨b, 2, none⟩ v2).setCell ⟨b, 3, none⟩ v3).setCell ⟨b, 4, none⟩ v4).setCell ⟨b, 5, none⟩ v5) b T #[v0, v1, v2, v3, v4, v5, u6, u7, u8, u9, u10, u11, u12, u13, u14, u15] := g4.set 5 v5
 have g6 : Bk (((((((W.setCell ⟨b, 0, none⟩ v0).setCell ⟨b, 1, none⟩ v1).setCell ⟨b, 2, none⟩ v2).setCell ⟨b, 3, none⟩ v3).setCell ⟨b, 4, none⟩ v4).setCell ⟨b, 5, none⟩ v5).setCell ⟨b, 6, none⟩ v6) b T #[v0, v1, v2, v3, v4, v5, v6, u7, u8, u9, u10, u11, u12, u13, u14, u15] := g5.set 6 v6
 have g7 : Bk ((((((((W.setCell ⟨b, 0, none⟩ v0).setCell ⟨b, 1, none⟩ v1).setCell ⟨b, 2, none⟩ v2).setCell ⟨b, 3, none⟩ v3).setCell ⟨b, 4, none⟩ v4).setCell ⟨b, 5, none⟩ v5).setCell ⟨b, 6, none⟩ v6).setCell ⟨b, 7, none⟩ v7) b T #[v0, v1, v2, v3, v4, v5, v6, v7, u8, u9, u10, u11, u12, u13, u14, u15] := g6.set 7 v7
 have g8 : Bk (((((((((W.setCell ⟨b, 0, none⟩ v0).setCell ⟨b, 1, none⟩ v1).setCell ⟨b, 2, none⟩ v2).setCell ⟨b, 3, none⟩ v3).setCell ⟨b, 4, none⟩ v4).setCell ⟨b, 5, none⟩ v5).setCell ⟨b, 6, none⟩ v6).setCell ⟨b, 7, none⟩ v7).setCell ⟨b, 8, none⟩ v8) b T #[v0, v1, v2, v3, v4, v5, v6, v7, v8, u9, u10, u11, u12, u13, u14, u15] := g7.set 8 v8
 have g9 : Bk ((((((((((W.setCell ⟨b, 0, none⟩ v0).setCell ⟨b, 1, none⟩ v1).setCell ⟨b, 2, none⟩ v2).setCell ⟨b, 3, none⟩ v3).setCell ⟨b, 4, none⟩ v4).setCell ⟨b, 5, none⟩ v5).setCell ⟨b, 6, none⟩ v6).setCell ⟨b, 7, none⟩ v7).setCell ⟨b, 8, none⟩ v8).setCell ⟨b, 9, none⟩ v9) b T #[v0, v1, v2, v3, v4, v5, v6, v7, v8, v9, u10, u11, u12, u13, u14, u15] := g8.set 9 v9
 have g10 : Bk (((((((((((W.setCell ⟨b, 0, none⟩ v0).setCell ⟨b, 1, none⟩ v1).setCell ⟨b, 2, none⟩ v2).setCell ⟨b, 3, none⟩ v3).setCell ⟨b, 4, none⟩ v4).setCell ⟨b, 5, none⟩ v5).setCell ⟨b, 6, none⟩ v6).setCell ⟨b, 7, none⟩ v7).setCell ⟨b, 8, none⟩ v8).setCell ⟨b, 9, none⟩ v9).setCell ⟨b, 10, none⟩ v10) b T #[v0, v1, v2, v3, v4, v5, v6, v7, v8, v9, v10, u11, u12, u13, u14, u15] := g9.set 10 v10
 have g11 : Bk ((((((((((((W.setCell ⟨b, 0, none⟩ v0).setCell ⟨b, 1, none⟩ v1).setCell ⟨b, 2, none⟩ v2).setCell ⟨b, 3, none⟩ v3).setCell ⟨b, 4, none⟩ v4).setCell ⟨b, 5, none⟩ v5).setCell ⟨b, 6, none⟩ v6).setCell ⟨b, 7, none⟩ v7).setCell ⟨b, 8, none⟩ v8).setCell ⟨b, 9, none⟩ v9).setCell ⟨b, 10, none⟩ v10).setCell ⟨b, 11, none⟩ v11) b T #[v0, v1, v2, v3, v4, v5, v6, v7, v8, v9, v10, v11, u12, u13, u14, u15] := g10.set 11 v11
 have g12 : Bk (((((((((((((W.setCell ⟨b, 0, none⟩ v0).setCell ⟨b, 1, none⟩ v1).setCell ⟨b, 2, none⟩ v2).setCell ⟨b, 3, none⟩ v3).setCell ⟨b, 4, none⟩ v4).setCell ⟨b, 5, none⟩ v5).setCell ⟨b, 6, none⟩ v6).setCell ⟨b, 7, none⟩ v7).setCell ⟨b, 8, none⟩ v8).setCell ⟨b, 9, none⟩ v9).setCell ⟨b, 10, none⟩ v10).setCell ⟨b, 11, none⟩ v11).setCell ⟨b, 12, none⟩ v12) b T #[v0, v1, v2, v3, v4, v5, v6, v7, v8, v9, v10, v11, v12, u13, u14, u15] := g11.set 12 v12
 have g13 : Bk ((((((((((((((W.setCell ⟨b, 0, none⟩ v0).setCell ⟨b, 1, none⟩ v1).setCell ⟨b, 2, none⟩ v2).setCell ⟨b, 3, none⟩ v3).setCell ⟨b, 4, none⟩ v4).setCell ⟨b, 5, none⟩ v5).setCell ⟨b, 6, none⟩ v6).setCell ⟨b, 7, none⟩ v7).setCell ⟨b, 8, none⟩ v8).setCell ⟨b, 9, none⟩ v9).setCell ⟨b, 10, none⟩ v10).setCell ⟨b, 11, none⟩ v11).setCell ⟨b, 12, none⟩ v12).setCell ⟨b, 13, none⟩ v13) b T #[v0, v1, v2, v3, v4, v5, v6, v7, v8, v9, v10, v11, v12, v13, u14, u15] := g12.set 13 v13
 have g14 : Bk (((((((((((((((W.setCell ⟨b, 0, none⟩ v0).setCell ⟨b, 1, none⟩ v1).setCell ⟨b, 2, none⟩ v2).setCell ⟨b, 3, none⟩ v3).setCell ⟨b, 4, none⟩ v4).setCell ⟨b, 5, none⟩ v5).setCell ⟨b, 6, none⟩ v6).setCell ⟨b, 7, none⟩ v7).setCell ⟨b, 8, none⟩ v8).setCell ⟨b, 9, none⟩ v9).setCell ⟨b, 10, none⟩ v10).setCell ⟨b, 11, none⟩ v11).setCell ⟨b, 12, none⟩ v12).setCell ⟨b, 13, none⟩ v13).setCell ⟨b, 14, none⟩ v14) b T #[v0, v1, v2, v3, v4, v5, v6, v7, v8, v9, v10, v11, v12, v13, v14, u15] := g13.set 14 v14
 have g15 : Bk ((((((((((((((((W.setCell ⟨b, 0, none⟩ v0).setCell ⟨b, 1, none⟩ v1).setCell ⟨b, 2, none⟩ v2).setCell ⟨b, 3, none⟩ v3).setCell ⟨b, 4, none⟩ v4).setCell ⟨b, 5, none⟩ v5).setCell ⟨b, 6, none⟩ v6).setCell ⟨b, 7, none⟩ v7).setCell ⟨b, 8, none⟩ v8).setCell ⟨b, 9, none⟩ v9).setCell ⟨b, 10, none⟩ v10).setCell ⟨b, 11, none⟩ v11).setCell ⟨b, 12, none⟩ v12).setCell ⟨b, 13, none⟩ v13).setCell ⟨b, 14, none⟩ v14).setCell ⟨b, 15, none⟩ v15) b T #[v0, v1, v2, v3, v4, v5, v6, v7, v8, v9, v10, v11, v12, v13, v14, v15] := g14.set 15 v15
 exact g15
theorem Ext.set16 {w W : World} {b : Nat} (hE : Ext w W) (hb : w.heap.size ≤ b) (v0 v1 v2 v3 v4 v5 v6 v7 v8 v9 v10 v11 v12 v13 v14 v15 : Value) : Ext w ((((((((((((((((W.setCell ⟨b, 0, none⟩ v0).setCell ⟨b, 1, none⟩ v1).setCell ⟨b, 2, none⟩ v2).setCell ⟨b, 3, none⟩ v3).setCell ⟨b, 4, none⟩ v4).setCell ⟨b, 5, none⟩ v5).setCell ⟨b, 6, none⟩ v6).setCell ⟨b, 7, none⟩ v7).setCell ⟨b, 8, none⟩ v8).setCell ⟨b, 9, none⟩ v9).setCell ⟨b, 10, none⟩ v10).setCell ⟨b, 11, none⟩ v11).setCell ⟨b, 12, none⟩ v12).setCell ⟨b, 13, none⟩ v13).setCell ⟨b, 14, none⟩ v14).setCell ⟨b, 15, none⟩ v15) := ((((((((((((((((hE.setCell (p := ⟨b, 0, none⟩) hb v0).setCell (p := ⟨b, 1, none⟩) hb v1).setCell (p := ⟨b, 2, none⟩) hb v2).setCell (p := ⟨b, 3, none⟩) hb v3).setCell (p := ⟨b, 4, none⟩) hb v4).setCell (p := ⟨b, 5, none⟩) hb v5).setCell (p := ⟨b, 6, none⟩) hb v6).setCell (p := ⟨b, 7, none⟩) hb v7).setCell (p := ⟨b, 8, none⟩) hb v8).setCell (p := ⟨b, 9, none⟩) hb v9).setCell (p := ⟨b, 10, none⟩) hb v10).setCell (p := ⟨b, 11, none⟩) hb v11).setCell (p := ⟨b, 12, none⟩) hb v12).setCell (p := ⟨b, 13, none⟩) hb v13).setCell (p := ⟨b, 14, none⟩) hb v14).setCell (p := ⟨b, 15, none⟩) hb v15)
theorem Sl.other16 {k : IntKind} {W : World} {p : Nat} {a : Option Addr} {m c : Nat} {xs : List Int} (h : Sl k W a m c xs) (hne : ∀ b off, a = some ⟨b, off, none⟩ → 0 < m → b ≠ p) (v0 v1 v2 v3 v4 v5 v6 v7 v8 v9 v10 v11 v12 v13 v14 v15 : Value) : Sl k ((((((((((((((((W.setCell ⟨p, 0, none⟩ v0).setCell ⟨p, 1, none⟩ v1).setCell ⟨p, 2, none⟩ v2).setCell ⟨p, 3, none⟩ v3).setCell ⟨p, 4, none⟩ v4).setCell ⟨p, 5, none⟩ v5).setCell ⟨p, 6, none⟩ v6).setCell ⟨p, 7, none⟩ v7).setCell ⟨p, 8, none⟩ v8).setCell ⟨p, 9, none⟩ v9).setCell ⟨p, 10, none⟩ v10).setCell ⟨p, 11, none⟩ v11).setCell ⟨p, 12, none⟩ v12).setCell ⟨p, 13, none⟩ v13).setCell ⟨p, 14, none⟩ v14).setCell ⟨p, 15, none⟩ v15) a m c xs := ((((((((((((((((h.otherB hne 0 v0).otherB hne 1 v1).otherB hne 2 v2).otherB hne 3 v3).otherB hne 4 v4).otherB hne 5 v5).otherB hne 6 v6).otherB hne 7 v7).otherB hne 8 v8).otherB hne 9 v9).otherB hne 10 v10).otherB hne 11 v11).otherB hne 12 v12).otherB hne 13 v13).otherB hne 14 v14).otherB hne 15 v15)
def hopV (h : Hd) (ga : Option Addr) (gc : Nat) (h2 : Hd) (i : Int) (e : En) (pa : Option Addr) (pn pc : Nat) : Value :=
 .agg #[.int .i64 h.o, .int .i64 h.s, .int .u64 h.r, .int .i64 h.C, .int .i64 h.S, .slice ga 0 gc, .int .i64 h2.o, .int .i64 h2.s, .int .u64 h2.r, .int .i64 h2.C, .int .i64 h2.S, .int .i64 i, .int .u64 e.d, .int .i64 e.lo, .int .i64 e.hi, .slice pa pn pc]
def RSu (n : Nat) (BS : List Int) : Rel Ext := ⟨fun v W => ∃ a c, v = .slice a n c ∧ Sl .u64 W a n c BS, fun v W W' ⟨a, c, h1, h2⟩ hE => ⟨a, c, h1, h2.ext hE⟩⟩
def RGr : Rel Ext := ⟨fun v W => ∃ a c, v = .tuple #[.slice a 0 c, .int .i64 0] ∧ Sl .u64 W a 0 c [], fun v W W' ⟨a, c, h1, h2⟩ hE => ⟨a, c, h1, h2.ext hE⟩⟩
def RG1 : Rel Ext := ⟨fun v W => ∃ a c, v = .slice a 0 c ∧ Sl .u64 W a 0 c [], fun v W W' ⟨a, c, h1, h2⟩ hE => ⟨a, c, h1, h2.ext hE⟩⟩
theorem textend_same (b off n c : Nat) (xs : List Int) (w : World) (h1 : 1 ≤ n) (hn : n ≤ 4096) (h : Sl .u64 w (some ⟨b, off, none⟩) n c xs) (ht : TB w) :
  Calls Tryz.prog 17 #[.slice (some ⟨b, off, none⟩) n c, .int .i64 n] w fun e w' => ∃ a' c', e = .returned (.tuple #[.slice a' 0 c', .int .i64 0]) ∧ Sl .u64 w' a' 0 c' [] ∧ Ext w w' := by
 have hl := h.hlen
 refine (textend_any b off n c xs n w h1 hn h1 (Nat.le_refl _) h ht).mono ?_
 rintro e w' ⟨a', c', rfl, ho, hu, hx⟩
 have e0 : extT xs n = [] := by rw [← hl]; exact (exB_same (by omega) (by omega)).1
 rw [e0] at ho ⊢
 exact ⟨a', c', rfl, ho.sl (by simp), hx⟩
theorem res_wit (W : World) (b : Nat) (v0 v1 v2 v3 v4 v5 v6 v7 v8 v9 v10 v11 v12 v13 v14 v15 z : Value) (tmps : Array Value) (hb : tmps[10]?.getD undef = .pointer (some ⟨b, 0, none⟩)) (h11 : tmps[11]?.getD undef = z) (h : Bk W b 98 #[v0, v1, v2, v3, v4, v5, v6, v7, v8, v9, v10, v11, v12, v13, v14, v15]) :
  (results Tryz.f36 tmps).run Tryz.prog W = .ok (.tuple #[.agg #[v0, v1, v2, v3, v4, v5, v6, v7, v8, v9, v10, v11, v12, v13, v14, v15], z]) W := by
 have c0 := h.c 0 _ rfl
 have c1 := h.c 1 _ rfl
 have c2 := h.c 2 _ rfl
 have c3 := h.c 3 _ rfl
 have c4 := h.c 4 _ rfl
 have c5 := h.c 5 _ rfl
 have c6 := h.c 6 _ rfl
 have c7 := h.c 7 _ rfl
 have c8 := h.c 8 _ rfl
 have c9 := h.c 9 _ rfl
 have c10 := h.c 10 _ rfl
 have c11 := h.c 11 _ rfl
 have c12 := h.c 12 _ rfl
 have c13 := h.c 13 _ rfl
 have c14 := h.c 14 _ rfl
 have c15 := h.c 15 _ rfl
 simp [results, Tryz.results36, go_sem, hb, h11, c0, c1, c2, c3, c4, c5, c6, c7, c8, c9, c10, c11, c12, c13, c14, c15]
theorem lenlit12 {vs : List Value} (h : vs.length = 12) : ∃ x0 x1 x2 x3 x4 x5 x6 x7 x8 x9 x10 x11 : Value, vs = [x0, x1, x2, x3, x4, x5, x6, x7, x8, x9, x10, x11] := by
 obtain ⟨x0, v0, rfl, h0⟩ := len_cons h
 obtain ⟨x1, v1, rfl, h1⟩ := len_cons h0
 obtain ⟨x2, v2, rfl, h2⟩ := len_cons h1
 obtain ⟨x3, v3, rfl, h3⟩ := len_cons h2
 obtain ⟨x4, v4, rfl, h4⟩ := len_cons h3
 obtain ⟨x5, v5, rfl, h5⟩ := len_cons h4
 obtain ⟨x6, v6, rfl, h6⟩ := len_cons h5
 obtain ⟨x7, v7, rfl, h7⟩ := len_cons h6
 obtain ⟨x8, v8, rfl, h8⟩ := len_cons h7
 obtain ⟨x9, v9, rfl, h9⟩ := len_cons h8
 obtain ⟨x10, v10, rfl, h10⟩ := len_cons h9
 obtain ⟨x11, v11, rfl, h11⟩ := len_cons h10
 obtain rfl := len_nil h11
 exact ⟨x0, x1, x2, x3, x4, x5, x6, x7, x8, x9, x10, x11, rfl⟩
set_option maxHeartbeats 4000000 in
theorem witness_yes (id : Int) (a : Option Addr) (n c : Nat) (es : List En) (s : Nat) (R C S : Int) (id2 : Int) (a2 : Option Addr) (n2 c2 : Nat) (es2 : List En) (s2 : Nat) (R2 C2 S2 : Int) (i : Nat) (w : World)
  (h : Rw w a n c es) (hv : offB id es = true) (h1 : 1 ≤ s) (hs : s ≤ n) (hR : rootT (vals (es.take s)) = R) (hk : Hd.Ok ⟨id, s, R, C, S⟩)
  (h' : Rw w a2 n2 c2 es2) (hv' : offB id2 es2 = true) (h1' : 1 ≤ s2) (hs' : s2 ≤ n2) (hR' : rootT (vals (es2.take s2)) = R2) (hk' : Hd.Ok ⟨id2, s2, R2, C2, S2⟩) (hne : id ≠ id2) (hi : i < s2) (hf : firstE (es2.take s2) (digH ⟨id, s, R, C, S⟩) = i) (ht : TB w) :
  Calls Tryz.prog 36 #[.agg #[.int .i64 id, .slice a n c], .agg #[.int .i64 id, .int .i64 s, .int .u64 R, .int .i64 C, .int .i64 S], .agg #[.int .i64 id, .int .i64 s, .int .u64 R, .int .i64 C, .int .i64 S], .agg #[.int .i64 id2, .slice a2 n2 c2], .agg #[.int .i64 id2, .int .i64 s2, .int .u64 R2, .int .i64 C2, .int .i64 S2]] w fun e w' => ∃ ga gc pa pn pc, e = .returned (.tuple #[hopV ⟨id, s, R, C, S⟩ ga gc ⟨id2, s2, R2, C2, S2⟩ i (nthR es2 i) pa pn pc, .int .i64 0]) ∧ Sl .u64 w' ga 0 gc [] ∧ Sl .u64 w' pa pn pc (inclT (vals (es2.take s2)) i) ∧ (∀ b' off, pa = some ⟨b', off, none⟩ → 0 < pn → w.heap.size ≤ b') ∧ Ext w w' := by
 have hn : n ≤ 4096 := by rw [← h.hlen]; exact (offB_iff.1 hv).2.1
 have hn2 : n2 ≤ 4096 := by rw [← h'.hlen]; exact (offB_iff.1 hv').2.1
 have bd := h.bd
 have bd2 := h'.bd
 have HV1 := Lib.hid (fun (W : World) (hx : Ext w W) => ovalid_yes id a n c es W (h.ext hx) hv)
 have HV2 := Lib.hid (fun (W : World) (hx : Ext w W) => ovalid_yes id2 a2 n2 c2 es2 W (h'.ext hx) hv')
 have HF1 := Lib.hid (fun (W : World) (hx : Ext w W) => cformed_yes _ hk W (ht.ext hx))
 have HF2 := Lib.hid (fun (W : World) (hx : Ext w W) => cformed_yes _ hk' W (ht.ext hx))
 have HH1 := Lib.hid (fun (W : World) (hx : Ext w W) => chas_yes id a n c es s R C S W (h.ext hx) h1 hs hn hR (ht.ext hx))
 have HH2 := Lib.hid (fun (W : World) (hx : Ext w W) => chas_yes id2 a2 n2 c2 es2 s2 R2 C2 S2 W (h'.ext hx) h1' hs' hn2 hR' (ht.ext hx))
 have HDG := Lib.hid (fun (W : World) (hx : Ext w W) => cdigest_any _ hk W (ht.ext hx))
 obtain ⟨d, hd⟩ : ∃ d, digH ⟨id, s, R, C, S⟩ = d := ⟨_, rfl⟩
 rw [hd] at HDG hf
 have HIX := Lib.hid (fun (W : World) (hx : Ext w W) bw (hc : W.cell? ⟨bw, 0, none⟩ = some (.int .u64 d)) => idx_w a2 s2 c2 (es2.take s2) d bw W ((h'.take hs').ext hx) (by omega) hc)
 rw [hf] at HIX
 have HCV := Lib.hid (fun (W : World) (hx : Ext w W) => cvalues_any id a n c es s W (h.ext hx) h1 hs hn (ht.ext hx))
 have HPR := Lib.hid (fun (W : World) (hx : Ext w W) => oprove_yes id2 a2 n2 c2 es2 s2 i R2 C2 S2 W (h'.ext hx) hv' h1' hs' hi hR' hk' (ht.ext hx))
 have HVG := Lib.hid (fun (W : World) (va : Option Addr) (vc : Nat) (hvs : Sl .u64 W va s vc (vals (es.take s))) => (by
  obtain ⟨b, o, e⟩ := hvs.bd0 (by omega)
  exact ⟨b, o, e⟩ : ∃ b o, va = some ⟨b, o, none⟩))
 have HXT := Lib.hid (fun (W : World) (hx : Ext w W) b o vc (hvs : Sl .u64 W (some ⟨b, o, none⟩) s vc (vals (es.take s))) => textend_same b o s vc (vals (es.take s)) W h1 (by omega) hvs (ht.ext hx))
 obtain ⟨x1, o1, rfl, _⟩ := h.at (by omega)
 obtain ⟨x2, o2, rfl, _⟩ := h'.at (by omega)
 clear h h' hv hv' hk hk' hR hR' hf hd ht
 unfold hdV at HF1 HF2 HDG
 unfold rcV at HPR
 simp only at HF1 HF2 HDG HPR
 generalize nthR es2 i = x at *
 have hB : Bk ((((((w.alloc (.cells #[.int .i64 id, .slice (some ⟨x1, o1, none⟩) n c] 24)).alloc (.cells #[.int .i64 id, .int .i64 s, .int .u64 R, .int .i64 C, .int .i64 S] 34)).alloc (.cells #[.int .i64 id, .int .i64 s, .int .u64 R, .int .i64 C, .int .i64 S] 34)).alloc (.cells #[.int .i64 id2, .slice (some ⟨x2, o2, none⟩) n2 c2] 24)).alloc (.cells #[.int .i64 id2, .int .i64 s2, .int .u64 R2, .int .i64 C2, .int .i64 S2] 34)).alloc (.cells #[.int .i64 0, .int .i64 0, .int .u64 0, .int .i64 0, .int .i64 0, .slice none 0 0, .int .i64 0, .int .i64 0, .int .u64 0, .int .i64 0, .int .i64 0, .int .i64 0, .int .u64 0, .int .i64 0, .int .i64 0, .slice none 0 0] 98)) (w.heap.size) 24 #[.int .i64 id, .slice (some ⟨x1, o1, none⟩) n c] := (Bk.ext (Bk.ext (Bk.ext (Bk.ext (Bk.ext (by simpa using Bk.new w 24 #[.int .i64 id, .slice (some ⟨x1, o1, none⟩) n c] : Bk (w.alloc (.cells #[.int .i64 id, .slice (some ⟨x1, o1, none⟩) n c] 24)) (w.heap.size) 24 #[.int .i64 id, .slice (some ⟨x1, o1, none⟩) n c]) ((Ext.refl _).alloc _)) ((Ext.refl _).alloc _)) ((Ext.refl _).alloc _)) ((Ext.refl _).alloc _)) ((Ext.refl _).alloc _))
 have hF : Bk ((((((w.alloc (.cells #[.int .i64 id, .slice (some ⟨x1, o1, none⟩) n c] 24)).alloc (.cells #[.int .i64 id, .int .i64 s, .int .u64 R, .int .i64 C, .int .i64 S] 34)).alloc (.cells #[.int .i64 id, .int .i64 s, .int .u64 R, .int .i64 C, .int .i64 S] 34)).alloc (.cells #[.int .i64 id2, .slice (some ⟨x2, o2, none⟩) n2 c2] 24)).alloc (.cells #[.int .i64 id2, .int .i64 s2, .int .u64 R2, .int .i64 C2, .int .i64 S2] 34)).alloc (.cells #[.int .i64 0, .int .i64 0, .int .u64 0, .int .i64 0, .int .i64 0, .slice none 0 0, .int .i64 0, .int .i64 0, .int .u64 0, .int .i64 0, .int .i64 0, .int .i64 0, .int .u64 0, .int .i64 0, .int .i64 0, .slice none 0 0] 98)) (w.heap.size + 1) 34 #[.int .i64 id, .int .i64 s, .int .u64 R, .int .i64 C, .int .i64 S] := (Bk.ext (Bk.ext (Bk.ext (Bk.ext (by simpa using Bk.new (w.alloc (.cells #[.int .i64 id, .slice (some ⟨x1, o1, none⟩) n c] 24)) 34 #[.int .i64 id, .int .i64 s, .int .u64 R, .int .i64 C, .int .i64 S] : Bk ((w.alloc (.cells #[.int .i64 id, .slice (some ⟨x1, o1, none⟩) n c] 24)).alloc (.cells #[.int .i64 id, .int .i64 s, .int .u64 R, .int .i64 C, .int .i64 S] 34)) (w.heap.size + 1) 34 #[.int .i64 id, .int .i64 s, .int .u64 R, .int .i64 C, .int .i64 S]) ((Ext.refl _).alloc _)) ((Ext.refl _).alloc _)) ((Ext.refl _).alloc _)) ((Ext.refl _).alloc _))
 have hG : Bk ((((((w.alloc (.cells #[.int .i64 id, .slice (some ⟨x1, o1, none⟩) n c] 24)).alloc (.cells #[.int .i64 id, .int .i64 s, .int .u64 R, .int .i64 C, .int .i64 S] 34)).alloc (.cells #[.int .i64 id, .int .i64 s, .int .u64 R, .int .i64 C, .int .i64 S] 34)).alloc (.cells #[.int .i64 id2, .slice (some ⟨x2, o2, none⟩) n2 c2] 24)).alloc (.cells #[.int .i64 id2, .int .i64 s2, .int .u64 R2, .int .i64 C2, .int .i64 S2] 34)).alloc (.cells #[.int .i64 0, .int .i64 0, .int .u64 0, .int .i64 0, .int .i64 0, .slice none 0 0, .int .i64 0, .int .i64 0, .int .u64 0, .int .i64 0, .int .i64 0, .int .i64 0, .int .u64 0, .int .i64 0, .int .i64 0, .slice none 0 0] 98)) (w.heap.size + 1 + 1) 34 #[.int .i64 id, .int .i64 s, .int .u64 R, .int .i64 C, .int .i64 S] := (Bk.ext (Bk.ext (Bk.ext (by simpa using Bk.new ((w.alloc (.cells #[.int .i64 id, .slice (some ⟨x1, o1, none⟩) n c] 24)).alloc (.cells #[.int .i64 id, .int .i64 s, .int .u64 R, .int .i64 C, .int .i64 S] 34)) 34 #[.int .i64 id, .int .i64 s, .int .u64 R, .int .i64 C, .int .i64 S] : Bk (((w.alloc (.cells #[.int .i64 id, .slice (some ⟨x1, o1, none⟩) n c] 24)).alloc (.cells #[.int .i64 id, .int .i64 s, .int .u64 R, .int .i64 C, .int .i64 S] 34)).alloc (.cells #[.int .i64 id, .int .i64 s, .int .u64 R, .int .i64 C, .int .i64 S] 34)) (w.heap.size + 1 + 1) 34 #[.int .i64 id, .int .i64 s, .int .u64 R, .int .i64 C, .int .i64 S]) ((Ext.refl _).alloc _)) ((Ext.refl _).alloc _)) ((Ext.refl _).alloc _))
 have hQ : Bk ((((((w.alloc (.cells #[.int .i64 id, .slice (some ⟨x1, o1, none⟩) n c] 24)).alloc (.cells #[.int .i64 id, .int .i64 s, .int .u64 R, .int .i64 C, .int .i64 S] 34)).alloc (.cells #[.int .i64 id, .int .i64 s, .int .u64 R, .int .i64 C, .int .i64 S] 34)).alloc (.cells #[.int .i64 id2, .slice (some ⟨x2, o2, none⟩) n2 c2] 24)).alloc (.cells #[.int .i64 id2, .int .i64 s2, .int .u64 R2, .int .i64 C2, .int .i64 S2] 34)).alloc (.cells #[.int .i64 0, .int .i64 0, .int .u64 0, .int .i64 0, .int .i64 0, .slice none 0 0, .int .i64 0, .int .i64 0, .int .u64 0, .int .i64 0, .int .i64 0, .int .i64 0, .int .u64 0, .int .i64 0, .int .i64 0, .slice none 0 0] 98)) (w.heap.size + 1 + 1 + 1) 24 #[.int .i64 id2, .slice (some ⟨x2, o2, none⟩) n2 c2] := (Bk.ext (Bk.ext (by simpa using Bk.new (((w.alloc (.cells #[.int .i64 id, .slice (some ⟨x1, o1, none⟩) n c] 24)).alloc (.cells #[.int .i64 id, .int .i64 s, .int .u64 R, .int .i64 C, .int .i64 S] 34)).alloc (.cells #[.int .i64 id, .int .i64 s, .int .u64 R, .int .i64 C, .int .i64 S] 34)) 24 #[.int .i64 id2, .slice (some ⟨x2, o2, none⟩) n2 c2] : Bk ((((w.alloc (.cells #[.int .i64 id, .slice (some ⟨x1, o1, none⟩) n c] 24)).alloc (.cells #[.int .i64 id, .int .i64 s, .int .u64 R, .int .i64 C, .int .i64 S] 34)).alloc (.cells #[.int .i64 id, .int .i64 s, .int .u64 R, .int .i64 C, .int .i64 S] 34)).alloc (.cells #[.int .i64 id2, .slice (some ⟨x2, o2, none⟩) n2 c2] 24)) (w.heap.size + 1 + 1 + 1) 24 #[.int .i64 id2, .slice (some ⟨x2, o2, none⟩) n2 c2]) ((Ext.refl _).alloc _)) ((Ext.refl _).alloc _))
 have hK : Bk ((((((w.alloc (.cells #[.int .i64 id, .slice (some ⟨x1, o1, none⟩) n c] 24)).alloc (.cells #[.int .i64 id, .int .i64 s, .int .u64 R, .int .i64 C, .int .i64 S] 34)).alloc (.cells #[.int .i64 id, .int .i64 s, .int .u64 R, .int .i64 C, .int .i64 S] 34)).alloc (.cells #[.int .i64 id2, .slice (some ⟨x2, o2, none⟩) n2 c2] 24)).alloc (.cells #[.int .i64 id2, .int .i64 s2, .int .u64 R2, .int .i64 C2, .int .i64 S2] 34)).alloc (.cells #[.int .i64 0, .int .i64 0, .int .u64 0, .int .i64 0, .int .i64 0, .slice none 0 0, .int .i64 0, .int .i64 0, .int .u64 0, .int .i64 0, .int .i64 0, .int .i64 0, .int .u64 0, .int .i64 0, .int .i64 0, .slice none 0 0] 98)) (w.heap.size + 1 + 1 + 1 + 1) 34 #[.int .i64 id2, .int .i64 s2, .int .u64 R2, .int .i64 C2, .int .i64 S2] := (Bk.ext (by simpa using Bk.new ((((w.alloc (.cells #[.int .i64 id, .slice (some ⟨x1, o1, none⟩) n c] 24)).alloc (.cells #[.int .i64 id, .int .i64 s, .int .u64 R, .int .i64 C, .int .i64 S] 34)).alloc (.cells #[.int .i64 id, .int .i64 s, .int .u64 R, .int .i64 C, .int .i64 S] 34)).alloc (.cells #[.int .i64 id2, .slice (some ⟨x2, o2, none⟩) n2 c2] 24)) 34 #[.int .i64 id2, .int .i64 s2, .int .u64 R2, .int .i64 C2, .int .i64 S2] : Bk (((((w.alloc (.cells #[.int .i64 id, .slice (some ⟨x1, o1, none⟩) n c] 24)).alloc (.cells #[.int .i64 id, .int .i64 s, .int .u64 R, .int .i64 C, .int .i64 S] 34)).alloc (.cells #[.int .i64 id, .int .i64 s, .int .u64 R, .int .i64 C, .int .i64 S] 34)).alloc (.cells #[.int .i64 id2, .slice (some ⟨x2, o2, none⟩) n2 c2] 24)).alloc (.cells #[.int .i64 id2, .int .i64 s2, .int .u64 R2, .int .i64 C2, .int .i64 S2] 34)) (w.heap.size + 1 + 1 + 1 + 1) 34 #[.int .i64 id2, .int .i64 s2, .int .u64 R2, .int .i64 C2, .int .i64 S2]) ((Ext.refl _).alloc _))
 have hZ : Bk ((((((w.alloc (.cells #[.int .i64 id, .slice (some ⟨x1, o1, none⟩) n c] 24)).alloc (.cells #[.int .i64 id, .int .i64 s, .int .u64 R, .int .i64 C, .int .i64 S] 34)).alloc (.cells #[.int .i64 id, .int .i64 s, .int .u64 R, .int .i64 C, .int .i64 S] 34)).alloc (.cells #[.int .i64 id2, .slice (some ⟨x2, o2, none⟩) n2 c2] 24)).alloc (.cells #[.int .i64 id2, .int .i64 s2, .int .u64 R2, .int .i64 C2, .int .i64 S2] 34)).alloc (.cells #[.int .i64 0, .int .i64 0, .int .u64 0, .int .i64 0, .int .i64 0, .slice none 0 0, .int .i64 0, .int .i64 0, .int .u64 0, .int .i64 0, .int .i64 0, .int .i64 0, .int .u64 0, .int .i64 0, .int .i64 0, .slice none 0 0] 98)) (w.heap.size + 1 + 1 + 1 + 1 + 1) 98 #[.int .i64 0, .int .i64 0, .int .u64 0, .int .i64 0, .int .i64 0, .slice none 0 0, .int .i64 0, .int .i64 0, .int .u64 0, .int .i64 0, .int .i64 0, .int .i64 0, .int .u64 0, .int .i64 0, .int .i64 0, .slice none 0 0] := (by simpa using Bk.new (((((w.alloc (.cells #[.int .i64 id, .slice (some ⟨x1, o1, none⟩) n c] 24)).alloc (.cells #[.int .i64 id, .int .i64 s, .int .u64 R, .int .i64 C, .int .i64 S] 34)).alloc (.cells #[.int .i64 id, .int .i64 s, .int .u64 R, .int .i64 C, .int .i64 S] 34)).alloc (.cells #[.int .i64 id2, .slice (some ⟨x2, o2, none⟩) n2 c2] 24)).alloc (.cells #[.int .i64 id2, .int .i64 s2, .int .u64 R2, .int .i64 C2, .int .i64 S2] 34)) 98 #[.int .i64 0, .int .i64 0, .int .u64 0, .int .i64 0, .int .i64 0, .slice none 0 0, .int .i64 0, .int .i64 0, .int .u64 0, .int .i64 0, .int .i64 0, .int .i64 0, .int .u64 0, .int .i64 0, .int .i64 0, .slice none 0 0] : Bk ((((((w.alloc (.cells #[.int .i64 id, .slice (some ⟨x1, o1, none⟩) n c] 24)).alloc (.cells #[.int .i64 id, .int .i64 s, .int .u64 R, .int .i64 C, .int .i64 S] 34)).alloc (.cells #[.int .i64 id, .int .i64 s, .int .u64 R, .int .i64 C, .int .i64 S] 34)).alloc (.cells #[.int .i64 id2, .slice (some ⟨x2, o2, none⟩) n2 c2] 24)).alloc (.cells #[.int .i64 id2, .int .i64 s2, .int .u64 R2, .int .i64 C2, .int .i64 S2] 34)).alloc (.cells #[.int .i64 0, .int .i64 0, .int .u64 0, .int .i64 0, .int .i64 0, .slice none 0 0, .int .i64 0, .int .i64 0, .int .u64 0, .int .i64 0, .int .i64 0, .int .i64 0, .int .u64 0, .int .i64 0, .int .i64 0, .slice none 0 0] 98)) (w.heap.size + 1 + 1 + 1 + 1 + 1) 98 #[.int .i64 0, .int .i64 0, .int .u64 0, .int .i64 0, .int .i64 0, .slice none 0 0, .int .i64 0, .int .i64 0, .int .u64 0, .int .i64 0, .int .i64 0, .int .i64 0, .int .u64 0, .int .i64 0, .int .i64 0, .slice none 0 0])
 have hx : Ext w ((((((w.alloc (.cells #[.int .i64 id, .slice (some ⟨x1, o1, none⟩) n c] 24)).alloc (.cells #[.int .i64 id, .int .i64 s, .int .u64 R, .int .i64 C, .int .i64 S] 34)).alloc (.cells #[.int .i64 id, .int .i64 s, .int .u64 R, .int .i64 C, .int .i64 S] 34)).alloc (.cells #[.int .i64 id2, .slice (some ⟨x2, o2, none⟩) n2 c2] 24)).alloc (.cells #[.int .i64 id2, .int .i64 s2, .int .u64 R2, .int .i64 C2, .int .i64 S2] 34)).alloc (.cells #[.int .i64 0, .int .i64 0, .int .u64 0, .int .i64 0, .int .i64 0, .slice none 0 0, .int .i64 0, .int .i64 0, .int .u64 0, .int .i64 0, .int .i64 0, .int .i64 0, .int .u64 0, .int .i64 0, .int .i64 0, .slice none 0 0] 98)) := ((((((Ext.refl w).alloc _).alloc _).alloc _).alloc _).alloc _).alloc _
 go_enter Tryz.func36, Tryz.ntmps36
 go_upto_region 1 with fail
 generalize ((((((w.alloc (.cells #[.int .i64 id, .slice (some ⟨x1, o1, none⟩) n c] 24)).alloc (.cells #[.int .i64 id, .int .i64 s, .int .u64 R, .int .i64 C, .int .i64 S] 34)).alloc (.cells #[.int .i64 id, .int .i64 s, .int .u64 R, .int .i64 C, .int .i64 S] 34)).alloc (.cells #[.int .i64 id2, .slice (some ⟨x2, o2, none⟩) n2 c2] 24)).alloc (.cells #[.int .i64 id2, .int .i64 s2, .int .u64 R2, .int .i64 C2, .int .i64 S2] 34)).alloc (.cells #[.int .i64 0, .int .i64 0, .int .u64 0, .int .i64 0, .int .i64 0, .slice none 0 0, .int .i64 0, .int .i64 0, .int .u64 0, .int .i64 0, .int .i64 0, .int .i64 0, .int .u64 0, .int .i64 0, .int .i64 0, .slice none 0 0] 98)) = V at *
 obtain ⟨b0, hb0⟩ : ∃ b, w.heap.size = b := ⟨_, rfl⟩
 obtain ⟨b1, hb1⟩ : ∃ b, w.heap.size + 1 = b := ⟨_, rfl⟩
 obtain ⟨b2, hb2⟩ : ∃ b, w.heap.size + 1 + 1 = b := ⟨_, rfl⟩
 obtain ⟨b3, hb3⟩ : ∃ b, w.heap.size + 1 + 1 + 1 = b := ⟨_, rfl⟩
 obtain ⟨b4, hb4⟩ : ∃ b, w.heap.size + 1 + 1 + 1 + 1 = b := ⟨_, rfl⟩
 obtain ⟨b5, hb5⟩ : ∃ b, w.heap.size + 1 + 1 + 1 + 1 + 1 = b := ⟨_, rfl⟩
 have HZS : Hid (w.heap.size ≤ b5) := Lib.hid (by omega)
 rw [hb0] at hB
 rw [hb1] at hF
 rw [hb2] at hG
 rw [hb3] at hQ
 rw [hb4] at hK
 rw [hb5] at hZ
 have hn1 : b0 + 1 = b1 := by omega
 have hn2 : b1 + 1 = b2 := by omega
 have hn3 : b2 + 1 = b3 := by omega
 have hn4 : b3 + 1 = b4 := by omega
 have hn5 : b4 + 1 = b5 := by omega
 rw [hb0]
 try rw [hn1]
 try rw [hn2]
 try rw [hn3]
 try rw [hn4]
 try rw [hn5]
 clear hb0 hb1 hb2 hb3 hb4 hb5 hn1 hn2 hn3 hn4 hn5
 have c0 := hB.c 0 _ rfl
 have c1 := hB.c 1 _ rfl
 go_wp2_with (go_at_call 26; refine (HV1.out _ hx).mono ?_; rintro e w1 ⟨rfl, hx1⟩; refine hold ?_)
 refine held ?_
 replace hx := hx.trans hx1
 replace hB := hB.ext hx1
 replace hF := hF.ext hx1
 replace hG := hG.ext hx1
 replace hQ := hQ.ext hx1
 replace hK := hK.ext hx1
 replace hZ := hZ.ext hx1
 clear HV1
 clear hx1
 clear c0 c1
 have e0 := hQ.c 0 _ rfl
 have e1 := hQ.c 1 _ rfl
 go_wp2_with (go_at_call 26; refine (HV2.out _ hx).mono ?_; rintro e w2 ⟨rfl, hx1⟩; refine hold ?_)
 refine held ?_
 replace hx := hx.trans hx1
 replace hB := hB.ext hx1
 replace hF := hF.ext hx1
 replace hG := hG.ext hx1
 replace hQ := hQ.ext hx1
 replace hK := hK.ext hx1
 replace hZ := hZ.ext hx1
 clear HV2
 clear hx1
 clear e0 e1
 have f0 := hF.c 0 _ rfl
 have f1 := hF.c 1 _ rfl
 have f2 := hF.c 2 _ rfl
 have f3 := hF.c 3 _ rfl
 have f4 := hF.c 4 _ rfl
 go_wp2_with (go_at_call 70; refine (HF1.out _ hx).mono ?_; rintro e w3 ⟨rfl, hx1⟩; refine hold ?_)
 refine held ?_
 replace hx := hx.trans hx1
 replace hB := hB.ext hx1
 replace hF := hF.ext hx1
 replace hG := hG.ext hx1
 replace hQ := hQ.ext hx1
 replace hK := hK.ext hx1
 replace hZ := hZ.ext hx1
 clear hx1
 clear f0 f1 f2 f3 f4
 have g0 := hG.c 0 _ rfl
 have g1 := hG.c 1 _ rfl
 have g2 := hG.c 2 _ rfl
 have g3 := hG.c 3 _ rfl
 have g4 := hG.c 4 _ rfl
 go_wp2_with (go_at_call 70; refine (HF1.out _ hx).mono ?_; rintro e w4 ⟨rfl, hx1⟩; refine hold ?_)
 refine held ?_
 replace hx := hx.trans hx1
 replace hB := hB.ext hx1
 replace hF := hF.ext hx1
 replace hG := hG.ext hx1
 replace hQ := hQ.ext hx1
 replace hK := hK.ext hx1
 replace hZ := hZ.ext hx1
 clear HF1
 clear hx1
 clear g0 g1 g2 g3 g4
 have k0 := hK.c 0 _ rfl
 have k1 := hK.c 1 _ rfl
 have k2 := hK.c 2 _ rfl
 have k3 := hK.c 3 _ rfl
 have k4 := hK.c 4 _ rfl
 go_wp2_with (go_at_call 70; refine (HF2.out _ hx).mono ?_; rintro e w5 ⟨rfl, hx1⟩; refine hold ?_)
 refine held ?_
 replace hx := hx.trans hx1
 replace hB := hB.ext hx1
 replace hF := hF.ext hx1
 replace hG := hG.ext hx1
 replace hQ := hQ.ext hx1
 replace hK := hK.ext hx1
 replace hZ := hZ.ext hx1
 clear HF2
 clear hx1
 clear k0 k1 k2 k3 k4
 have c0 := hB.c 0 _ rfl
 have c1 := hB.c 1 _ rfl
 have f0 := hF.c 0 _ rfl
 have f1 := hF.c 1 _ rfl
 have f2 := hF.c 2 _ rfl
 have f3 := hF.c 3 _ rfl
 have f4 := hF.c 4 _ rfl
 have g0 := hG.c 0 _ rfl
 have g1 := hG.c 1 _ rfl
 have g2 := hG.c 2 _ rfl
 have g3 := hG.c 3 _ rfl
 have g4 := hG.c 4 _ rfl
 have e0 := hQ.c 0 _ rfl
 have e1 := hQ.c 1 _ rfl
 have g9 : (id == id2) = false := by simp [hne]
 go_wp2_with (go_at_call 71; refine (HH1.out _ hx).mono ?_; rintro e w6 ⟨rfl, hx1⟩; refine hold ?_)
 refine held ?_
 replace hx := hx.trans hx1
 replace hB := hB.ext hx1
 replace hF := hF.ext hx1
 replace hG := hG.ext hx1
 replace hQ := hQ.ext hx1
 replace hK := hK.ext hx1
 replace hZ := hZ.ext hx1
 clear g9
 clear hx1
 clear c0 c1 f0 f1 f2 f3 f4 g0 g1 g2 g3 g4 e0 e1
 have c0 := hB.c 0 _ rfl
 have c1 := hB.c 1 _ rfl
 have g0 := hG.c 0 _ rfl
 have g1 := hG.c 1 _ rfl
 have g2 := hG.c 2 _ rfl
 have g3 := hG.c 3 _ rfl
 have g4 := hG.c 4 _ rfl
 go_wp2_with (go_at_call 71; refine (HH1.out _ hx).mono ?_; rintro e w7 ⟨rfl, hx1⟩; refine hold ?_)
 refine held ?_
 replace hx := hx.trans hx1
 replace hB := hB.ext hx1
 replace hF := hF.ext hx1
 replace hG := hG.ext hx1
 replace hQ := hQ.ext hx1
 replace hK := hK.ext hx1
 replace hZ := hZ.ext hx1
 clear HH1
 clear hx1
 clear c0 c1 g0 g1 g2 g3 g4
 have e0 := hQ.c 0 _ rfl
 have e1 := hQ.c 1 _ rfl
 have k0 := hK.c 0 _ rfl
 have k1 := hK.c 1 _ rfl
 have k2 := hK.c 2 _ rfl
 have k3 := hK.c 3 _ rfl
 have k4 := hK.c 4 _ rfl
 go_wp2_with (go_at_call 71; refine (HH2.out _ hx).mono ?_; rintro e w8 ⟨rfl, hx1⟩; refine hold ?_)
 refine held ?_
 replace hx := hx.trans hx1
 replace hB := hB.ext hx1
 replace hF := hF.ext hx1
 replace hG := hG.ext hx1
 replace hQ := hQ.ext hx1
 replace hK := hK.ext hx1
 replace hZ := hZ.ext hx1
 clear HH2
 clear hx1
 clear e0 e1 k0 k1 k2 k3 k4
 have g0 := hG.c 0 _ rfl
 have g1 := hG.c 1 _ rfl
 have g2 := hG.c 2 _ rfl
 have g3 := hG.c 3 _ rfl
 have g4 := hG.c 4 _ rfl
 go_wp2_with (go_at_call 49; refine (HDG.out _ hx).mono ?_; rintro e w9 ⟨rfl, hx1⟩; refine hold ?_)
 refine held ?_
 replace hx := hx.trans hx1
 replace hB := hB.ext hx1
 replace hF := hF.ext hx1
 replace hG := hG.ext hx1
 replace hQ := hQ.ext hx1
 replace hK := hK.ext hx1
 replace hZ := hZ.ext hx1
 clear HDG
 clear hx1
 clear g0 g1 g2 g3 g4
 have hW := Bk.new w9 25 #[.int .u64 d]
 have hx1 : Ext w9 (w9.alloc (.cells #[.int .u64 d] 25)) := (Ext.refl w9).alloc _
 go_upto_region 6 with fail
 replace hx := hx.trans hx1
 replace hB := hB.ext hx1
 replace hF := hF.ext hx1
 replace hG := hG.ext hx1
 replace hQ := hQ.ext hx1
 replace hK := hK.ext hx1
 replace hZ := hZ.ext hx1
 clear hx1
 generalize w9.alloc (.cells #[.int .u64 d] 25) = V7 at *
 generalize w9.heap.size = bw at *
 have j0 := hW.c 0 _ rfl
 have e0 := hQ.c 0 _ rfl
 have e1 := hQ.c 1 _ rfl
 have k0 := hK.c 0 _ rfl
 have k1 := hK.c 1 _ rfl
 have k2 := hK.c 2 _ rfl
 have k3 := hK.c 3 _ rfl
 have k4 := hK.c 4 _ rfl
 have k9 : ((s2 : Int) ≤ (c2 : Int)) := by omega
 have k8 : ((s2 : Int) ≤ (n2 : Int)) := by omega
 go_wp2_with (go_at_call 72; refine (HIX.out _ hx bw j0).mono ?_; rintro e w10 ⟨rfl, hx1⟩; refine hold ?_)
 refine held ?_
 replace hx := hx.trans hx1
 replace hB := hB.ext hx1
 replace hF := hF.ext hx1
 replace hG := hG.ext hx1
 replace hQ := hQ.ext hx1
 replace hK := hK.ext hx1
 replace hZ := hZ.ext hx1
 clear hx1 j0 k9 k8 hW HIX
 clear e0 e1 k0 k1 k2 k3 k4
 have g1 : ¬ ((i : Int) < 0) := by omega
 have g2 : decide ((i : Int) < 0) = false := decide_eq_false g1
 go_upto_region 9 with fail
 clear g1 g2
 have HCV := Lib.hid (fun (W : World) (hx2 : Ext w10 W) => HCV.out W (hx.trans hx2))
 have HXT := Lib.hid (fun (W : World) (hx2 : Ext w10 W) => HXT.out W (hx.trans hx2))
 refine region_rely (S := Ext) (fun W' => Ext w10 W') [some 85, some 86, some 87, some 88, some 89, some 90, some 91, some 84, some 92, some 93, some 14, some 15] [[], [], [1], [0, 2], [], [4], [3, 5], [6], [7], [7], [8], [9]] [[], [], [], [], [], [], [], [], [], [], [], []] [.one ((.agg #[.int .i64 id, .slice (some ⟨x1, o1, none⟩) n c])), .one ((.pointer (some ⟨b2, 1, none⟩))), .one ((.int .i64 s)), (RSu s (vals (es.take s))), .one ((.pointer (some ⟨b1, 1, none⟩))), .one ((.int .i64 s)), RGr, RGr, RG1, .one ((.int .i64 0)), RG1, .one ((.int .i64 0))] (by kernel_rfl) (by kernel_rfl) (Ext.refl w10).drew ?_ ?_
 ·refine stepsR_cons ?_ ?_
  ·intro vs W' hl hI hd ho
   refine hold ?_
   obtain ⟨x0, x1, x2, x3, x4, x5, x6, x7, x8, x9, x10, x11, rfl⟩ := lenlit12 hl; clear hl
   refine held ?_
   simp only [putAll, Act.put, List.setIfInBounds_toArray, List.set_cons_succ, List.set_cons_zero]
   have h9 := hB.ext hI
   have c0 := h9.c 0 _ rfl
   have c1 := h9.c 1 _ rfl
   go_wp2_with fail
   exact rely_done _ rfl rfl (Ext.refl _) hI
  refine stepsR_cons ?_ ?_
  ·intro vs W' hl hI hd ho
   refine hold ?_
   obtain ⟨x0, x1, x2, x3, x4, x5, x6, x7, x8, x9, x10, x11, rfl⟩ := lenlit12 hl; clear hl
   refine held ?_
   simp only [putAll, Act.put, List.setIfInBounds_toArray, List.set_cons_succ, List.set_cons_zero]
   go_wp2_with fail
   exact rely_done _ rfl rfl (Ext.refl _) hI
  refine stepsR_cons ?_ ?_
  ·intro vs W' hl hI hd ho
   refine hold ?_
   obtain ⟨x0, x1, x2, x3, x4, x5, x6, x7, x8, x9, x10, x11, rfl⟩ := lenlit12 hl; clear hl
   simp only [factsR, atR, List.getElem?_cons_succ, List.getElem?_cons_zero, Rel.one, Rel.blk] at hd
   obtain ⟨rfl, -⟩ := hd
   refine held ?_
   simp only [putAll, Act.put, List.setIfInBounds_toArray, List.set_cons_succ, List.set_cons_zero]
   have h9 := hG.ext hI
   have g1 := h9.c 1 _ rfl
   go_wp2_with fail
   exact rely_done _ rfl rfl (Ext.refl _) hI
  refine stepsR_cons ?_ ?_
  ·intro vs W' hl hI hd ho
   refine hold ?_
   obtain ⟨x0, x1, x2, x3, x4, x5, x6, x7, x8, x9, x10, x11, rfl⟩ := lenlit12 hl; clear hl
   simp only [factsR, atR, List.getElem?_cons_succ, List.getElem?_cons_zero, Rel.one, Rel.blk] at hd
   obtain ⟨rfl, rfl, -⟩ := hd
   refine held ?_
   simp only [putAll, Act.put, List.setIfInBounds_toArray, List.set_cons_succ, List.set_cons_zero]
   go_wp2_with (go_at_call 74; refine (HCV.out _ hI).mono ?_; rintro e W8 ⟨va, vc, rfl, hvo, hx8⟩; refine hold ?_)
   refine held ?_
   have hvs := hvo.sl (vals_u _)
   go_wp2_with fail
   exact rely_done _ rfl ⟨va, vc, rfl, hvs⟩ hx8 (hI.trans hx8)
  refine stepsR_cons ?_ ?_
  ·intro vs W' hl hI hd ho
   refine hold ?_
   obtain ⟨x0, x1, x2, x3, x4, x5, x6, x7, x8, x9, x10, x11, rfl⟩ := lenlit12 hl; clear hl
   refine held ?_
   simp only [putAll, Act.put, List.setIfInBounds_toArray, List.set_cons_succ, List.set_cons_zero]
   go_wp2_with fail
   exact rely_done _ rfl rfl (Ext.refl _) hI
  refine stepsR_cons ?_ ?_
  ·intro vs W' hl hI hd ho
   refine hold ?_
   obtain ⟨x0, x1, x2, x3, x4, x5, x6, x7, x8, x9, x10, x11, rfl⟩ := lenlit12 hl; clear hl
   simp only [factsR, atR, List.getElem?_cons_succ, List.getElem?_cons_zero, Rel.one, Rel.blk] at hd
   obtain ⟨rfl, -⟩ := hd
   refine held ?_
   simp only [putAll, Act.put, List.setIfInBounds_toArray, List.set_cons_succ, List.set_cons_zero]
   have h9 := hF.ext hI
   have f1 := h9.c 1 _ rfl
   go_wp2_with fail
   exact rely_done _ rfl rfl (Ext.refl _) hI
  refine stepsR_cons ?_ ?_
  ·intro vs W' hl hI hd ho
   refine hold ?_
   obtain ⟨x0, x1, x2, x3, x4, x5, x6, x7, x8, x9, x10, x11, rfl⟩ := lenlit12 hl; clear hl
   simp only [factsR, atR, List.getElem?_cons_succ, List.getElem?_cons_zero, Rel.one, Rel.blk] at hd
   obtain ⟨⟨va, vc, rfl, hvs⟩, rfl, -⟩ := hd
   refine held ?_
   simp only [putAll, Act.put, List.setIfInBounds_toArray, List.set_cons_succ, List.set_cons_zero]
   obtain ⟨vg, vo, rfl⟩ := HVG.out _ _ _ hvs
   go_wp2_with (go_at_call 17; refine (HXT.out _ hI _ _ _ hvs).mono ?_; rintro e W8 ⟨ga, gc, rfl, hgs, hx8⟩; refine hold ?_)
   refine held ?_
   go_wp2_with fail
   exact rely_done _ rfl ⟨ga, gc, rfl, hgs⟩ hx8 (hI.trans hx8)
  refine stepsR_cons ?_ ?_
  ·intro vs W' hl hI hd ho
   refine hold ?_
   obtain ⟨x0, x1, x2, x3, x4, x5, x6, x7, x8, x9, x10, x11, rfl⟩ := lenlit12 hl; clear hl
   simp only [factsR, atR, List.getElem?_cons_succ, List.getElem?_cons_zero, Rel.one, Rel.blk] at hd
   obtain ⟨⟨ga, gc, rfl, hgs⟩, -⟩ := hd
   refine held ?_
   simp only [putAll, Act.put, List.setIfInBounds_toArray, List.set_cons_succ, List.set_cons_zero]
   go_wp2_with fail
   exact rely_done _ rfl ⟨ga, gc, rfl, hgs⟩ (Ext.refl _) hI
  refine stepsR_cons ?_ ?_
  ·intro vs W' hl hI hd ho
   refine hold ?_
   obtain ⟨x0, x1, x2, x3, x4, x5, x6, x7, x8, x9, x10, x11, rfl⟩ := lenlit12 hl; clear hl
   simp only [factsR, atR, List.getElem?_cons_succ, List.getElem?_cons_zero, Rel.one, Rel.blk] at hd
   obtain ⟨⟨ga, gc, rfl, hgs⟩, -⟩ := hd
   refine held ?_
   simp only [putAll, Act.put, List.setIfInBounds_toArray, List.set_cons_succ, List.set_cons_zero]
   go_wp2_with fail
   exact rely_done _ rfl ⟨ga, gc, rfl, hgs⟩ (Ext.refl _) hI
  refine stepsR_cons ?_ ?_
  ·intro vs W' hl hI hd ho
   refine hold ?_
   obtain ⟨x0, x1, x2, x3, x4, x5, x6, x7, x8, x9, x10, x11, rfl⟩ := lenlit12 hl; clear hl
   simp only [factsR, atR, List.getElem?_cons_succ, List.getElem?_cons_zero, Rel.one, Rel.blk] at hd
   obtain ⟨⟨ga, gc, rfl, hgs⟩, -⟩ := hd
   refine held ?_
   simp only [putAll, Act.put, List.setIfInBounds_toArray, List.set_cons_succ, List.set_cons_zero]
   go_wp2_with fail
   exact rely_done _ rfl rfl (Ext.refl _) hI
  refine stepsR_cons ?_ ?_
  ·intro vs W' hl hI hd ho
   refine hold ?_
   obtain ⟨x0, x1, x2, x3, x4, x5, x6, x7, x8, x9, x10, x11, rfl⟩ := lenlit12 hl; clear hl
   simp only [factsR, atR, List.getElem?_cons_succ, List.getElem?_cons_zero, Rel.one, Rel.blk] at hd
   obtain ⟨⟨ga, gc, rfl, hgs⟩, -⟩ := hd
   refine held ?_
   simp only [putAll, Act.put, List.setIfInBounds_toArray, List.set_cons_succ, List.set_cons_zero]
   go_wp2_with fail
   exact rely_done _ rfl ⟨ga, gc, rfl, hgs⟩ (Ext.refl _) hI
  refine stepsR_cons ?_ ?_
  ·intro vs W' hl hI hd ho
   refine hold ?_
   obtain ⟨x0, x1, x2, x3, x4, x5, x6, x7, x8, x9, x10, x11, rfl⟩ := lenlit12 hl; clear hl
   simp only [factsR, atR, List.getElem?_cons_succ, List.getElem?_cons_zero, Rel.one, Rel.blk] at hd
   obtain ⟨rfl, -⟩ := hd
   refine held ?_
   simp only [putAll, Act.put, List.setIfInBounds_toArray, List.set_cons_succ, List.set_cons_zero]
   go_wp2_with fail
   exact rely_done _ rfl rfl (Ext.refl _) hI
  exact trivial
 ·intro vs W' hl hI hd
  obtain ⟨x0, x1, x2, x3, x4, x5, x6, x7, x8, x9, x10, x11, rfl⟩ := lenlit12 hl; clear hl
  simp only [List.length_cons, List.length_nil, List.range, List.range.loop, Nat.zero_add, Nat.reduceAdd, factsR, atR, List.getElem?_cons_succ, List.getElem?_cons_zero, Rel.one, Rel.blk] at hd
  obtain ⟨rfl, rfl, rfl, ⟨va, vc, rfl, hvs⟩, rfl, rfl, ⟨ga, gc, rfl, hgs⟩, ⟨ga, gc, rfl, hgs⟩, ⟨ga, gc, rfl, hgs⟩, rfl, ⟨ga, gc, rfl, hgs⟩, rfl, -⟩ := hd
  simp only [putAll, Act.put, List.setIfInBounds_toArray, List.set_cons_succ, List.set_cons_zero]
  clear HCV HXT HVG
  replace hx := hx.trans hI
  replace hB := hB.ext hI
  replace hF := hF.ext hI
  replace hG := hG.ext hI
  replace hQ := hQ.ext hI
  replace hK := hK.ext hI
  replace hZ := hZ.ext hI
  clear hI
  go_upto_region 12 with fail
  have e0 := hQ.c 0 _ rfl
  have e1 := hQ.c 1 _ rfl
  have k0 := hK.c 0 _ rfl
  have k1 := hK.c 1 _ rfl
  have k2 := hK.c 2 _ rfl
  have k3 := hK.c 3 _ rfl
  have k4 := hK.c 4 _ rfl
  go_wp2_with (go_at_call 22; refine (HPR.out _ hx).mono ?_; rintro e w11 ⟨pa, pn, pc, rfl, hsp, hfr, hx1⟩; refine hold ?_)
  refine held ?_
  replace hgs := hgs.ext hx1
  have HFR : Hid (∀ b' off, pa = some ⟨b', off, none⟩ → 0 < pn → w.heap.size ≤ b' ∧ b' ≠ b5) := Lib.hid (fun b' off e h0 => ⟨Nat.le_trans hx.sz (hfr b' off e h0), by have := hfr b' off e h0; have := hZ.lt; omega⟩)
  clear hfr
  replace hx := hx.trans hx1
  replace hB := hB.ext hx1
  replace hF := hF.ext hx1
  replace hG := hG.ext hx1
  replace hQ := hQ.ext hx1
  replace hK := hK.ext hx1
  replace hZ := hZ.ext hx1
  clear hx1 HPR
  clear e0 e1 k0 k1 k2 k3 k4
  have hRc := Bk.new w11 44 #[.int .i64 id2, .int .i64 s2, .int .u64 R2, .int .i64 C2, .int .i64 S2, .int .i64 i, .int .u64 x.d, .int .i64 x.lo, .int .i64 x.hi, .slice pa pn pc]
  have hx1 : Ext w11 (w11.alloc (.cells #[.int .i64 id2, .int .i64 s2, .int .u64 R2, .int .i64 C2, .int .i64 S2, .int .i64 i, .int .u64 x.d, .int .i64 x.lo, .int .i64 x.hi, .slice pa pn pc] 44)) := (Ext.refl w11).alloc _
  go_upto_region 13 with fail
  replace hx := hx.trans hx1
  replace hsp := hsp.ext hx1
  replace hgs := hgs.ext hx1
  replace hB := hB.ext hx1
  replace hF := hF.ext hx1
  replace hG := hG.ext hx1
  replace hQ := hQ.ext hx1
  replace hK := hK.ext hx1
  replace hZ := hZ.ext hx1
  clear hx1
  generalize w11.alloc (.cells #[.int .i64 id2, .int .i64 s2, .int .u64 R2, .int .i64 C2, .int .i64 S2, .int .i64 i, .int .u64 x.d, .int .i64 x.lo, .int .i64 x.hi, .slice pa pn pc] 44) = V8 at *
  generalize w11.heap.size = br at *
  have r0 := hRc.c 0 _ rfl
  have r1 := hRc.c 1 _ rfl
  have r2 := hRc.c 2 _ rfl
  have r3 := hRc.c 3 _ rfl
  have r4 := hRc.c 4 _ rfl
  have r5 := hRc.c 5 _ rfl
  have r6 := hRc.c 6 _ rfl
  have r7 := hRc.c 7 _ rfl
  have r8 := hRc.c 8 _ rfl
  have r9 := hRc.c 9 _ rfl
  have g0 := hG.c 0 _ rfl
  have g1 := hG.c 1 _ rfl
  have g2 := hG.c 2 _ rfl
  have g3 := hG.c 3 _ rfl
  have g4 := hG.c 4 _ rfl
  have q0 := hZ.c 0 _ rfl
  have q1 := hZ.c 1 _ rfl
  have q2 := hZ.c 2 _ rfl
  have q3 := hZ.c 3 _ rfl
  have q4 := hZ.c 4 _ rfl
  have q5 := hZ.c 5 _ rfl
  have q6 := hZ.c 6 _ rfl
  have q7 := hZ.c 7 _ rfl
  have q8 := hZ.c 8 _ rfl
  have q9 := hZ.c 9 _ rfl
  have q10 := hZ.c 10 _ rfl
  have q11 := hZ.c 11 _ rfl
  have q12 := hZ.c 12 _ rfl
  have q13 := hZ.c 13 _ rfl
  have q14 := hZ.c 14 _ rfl
  have q15 := hZ.c 15 _ rfl
  have qf := hZ.free
  go_wp2_with fail
  try simp only [Exit.inBlock, Exit.then]
  refine bodyPost_ret (res_wit _ b5 _ _ _ _ _ _ _ _ _ _ _ _ _ _ _ _ (.int .i64 0) _ (by rfl) (by rfl) (hZ.set16 (.int .i64 id) (.int .i64 s) (.int .u64 R) (.int .i64 C) (.int .i64 S) (.slice ga 0 gc) (.int .i64 id2) (.int .i64 s2) (.int .u64 R2) (.int .i64 C2) (.int .i64 S2) (.int .i64 i) (.int .u64 x.d) (.int .i64 x.lo) (.int .i64 x.hi) (.slice pa pn pc))) rfl ⟨ga, gc, pa, pn, pc, rfl, hgs.other16 (fun _ _ _ h0 => absurd h0 (Nat.lt_irrefl 0)) _ _ _ _ _ _ _ _ _ _ _ _ _ _ _ _, ?_, fun b' off e h0 => (HFR.out b' off e h0).1, hx.set16 HZS.out _ _ _ _ _ _ _ _ _ _ _ _ _ _ _ _⟩
  exact hsp.other16 (fun b' off e h0 => (HFR.out b' off e h0).2) _ _ _ _ _ _ _ _ _ _ _ _ _ _ _ _
end Go.Proofs.YtacicanjmleikaaGreatDoor
