
import Derived.Test.YtacicanjmleikaaGreatDoorGr18
import Derived.Deep.MidRow
/- A part of the proof. -/
namespace Go.Proofs.YtacicanjmleikaaGreatDoor
open Go.RowKit Go.Sort Go.Shelf Go.Maps
set_option linter.unusedSimpArgs false
set_option maxRecDepth 100000
theorem res_find (W : World) (b : Nat) (cs : List Value) (z y : Value) (tmps : Array Value) (hl : cs.length = 22) (hb : tmps[12]?.getD undef = .pointer (some ⟨b, 0, none⟩)) (h13 : tmps[13]?.getD undef = z) (h14 : tmps[14]?.getD undef = y) (h : Bk W b 47 cs.toArray) :
  (results Tryz.f12 tmps).run Tryz.prog W = .ok (.tuple #[.agg cs.toArray, z, y]) W := by
 have hr : W.rangeAt b 0 cs := fun j v hv => by rw [Nat.zero_add]; exact h.c j v (by simpa using hv)
 have hv := run_loadVar_mid (P := Tryz.prog) W b 0 47 cs _ hr Tryz.underlying47 rfl (by rw [hl]; kernel_rfl)
 simp [results, Tryz.results12, hb, h13, h14, asAddr, hv, Result.andThen]
open Go.RowKit Go.Sort Go.Shelf Go.Maps
theorem Bk.midCells {b : Nat} {T : TypeId} : ∀ (vs old pre suf : List Value) (W : World), Bk W b T (pre ++ (old ++ suf)).toArray → old.length = vs.length → Bk (W.setCells b pre.length vs) b T (pre ++ (vs ++ suf)).toArray
 | [], [], pre, suf, W, h, _ => h
 | v :: r, u :: old, pre, suf, W, h, hl => by
  have h1 := h.set pre.length v
  have e : (pre ++ (u :: old ++ suf)).toArray.setIfInBounds pre.length v = ((pre ++ [v]) ++ (old ++ suf)).toArray := by simp
  rw [e] at h1
  have h2 := Bk.midCells r old (pre ++ [v]) suf _ h1 (by simpa using hl)
  rw [List.length_append, List.length_singleton] at h2
  have e2 : (pre ++ [v]) ++ (r ++ suf) = pre ++ (v :: r ++ suf) := by simp
  rw [e2] at h2
  exact h2
theorem Bk.allCells {b : Nat} {T : TypeId} {W : World} {old : Array Value} (h : Bk W b T old) (vs : List Value) (hl : old.size = vs.length) : Bk (W.setCells b 0 vs) b T vs.toArray := by
 have := Bk.midCells vs old.toList [] [] W (by simpa using h) (by simpa using hl)
 simpa using this
theorem Ext.cells {w : World} {b : Nat} (hb : w.heap.size ≤ b) : ∀ (vs : List Value) (o : Nat) {W : World}, Ext w W → Ext w (W.setCells b o vs)
 | [], _, _, h => h
 | v :: r, o, _, h => Ext.cells hb r (o + 1) (h.setCell (p := ⟨b, o, none⟩) hb v)
theorem Sl.otherCells {k : IntKind} {p : Nat} {a : Option Addr} {m c : Nat} {xs : List Int} (hne : ∀ b off, a = some ⟨b, off, none⟩ → 0 < m → b ≠ p) : ∀ (vs : List Value) (o : Nat) {W : World}, Sl k W a m c xs → Sl k (W.setCells p o vs) a m c xs
 | [], _, _, h => h
 | v :: r, o, _, h => Sl.otherCells hne r (o + 1) (h.otherB hne o v)
theorem Bk.otherCells {p b : Nat} {T : TypeId} {cs : Array Value} (hne : p ≠ b) : ∀ (vs : List Value) (o : Nat) {W : World}, Bk W b T cs → Bk (W.setCells p o vs) b T cs
 | [], _, _, h => h
 | v :: r, o, _, h => Bk.otherCells hne r (o + 1) (h.otherB hne o v)
theorem Bk.there {W : World} {b n : Nat} {T : TypeId} {cs : Array Value} (h : Bk W b T cs) (hn : n ≤ cs.size) : W.there b 0 n := fun j hj =>
 ⟨by rw [Nat.zero_add, h.c j (cs[j]'(by omega)) (Array.getElem?_eq_getElem _)]; rfl, by rw [Nat.zero_add]; exact h.free j⟩
theorem Bk.row {W : World} {b : Nat} {T : TypeId} {cs : List Value} (h : Bk W b T cs.toArray) : W.rangeAt b 0 cs := fun j v hv => by rw [Nat.zero_add]; exact h.c j v (by simpa using hv)
theorem loadBk {P : Program} {ops : Array Oper} {rest : List Oper} {op : Oper} {a : Act} {w : World} {Q : Exit → Act → World → Prop} (hgd : op.guard = none) (ty : TypeId) (x : Operand) (ho : op.op = .load ty x)
  (b : Nat) (hx : a.eval x = .pointer (some ⟨b, 0, none⟩)) (cs : List Value) {T : TypeId} (hc : Bk w b T cs.toArray) (d : TypeDesc)
  (hu : P.underlying ty = some d) (hd : d.isRow = true) (hi : (P.info? ty).map (·.size) = some cs.length)
  (h : wpList P ops Q rest (a.put op.dst (.agg cs.toArray)) w) : wpList P ops Q (op :: rest) a w :=
 wpList_load_mid hgd ty x ho b 0 hx cs d hc.row hu hd hi h
theorem storeBk {P : Program} {ops : Array Oper} {rest : List Oper} {op : Oper} {a : Act} {w : World} {Q : Exit → Act → World → Prop} (hgd : op.guard = none) (ty : TypeId) (x y : Operand) (ho : op.op = .store ty x y)
  (b : Nat) (cs : List Value) {T : TypeId} {old : Array Value} (hb : Bk w b T old) (hs : old.size = cs.length) (hx : a.eval x = .pointer (some ⟨b, 0, none⟩)) (hy : a.eval y = .agg cs.toArray)
  (hi : (P.info? ty).map (·.size) = some cs.length) (h1 : ∀ v ∈ cs, v.oneCell' = true)
  (h : wpList P ops Q rest (a.put op.dst undef) (w.setCells b 0 cs)) : wpList P ops Q (op :: rest) a w :=
 wpList_store_mid hgd ty x y ho b 0 cs.toArray hx hy (hb.there (by simp [hs])) (by simpa using hi) (all_oneCell_toArray h1) h
open Go.RowKit Go.Sort Go.Shelf Go.Maps
set_option linter.unusedVariables false
theorem Bk.set22at0 {W : World} {b : Nat} {T : TypeId} {u0 u1 u2 u3 u4 u5 u6 u7 u8 u9 u10 u11 u12 u13 u14 u15 u16 u17 u18 u19 u20 u21 : Value} (h : Bk W b T #[u0, u1, u2, u3, u4, u5, u6, u7, u8, u9, u10, u11, u12, u13, u14, u15, u16, u17, u18, u19, u20, u21]) (v0 v1 v2 v3 v4 v5 v6 v7 v8 v9 : Value) : Bk ((((((((((W.setCell ⟨b, 0, none⟩ v0).setCell ⟨b, 1, none⟩ v1).setCell ⟨b, 2, none⟩ v2).setCell ⟨b, 3, none⟩ v3).setCell ⟨b, 4, none⟩ v4).setCell ⟨b, 5, none⟩ v5).setCell ⟨b, 6, none⟩ v6).setCell ⟨b, 7, none⟩ v7).setCell ⟨b, 8, none⟩ v8).setCell ⟨b, 9, none⟩ v9) b T #[v0, v1, v2, v3, v4, v5, v6, v7, v8, v9, u10, u11, u12, u13, u14, u15, u16, u17, u18, u19, u20, u21] := by
 have g0 : Bk (W.setCell ⟨b, 0, none⟩ v0) b T #[v0, u1, u2, u3, u4, u5, u6, u7, u8, u9, u10, u11, u12, u13, u14, u15, u16, u17, u18, u19, u20, u21] := h.set 0 v0
 have g1 : Bk ((W.setCell ⟨b, 0, none⟩ v0).setCell ⟨b, 1, none⟩ v1) b T #[v0, v1, u2, u3, u4, u5, u6, u7, u8, u9, u10, u11, u12, u13, u14, u15, u16, u17, u18, u19, u20, u21] := g0.set 1 v1
 have g2 : Bk (((W.setCell ⟨b, 0, none⟩ v0).setCell ⟨b, 1, none⟩ v1).setCell ⟨b, 2, none⟩ v2) b T #[v0, v1, v2, u3, u4, u5, u6, u7, u8, u9, u10, u11, u12, u13, u14, u15, u16, u17, u18, u19, u20, u21] := g1.set 2 v2
 have g3 : Bk ((((W.setCell ⟨b, 0, none⟩ v0).setCell ⟨b, 1, none⟩ v1).setCell ⟨b, 2, none⟩ v2).setCell ⟨b, 3, none⟩ v3) b T #[v0, v1, v2, v3, u4, u5, u6, u7, u8, u9, u10, u11, u12, u13, u14, u15, u16, u17, u18, u19, u20, u21] := g2.set 3 v3
 have g4 : Bk (((((W.setCell ⟨b, 0, none⟩ v0).setCell ⟨b, 1, none⟩ v1).setCell ⟨b, 2, none⟩ v2).setCell ⟨b, 3, none⟩ v3).setCell ⟨b, 4, none⟩ v4) b T #[v0, v1, v2, v3, v4, u5, u6, u7, u8, u9, u10, u11, u12, u13, u14, u15, u16, u17, u18, u19, u20, u21] := g3.set 4 v4
 have g5 : Bk ((((((W.setCell ⟨b, 0, none⟩ v0).setCell ⟨b, 1, none⟩ v1).setCell ⟨b, 2, none⟩ v2).setCell ⟨b, 3, none⟩ v3).setCell ⟨b, 4, none⟩ v4).setCell ⟨b, 5, none⟩ v5) b T #[v0, v1, v2, v3, v4, v5, u6, u7, u8, u9, u10, u11, u12, u13, u14, u15, u16, u17, u18, u19, u20, u21] := g4.set 5 v5
 have g6 : Bk (((((((W.setCell ⟨b, 0, none⟩ v0).setCell ⟨b, 1, none⟩ v1).setCell ⟨b, 2, none⟩ v2).setCell ⟨b, 3, none⟩ v3).setCell ⟨b, 4, none⟩ v4).setCell ⟨b, 5, none⟩ v5).setCell ⟨b, 6, none⟩ v6) b T #[v0, v1, v2, v3, v4, v5, v6, u7, u8, u9, u10, u11, u12, u13, u14, u15, u16, u17, u18, u19, u20, u21] := g5.set 6 v6
 have g7 : Bk ((((((((W.setCell ⟨b, 0, none⟩ v0).setCell ⟨b, 1, none⟩ v1).setCell ⟨b, 2, none⟩ v2).setCell ⟨b, 3, none⟩ v3).setCell ⟨b, 4, none⟩ v4).setCell ⟨b, 5, none⟩ v5).setCell ⟨b, 6, none⟩ v6).setCell ⟨b, 7, none⟩ v7) b T #[v0, v1, v2, v3, v4, v5, v6, v7, u8, u9, u10, u11, u12, u13, u14, u15, u16, u17, u18, u19, u20, u21] := g6.set 7 v7
 have g8 : Bk (((((((((W.setCell ⟨b, 0, none⟩ v0).setCell ⟨b, 1, none⟩ v1).setCell ⟨b, 2, none⟩ v2).setCell ⟨b, 3, none⟩ v3).setCell ⟨b, 4, none⟩ v4).setCell ⟨b, 5, none⟩ v5).setCell ⟨b, 6, none⟩ v6).setCell ⟨b, 7, none⟩ v7).setCell ⟨b, 8, none⟩ v8) b T #[v0, v1, v2, v3, v4, v5, v6, v7, v8, u9, u10, u11, u12, u13, u14, u15, u16, u17, u18, u19, u20, u21] := g7.set 8 v8
 have g9 : Bk ((((((((((W.setCell ⟨b, 0, none⟩ v0).setCell ⟨b, 1, none⟩ v1).setCell ⟨b, 2, none⟩ v2).setCell ⟨b, 3, none⟩ v3).setCell ⟨b, 4, none⟩ v4).setCell ⟨b, 5, none⟩ v5).setCell ⟨b, 6, none⟩ v6).setCell ⟨b, 7, none⟩ v7).setCell ⟨b, 8, none⟩ v8).setCell ⟨b, 9, none⟩ v9) b T #[v0, v1, v2, v3, v4, v5, v6, v7, v8, v9, u10, u11, u12, u13, u14, u15, u16, u17, u18, u19, u20, u21] := g8.set 9 v9
 exact g9
theorem Ext.at0 {w W : World} {b : Nat} (hE : Ext w W) (hb : w.heap.size ≤ b) (v0 v1 v2 v3 v4 v5 v6 v7 v8 v9 : Value) : Ext w ((((((((((W.setCell ⟨b, 0, none⟩ v0).setCell ⟨b, 1, none⟩ v1).setCell ⟨b, 2, none⟩ v2).setCell ⟨b, 3, none⟩ v3).setCell ⟨b, 4, none⟩ v4).setCell ⟨b, 5, none⟩ v5).setCell ⟨b, 6, none⟩ v6).setCell ⟨b, 7, none⟩ v7).setCell ⟨b, 8, none⟩ v8).setCell ⟨b, 9, none⟩ v9) := ((((((((((hE.setCell (p := ⟨b, 0, none⟩) hb v0).setCell (p := ⟨b, 1, none⟩) hb v1).setCell (p := ⟨b, 2, none⟩) hb v2).setCell (p := ⟨b, 3, none⟩) hb v3).setCell (p := ⟨b, 4, none⟩) hb v4).setCell (p := ⟨b, 5, none⟩) hb v5).setCell (p := ⟨b, 6, none⟩) hb v6).setCell (p := ⟨b, 7, none⟩) hb v7).setCell (p := ⟨b, 8, none⟩) hb v8).setCell (p := ⟨b, 9, none⟩) hb v9)
theorem Sl.at0 {k : IntKind} {W : World} {p : Nat} {a : Option Addr} {m c : Nat} {xs : List Int} (h : Sl k W a m c xs) (hne : ∀ b off, a = some ⟨b, off, none⟩ → 0 < m → b ≠ p) (v0 v1 v2 v3 v4 v5 v6 v7 v8 v9 : Value) : Sl k ((((((((((W.setCell ⟨p, 0, none⟩ v0).setCell ⟨p, 1, none⟩ v1).setCell ⟨p, 2, none⟩ v2).setCell ⟨p, 3, none⟩ v3).setCell ⟨p, 4, none⟩ v4).setCell ⟨p, 5, none⟩ v5).setCell ⟨p, 6, none⟩ v6).setCell ⟨p, 7, none⟩ v7).setCell ⟨p, 8, none⟩ v8).setCell ⟨p, 9, none⟩ v9) a m c xs := ((((((((((h.otherB hne 0 v0).otherB hne 1 v1).otherB hne 2 v2).otherB hne 3 v3).otherB hne 4 v4).otherB hne 5 v5).otherB hne 6 v6).otherB hne 7 v7).otherB hne 8 v8).otherB hne 9 v9)
theorem Bk.set22at12 {W : World} {b : Nat} {T : TypeId} {u0 u1 u2 u3 u4 u5 u6 u7 u8 u9 u10 u11 u12 u13 u14 u15 u16 u17 u18 u19 u20 u21 : Value} (h : Bk W b T #[u0, u1, u2, u3, u4, u5, u6, u7, u8, u9, u10, u11, u12, u13, u14, u15, u16, u17, u18, u19, u20, u21]) (v0 v1 v2 v3 v4 v5 v6 v7 v8 v9 : Value) : Bk ((((((((((W.setCell ⟨b, 12, none⟩ v0).setCell ⟨b, 13, none⟩ v1).setCell ⟨b, 14, none⟩ v2).setCell ⟨b, 15, none⟩ v3).setCell ⟨b, 16, none⟩ v4).setCell ⟨b, 17, none⟩ v5).setCell ⟨b, 18, none⟩ v6).setCell ⟨b, 19, none⟩ v7).setCell ⟨b, 20, none⟩ v8).setCell ⟨b, 21, none⟩ v9) b T #[u0, u1, u2, u3, u4, u5, u6, u7, u8, u9, u10, u11, v0, v1, v2, v3, v4, v5, v6, v7, v8, v9] := by
 have g0 : Bk (W.setCell ⟨b, 12, none⟩ v0) b T #[u0, u1, u2, u3, u4, u5, u6, u7, u8, u9, u10, u11, v0, u13, u14, u15, u16, u17, u18, u19, u20, u21] := h.set 12 v0
 have g1 : Bk ((W.setCell ⟨b, 12, none⟩ v0).setCell ⟨b, 13, none⟩ v1) b T #[u0, u1, u2, u3, u4, u5, u6, u7, u8, u9, u10, u11, v0, v1, u14, u15, u16, u17, u18, u19, u20, u21] := g0.set 13 v1
 have g2 : Bk (((W.setCell ⟨b, 12, none⟩ v0).setCell ⟨b, 13, none⟩ v1).setCell ⟨b, 14, none⟩ v2) b T #[u0, u1, u2, u3, u4, u5, u6, u7, u8, u9, u10, u11, v0, v1, v2, u15, u16, u17, u18, u19, u20, u21] := g1.set 14 v2
 have g3 : Bk ((((W.setCell ⟨b, 12, none⟩ v0).setCell ⟨b, 13, none⟩ v1).setCell ⟨b, 14, none⟩ v2).setCell ⟨b, 15, none⟩ v3) b T #[u0, u1, u2, u3, u4, u5, u6, u7, u8, u9, u10, u11, v0, v1, v2, v3, u16, u17, u18, u19, u20, u21] := g2.set 15 v3
 have g4 : Bk (((((W.setCell ⟨b, 12, none⟩ v0).setCell ⟨b, 13, none⟩ v1).setCell ⟨b, 14, none⟩ v2).setCell ⟨b, 15, none⟩ v3).setCell ⟨b, 16, none⟩ v4) b T #[u0, u1, u2, u3, u4, u5, u6, u7, u8, u9, u10, u11, v0, v1, v2, v3, v4, u17, u18, u19, u20, u21] := g3.set 16 v4
 have g5 : Bk ((((((W.setCell ⟨b, 12, none⟩ v0).setCell ⟨b, 13, none⟩ v1).setCell ⟨b, 14, none⟩ v2).setCell ⟨b, 15, none⟩ v3).setCell ⟨b, 16, none⟩ v4).setCell ⟨b, 17, none⟩ v5) b T #[u0, u1, u2, u3, u4, u5, u6, u7, u8, u9, u10, u11, v0, v1, v2, v3, v4, v5, u18, u19, u20, u21] := g4.set 17 v5
 have g6 : Bk (((((((W.setCell ⟨b, 12, none⟩ v0).setCell ⟨b, 13, none⟩ v1).setCell ⟨b, 14, none⟩ v2).setCell ⟨b, 15, none⟩ v3).setCell ⟨b, 16, none⟩ v4).setCell ⟨b, 17, none⟩ v5).setCell ⟨b, 18, none⟩ v6) b T #[u0, u1, u2, u3, u4, u5, u6, u7, u8, u9, u10, u11, v0, v1, v2, v3, v4, v5, v6, u19, u20, u21] := g5.set 18 v6
 have g7 : Bk ((((((((W.setCell ⟨b, 12, none⟩ v0).setCell ⟨b, 13, none⟩ v1).setCell ⟨b, 14, none⟩ v2).setCell ⟨b, 15, none⟩ v3).setCell ⟨b, 16, none⟩ v4).setCell ⟨b, 17, none⟩ v5).setCell ⟨b, 18, none⟩ v6).setCell ⟨b, 19, none⟩ v7) b T #[u0, u1, u2, u3, u4, u5, u6, u7, u8, u9, u10, u11, v0, v1, v2, v3, v4, v5, v6, v7, u20, u21] := g6.set 19 v7
 have g8 : Bk (((((((((W.setCell ⟨b, 12, none⟩ v0).setCell ⟨b, 13, none⟩ v1).setCell ⟨b, 14, none⟩ v2).setCell ⟨b, 15, none⟩ v3).setCell ⟨b, 16, none⟩ v4).setCell ⟨b, 17, none⟩ v5).setCell ⟨b, 18, none⟩ v6).setCell ⟨b, 19, none⟩ v7).setCell ⟨b, 20, none⟩ v8) b T #[u0, u1, u2, u3, u4, u5, u6, u7, u8, u9, u10, u11, v0, v1, v2, v3, v4, v5, v6, v7, v8, u21] := g7.set 20 v8
 have g9 : Bk ((((((((((W.setCell ⟨b, 12, none⟩ v0).setCell ⟨b, 13, none⟩ v1).setCell ⟨b, 14, none⟩ v2).setCell ⟨b, 15, none⟩ v3).setCell ⟨b, 16, none⟩ v4).setCell ⟨b, 17, none⟩ v5).setCell ⟨b, 18, none⟩ v6).setCell ⟨b, 19, none⟩ v7).setCell ⟨b, 20, none⟩ v8).setCell ⟨b, 21, none⟩ v9) b T #[u0, u1, u2, u3, u4, u5, u6, u7, u8, u9, u10, u11, v0, v1, v2, v3, v4, v5, v6, v7, v8, v9] := g8.set 21 v9
 exact g9
theorem Ext.at12 {w W : World} {b : Nat} (hE : Ext w W) (hb : w.heap.size ≤ b) (v0 v1 v2 v3 v4 v5 v6 v7 v8 v9 : Value) : Ext w ((((((((((W.setCell ⟨b, 12, none⟩ v0).setCell ⟨b, 13, none⟩ v1).setCell ⟨b, 14, none⟩ v2).setCell ⟨b, 15, none⟩ v3).setCell ⟨b, 16, none⟩ v4).setCell ⟨b, 17, none⟩ v5).setCell ⟨b, 18, none⟩ v6).setCell ⟨b, 19, none⟩ v7).setCell ⟨b, 20, none⟩ v8).setCell ⟨b, 21, none⟩ v9) := ((((((((((hE.setCell (p := ⟨b, 12, none⟩) hb v0).setCell (p := ⟨b, 13, none⟩) hb v1).setCell (p := ⟨b, 14, none⟩) hb v2).setCell (p := ⟨b, 15, none⟩) hb v3).setCell (p := ⟨b, 16, none⟩) hb v4).setCell (p := ⟨b, 17, none⟩) hb v5).setCell (p := ⟨b, 18, none⟩) hb v6).setCell (p := ⟨b, 19, none⟩) hb v7).setCell (p := ⟨b, 20, none⟩) hb v8).setCell (p := ⟨b, 21, none⟩) hb v9)
theorem Sl.at12 {k : IntKind} {W : World} {p : Nat} {a : Option Addr} {m c : Nat} {xs : List Int} (h : Sl k W a m c xs) (hne : ∀ b off, a = some ⟨b, off, none⟩ → 0 < m → b ≠ p) (v0 v1 v2 v3 v4 v5 v6 v7 v8 v9 : Value) : Sl k ((((((((((W.setCell ⟨p, 12, none⟩ v0).setCell ⟨p, 13, none⟩ v1).setCell ⟨p, 14, none⟩ v2).setCell ⟨p, 15, none⟩ v3).setCell ⟨p, 16, none⟩ v4).setCell ⟨p, 17, none⟩ v5).setCell ⟨p, 18, none⟩ v6).setCell ⟨p, 19, none⟩ v7).setCell ⟨p, 20, none⟩ v8).setCell ⟨p, 21, none⟩ v9) a m c xs := ((((((((((h.otherB hne 12 v0).otherB hne 13 v1).otherB hne 14 v2).otherB hne 15 v3).otherB hne 16 v4).otherB hne 17 v5).otherB hne 18 v6).otherB hne 19 v7).otherB hne 20 v8).otherB hne 21 v9)
theorem lenlit17 {vs : List Value} (h : vs.length = 17) : ∃ x0 x1 x2 x3 x4 x5 x6 x7 x8 x9 x10 x11 x12 x13 x14 x15 x16 : Value, vs = [x0, x1, x2, x3, x4, x5, x6, x7, x8, x9, x10, x11, x12, x13, x14, x15, x16] := by
 obtain ⟨x0, v0, rfl, h0⟩ := len_cons h
 obtain ⟨x1, v1, rfl, h1⟩ := len_cons h0
 obtain ⟨x2, v2, rfl, h2⟩ := len_cons h1
 obtain ⟨x3, v3, rfl, h3⟩ := len_cons h2
 obtain ⟨x4, v4, rfl, h4⟩ := len_cons h3
 obtain ⟨x5, v5, rfl, h5⟩ := len_cons h4
 obtain ⟨x6, v6, rfl, h6⟩ := len_cons h5
 obtain ⟨x7, v7, rfl, h7⟩ := len_cons h6
 obtain ⟨x8, v8, rfl, h8⟩ := len_cons h7
 obtain ⟨x9, v9, rfl, h9⟩ := len_cons h8
 obtain ⟨x10, v10, rfl, h10⟩ := len_cons h9
 obtain ⟨x11, v11, rfl, h11⟩ := len_cons h10
 obtain ⟨x12, v12, rfl, h12⟩ := len_cons h11
 obtain ⟨x13, v13, rfl, h13⟩ := len_cons h12
 obtain ⟨x14, v14, rfl, h14⟩ := len_cons h13
 obtain ⟨x15, v15, rfl, h15⟩ := len_cons h14
 obtain ⟨x16, v16, rfl, h16⟩ := len_cons h15
 obtain rfl := len_nil h16
 exact ⟨x0, x1, x2, x3, x4, x5, x6, x7, x8, x9, x10, x11, x12, x13, x14, x15, x16, rfl⟩
def PathF (b9 : Nat) (path : List Int) (W : World) (pa : Option Addr) (pn pc : Nat) : Prop := Sl .u64 W pa pn pc path ∧ ∀ b off, pa = some ⟨b, off, none⟩ → 0 < pn → b9 < b
def RFr (h : Hd) (i : Nat) (e : En) (b9 : Nat) (path : List Int) : RelL Ext := ⟨none, fun _ v W => ∃ pa pn pc, v = .tuple #[rcV h i e pa pn pc, .int .i64 0] ∧ PathF b9 path W pa pn pc, fun _ _ _ _ ⟨pa, pn, pc, h1, h2, h3⟩ hE => ⟨pa, pn, pc, h1, h2.ext hE, h3⟩⟩
def RFs (h : Hd) (i : Nat) (e : En) (b9 : Nat) (path : List Int) : RelL Ext := ⟨none, fun _ v W => ∃ pa pn pc, v = rcV h i e pa pn pc ∧ PathF b9 path W pa pn pc, fun _ _ _ _ ⟨pa, pn, pc, h1, h2, h3⟩ hE => ⟨pa, pn, pc, h1, h2.ext hE, h3⟩⟩
structure FiI (V1 : World) (b19 : Nat) (h : Hd) (i : Nat) (e : En) (path : List Int) (listed : Nat → Bool) (W : World) : Prop where
 ext : Ext V1 W
 lt : b19 < W.heap.size
 a0 : listed 16 = false → Bk W b19 47 #[.int .i64 0, .int .i64 0, .int .u64 0, .int .i64 0, .int .i64 0, .int .i64 0, .int .u64 0, .int .i64 0, .int .i64 0, .slice none 0 0, .slice none 0 0, .slice none 0 0, .int .i64 0, .int .i64 0, .int .u64 0, .int .i64 0, .int .i64 0, .int .i64 0, .int .u64 0, .int .i64 0, .int .i64 0, .slice none 0 0]
 a1 : listed 16 = true → ∃ pa pn pc, Bk W b19 47 #[.int .i64 h.o, .int .i64 h.s, .int .u64 h.r, .int .i64 h.C, .int .i64 h.S, .int .i64 i, .int .u64 e.d, .int .i64 e.lo, .int .i64 e.hi, .slice pa pn pc, .slice none 0 0, .slice none 0 0, .int .i64 0, .int .i64 0, .int .u64 0, .int .i64 0, .int .i64 0, .int .i64 0, .int .u64 0, .int .i64 0, .int .i64 0, .slice none 0 0] ∧ PathF b19 path W pa pn pc
theorem FiI.other {V1 : World} {b19 : Nat} {h : Hd} {i : Nat} {e : En} {path : List Int} {listed : Nat → Bool} {W : World} (H : FiI V1 b19 h i e path listed W) {j : Nat} (hj : j ≠ 16) : FiI V1 b19 h i e path (updE listed j) W := by
 have e2 : updE listed j 16 = listed 16 := by simp [updE, hj.symm]
 exact ⟨H.ext, H.lt, by rw [e2]; exact H.a0, by rw [e2]; exact H.a1⟩
theorem FiI.ext1 {V1 : World} {b19 : Nat} {h : Hd} {i : Nat} {e : En} {path : List Int} {listed : Nat → Bool} {W W' : World} (H : FiI V1 b19 h i e path listed W) (hx : Ext W W') : FiI V1 b19 h i e path listed W' :=
 ⟨H.ext.trans hx, Nat.lt_of_lt_of_le H.lt hx.sz, fun h9 => (H.a0 h9).ext hx, fun h9 => let ⟨pa, pn, pc, q1, q2, q3⟩ := H.a1 h9; ⟨pa, pn, pc, q1.ext hx, q2.ext hx, q3⟩⟩
structure FiJ (V1 : World) (b19 : Nat) (h : Hd) (i k : Nat) (e e2 : En) (path path2 : List Int) (pa : Option Addr) (pn pc : Nat) (listed : Nat → Bool) (W : World) : Prop where
 ext : Ext V1 W
 lt : b19 < W.heap.size
 p : PathF b19 path W pa pn pc
 a0 : listed 14 = false → Bk W b19 47 #[.int .i64 h.o, .int .i64 h.s, .int .u64 h.r, .int .i64 h.C, .int .i64 h.S, .int .i64 i, .int .u64 e.d, .int .i64 e.lo, .int .i64 e.hi, .slice pa pn pc, .slice none 0 0, .slice none 0 0, .int .i64 0, .int .i64 0, .int .u64 0, .int .i64 0, .int .i64 0, .int .i64 0, .int .u64 0, .int .i64 0, .int .i64 0, .slice none 0 0]
 a1 : listed 14 = true → ∃ qa qn qc, Bk W b19 47 #[.int .i64 h.o, .int .i64 h.s, .int .u64 h.r, .int .i64 h.C, .int .i64 h.S, .int .i64 i, .int .u64 e.d, .int .i64 e.lo, .int .i64 e.hi, .slice pa pn pc, .slice none 0 0, .slice none 0 0, .int .i64 h.o, .int .i64 h.s, .int .u64 h.r, .int .i64 h.C, .int .i64 h.S, .int .i64 k, .int .u64 e2.d, .int .i64 e2.lo, .int .i64 e2.hi, .slice qa qn qc] ∧ PathF b19 path2 W qa qn qc
theorem FiJ.other {V1 : World} {b19 : Nat} {h : Hd} {i k : Nat} {e e2 : En} {path path2 : List Int} {pa : Option Addr} {pn pc : Nat} {listed : Nat → Bool} {W : World} (H : FiJ V1 b19 h i k e e2 path path2 pa pn pc listed W) {j : Nat} (hj : j ≠ 14) : FiJ V1 b19 h i k e e2 path path2 pa pn pc (updE listed j) W := by
 have e9 : updE listed j 14 = listed 14 := by simp [updE, hj.symm]
 exact ⟨H.ext, H.lt, H.p, by rw [e9]; exact H.a0, by rw [e9]; exact H.a1⟩
theorem FiJ.ext1 {V1 : World} {b19 : Nat} {h : Hd} {i k : Nat} {e e2 : En} {path path2 : List Int} {pa : Option Addr} {pn pc : Nat} {listed : Nat → Bool} {W W' : World} (H : FiJ V1 b19 h i k e e2 path path2 pa pn pc listed W) (hx : Ext W W') : FiJ V1 b19 h i k e e2 path path2 pa pn pc listed W' :=
 ⟨H.ext.trans hx, Nat.lt_of_lt_of_le H.lt hx.sz, ⟨H.p.1.ext hx, H.p.2⟩, fun h9 => (H.a0 h9).ext hx, fun h9 => let ⟨qa, qn, qc, q1, q2, q3⟩ := H.a1 h9; ⟨qa, qn, qc, q1.ext hx, q2.ext hx, q3⟩⟩
set_option maxHeartbeats 8000000 in
theorem find_one {a : Option Addr} {n c : Nat} {os : List OfR} {es : Nat → List En} {ha : Option Addr} {hn hc : Nat} {hs : List Hd} {w : World} (H : ArcIn w a n c os es ha hn hc hs) (HH : ∀ k, k < hn → Held os es n (nthR hs k))
  (j i k : Nat) (hj : j < n) (hi : i < (nthR os j).n) (hk : k < (nthR os j).n) (h : Hd) (ho : h.Ok) (hid : (nthR os j).id = h.o) (s : Nat) (hs1 : h.s = s) (hsn : s ≤ (nthR os j).n) (hR : rootT (vals ((es j).take s)) = h.r)
  (hl : 0 < (levA hs h.o i).length) (hh : nthC (levA hs h.o i) 0 = ⟨[h], i⟩) (his : i < s) (hks : k < s) (hik : i < k) (ht : TB w) :
  Calls Tryz.prog 12 #[.slice a n c, .slice ha hn hc, .int .i64 h.o, .int .i64 i, .int .i64 h.o, .int .i64 k] w fun e w' =>
   ∃ pa pn pc qa qn qc, e = .returned (.tuple #[prV ⟨h, i, nthR (es j) i, pa, pn, pc⟩ ⟨h, k, nthR (es j) k, qa, qn, qc⟩ none 0 0, .bool true, .int .i64 0]) ∧ Sl .u64 w' pa pn pc (inclT (vals ((es j).take s)) i) ∧ Sl .u64 w' qa qn qc (inclT (vals ((es j).take s)) k) ∧ Ext w w' := by
 have hs4 := ho.s
 have hon : (nthR os j).n ≤ 4096 := by
  have e1 := (H.off j hj).1.hlen
  rw [← e1]
  exact (offB_iff.1 (H.off j hj).2).2.1
 have HNA := Lib.hid (fun (W : World) (hx : Ext w W) => newArchive_yes (H.ext hx) (ht.ext hx))
 have HIN := Lib.hid H
 have HIDJ := Lib.hid hid
 have HHE := Lib.hid HH
 have HTB := Lib.hid ht
 have HHS := Lib.hid (fun (b mb : Nat) (W : World) (hA : Arc W b mb a n c os es ha hn hc hs) => (by have h1 := has_yes hA j i hj hi; rw [hid] at h1; exact h1 : Calls Tryz.prog 32 #[.pointer (some ⟨b, 0, none⟩), .int .i64 h.o, .int .i64 i] W fun e w' => e = .returned (.bool true) ∧ Ext W w'))
 have HHT := Lib.hid (fun (b mb : Nat) (W : World) (hA : Arc W b mb a n c os es ha hn hc hs) => (by have h1 := has_yes hA j k hj hk; rw [hid] at h1; exact h1 : Calls Tryz.prog 32 #[.pointer (some ⟨b, 0, none⟩), .int .i64 h.o, .int .i64 k] W fun e w' => e = .returned (.bool true) ∧ Ext W w'))
 have HSE := Lib.hid (fun (b mb : Nat) (W : World) (hA : Arc W b mb a n c os es ha hn hc hs) => search_one hA h.o i h.o k (by simp [Lit.wf, IntKind.min, IntKind.max, IntKind.bits, IntKind.signed]; omega) h hl hh rfl (by omega) (by omega))
 have HLK := Lib.hid (fun (b mb : Nat) (W : World) (hA : Arc W b mb a n c os es ha hn hc hs) => hA.look false hj hid)
 have HP1 := Lib.hid (fun (W : World) (hx : Ext w W) => oprove_yes (nthR os j).id (nthR os j).a (nthR os j).n (nthR os j).c (es j) s i h.r h.C h.S W ((H.off j hj).1.ext hx) (H.off j hj).2 (by omega) hsn his hR (by rw [hid, ← hs1]; exact ho) (ht.ext hx))
 have HP2 := Lib.hid (fun (W : World) (hx : Ext w W) => oprove_yes (nthR os j).id (nthR os j).a (nthR os j).n (nthR os j).c (es j) s k h.r h.C h.S W ((H.off j hj).1.ext hx) (H.off j hj).2 (by omega) hsn hks hR (by rw [hid, ← hs1]; exact ho) (ht.ext hx))
 rw [hid, ← hs1] at HP1 HP2
 clear H HH ht hl hh hR ho hs1 hs4 hsn hj hi hk his hks hik hid hon
 have hZ := Bk.new w 47 #[.int .i64 0, .int .i64 0, .int .u64 0, .int .i64 0, .int .i64 0, .int .i64 0, .int .u64 0, .int .i64 0, .int .i64 0, .slice none 0 0, .slice none 0 0, .slice none 0 0, .int .i64 0, .int .i64 0, .int .u64 0, .int .i64 0, .int .i64 0, .int .i64 0, .int .u64 0, .int .i64 0, .int .i64 0, .slice none 0 0]
 have hx : Ext w (w.alloc (.cells #[.int .i64 0, .int .i64 0, .int .u64 0, .int .i64 0, .int .i64 0, .int .i64 0, .int .u64 0, .int .i64 0, .int .i64 0, .slice none 0 0, .slice none 0 0, .slice none 0 0, .int .i64 0, .int .i64 0, .int .u64 0, .int .i64 0, .int .i64 0, .int .i64 0, .int .u64 0, .int .i64 0, .int .i64 0, .slice none 0 0] 47)) := (Ext.refl w).alloc _
 go_enter Tryz.func12, Tryz.ntmps12
 go_upto_region 1 with fail
 generalize w.alloc (.cells #[.int .i64 0, .int .i64 0, .int .u64 0, .int .i64 0, .int .i64 0, .int .i64 0, .int .u64 0, .int .i64 0, .int .i64 0, .slice none 0 0, .slice none 0 0, .slice none 0 0, .int .i64 0, .int .i64 0, .int .u64 0, .int .i64 0, .int .i64 0, .int .i64 0, .int .u64 0, .int .i64 0, .int .i64 0, .slice none 0 0] 47) = V at *
 obtain ⟨b12, hb12⟩ : ∃ b, w.heap.size = b := ⟨_, rfl⟩
 have HB12 := Lib.hid hb12
 rw [hb12] at hZ ⊢
 clear hb12
 go_wp2_with (go_at_call 31; refine (HNA.out _ hx).mono ?_; rintro e9 w1 ⟨b, mb, rfl, hAB, hAM, hx1⟩; refine hold ?_)
 refine held ?_
 have hA : Arc w1 b mb a n c os es ha hn hc hs := ⟨HIN.out.ext (hx.trans hx1), hAB, hAM⟩
 clear hAB hAM
 replace hx := hx.trans hx1
 replace hZ := hZ.ext hx1
 clear hx1 HNA
 go_wp2_with (go_at_call 32; refine (HHS.out _ _ _ hA).mono ?_; rintro e9 w2 ⟨rfl, hx1⟩; refine hold ?_)
 refine held ?_
 replace hA := hA.ext hx1
 replace hx := hx.trans hx1
 replace hZ := hZ.ext hx1
 clear hx1 HHS
 go_wp2_with (go_at_call 32; refine (HHT.out _ _ _ hA).mono ?_; rintro e9 w3 ⟨rfl, hx1⟩; refine hold ?_)
 refine held ?_
 replace hA := hA.ext hx1
 replace hx := hx.trans hx1
 replace hZ := hZ.ext hx1
 clear hx1 HHT
 have HWH := Lib.hid (whole_yes hA HHE.out (HTB.out.ext hx))
 go_wp2_with (go_at_call 33; refine HWH.out.mono ?_; rintro e9 w4 ⟨rfl, hx1⟩; refine hold ?_)
 refine held ?_
 replace hA := hA.ext hx1
 replace hx := hx.trans hx1
 replace hZ := hZ.ext hx1
 clear hx1 HWH
 go_wp2_with (go_at_call 34; refine (HSE.out _ _ _ hA).mono ?_; rintro e9 w5 ⟨ca, cc, rfl, hrw, hx1⟩; refine hold ?_)
 refine held ?_
 replace hA := hA.ext hx1
 replace hx := hx.trans hx1
 replace hZ := hZ.ext hx1
 clear hx1 HSE
 have hC := Bk.new w5 90 #[.slice ca 1 cc, .int .i64 i]
 have hx1 : Ext w5 (w5.alloc (.cells #[.slice ca 1 cc, .int .i64 i] 90)) := (Ext.refl w5).alloc _
 go_upto_region 11 with fail
 replace hA := hA.ext hx1
 replace hx := hx.trans hx1
 replace hZ := hZ.ext hx1
 replace hrw := hrw.ext hx1
 clear hx1
 generalize w5.alloc (.cells #[.slice ca 1 cc, .int .i64 i] 90) = V1 at *
 obtain ⟨b17, hb17⟩ : ∃ b, w5.heap.size = b := ⟨_, rfl⟩
 rw [hb17] at hC ⊢
 clear hb17
 have hQ := Bk.new V1 47 #[.int .i64 0, .int .i64 0, .int .u64 0, .int .i64 0, .int .i64 0, .int .i64 0, .int .u64 0, .int .i64 0, .int .i64 0, .slice none 0 0, .slice none 0 0, .slice none 0 0, .int .i64 0, .int .i64 0, .int .u64 0, .int .i64 0, .int .i64 0, .int .i64 0, .int .u64 0, .int .i64 0, .int .i64 0, .slice none 0 0]
 have hx1 : Ext V1 (V1.alloc (.cells #[.int .i64 0, .int .i64 0, .int .u64 0, .int .i64 0, .int .i64 0, .int .i64 0, .int .u64 0, .int .i64 0, .int .i64 0, .slice none 0 0, .slice none 0 0, .slice none 0 0, .int .i64 0, .int .i64 0, .int .u64 0, .int .i64 0, .int .i64 0, .int .i64 0, .int .u64 0, .int .i64 0, .int .i64 0, .slice none 0 0] 47)) := (Ext.refl V1).alloc _
 go_upto_region 12 with fail
 replace hx1 : Ext V1 (V1.alloc (.cells #[.int .i64 0, .int .i64 0, .int .u64 0, .int .i64 0, .int .i64 0, .int .i64 0, .int .u64 0, .int .i64 0, .int .i64 0, .slice none 0 0, .slice none 0 0, .slice none 0 0, .int .i64 0, .int .i64 0, .int .u64 0, .int .i64 0, .int .i64 0, .int .i64 0, .int .u64 0, .int .i64 0, .int .i64 0, .slice none 0 0] 47)) := (Ext.refl V1).alloc _
 obtain ⟨xc, oc1, rfl, hc1⟩ := hrw.at (by omega)
 have hq := hc1 0 (by omega)
 rw [Nat.zero_mul, Nat.add_zero, show nthR [h] 0 = h from rfl] at hq
 clear hc1
 generalize V1.alloc (.cells #[.int .i64 0, .int .i64 0, .int .u64 0, .int .i64 0, .int .i64 0, .int .i64 0, .int .u64 0, .int .i64 0, .int .i64 0, .slice none 0 0, .slice none 0 0, .slice none 0 0, .int .i64 0, .int .i64 0, .int .u64 0, .int .i64 0, .int .i64 0, .int .i64 0, .int .u64 0, .int .i64 0, .int .i64 0, .slice none 0 0] 47) = V2 at *
 obtain ⟨b19, hb19⟩ : ∃ b, V1.heap.size = b := ⟨_, rfl⟩
 have HLT12 : Hid (b12 < b19) := Lib.hid (by have := hZ.lt; omega)
 have HB19 : Hid (V1.heap.size ≤ b19) := Lib.hid (by omega)
 rw [hb19] at hQ ⊢
 clear hb19
 simp only [if_false, Bool.false_eq_true, ofV] at HLK
 rw [show (nthR os j).id = h.o from HIDJ.out] at HLK
 generalize (nthR os j).a = oa at *
 generalize (nthR os j).n = on at *
 generalize (nthR os j).c = oc at *
 generalize hpe1 : inclT (vals ((es j).take s)) i = path at *
 have HPE1 := Lib.hid hpe1
 clear hpe1
 generalize hpe2 : inclT (vals ((es j).take s)) k = path2 at *
 have HPE2 := Lib.hid hpe2
 clear hpe2
 generalize hpe3 : nthR (es j) i = e at *
 have HPE3 := Lib.hid hpe3
 clear hpe3
 generalize hpe4 : nthR (es j) k = e2 at *
 have HPE4 := Lib.hid hpe4
 clear hpe4
 have HI : FiI V1 b19 h i e path (fun _ => false) { V2 with drawn := V2.drawn + 1 } := ⟨hx1.drew, hQ.lt, fun _ => hQ, fun h9 => by cases h9⟩
 refine region_relyF (FiI V1 b19 h i e path) [some 65, some 66, some 67, some 68, some 69, some 70, some 71, some 72, some 73, some 74, some 75, some 76, some 64, some 77, some 78, some 79, none] [[], [0], [0, 1], [0, 1, 2], [], [0, 1, 2, 3, 4], [], [6], [6, 7], [6, 7, 8], [], [0, 1, 2, 3, 4, 5, 6, 7, 8, 9, 10], [0, 1, 2, 3, 4, 5, 6, 7, 8, 9, 10, 11], [0, 1, 2, 3, 4, 5, 6, 7, 8, 9, 10, 11, 12], [0, 1, 2, 3, 4, 5, 6, 7, 8, 9, 10, 11, 12], [0, 1, 2, 3, 4, 5, 6, 7, 8, 9, 10, 11, 12, 13], [0, 1, 2, 3, 4, 5, 6, 7, 8, 9, 10, 11, 12, 13, 15]] [[], [0], [1], [2], [], [3, 4], [], [6], [7], [8], [], [5, 9, 10], [11], [12], [12], [], [13, 15]] [none, none, none, none, none, none, none, none, none, none, none, none, none, none, none, none, none] [false, false, false, false, false, false, false, false, false, false, false, false, false, false, false, false, false] [.one ((.pointer (some ⟨b, 0, none⟩))), .one ((.pointer (some ⟨b, 0, none⟩))), .one ((.pointer (some ⟨b, 0, none⟩))), .one ((.map (some mb))), .one ((.int .i64 h.o)), .one ((.agg #[.int .i64 h.o, .slice oa on oc])), .one ((.pointer (some ⟨b17, 0, none⟩))), .one ((.slice (some ⟨xc, oc1, none⟩) 1 cc)), .one ((.pointer (some ⟨xc, oc1, none⟩))), .one ((.agg #[.int .i64 h.o, .int .i64 h.s, .int .u64 h.r, .int .i64 h.C, .int .i64 h.S])), .one ((.int .i64 i)), RFr h i e b19 path, RFr h i e b19 path, RFs h i e b19 path, .one ((.int .i64 0)), .one ((.pointer (some ⟨b19, 0, none⟩))), .any] (by kernel_rfl) (by kernel_rfl) rfl HI ?_ ?_
 ·refine stepsF_cons ?_ ?_
  ·intro listed vs W' hl hI hd hs hn hu hz ho9
   refine hold ?_
   obtain ⟨x0, x1, x2, x3, x4, x5, x6, x7, x8, x9, x10, x11, x12, x13, x14, x15, x16, rfl⟩ := lenlit17 hl; clear hl
   refine held ?_
   simp only [putAll, Act.put, List.setIfInBounds_toArray, List.set_cons_succ, List.set_cons_zero]
   go_wp2_with fail
   exact relyE_done _ rfl rfl (Ext.refl _) (hI.other (by decide))
  refine stepsF_cons ?_ ?_
  ·intro listed vs W' hl hI hd hs hn hu hz ho9
   refine hold ?_
   obtain ⟨x0, x1, x2, x3, x4, x5, x6, x7, x8, x9, x10, x11, x12, x13, x14, x15, x16, rfl⟩ := lenlit17 hl; clear hl
   simp only [factsL, atL, refV, List.getElem?_cons_succ, List.getElem?_cons_zero, List.getD_cons_succ, List.getD_cons_zero, RelL.one, RelL.any, RelL.blk, RelL.law, RFr, RFs] at hd
   obtain ⟨rfl, -⟩ := hd
   refine held ?_
   simp only [putAll, Act.put, List.setIfInBounds_toArray, List.set_cons_succ, List.set_cons_zero]
   go_wp2_with fail
   exact relyE_done _ rfl rfl (Ext.refl _) (hI.other (by decide))
  refine stepsF_cons ?_ ?_
  ·intro listed vs W' hl hI hd hs hn hu hz ho9
   refine hold ?_
   obtain ⟨x0, x1, x2, x3, x4, x5, x6, x7, x8, x9, x10, x11, x12, x13, x14, x15, x16, rfl⟩ := lenlit17 hl; clear hl
   simp only [factsL, atL, refV, List.getElem?_cons_succ, List.getElem?_cons_zero, List.getD_cons_succ, List.getD_cons_zero, RelL.one, RelL.any, RelL.blk, RelL.law, RFr, RFs] at hd
   obtain ⟨rfl, -⟩ := hd
   refine held ?_
   simp only [putAll, Act.put, List.setIfInBounds_toArray, List.set_cons_succ, List.set_cons_zero]
   go_wp2_with fail
   exact relyE_done _ rfl rfl (Ext.refl _) (hI.other (by decide))
  refine stepsF_cons ?_ ?_
  ·intro listed vs W' hl hI hd hs hn hu hz ho9
   refine hold ?_
   obtain ⟨x0, x1, x2, x3, x4, x5, x6, x7, x8, x9, x10, x11, x12, x13, x14, x15, x16, rfl⟩ := lenlit17 hl; clear hl
   simp only [factsL, atL, refV, List.getElem?_cons_succ, List.getElem?_cons_zero, List.getD_cons_succ, List.getD_cons_zero, RelL.one, RelL.any, RelL.blk, RelL.law, RFr, RFs] at hd
   obtain ⟨rfl, -⟩ := hd
   refine held ?_
   simp only [putAll, Act.put, List.setIfInBounds_toArray, List.set_cons_succ, List.set_cons_zero]
   have hA9 := hA.box.ext hI.ext
   have d0 := hA9.c 0 _ rfl
   go_wp2_with fail
   exact relyE_done _ rfl rfl (Ext.refl _) (hI.other (by decide))
  refine stepsF_cons ?_ ?_
  ·intro listed vs W' hl hI hd hs hn hu hz ho9
   refine hold ?_
   obtain ⟨x0, x1, x2, x3, x4, x5, x6, x7, x8, x9, x10, x11, x12, x13, x14, x15, x16, rfl⟩ := lenlit17 hl; clear hl
   refine held ?_
   simp only [putAll, Act.put, List.setIfInBounds_toArray, List.set_cons_succ, List.set_cons_zero]
   go_wp2_with fail
   exact relyE_done _ rfl rfl (Ext.refl _) (hI.other (by decide))
  refine stepsF_cons ?_ ?_
  ·intro listed vs W' hl hI hd hs hn hu hz ho9
   refine hold ?_
   obtain ⟨x0, x1, x2, x3, x4, x5, x6, x7, x8, x9, x10, x11, x12, x13, x14, x15, x16, rfl⟩ := lenlit17 hl; clear hl
   simp only [factsL, atL, refV, List.getElem?_cons_succ, List.getElem?_cons_zero, List.getD_cons_succ, List.getD_cons_zero, RelL.one, RelL.any, RelL.blk, RelL.law, RFr, RFs] at hd
   obtain ⟨rfl, rfl, -⟩ := hd
   refine held ?_
   simp only [putAll, Act.put, List.setIfInBounds_toArray, List.set_cons_succ, List.set_cons_zero]
   have hrun := HLK.out b mb W' (hA.ext hI.ext)
   go_wp2_with fail
   exact relyE_done _ rfl rfl (Ext.refl _) (hI.other (by decide))
  refine stepsF_cons ?_ ?_
  ·intro listed vs W' hl hI hd hs hn hu hz ho9
   refine hold ?_
   obtain ⟨x0, x1, x2, x3, x4, x5, x6, x7, x8, x9, x10, x11, x12, x13, x14, x15, x16, rfl⟩ := lenlit17 hl; clear hl
   refine held ?_
   simp only [putAll, Act.put, List.setIfInBounds_toArray, List.set_cons_succ, List.set_cons_zero]
   go_wp2_with fail
   exact relyE_done _ rfl rfl (Ext.refl _) (hI.other (by decide))
  refine stepsF_cons ?_ ?_
  ·intro listed vs W' hl hI hd hs hn hu hz ho9
   refine hold ?_
   obtain ⟨x0, x1, x2, x3, x4, x5, x6, x7, x8, x9, x10, x11, x12, x13, x14, x15, x16, rfl⟩ := lenlit17 hl; clear hl
   simp only [factsL, atL, refV, List.getElem?_cons_succ, List.getElem?_cons_zero, List.getD_cons_succ, List.getD_cons_zero, RelL.one, RelL.any, RelL.blk, RelL.law, RFr, RFs] at hd
   obtain ⟨rfl, -⟩ := hd
   refine held ?_
   simp only [putAll, Act.put, List.setIfInBounds_toArray, List.set_cons_succ, List.set_cons_zero]
   have hC9 := hC.ext hI.ext
   have d0 := hC9.c 0 _ rfl
   go_wp2_with fail
   exact relyE_done _ rfl rfl (Ext.refl _) (hI.other (by decide))
  refine stepsF_cons ?_ ?_
  ·intro listed vs W' hl hI hd hs hn hu hz ho9
   refine hold ?_
   obtain ⟨x0, x1, x2, x3, x4, x5, x6, x7, x8, x9, x10, x11, x12, x13, x14, x15, x16, rfl⟩ := lenlit17 hl; clear hl
   simp only [factsL, atL, refV, List.getElem?_cons_succ, List.getElem?_cons_zero, List.getD_cons_succ, List.getD_cons_zero, RelL.one, RelL.any, RelL.blk, RelL.law, RFr, RFs] at hd
   obtain ⟨rfl, -⟩ := hd
   refine held ?_
   simp only [putAll, Act.put, List.setIfInBounds_toArray, List.set_cons_succ, List.set_cons_zero]
   go_wp2_with fail
   exact relyE_done _ rfl rfl (Ext.refl _) (hI.other (by decide))
  refine stepsF_cons ?_ ?_
  ·intro listed vs W' hl hI hd hs hn hu hz ho9
   refine hold ?_
   obtain ⟨x0, x1, x2, x3, x4, x5, x6, x7, x8, x9, x10, x11, x12, x13, x14, x15, x16, rfl⟩ := lenlit17 hl; clear hl
   simp only [factsL, atL, refV, List.getElem?_cons_succ, List.getElem?_cons_zero, List.getD_cons_succ, List.getD_cons_zero, RelL.one, RelL.any, RelL.blk, RelL.law, RFr, RFs] at hd
   obtain ⟨rfl, -⟩ := hd
   refine held ?_
   simp only [putAll, Act.put, List.setIfInBounds_toArray, List.set_cons_succ, List.set_cons_zero]
   have hr9 := rangeAt_ext hq hI.ext
   obtain ⟨d0, d1, d2, d3, d4⟩ := cells_hd hr9
   go_wp2_with fail
   exact relyE_done _ rfl rfl (Ext.refl _) (hI.other (by decide))
  refine stepsF_cons ?_ ?_
  ·intro listed vs W' hl hI hd hs hn hu hz ho9
   refine hold ?_
   obtain ⟨x0, x1, x2, x3, x4, x5, x6, x7, x8, x9, x10, x11, x12, x13, x14, x15, x16, rfl⟩ := lenlit17 hl; clear hl
   refine held ?_
   simp only [putAll, Act.put, List.setIfInBounds_toArray, List.set_cons_succ, List.set_cons_zero]
   go_wp2_with fail
   exact relyE_done _ rfl rfl (Ext.refl _) (hI.other (by decide))
  refine stepsF_cons ?_ ?_
  ·intro listed vs W' hl hI hd hs hn hu hz ho9
   refine hold ?_
   obtain ⟨x0, x1, x2, x3, x4, x5, x6, x7, x8, x9, x10, x11, x12, x13, x14, x15, x16, rfl⟩ := lenlit17 hl; clear hl
   simp only [factsL, atL, refV, List.getElem?_cons_succ, List.getElem?_cons_zero, List.getD_cons_succ, List.getD_cons_zero, RelL.one, RelL.any, RelL.blk, RelL.law, RFr, RFs] at hd
   obtain ⟨rfl, rfl, rfl, -⟩ := hd
   refine held ?_
   simp only [putAll, Act.put, List.setIfInBounds_toArray, List.set_cons_succ, List.set_cons_zero]
   go_wp2_with (go_at_call 22; refine (HP1.out _ (hx.trans hI.ext)).mono ?_; rintro e9 w9 ⟨pa, pn, pc, rfl, hp1, hp2, hx9⟩)
   exact relyE_done _ rfl ⟨pa, pn, pc, rfl, hp1, fun b8 o8 q h0 => by have := hp2 b8 o8 q h0; have := hI.lt; omega⟩ hx9 ((hI.ext1 hx9).other (by decide))
  refine stepsF_cons ?_ ?_
  ·intro listed vs W' hl hI hd hs hn hu hz ho9
   refine hold ?_
   obtain ⟨x0, x1, x2, x3, x4, x5, x6, x7, x8, x9, x10, x11, x12, x13, x14, x15, x16, rfl⟩ := lenlit17 hl; clear hl
   simp only [factsL, atL, refV, List.getElem?_cons_succ, List.getElem?_cons_zero, List.getD_cons_succ, List.getD_cons_zero, RelL.one, RelL.any, RelL.blk, RelL.law, RFr, RFs] at hd
   obtain ⟨⟨pa, pn, pc, rfl, hp⟩, -⟩ := hd
   refine held ?_
   simp only [putAll, Act.put, List.setIfInBounds_toArray, List.set_cons_succ, List.set_cons_zero]
   unfold rcV
   go_wp2_with fail
   exact relyE_done _ rfl ⟨pa, pn, pc, rfl, hp⟩ (Ext.refl _) (hI.other (by decide))
  refine stepsF_cons ?_ ?_
  ·intro listed vs W' hl hI hd hs hn hu hz ho9
   refine hold ?_
   obtain ⟨x0, x1, x2, x3, x4, x5, x6, x7, x8, x9, x10, x11, x12, x13, x14, x15, x16, rfl⟩ := lenlit17 hl; clear hl
   simp only [factsL, atL, refV, List.getElem?_cons_succ, List.getElem?_cons_zero, List.getD_cons_succ, List.getD_cons_zero, RelL.one, RelL.any, RelL.blk, RelL.law, RFr, RFs] at hd
   obtain ⟨⟨pa, pn, pc, rfl, hp⟩, -⟩ := hd
   refine held ?_
   simp only [putAll, Act.put, List.setIfInBounds_toArray, List.set_cons_succ, List.set_cons_zero]
   unfold rcV
   go_wp2_with fail
   exact relyE_done _ rfl ⟨pa, pn, pc, rfl, hp⟩ (Ext.refl _) (hI.other (by decide))
  refine stepsF_cons ?_ ?_
  ·intro listed vs W' hl hI hd hs hn hu hz ho9
   refine hold ?_
   obtain ⟨x0, x1, x2, x3, x4, x5, x6, x7, x8, x9, x10, x11, x12, x13, x14, x15, x16, rfl⟩ := lenlit17 hl; clear hl
   simp only [factsL, atL, refV, List.getElem?_cons_succ, List.getElem?_cons_zero, List.getD_cons_succ, List.getD_cons_zero, RelL.one, RelL.any, RelL.blk, RelL.law, RFr, RFs] at hd
   obtain ⟨⟨pa, pn, pc, rfl, hp⟩, -⟩ := hd
   refine held ?_
   simp only [putAll, Act.put, List.setIfInBounds_toArray, List.set_cons_succ, List.set_cons_zero]
   unfold rcV
   go_wp2_with fail
   exact relyE_done _ rfl rfl (Ext.refl _) (hI.other (by decide))
  refine stepsF_cons ?_ ?_
  ·intro listed vs W' hl hI hd hs hn hu hz ho9
   refine hold ?_
   obtain ⟨x0, x1, x2, x3, x4, x5, x6, x7, x8, x9, x10, x11, x12, x13, x14, x15, x16, rfl⟩ := lenlit17 hl; clear hl
   refine held ?_
   simp only [putAll, Act.put, List.setIfInBounds_toArray, List.set_cons_succ, List.set_cons_zero]
   go_wp2_with fail
   exact relyE_done _ rfl rfl (Ext.refl _) (hI.other (by decide))
  refine stepsF_cons ?_ ?_
  ·intro listed vs W' hl hI hd hs hn hu hz ho9
   refine hold ?_
   obtain ⟨x0, x1, x2, x3, x4, x5, x6, x7, x8, x9, x10, x11, x12, x13, x14, x15, x16, rfl⟩ := lenlit17 hl; clear hl
   simp only [factsL, atL, refV, List.getElem?_cons_succ, List.getElem?_cons_zero, List.getD_cons_succ, List.getD_cons_zero, RelL.one, RelL.any, RelL.blk, RelL.law, RFr, RFs] at hd
   obtain ⟨⟨pa, pn, pc, rfl, hp⟩, rfl, -⟩ := hd
   refine held ?_
   simp only [putAll, Act.put, List.setIfInBounds_toArray, List.set_cons_succ, List.set_cons_zero]
   unfold rcV
   have hQ9 := hI.a0 hz
   have s0 := hQ9.c 0 _ rfl
   have s1 := hQ9.c 1 _ rfl
   have s2 := hQ9.c 2 _ rfl
   have s3 := hQ9.c 3 _ rfl
   have s4 := hQ9.c 4 _ rfl
   have s5 := hQ9.c 5 _ rfl
   have s6 := hQ9.c 6 _ rfl
   have s7 := hQ9.c 7 _ rfl
   have s8 := hQ9.c 8 _ rfl
   have s9 := hQ9.c 9 _ rfl
   have fz := hQ9.free
   go_wp2_with fail
   exact relyE_store undef rfl trivial (by simp [World.setCell]) ⟨(fun _ _ h => h), (fun _ _ h => h), (fun _ _ h => h), (fun _ _ h => h), (fun _ _ h => h), (fun _ _ h => h), (fun _ _ h => h), (fun _ _ h => h), (fun _ _ h => h), (fun _ _ h => h), (fun _ _ h => h), (fun _ _ ⟨pa9, pn9, pc9, q1, q2, q3⟩ => ⟨pa9, pn9, pc9, q1, q2.at0 (fun b off q h0 => Nat.ne_of_gt (q3 b off q h0)) _ _ _ _ _ _ _ _ _ _, q3⟩), (fun _ _ ⟨pa9, pn9, pc9, q1, q2, q3⟩ => ⟨pa9, pn9, pc9, q1, q2.at0 (fun b off q h0 => Nat.ne_of_gt (q3 b off q h0)) _ _ _ _ _ _ _ _ _ _, q3⟩), (fun _ _ ⟨pa9, pn9, pc9, q1, q2, q3⟩ => ⟨pa9, pn9, pc9, q1, q2.at0 (fun b off q h0 => Nat.ne_of_gt (q3 b off q h0)) _ _ _ _ _ _ _ _ _ _, q3⟩), (fun _ _ h => h), (fun _ _ h => h), (fun _ _ h => h), trivial⟩ ⟨hI.ext.at0 HB19.out _ _ _ _ _ _ _ _ _ _, (hQ9.set22at0 _ _ _ _ _ _ _ _ _ _).lt, fun h9 => by simp [updE] at h9, fun _ => ⟨pa, pn, pc, hQ9.set22at0 _ _ _ _ _ _ _ _ _ _, hp.1.at0 (fun b off q h0 => Nat.ne_of_gt (hp.2 b off q h0)) _ _ _ _ _ _ _ _ _ _, hp.2⟩⟩
  exact trivial
 ·intro listed vs W' hl hall hI hd hn
  obtain ⟨x0, x1, x2, x3, x4, x5, x6, x7, x8, x9, x10, x11, x12, x13, x14, x15, x16, rfl⟩ := lenlit17 hl; clear hl
  simp only [List.length_cons, List.length_nil, List.range, List.range.loop, Nat.zero_add, Nat.reduceAdd, factsL, atL, refV, List.getElem?_cons_succ, List.getElem?_cons_zero, List.getD_cons_succ, List.getD_cons_zero, RelL.one, RelL.any, RelL.blk, RelL.law, RFr, RFs] at hd
  obtain ⟨rfl, rfl, rfl, rfl, rfl, rfl, rfl, rfl, rfl, rfl, rfl, ⟨pa, pn, pc, rfl, hp⟩, ⟨pa, pn, pc, rfl, hp⟩, ⟨pa, pn, pc, rfl, hp⟩, rfl, rfl, -, -⟩ := hd
  simp only [putAll, Act.put, List.setIfInBounds_toArray, List.set_cons_succ, List.set_cons_zero]
  obtain ⟨pa, pn, pc, hQ1, hP1⟩ := hI.a1 (hall 16 (by decide))
  have hx3 := hI.ext
  have hlt3 := hI.lt
  clear hI hn hall HP1 hQ HI
  generalize W' = V3 at *
  have HJ : FiJ V1 b19 h i k e e2 path path2 pa pn pc (fun _ => false) { V3 with drawn := V3.drawn + 1 } := ⟨hx3.drew, hlt3, ⟨hP1.1.ext (Ext.refl V3).drew, hP1.2⟩, fun _ => hQ1, fun h9 => by cases h9⟩
  go_upto_region 13 with fail
  refine region_relyF (FiJ V1 b19 h i k e e2 path path2 pa pn pc) [some 81, some 82, some 83, some 84, some 85, some 86, some 87, some 88, some 89, some 90, some 80, some 91, some 92, some 93, none] [[], [0], [0, 1], [0, 1, 2], [], [0, 1, 2, 3, 4], [], [6], [], [0, 1, 2, 3, 4, 5, 6, 7, 8], [0, 1, 2, 3, 4, 5, 6, 7, 8, 9], [0, 1, 2, 3, 4, 5, 6, 7, 8, 9, 10], [0, 1, 2, 3, 4, 5, 6, 7, 8, 9, 10], [0, 1, 2, 3, 4, 5, 6, 7, 8, 9, 10, 11], [0, 1, 2, 3, 4, 5, 6, 7, 8, 9, 10, 11, 13]] [[], [0], [1], [2], [], [3, 4], [], [6], [], [5, 7, 8], [9], [10], [10], [], [11, 13]] [none, none, none, none, none, none, none, none, none, none, none, none, none, none, none] [false, false, false, false, false, false, false, false, false, false, false, false, false, false, false] [.one ((.pointer (some ⟨b, 0, none⟩))), .one ((.pointer (some ⟨b, 0, none⟩))), .one ((.pointer (some ⟨b, 0, none⟩))), .one ((.map (some mb))), .one ((.int .i64 h.o)), .one ((.agg #[.int .i64 h.o, .slice oa on oc])), .one ((.agg #[.slice (some ⟨xc, oc1, none⟩) 1 cc, .int .i64 i])), .one ((.agg #[.int .i64 h.o, .int .i64 h.s, .int .u64 h.r, .int .i64 h.C, .int .i64 h.S])), .one ((.int .i64 k)), RFr h k e2 b19 path2, RFr h k e2 b19 path2, RFs h k e2 b19 path2, .one ((.int .i64 0)), .one ((.pointer (some ⟨b19, 12, none⟩))), .any] (by kernel_rfl) (by kernel_rfl) rfl HJ ?_ ?_
  ·refine stepsF_cons ?_ ?_
   ·intro listed vs W' hl hI hd hs hn hu hz ho9
    refine hold ?_
    obtain ⟨x0, x1, x2, x3, x4, x5, x6, x7, x8, x9, x10, x11, x12, x13, x14, rfl⟩ := lenlit15 hl; clear hl
    refine held ?_
    simp only [putAll, Act.put, List.setIfInBounds_toArray, List.set_cons_succ, List.set_cons_zero]
    go_wp2_with fail
    exact relyE_done _ rfl rfl (Ext.refl _) (hI.other (by decide))
   refine stepsF_cons ?_ ?_
   ·intro listed vs W' hl hI hd hs hn hu hz ho9
    refine hold ?_
    obtain ⟨x0, x1, x2, x3, x4, x5, x6, x7, x8, x9, x10, x11, x12, x13, x14, rfl⟩ := lenlit15 hl; clear hl
    simp only [factsL, atL, refV, List.getElem?_cons_succ, List.getElem?_cons_zero, List.getD_cons_succ, List.getD_cons_zero, RelL.one, RelL.any, RelL.blk, RelL.law, RFr, RFs] at hd
    obtain ⟨rfl, -⟩ := hd
    refine held ?_
    simp only [putAll, Act.put, List.setIfInBounds_toArray, List.set_cons_succ, List.set_cons_zero]
    go_wp2_with fail
    exact relyE_done _ rfl rfl (Ext.refl _) (hI.other (by decide))
   refine stepsF_cons ?_ ?_
   ·intro listed vs W' hl hI hd hs hn hu hz ho9
    refine hold ?_
    obtain ⟨x0, x1, x2, x3, x4, x5, x6, x7, x8, x9, x10, x11, x12, x13, x14, rfl⟩ := lenlit15 hl; clear hl
    simp only [factsL, atL, refV, List.getElem?_cons_succ, List.getElem?_cons_zero, List.getD_cons_succ, List.getD_cons_zero, RelL.one, RelL.any, RelL.blk, RelL.law, RFr, RFs] at hd
    obtain ⟨rfl, -⟩ := hd
    refine held ?_
    simp only [putAll, Act.put, List.setIfInBounds_toArray, List.set_cons_succ, List.set_cons_zero]
    go_wp2_with fail
    exact relyE_done _ rfl rfl (Ext.refl _) (hI.other (by decide))
   refine stepsF_cons ?_ ?_
   ·intro listed vs W' hl hI hd hs hn hu hz ho9
    refine hold ?_
    obtain ⟨x0, x1, x2, x3, x4, x5, x6, x7, x8, x9, x10, x11, x12, x13, x14, rfl⟩ := lenlit15 hl; clear hl
    simp only [factsL, atL, refV, List.getElem?_cons_succ, List.getElem?_cons_zero, List.getD_cons_succ, List.getD_cons_zero, RelL.one, RelL.any, RelL.blk, RelL.law, RFr, RFs] at hd
    obtain ⟨rfl, -⟩ := hd
    refine held ?_
    simp only [putAll, Act.put, List.setIfInBounds_toArray, List.set_cons_succ, List.set_cons_zero]
    have hA9 := hA.box.ext hI.ext
    have d0 := hA9.c 0 _ rfl
    go_wp2_with fail
    exact relyE_done _ rfl rfl (Ext.refl _) (hI.other (by decide))
   refine stepsF_cons ?_ ?_
   ·intro listed vs W' hl hI hd hs hn hu hz ho9
    refine hold ?_
    obtain ⟨x0, x1, x2, x3, x4, x5, x6, x7, x8, x9, x10, x11, x12, x13, x14, rfl⟩ := lenlit15 hl; clear hl
    refine held ?_
    simp only [putAll, Act.put, List.setIfInBounds_toArray, List.set_cons_succ, List.set_cons_zero]
    go_wp2_with fail
    exact relyE_done _ rfl rfl (Ext.refl _) (hI.other (by decide))
   refine stepsF_cons ?_ ?_
   ·intro listed vs W' hl hI hd hs hn hu hz ho9
    refine hold ?_
    obtain ⟨x0, x1, x2, x3, x4, x5, x6, x7, x8, x9, x10, x11, x12, x13, x14, rfl⟩ := lenlit15 hl; clear hl
    simp only [factsL, atL, refV, List.getElem?_cons_succ, List.getElem?_cons_zero, List.getD_cons_succ, List.getD_cons_zero, RelL.one, RelL.any, RelL.blk, RelL.law, RFr, RFs] at hd
    obtain ⟨rfl, rfl, -⟩ := hd
    refine held ?_
    simp only [putAll, Act.put, List.setIfInBounds_toArray, List.set_cons_succ, List.set_cons_zero]
    have hrun := HLK.out b mb W' (hA.ext hI.ext)
    go_wp2_with fail
    exact relyE_done _ rfl rfl (Ext.refl _) (hI.other (by decide))
   refine stepsF_cons ?_ ?_
   ·intro listed vs W' hl hI hd hs hn hu hz ho9
    refine hold ?_
    obtain ⟨x0, x1, x2, x3, x4, x5, x6, x7, x8, x9, x10, x11, x12, x13, x14, rfl⟩ := lenlit15 hl; clear hl
    refine held ?_
    simp only [putAll, Act.put, List.setIfInBounds_toArray, List.set_cons_succ, List.set_cons_zero]
    have hC9 := hC.ext hI.ext
    have d0 := hC9.c 0 _ rfl
    have d1 := hC9.c 1 _ rfl
    go_wp2_with fail
    exact relyE_done _ rfl rfl (Ext.refl _) (hI.other (by decide))
   refine stepsF_cons ?_ ?_
   ·intro listed vs W' hl hI hd hs hn hu hz ho9
    refine hold ?_
    obtain ⟨x0, x1, x2, x3, x4, x5, x6, x7, x8, x9, x10, x11, x12, x13, x14, rfl⟩ := lenlit15 hl; clear hl
    simp only [factsL, atL, refV, List.getElem?_cons_succ, List.getElem?_cons_zero, List.getD_cons_succ, List.getD_cons_zero, RelL.one, RelL.any, RelL.blk, RelL.law, RFr, RFs] at hd
    obtain ⟨rfl, -⟩ := hd
    refine held ?_
    simp only [putAll, Act.put, List.setIfInBounds_toArray, List.set_cons_succ, List.set_cons_zero]
    have HLS := Lib.hid (last_any (some ⟨xc, oc1, none⟩) 1 cc i [h] W' (hrw.ext hI.ext) (by omega))
    unfold hdV at HLS
    rw [show nthR [h] (1 - 1) = h from rfl] at HLS
    go_wp2_with (go_at_call 35; refine HLS.out.mono ?_; rintro e9 w9 ⟨rfl, hx9⟩)
    exact relyE_done _ rfl rfl hx9 ((hI.ext1 hx9).other (by decide))
   refine stepsF_cons ?_ ?_
   ·intro listed vs W' hl hI hd hs hn hu hz ho9
    refine hold ?_
    obtain ⟨x0, x1, x2, x3, x4, x5, x6, x7, x8, x9, x10, x11, x12, x13, x14, rfl⟩ := lenlit15 hl; clear hl
    refine held ?_
    simp only [putAll, Act.put, List.setIfInBounds_toArray, List.set_cons_succ, List.set_cons_zero]
    go_wp2_with fail
    exact relyE_done _ rfl rfl (Ext.refl _) (hI.other (by decide))
   refine stepsF_cons ?_ ?_
   ·intro listed vs W' hl hI hd hs hn hu hz ho9
    refine hold ?_
    obtain ⟨x0, x1, x2, x3, x4, x5, x6, x7, x8, x9, x10, x11, x12, x13, x14, rfl⟩ := lenlit15 hl; clear hl
    simp only [factsL, atL, refV, List.getElem?_cons_succ, List.getElem?_cons_zero, List.getD_cons_succ, List.getD_cons_zero, RelL.one, RelL.any, RelL.blk, RelL.law, RFr, RFs] at hd
    obtain ⟨rfl, rfl, rfl, -⟩ := hd
    refine held ?_
    simp only [putAll, Act.put, List.setIfInBounds_toArray, List.set_cons_succ, List.set_cons_zero]
    go_wp2_with (go_at_call 22; refine (HP2.out _ (hx.trans hI.ext)).mono ?_; rintro e9 w9 ⟨qa, qn, qc, rfl, hp1, hp2, hx9⟩)
    exact relyE_done _ rfl ⟨qa, qn, qc, rfl, hp1, fun b8 o8 q h0 => by have := hp2 b8 o8 q h0; have := hI.lt; omega⟩ hx9 ((hI.ext1 hx9).other (by decide))
   refine stepsF_cons ?_ ?_
   ·intro listed vs W' hl hI hd hs hn hu hz ho9
    refine hold ?_
    obtain ⟨x0, x1, x2, x3, x4, x5, x6, x7, x8, x9, x10, x11, x12, x13, x14, rfl⟩ := lenlit15 hl; clear hl
    simp only [factsL, atL, refV, List.getElem?_cons_succ, List.getElem?_cons_zero, List.getD_cons_succ, List.getD_cons_zero, RelL.one, RelL.any, RelL.blk, RelL.law, RFr, RFs] at hd
    obtain ⟨⟨qa, qn, qc, rfl, hp⟩, -⟩ := hd
    refine held ?_
    simp only [putAll, Act.put, List.setIfInBounds_toArray, List.set_cons_succ, List.set_cons_zero]
    unfold rcV
    go_wp2_with fail
    exact relyE_done _ rfl ⟨qa, qn, qc, rfl, hp⟩ (Ext.refl _) (hI.other (by decide))
   refine stepsF_cons ?_ ?_
   ·intro listed vs W' hl hI hd hs hn hu hz ho9
    refine hold ?_
    obtain ⟨x0, x1, x2, x3, x4, x5, x6, x7, x8, x9, x10, x11, x12, x13, x14, rfl⟩ := lenlit15 hl; clear hl
    simp only [factsL, atL, refV, List.getElem?_cons_succ, List.getElem?_cons_zero, List.getD_cons_succ, List.getD_cons_zero, RelL.one, RelL.any, RelL.blk, RelL.law, RFr, RFs] at hd
    obtain ⟨⟨qa, qn, qc, rfl, hp⟩, -⟩ := hd
    refine held ?_
    simp only [putAll, Act.put, List.setIfInBounds_toArray, List.set_cons_succ, List.set_cons_zero]
    unfold rcV
    go_wp2_with fail
    exact relyE_done _ rfl ⟨qa, qn, qc, rfl, hp⟩ (Ext.refl _) (hI.other (by decide))
   refine stepsF_cons ?_ ?_
   ·intro listed vs W' hl hI hd hs hn hu hz ho9
    refine hold ?_
    obtain ⟨x0, x1, x2, x3, x4, x5, x6, x7, x8, x9, x10, x11, x12, x13, x14, rfl⟩ := lenlit15 hl; clear hl
    simp only [factsL, atL, refV, List.getElem?_cons_succ, List.getElem?_cons_zero, List.getD_cons_succ, List.getD_cons_zero, RelL.one, RelL.any, RelL.blk, RelL.law, RFr, RFs] at hd
    obtain ⟨⟨qa, qn, qc, rfl, hp⟩, -⟩ := hd
    refine held ?_
    simp only [putAll, Act.put, List.setIfInBounds_toArray, List.set_cons_succ, List.set_cons_zero]
    unfold rcV
    go_wp2_with fail
    exact relyE_done _ rfl rfl (Ext.refl _) (hI.other (by decide))
   refine stepsF_cons ?_ ?_
   ·intro listed vs W' hl hI hd hs hn hu hz ho9
    refine hold ?_
    obtain ⟨x0, x1, x2, x3, x4, x5, x6, x7, x8, x9, x10, x11, x12, x13, x14, rfl⟩ := lenlit15 hl; clear hl
    refine held ?_
    simp only [putAll, Act.put, List.setIfInBounds_toArray, List.set_cons_succ, List.set_cons_zero]
    go_wp2_with fail
    exact relyE_done _ rfl rfl (Ext.refl _) (hI.other (by decide))
   refine stepsF_cons ?_ ?_
   ·intro listed vs W' hl hI hd hs hn hu hz ho9
    refine hold ?_
    obtain ⟨x0, x1, x2, x3, x4, x5, x6, x7, x8, x9, x10, x11, x12, x13, x14, rfl⟩ := lenlit15 hl; clear hl
    simp only [factsL, atL, refV, List.getElem?_cons_succ, List.getElem?_cons_zero, List.getD_cons_succ, List.getD_cons_zero, RelL.one, RelL.any, RelL.blk, RelL.law, RFr, RFs] at hd
    obtain ⟨⟨qa, qn, qc, rfl, hp⟩, rfl, -⟩ := hd
    refine held ?_
    simp only [putAll, Act.put, List.setIfInBounds_toArray, List.set_cons_succ, List.set_cons_zero]
    unfold rcV
    have hQ9 := hI.a0 hz
    have s12 := hQ9.c 12 _ rfl
    have s13 := hQ9.c 13 _ rfl
    have s14 := hQ9.c 14 _ rfl
    have s15 := hQ9.c 15 _ rfl
    have s16 := hQ9.c 16 _ rfl
    have s17 := hQ9.c 17 _ rfl
    have s18 := hQ9.c 18 _ rfl
    have s19 := hQ9.c 19 _ rfl
    have s20 := hQ9.c 20 _ rfl
    have s21 := hQ9.c 21 _ rfl
    have fz := hQ9.free
    go_wp2_with fail
    exact relyE_store undef rfl trivial (by simp [World.setCell]) ⟨(fun _ _ h => h), (fun _ _ h => h), (fun _ _ h => h), (fun _ _ h => h), (fun _ _ h => h), (fun _ _ h => h), (fun _ _ h => h), (fun _ _ h => h), (fun _ _ h => h), (fun _ _ ⟨pa9, pn9, pc9, q1, q2, q3⟩ => ⟨pa9, pn9, pc9, q1, q2.at12 (fun b off q h0 => Nat.ne_of_gt (q3 b off q h0)) _ _ _ _ _ _ _ _ _ _, q3⟩), (fun _ _ ⟨pa9, pn9, pc9, q1, q2, q3⟩ => ⟨pa9, pn9, pc9, q1, q2.at12 (fun b off q h0 => Nat.ne_of_gt (q3 b off q h0)) _ _ _ _ _ _ _ _ _ _, q3⟩), (fun _ _ ⟨pa9, pn9, pc9, q1, q2, q3⟩ => ⟨pa9, pn9, pc9, q1, q2.at12 (fun b off q h0 => Nat.ne_of_gt (q3 b off q h0)) _ _ _ _ _ _ _ _ _ _, q3⟩), (fun _ _ h => h), (fun _ _ h => h), (fun _ _ h => h), trivial⟩ ⟨hI.ext.at12 HB19.out _ _ _ _ _ _ _ _ _ _, (hQ9.set22at12 _ _ _ _ _ _ _ _ _ _).lt, ⟨hI.p.1.at12 (fun b off q h0 => Nat.ne_of_gt (hI.p.2 b off q h0)) _ _ _ _ _ _ _ _ _ _, hI.p.2⟩, fun h9 => by simp [updE] at h9, fun _ => ⟨qa, qn, qc, hQ9.set22at12 _ _ _ _ _ _ _ _ _ _, hp.1.at12 (fun b off q h0 => Nat.ne_of_gt (hp.2 b off q h0)) _ _ _ _ _ _ _ _ _ _, hp.2⟩⟩
   exact trivial
  ·intro listed vs W' hl hall hI hd hn
   obtain ⟨x0, x1, x2, x3, x4, x5, x6, x7, x8, x9, x10, x11, x12, x13, x14, rfl⟩ := lenlit15 hl; clear hl
   simp only [List.length_cons, List.length_nil, List.range, List.range.loop, Nat.zero_add, Nat.reduceAdd, factsL, atL, refV, List.getElem?_cons_succ, List.getElem?_cons_zero, List.getD_cons_succ, List.getD_cons_zero, RelL.one, RelL.any, RelL.blk, RelL.law, RFr, RFs] at hd
   obtain ⟨rfl, rfl, rfl, rfl, rfl, rfl, rfl, rfl, rfl, ⟨qa, qn, qc, rfl, hp⟩, ⟨qa, qn, qc, rfl, hp⟩, ⟨qa, qn, qc, rfl, hp⟩, rfl, rfl, -, -⟩ := hd
   simp only [putAll, Act.put, List.setIfInBounds_toArray, List.set_cons_succ, List.set_cons_zero]
   obtain ⟨qa, qn, qc, hQ2, hP2⟩ := hI.a1 (hall 14 (by decide))
   have hPp := hI.p
   have hx4 := hI.ext
   clear hI hn hall HP2 hQ1 HJ
   obtain ⟨CL, hCL⟩ : ∃ CL : List Value, CL = [.int .i64 h.o, .int .i64 h.s, .int .u64 h.r, .int .i64 h.C, .int .i64 h.S, .int .i64 i, .int .u64 e.d, .int .i64 e.lo, .int .i64 e.hi, .slice pa pn pc, .slice none 0 0, .slice none 0 0, .int .i64 h.o, .int .i64 h.s, .int .u64 h.r, .int .i64 h.C, .int .i64 h.S, .int .i64 k, .int .u64 e2.d, .int .i64 e2.lo, .int .i64 e2.hi, .slice qa qn qc] := ⟨_, rfl⟩
   have HLN : Hid (CL.length = 22) := Lib.hid (by rw [hCL]; rfl)
   have HON : Hid (∀ v ∈ CL, v.oneCell' = true) := Lib.hid (by rw [hCL]; intro v hv; simp only [List.mem_cons, List.not_mem_nil, or_false] at hv; rcases hv with rfl | rfl | rfl | rfl | rfl | rfl | rfl | rfl | rfl | rfl | rfl | rfl | rfl | rfl | rfl | rfl | rfl | rfl | rfl | rfl | rfl | rfl <;> rfl)
   have HPV : Hid (Value.agg CL.toArray = prV ⟨h, i, e, pa, pn, pc⟩ ⟨h, k, e2, qa, qn, qc⟩ none 0 0) := Lib.hid (by rw [hCL]; rfl)
   replace hQ2 : Bk W' b19 47 CL.toArray := by rw [hCL]; exact hQ2
   clear hCL
   have hcb := hrw.bd
   have hC9 := hC.ext hx4
   have c0 := hC9.c 0 _ rfl
   go_wp2_with fail
   all_goals
    go_loopw [98] (fun ix w2 => ix = .int .i64 0 ∧ w2 = W') (fun ix _ => 0)
    case atStart => exact ⟨rfl, rfl⟩
    case round =>
     obtain ⟨rfl, rfl⟩ := hrel
     have hZ9 := hZ.ext hx4
     clear c0 hC9 hC hrw hA hZ hq
     go_upto_region 21 with fail
     try simp only [Exit.inBlock, Exit.then]
     go_wp2_with (refine loadBk rfl 47 _ rfl b19 rfl CL hQ2 _ Tryz.underlying47 rfl (by rw [HLN.out]; kernel_rfl) ?_; refine hold ?_)
     refine held ?_
     go_wp2_with (refine storeBk rfl 47 _ _ rfl b12 CL hZ9 (by rw [HLN.out]; rfl) rfl rfl (by rw [HLN.out]; kernel_rfl) HON.out ?_; refine hold ?_)
     have hZX := hZ9.allCells CL (by rw [HLN.out]; rfl)
     have hPp9 := Sl.otherCells (p := b12) (fun b8 o8 q h0 => by have := hPp.2 b8 o8 q h0; have := HLT12.out; omega) CL 0 hPp.1
     have hP29 := Sl.otherCells (p := b12) (fun b8 o8 q h0 => by have := hP2.2 b8 o8 q h0; have := HLT12.out; omega) CL 0 hP2.1
     have hx9 := Ext.cells (b := b12) (by rw [HB12.out]; exact Nat.le_refl _) CL 0 (hx.trans hx4)
     generalize World.setCells W' b12 0 CL = W9 at *
     refine held ?_
     go_wp2_with fail
     try simp only [Exit.inBlock, Exit.then]
     exact bodyPost_ret (res_find _ b12 CL (.bool true) (.int .i64 0) _ HLN.out (by rfl) (by rfl) (by rfl) hZX) rfl ⟨pa, pn, pc, qa, qn, qc, by rw [HPV.out, HPE3.out, HPE4.out], by rw [HPE1.out]; exact hPp9, by rw [HPE2.out]; exact hP29, hx9⟩
end Go.Proofs.YtacicanjmleikaaGreatDoor
