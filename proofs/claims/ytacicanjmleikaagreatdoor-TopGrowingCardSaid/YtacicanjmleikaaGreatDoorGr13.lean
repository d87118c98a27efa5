
import Derived.Test.YtacicanjmleikaaGreatDoorGr12
/- A part of the proof. -/
namespace Go.Proofs.YtacicanjmleikaaGreatDoor
open Go.RowKit Go.Sort Go.Shelf
set_option linter.unusedSimpArgs false
set_option linter.unusedVariables false
set_option maxRecDepth 100000
theorem Sl.otherB {k : IntKind} {W : World} {p : Nat} {a : Option Addr} {m c : Nat} {xs : List Int} (h : Sl k W a m c xs) (hne : ∀ b off, a = some ⟨b, off, none⟩ → 0 < m → b ≠ p) (i : Nat) (v : Value) : Sl k (W.setCell ⟨p, i, none⟩ v) a m c xs :=
 h.below (fun b off e h0 => heap_setCell_other W ⟨p, i, none⟩ b v (fun e2 => hne b off e h0 e2))
theorem Bk.set10 {W : World} {b : Nat} {T : TypeId} {u0 u1 u2 u3 u4 u5 u6 u7 u8 u9 : Value} (h : Bk W b T #[u0, u1, u2, u3, u4, u5, u6, u7, u8, u9]) (v0 v1 v2 v3 v4 v5 v6 v7 v8 v9 : Value) : Bk ((((((((((W.setCell ⟨b, 0, none⟩ v0).setCell ⟨b, 1, none⟩ v1).setCell ⟨b, 2, none⟩ v2).setCell ⟨b, 3, none⟩ v3).setCell ⟨b, 4, none⟩ v4).setCell ⟨b, 5, none⟩ v5).setCell ⟨b, 6, none⟩ v6).setCell ⟨b, 7, none⟩ v7).setCell ⟨b, 8, none⟩ v8).setCell ⟨b, 9, none⟩ v9) b T #[v0, v1, v2, v3, v4, v5, v6, v7, v8, v9] := by
 have g0 : Bk (W.setCell ⟨b, 0, none⟩ v0) b T #[v0, u1, u2, u3, u4, u5, u6, u7, u8, u9] := h.set 0 v0
 have g1 : Bk ((W.setCell ⟨b, 0, none⟩ v0).setCell ⟨b, 1, none⟩ v1) b T #[v0, v1, u2, u3, u4, u5, u6, u7, u8, u9] := g0.set 1 v1
 have g2 : Bk (((W.setCell ⟨b, 0, none⟩ v0).setCell ⟨b, 1, none⟩ v1).setCell ⟨b, 2, none⟩ v2) b T #[v0, v1, v2, u3, u4, u5, u6, u7, u8, u9] := g1.set 2 v2
 have g3 : Bk ((((W.setCell ⟨b, 0, none⟩ v0).setCell ⟨b, 1, none⟩ v1).setCell ⟨b, 2, none⟩ v2).setCell ⟨b, 3, none⟩ v3) b T #[v0, v1, v2, v3, u4, u5, u6, u7, u8, u9] := g2.set 3 v3
 have g4 : Bk (((((W.setCell ⟨b, 0, none⟩ v0).setCell ⟨b, 1, none⟩ v1).setCell ⟨b, 2, none⟩ v2).setCell ⟨b, 3, none⟩ v3).setCell ⟨b, 4, none⟩ v4) b T #[v0, v1, v2, v3, v4, u5, u6, u7, u8, u9] := g3.set 4 v4
 have g5 : Bk ((((((W.setCell ⟨b, 0, none⟩ v0).setCell ⟨b, 1, none⟩ v1).setCell ⟨b, 2, none⟩ v2).setCell ⟨b, 3, none⟩ v3).setCell ⟨b, 4, none⟩ v4).setCell ⟨b, 5, none⟩ v5) b T #[v0, v1, v2, v3, v4, v5, u6, u7, u8, u9] := g4.set 5 v5
 have g6 : Bk (((((((W.setCell ⟨b, 0, none⟩ v0).setCell ⟨b, 1, none⟩ v1).setCell ⟨b, 2, none⟩ v2).setCell ⟨b, 3, none⟩ v3).setCell ⟨b, 4, none⟩ v4).setCell ⟨b, 5, none⟩ v5).setCell ⟨b, 6, none⟩ v6) b T #[v0, v1, v2, v3, v4, v5, v6, u7, u8, u9] := g5.set 6 v6
 have g7 : Bk ((((((((W.setCell ⟨b, 0, none⟩ v0).setCell ⟨b, 1, none⟩ v1).setCell ⟨b, 2, none⟩ v2).setCell ⟨b, 3, none⟩ v3).setCell ⟨b, 4, none⟩ v4).setCell ⟨b, 5, none⟩ v5).setCell ⟨b, 6, none⟩ v6).setCell ⟨b, 7, none⟩ v7) b T #[v0, v1, v2, v3, v4, v5, v6, v7, u8, u9] := g6.set 7 v7
 have g8 : Bk (((((((((W.setCell ⟨b, 0, none⟩ v0).setCell ⟨b, 1, none⟩ v1).setCell ⟨b, 2, none⟩ v2).setCell ⟨b, 3, none⟩ v3).setCell ⟨b, 4, none⟩ v4).setCell ⟨b, 5, none⟩ v5).setCell ⟨b, 6, none⟩ v6).setCell ⟨b, 7, none⟩ v7).setCell ⟨b, 8, none⟩ v8) b T #[v0, v1, v2, v3, v4, v5, v6, v7, v8, u9] := g7.set 8 v8
 have g9 : Bk ((((((((((W.setCell ⟨b, 0, none⟩ v0).setCell ⟨b, 1, none⟩ v1).setCell ⟨b, 2, none⟩ v2).setCell ⟨b, 3, none⟩ v3).setCell ⟨b, 4, none⟩ v4).setCell ⟨b, 5, none⟩ v5).setCell ⟨b, 6, none⟩ v6).setCell ⟨b, 7, none⟩ v7).setCell ⟨b, 8, none⟩ v8).setCell ⟨b, 9, none⟩ v9) b T #[v0, v1, v2, v3, v4, v5, v6, v7, v8, v9] := g8.set 9 v9
 exact g9
theorem Ext.set10 {w W : World} {b : Nat} (hE : Ext w W) (hb : w.heap.size ≤ b) (v0 v1 v2 v3 v4 v5 v6 v7 v8 v9 : Value) : Ext w ((((((((((W.setCell ⟨b, 0, none⟩ v0).setCell ⟨b, 1, none⟩ v1).setCell ⟨b, 2, none⟩ v2).setCell ⟨b, 3, none⟩ v3).setCell ⟨b, 4, none⟩ v4).setCell ⟨b, 5, none⟩ v5).setCell ⟨b, 6, none⟩ v6).setCell ⟨b, 7, none⟩ v7).setCell ⟨b, 8, none⟩ v8).setCell ⟨b, 9, none⟩ v9) := ((((((((((hE.setCell (p := ⟨b, 0, none⟩) hb v0).setCell (p := ⟨b, 1, none⟩) hb v1).setCell (p := ⟨b, 2, none⟩) hb v2).setCell (p := ⟨b, 3, none⟩) hb v3).setCell (p := ⟨b, 4, none⟩) hb v4).setCell (p := ⟨b, 5, none⟩) hb v5).setCell (p := ⟨b, 6, none⟩) hb v6).setCell (p := ⟨b, 7, none⟩) hb v7).setCell (p := ⟨b, 8, none⟩) hb v8).setCell (p := ⟨b, 9, none⟩) hb v9)
theorem Bk.other10 {W : World} {b p : Nat} {T : TypeId} {cs : Array Value} (h : Bk W b T cs) (hne : p ≠ b) (v0 v1 v2 v3 v4 v5 v6 v7 v8 v9 : Value) : Bk ((((((((((W.setCell ⟨p, 0, none⟩ v0).setCell ⟨p, 1, none⟩ v1).setCell ⟨p, 2, none⟩ v2).setCell ⟨p, 3, none⟩ v3).setCell ⟨p, 4, none⟩ v4).setCell ⟨p, 5, none⟩ v5).setCell ⟨p, 6, none⟩ v6).setCell ⟨p, 7, none⟩ v7).setCell ⟨p, 8, none⟩ v8).setCell ⟨p, 9, none⟩ v9) b T cs := ((((((((((h.otherB hne 0 v0).otherB hne 1 v1).otherB hne 2 v2).otherB hne 3 v3).otherB hne 4 v4).otherB hne 5 v5).otherB hne 6 v6).otherB hne 7 v7).otherB hne 8 v8).otherB hne 9 v9)
theorem Sl.other10 {k : IntKind} {W : World} {p : Nat} {a : Option Addr} {m c : Nat} {xs : List Int} (h : Sl k W a m c xs) (hne : ∀ b off, a = some ⟨b, off, none⟩ → 0 < m → b ≠ p) (v0 v1 v2 v3 v4 v5 v6 v7 v8 v9 : Value) : Sl k ((((((((((W.setCell ⟨p, 0, none⟩ v0).setCell ⟨p, 1, none⟩ v1).setCell ⟨p, 2, none⟩ v2).setCell ⟨p, 3, none⟩ v3).setCell ⟨p, 4, none⟩ v4).setCell ⟨p, 5, none⟩ v5).setCell ⟨p, 6, none⟩ v6).setCell ⟨p, 7, none⟩ v7).setCell ⟨p, 8, none⟩ v8).setCell ⟨p, 9, none⟩ v9) a m c xs := ((((((((((h.otherB hne 0 v0).otherB hne 1 v1).otherB hne 2 v2).otherB hne 3 v3).otherB hne 4 v4).otherB hne 5 v5).otherB hne 6 v6).otherB hne 7 v7).otherB hne 8 v8).otherB hne 9 v9)
def rcV (h : Hd) (i : Int) (e : En) (pa : Option Addr) (pn pc : Nat) : Value := .agg #[.int .i64 h.o, .int .i64 h.s, .int .u64 h.r, .int .i64 h.C, .int .i64 h.S, .int .i64 i, .int .u64 e.d, .int .i64 e.lo, .int .i64 e.hi, .slice pa pn pc]
theorem res_oprove (W : World) (b : Nat) (v0 v1 v2 v3 v4 v5 v6 v7 v8 v9 z : Value) (tmps : Array Value) (hb : tmps[6]?.getD undef = .pointer (some ⟨b, 0, none⟩)) (h7 : tmps[7]?.getD undef = z) (h : Bk W b 44 #[v0, v1, v2, v3, v4, v5, v6, v7, v8, v9]) :
  (results Tryz.f22 tmps).run Tryz.prog W = .ok (.tuple #[.agg #[v0, v1, v2, v3, v4, v5, v6, v7, v8, v9], z]) W := by
 have c0 := h.c 0 _ rfl
 have c1 := h.c 1 _ rfl
 have c2 := h.c 2 _ rfl
 have c3 := h.c 3 _ rfl
 have c4 := h.c 4 _ rfl
 have c5 := h.c 5 _ rfl
 have c6 := h.c 6 _ rfl
 have c7 := h.c 7 _ rfl
 have c8 := h.c 8 _ rfl
 have c9 := h.c 9 _ rfl
 simp [results, Tryz.results22, go_sem, hb, h7, c0, c1, c2, c3, c4, c5, c6, c7, c8, c9]
set_option maxHeartbeats 4000000 in
theorem oprove_yes (id : Int) (a : Option Addr) (n c : Nat) (es : List En) (s i : Nat) (R C S : Int) (w : World) (h : Rw w a n c es) (hv : offB id es = true) (h1 : 1 ≤ s) (hs : s ≤ n) (hi : i < s) (hR : rootT (vals (es.take s)) = R) (hk : Hd.Ok ⟨id, s, R, C, S⟩) (ht : TB w) :
  Calls Tryz.prog 22 #[.agg #[.int .i64 id, .slice a n c], .agg #[.int .i64 id, .int .i64 s, .int .u64 R, .int .i64 C, .int .i64 S], .int .i64 i] w fun e w' => ∃ pa pn pc, e = .returned (.tuple #[rcV ⟨id, s, R, C, S⟩ i (nthR es i) pa pn pc, .int .i64 0]) ∧ Sl .u64 w' pa pn pc (inclT (vals (es.take s)) i) ∧ (∀ b' off, pa = some ⟨b', off, none⟩ → 0 < pn → w.heap.size ≤ b') ∧ Ext w w' := by
 have hid := (offB_iff.1 hv).1
 have hn : n ≤ 4096 := by rw [← h.hlen]; exact (offB_iff.1 hv).2.1
 have bd := h.bd
 have HLT : Hid ((vals (es.take s)).length = s) := Lib.hid (by rw [vals_len, List.length_take, h.hlen]; omega)
 have HVL := Lib.hid (fun (W : World) (hx : Ext w W) => ovalid_yes id a n c es W (h.ext hx) hv)
 have HRT := Lib.hid (fun (W : World) (hx : Ext w W) => oroot_any id a n c es s W (h.ext hx) h1 hs hn (ht.ext hx))
 rw [hR] at HRT
 have HFM := Lib.hid (fun W => hformed_yes _ hk W)
 unfold hdV at HFM
 simp only at HFM
 have HBT := Lib.hid (fun W => between_yes (n := (i : Int)) (lo := 0) (hi := ((s : Int) - 1)) (by omega) W)
 have HBS9 : Hid (s ≤ 4096 ∧ i < s ∧ s ≤ n) := Lib.hid (by omega)
 obtain ⟨x1, o1, rfl, hcE⟩ := h.at (by omega)
 have HE := Lib.hid h
 have HCL := Lib.hid (fun (W : World) (hx : Ext w W) => collect_any (some ⟨x1, o1, none⟩) s c (es.take s) W ((h.take hs).ext hx) (by omega) (ht.ext hx))
 have HTB := Lib.hid ht
 have hrE := hcE i (by omega)
 rw [sz_en] at hrE
 have HX := Lib.hid (fun (W : World) (hx : Ext w W) => cells_en (rangeAt_ext hrE hx))
 clear hrE hcE h hv ht hk hR
 generalize nthR es i = x at *
 have hB := ((Bk.new w 24 #[.int .i64 id, .slice (some ⟨x1, o1, none⟩) n c]).ext ((Ext.refl _).alloc (.cells #[.int .i64 id, .int .i64 s, .int .u64 R, .int .i64 C, .int .i64 S] 34))).ext ((Ext.refl _).alloc (.cells #[.int .i64 0, .int .i64 0, .int .u64 0, .int .i64 0, .int .i64 0, .int .i64 0, .int .u64 0, .int .i64 0, .int .i64 0, .slice none 0 0] 44))
 have hH : Bk (((w.alloc (.cells #[.int .i64 id, .slice (some ⟨x1, o1, none⟩) n c] 24)).alloc (.cells #[.int .i64 id, .int .i64 s, .int .u64 R, .int .i64 C, .int .i64 S] 34)).alloc (.cells #[.int .i64 0, .int .i64 0, .int .u64 0, .int .i64 0, .int .i64 0, .int .i64 0, .int .u64 0, .int .i64 0, .int .i64 0, .slice none 0 0] 44)) (w.heap.size + 1) 34 #[.int .i64 id, .int .i64 s, .int .u64 R, .int .i64 C, .int .i64 S] := Bk.ext (by simpa using Bk.new (w.alloc (.cells #[.int .i64 id, .slice (some ⟨x1, o1, none⟩) n c] 24)) 34 #[.int .i64 id, .int .i64 s, .int .u64 R, .int .i64 C, .int .i64 S]) ((Ext.refl _).alloc _)
 have hZ : Bk (((w.alloc (.cells #[.int .i64 id, .slice (some ⟨x1, o1, none⟩) n c] 24)).alloc (.cells #[.int .i64 id, .int .i64 s, .int .u64 R, .int .i64 C, .int .i64 S] 34)).alloc (.cells #[.int .i64 0, .int .i64 0, .int .u64 0, .int .i64 0, .int .i64 0, .int .i64 0, .int .u64 0, .int .i64 0, .int .i64 0, .slice none 0 0] 44)) (w.heap.size + 1 + 1) 44 #[.int .i64 0, .int .i64 0, .int .u64 0, .int .i64 0, .int .i64 0, .int .i64 0, .int .u64 0, .int .i64 0, .int .i64 0, .slice none 0 0] := by simpa using Bk.new ((w.alloc (.cells #[.int .i64 id, .slice (some ⟨x1, o1, none⟩) n c] 24)).alloc (.cells #[.int .i64 id, .int .i64 s, .int .u64 R, .int .i64 C, .int .i64 S] 34)) 44 #[.int .i64 0, .int .i64 0, .int .u64 0, .int .i64 0, .int .i64 0, .int .i64 0, .int .u64 0, .int .i64 0, .int .i64 0, .slice none 0 0]
 have hx : Ext w (((w.alloc (.cells #[.int .i64 id, .slice (some ⟨x1, o1, none⟩) n c] 24)).alloc (.cells #[.int .i64 id, .int .i64 s, .int .u64 R, .int .i64 C, .int .i64 S] 34)).alloc (.cells #[.int .i64 0, .int .i64 0, .int .u64 0, .int .i64 0, .int .i64 0, .int .i64 0, .int .u64 0, .int .i64 0, .int .i64 0, .slice none 0 0] 44)) := (((Ext.refl w).alloc _).alloc _).alloc _
 go_enter Tryz.func22, Tryz.ntmps22
 go_upto_region 1 with fail
 generalize ((w.alloc (.cells #[.int .i64 id, .slice (some ⟨x1, o1, none⟩) n c] 24)).alloc (.cells #[.int .i64 id, .int .i64 s, .int .u64 R, .int .i64 C, .int .i64 S] 34)).alloc (.cells #[.int .i64 0, .int .i64 0, .int .u64 0, .int .i64 0, .int .i64 0, .int .i64 0, .int .u64 0, .int .i64 0, .int .i64 0, .slice none 0 0] 44) = V at *
 obtain ⟨b, hb⟩ : ∃ b, w.heap.size = b := ⟨_, rfl⟩
 obtain ⟨b4, hb4⟩ : ∃ b4, w.heap.size + 1 = b4 := ⟨_, rfl⟩
 obtain ⟨b6, hb6⟩ : ∃ b6, w.heap.size + 1 + 1 = b6 := ⟨_, rfl⟩
 have HBS : Hid (w.heap.size ≤ b6) := Lib.hid (by omega)
 rw [hb6] at hZ
 rw [hb4] at hH
 have hb7 : b + 1 + 1 = b6 := by omega
 have hb5 : b + 1 = b4 := by omega
 rw [hb] at hB ⊢
 rw [hb7]
 try rw [hb5]
 clear hb hb4 hb6 hb7 hb5
 have c0 := hB.c 0 _ rfl
 have c1 := hB.c 1 _ rfl
 go_wp2_with (go_at_call 26; refine (HVL.out _ hx).mono ?_; rintro e w1 ⟨rfl, hx1⟩; refine hold ?_)
 refine held ?_
 replace hx := hx.trans hx1
 replace hB := hB.ext hx1
 replace hH := hH.ext hx1
 replace hZ := hZ.ext hx1
 clear hx1
 clear c0 c1
 have k0 := hH.c 0 _ rfl
 have k1 := hH.c 1 _ rfl
 have k2 := hH.c 2 _ rfl
 have k3 := hH.c 3 _ rfl
 have k4 := hH.c 4 _ rfl
 go_wp2_with (go_at_call 52; refine (HFM.out _).mono ?_; rintro e w2 ⟨rfl, hx1⟩; refine hold ?_)
 refine held ?_
 replace hx := hx.trans hx1
 replace hB := hB.ext hx1
 replace hH := hH.ext hx1
 replace hZ := hZ.ext hx1
 clear HVL HFM
 clear hx1
 clear k0 k1 k2 k3 k4
 have c0 := hB.c 0 _ rfl
 have c1 := hB.c 1 _ rfl
 have k0 := hH.c 0 _ rfl
 have k1 := hH.c 1 _ rfl
 have k2 := hH.c 2 _ rfl
 have k3 := hH.c 3 _ rfl
 have k4 := hH.c 4 _ rfl
 have k9 : ((s : Int) ≤ (n : Int)) := by have := HBS9.out; omega
 have k10 : ¬ ((n : Int) < (s : Int)) := by omega
 have k11 : decide ((n : Int) < (s : Int)) = false := decide_eq_false k10
 have k12 : IntKind.i64.wrap ((s : Int) - 1) = (s : Int) - 1 := by have := HBS9.out; rw [IntKind.wrap_i64]; omega
 go_wp2_with ((first | (go_at_call 27; refine (HBT.out _).mono ?_; rintro e w3 ⟨rfl, rfl⟩) | (go_at_call 28; refine (HRT.out _ hx).mono ?_; rintro e w3 ⟨rfl, hx1⟩; refine hold ?_)))
 refine held ?_
 replace hx := hx.trans hx1
 replace hB := hB.ext hx1
 replace hH := hH.ext hx1
 replace hZ := hZ.ext hx1
 clear hx1 HRT HBT k10 k11 k12
 clear c0 c1 k0 k1 k2 k3 k4
 have c0 := hB.c 0 _ rfl
 have c1 := hB.c 1 _ rfl
 have k0 := hH.c 0 _ rfl
 have k1 := hH.c 1 _ rfl
 have k2 := hH.c 2 _ rfl
 have k3 := hH.c 3 _ rfl
 have k4 := hH.c 4 _ rfl
 have k9 : ((s : Int) ≤ (c : Int)) := by have := HBS9.out; omega
 go_wp2_with (go_at_call 54; refine (HCL.out _ hx).mono ?_; rintro e w4 ⟨a', c', rfl, ho, hx1⟩; refine hold ?_)
 refine held ?_
 replace hx := hx.trans hx1
 replace hB := hB.ext hx1
 replace hH := hH.ext hx1
 replace hZ := hZ.ext hx1
 clear k9
 clear hx1
 clear c0 c1 k0 k1 k2 k3 k4
 obtain ⟨g, rfl, hg⟩ := ho.headU (by have := HBS9.out; omega)
 have hsl := ho.sl (vals_u _)
 have HIN := Lib.hid (tinclude_any g 0 s c' (vals (es.take s)) i w4 (by have := HBS9.out; omega) (by have := HBS9.out; omega) HBS9.out.2.1 hsl (HTB.out.ext hx))
 clear hsl ho
 have HB6 : Hid (b6 < w4.heap.size ∧ w.heap.size ≤ w4.heap.size) := Lib.hid ⟨hZ.lt, hx.sz⟩
 go_wp2_with (go_at_call 53; refine HIN.out.mono ?_; rintro e w5 ⟨pa, pc, rfl, hop, hu, hx1⟩; refine hold ?_)
 refine held ?_
 replace hx := hx.trans hx1
 replace hB := hB.ext hx1
 replace hH := hH.ext hx1
 replace hZ := hZ.ext hx1
 clear HIN
 clear hx1
 have c0 := hB.c 0 _ rfl
 have c1 := hB.c 1 _ rfl
 have k0 := hH.c 0 _ rfl
 have k1 := hH.c 1 _ rfl
 have k2 := hH.c 2 _ rfl
 have k3 := hH.c 3 _ rfl
 have k4 := hH.c 4 _ rfl
 go_upto_region 9 with fail
 obtain ⟨d0, d1, d2⟩ := HX.out w5 hx
 have hl0 := hB.lt
 have hl1 := hH.lt
 have hl2 := lt_of_cell d0
 simp only at hl2
 have hin : i < n := by have := HBS9.out; omega
 have hpl := hop.sl hu
 have HNE : Hid (∀ b' off, pa = some ⟨b', off, none⟩ → 0 < (inclT (vals (es.take s)) i).length → b' ≠ b6) := Lib.hid (fun b' off e h0 => by
  obtain ⟨g2, e2, hg2⟩ := hop.headU h0
  rw [e2] at e
  simp only [Option.some.injEq, Addr.mk.injEq, and_true] at e
  have := HB6.out
  omega)
 have HFR : Hid (∀ b' off, pa = some ⟨b', off, none⟩ → 0 < (inclT (vals (es.take s)) i).length → w.heap.size ≤ b') := Lib.hid (fun b' off e h0 => by
  obtain ⟨g2, e2, hg2⟩ := hop.headU h0
  rw [e2] at e
  simp only [Option.some.injEq, Addr.mk.injEq, and_true] at e
  have := HB6.out
  omega)
 obtain ⟨PT, hPT⟩ : ∃ PT, inclT (vals (es.take s)) i = PT := ⟨_, rfl⟩
 have HPT := Lib.hid hPT
 rw [hPT] at hpl HNE HFR ⊢
 clear hPT
 have hg := @grow_cell
 refine region_tail 9 (by kernel_rfl) (by kernel_rfl) ?_
 simp only [List.take_succ_cons, List.take_zero, List.drop_succ_cons, List.drop_zero]
 repeat (go_big_quiet_step (fail))
 refine wpQuiet_nil ?_
 intro w6 hx1
 replace hx := hx.trans hx1
 replace hZ := hZ.ext hx1
 replace hpl := hpl.ext hx1
 clear hx1 hg hl0 hl1 hl2 d0 d1 d2 c0 c1 k0 k1 k2 k3 k4 hop
 have q0 := hZ.c 0 _ rfl
 have q1 := hZ.c 1 _ rfl
 have q2 := hZ.c 2 _ rfl
 have q3 := hZ.c 3 _ rfl
 have q4 := hZ.c 4 _ rfl
 have q5 := hZ.c 5 _ rfl
 have q6 := hZ.c 6 _ rfl
 have q7 := hZ.c 7 _ rfl
 have q8 := hZ.c 8 _ rfl
 have q9 := hZ.c 9 _ rfl
 have qf := hZ.free
 go_wp2_with fail
 try simp only [Exit.inBlock, Exit.then]
 refine bodyPost_ret (res_oprove _ b6 _ _ _ _ _ _ _ _ _ _ (.int .i64 0) _ (by rfl) (by rfl) (hZ.set10 (.int .i64 id) (.int .i64 s) (.int .u64 R) (.int .i64 C) (.int .i64 S) (.int .i64 i) (.int .u64 x.d) (.int .i64 x.lo) (.int .i64 x.hi) (.slice pa PT.length pc))) rfl ⟨pa, PT.length, pc, rfl, ?_, HFR.out, hx.set10 HBS.out _ _ _ _ _ _ _ _ _ _⟩
 rw [HPT.out]
 exact hpl.other10 HNE.out _ _ _ _ _ _ _ _ _ _
def inR (h : Hd) (i : Nat) (e : En) (path : List Int) : Bool := walkI h.r path (leafV (valE e)) i (h.s.toNat - 1)
theorem ocheck_any (pub : Int) (hp : pub ≠ 1) (hm : memB pub = true) (h : Hd) (hk : h.Ok) (i : Nat) (hi : (i : Int) < h.s) (e : En) (he : e.Ok) (hiv : ivOk e.lo e.hi = true) (pa : Option Addr) (pn pc : Nat) (path : List Int) (w : World) (hp2 : Sl .u64 w pa pn pc path) (hpn : pn ≤ 20) (ht : TB w) :
  Calls Tryz.prog 23 #[.int .i64 pub, rcV h i e pa pn pc] w fun e' w' => e' = .returned (.tuple #[.bool (rightH pub h && inR h i e path), .int .i64 0]) ∧ Ext w w' := by
 have HPB := Lib.hid (fun W => ispub_yes pub hp hm W)
 have HFM := Lib.hid (fun W => hformed_yes h hk W)
 have HLF := Lib.hid (fun W => lformed_any e W)
 rw [hiv] at HLF
 have HBT := Lib.hid (fun W => between_yes (n := (i : Int)) (lo := 0) (hi := (h.s - 1)) (by omega) W)
 have HRG := Lib.hid (fun (W : World) (hx : Ext w W) => oright_any pub hp hm h hk W (ht.ext hx))
 have HOL := Lib.hid (fun (W : World) (hx : Ext w W) => oleaf_any e (en_rng he) he.lo he.hi W (ht.ext hx))
 have HS := hk.s
 obtain ⟨s, hs⟩ : ∃ s : Nat, h.s = s := ⟨h.s.toNat, by omega⟩
 have HIN := Lib.hid (fun (W : World) (hx : Ext w W) => tincluded_any h.r (valE e) hk.r (val_rng e) i s (by omega) (by omega) pa pn pc path W (hp2.ext hx) (ht.ext hx))
 have HV : Hid (inR h i e path = walkI h.r path (leafV (valE e)) i (s - 1)) := Lib.hid (by unfold inR; rw [hs]; rfl)
 rw [← hs] at HIN
 unfold hdV at HFM HRG
 unfold enV at HLF HOL
 clear hp2 ht hiv hk he hp hm hs
 have hq1 : (pn : Int) ≤ 20 := by omega
 have hq2 : ¬ (20 : Int) < (pn : Int) := by omega
 have hq3 : decide ((20 : Int) < (pn : Int)) = false := decide_eq_false hq2
 have hq4 : ¬ 20 < pn := by omega
 have hq5 : decide (20 < pn) = false := decide_eq_false hq4
 have k12 : IntKind.i64.wrap (h.s - 1) = h.s - 1 := by rw [IntKind.wrap_i64]; omega
 have HK : Hid (1 ≤ h.s ∧ h.s ≤ 4096) := Lib.hid HS
 clear HS
 have hB := Bk.new w 44 #[.int .i64 h.o, .int .i64 h.s, .int .u64 h.r, .int .i64 h.C, .int .i64 h.S, .int .i64 i, .int .u64 e.d, .int .i64 e.lo, .int .i64 e.hi, .slice pa pn pc]
 have hx : Ext w (w.alloc (.cells #[.int .i64 h.o, .int .i64 h.s, .int .u64 h.r, .int .i64 h.C, .int .i64 h.S, .int .i64 i, .int .u64 e.d, .int .i64 e.lo, .int .i64 e.hi, .slice pa pn pc] 44)) := (Ext.refl w).alloc _
 unfold rcV
 go_enter Tryz.func23, Tryz.ntmps23
 go_upto_region 1 with fail
 generalize w.alloc (.cells #[.int .i64 h.o, .int .i64 h.s, .int .u64 h.r, .int .i64 h.C, .int .i64 h.S, .int .i64 i, .int .u64 e.d, .int .i64 e.lo, .int .i64 e.hi, .slice pa pn pc] 44) = V at *
 obtain ⟨b, hb⟩ : ∃ b, w.heap.size = b := ⟨_, rfl⟩
 rw [hb] at hB ⊢
 clear hb
 go_wp2_with (go_at_call 56; refine (HPB.out _).mono ?_; rintro e w1 ⟨rfl, hx1⟩; refine hold ?_)
 refine held ?_
 replace hx := hx.trans hx1
 replace hB := hB.ext hx1
 clear HPB
 clear hx1
 have c0 := hB.c 0 _ rfl
 have c1 := hB.c 1 _ rfl
 have c2 := hB.c 2 _ rfl
 have c3 := hB.c 3 _ rfl
 have c4 := hB.c 4 _ rfl
 have c5 := hB.c 5 _ rfl
 have c6 := hB.c 6 _ rfl
 have c7 := hB.c 7 _ rfl
 have c8 := hB.c 8 _ rfl
 have c9 := hB.c 9 _ rfl
 go_wp2_with (go_at_call 52; refine (HFM.out _).mono ?_; rintro e w2 ⟨rfl, hx1⟩; refine hold ?_)
 refine held ?_
 replace hx := hx.trans hx1
 replace hB := hB.ext hx1
 clear HFM
 clear hx1
 clear c0 c1 c2 c3 c4 c5 c6 c7 c8 c9
 have c0 := hB.c 0 _ rfl
 have c1 := hB.c 1 _ rfl
 have c2 := hB.c 2 _ rfl
 have c3 := hB.c 3 _ rfl
 have c4 := hB.c 4 _ rfl
 have c5 := hB.c 5 _ rfl
 have c6 := hB.c 6 _ rfl
 have c7 := hB.c 7 _ rfl
 have c8 := hB.c 8 _ rfl
 have c9 := hB.c 9 _ rfl
 go_wp2_with (go_at_call 57; refine (HLF.out _).mono ?_; rintro e w3 ⟨rfl, hx1⟩; refine hold ?_)
 refine held ?_
 replace hx := hx.trans hx1
 replace hB := hB.ext hx1
 clear HLF
 clear hx1
 clear c0 c1 c2 c3 c4 c5 c6 c7 c8 c9
 have c0 := hB.c 0 _ rfl
 have c1 := hB.c 1 _ rfl
 have c2 := hB.c 2 _ rfl
 have c3 := hB.c 3 _ rfl
 have c4 := hB.c 4 _ rfl
 have c5 := hB.c 5 _ rfl
 have c6 := hB.c 6 _ rfl
 have c7 := hB.c 7 _ rfl
 have c8 := hB.c 8 _ rfl
 have c9 := hB.c 9 _ rfl
 go_wp2_with ((first | (go_at_call 27; refine (HBT.out _).mono ?_; rintro e' w4 ⟨rfl, rfl⟩) | (go_at_call 48; refine (HRG.out _ hx).mono ?_; rintro e' w4 ⟨rfl, hx1⟩; refine hold ?_)))
 refine held ?_
 replace hx := hx.trans hx1
 replace hB := hB.ext hx1
 clear hx1 HBT HRG k12 hq1 hq2 hq3 hq4 hq5
 clear c0 c1 c2 c3 c4 c5 c6 c7 c8 c9
 cases hrg : rightH pub h with
 | false =>
  have HR2 := Lib.hid hrg
  clear hrg
  go_upto_region 4 with fail
  have hg := @grow_cell
  refine region_ext (by kernel_rfl) (by kernel_rfl) ?_
  repeat (go_big_quiet_step (fail))
  refine wpQuiet_nil ?_
  intro w5 hx1
  clear hg
  go_wp2_with fail
  go_ret2
  rw [HR2.out, HV.out]
  exact ⟨rfl, hx.trans hx1⟩
 | true =>
  have HR2 := Lib.hid hrg
  clear hrg
  go_upto_region 4 with fail
  have hg := @grow_cell
  have hl0 := hB.lt
  have c0 := hB.c 0 _ rfl
  have c1 := hB.c 1 _ rfl
  have c2 := hB.c 2 _ rfl
  have c3 := hB.c 3 _ rfl
  have c4 := hB.c 4 _ rfl
  have c5 := hB.c 5 _ rfl
  have c6 := hB.c 6 _ rfl
  have c7 := hB.c 7 _ rfl
  have c8 := hB.c 8 _ rfl
  have c9 := hB.c 9 _ rfl
  have HOL2 := Lib.hid (fun d os => HOL.out (grow (redrawn w4 d) os) (hx.trans (ext_grow w4 d os)))
  have HIN2 := Lib.hid (fun d os => HIN.out (grow (redrawn w4 d) os) (hx.trans (ext_grow w4 d os)))
  refine region_ext (by kernel_rfl) (by kernel_rfl) ?_
  repeat (go_big_quiet_step (first | (go_at_call 55; exact Calls.regrown_of (HOL2.out _ _)) | (go_at_call 58; exact Calls.regrown_of (HIN2.out _ _))))
  refine wpQuiet_nil ?_
  intro w5 hx1
  clear hg hl0 c0 c1 c2 c3 c4 c5 c6 c7 c8 c9
  go_wp2_with fail
  go_ret2
  rw [HR2.out, HV.out]
  exact ⟨rfl, hx.trans hx1⟩
open Go.RowKit Go.Sort Go.Shelf
def dgl (h : Hd) : List Int := [h.o, h.s, h.r / 4294967296, h.r % 4294967296, h.C, h.S]
def digH (h : Hd) : Int := fnv (txt (dgl h))
theorem dig_rng (h : Hd) : 0 ≤ digH h ∧ digH h ≤ 18446744073709551615 := fnv_rng _
theorem dgl_wf {h : Hd} (hk : h.Ok) : ∀ x ∈ dgl h, (Lit.int .i64 x).wf = true := by
 have h1 := hk.o
 have h2 := hk.s
 have h3 := hk.r
 have h4 := hk.C
 have h5 := hk.S
 intro x hx
 simp only [dgl, List.mem_cons, List.not_mem_nil, or_false] at hx
 rcases hx with rfl | rfl | rfl | rfl | rfl | rfl <;> exact i64_wf (by omega)
theorem and_low {r : Int} (h : 0 ≤ r ∧ r ≤ 18446744073709551615) : bits .and .u64 r 4294967295 = r % 4294967296 := by
 show IntKind.u64.wrap ((BitVec.ofInt 64 r &&& BitVec.ofInt 64 4294967295).toNat : Int) = _
 rw [BitVec.toNat_and, BitVec.toNat_ofInt, show (BitVec.ofInt 64 4294967295).toNat = 2 ^ 32 - 1 from rfl, Nat.and_two_pow_sub_one_eq_mod, IntKind.wrap_u64]
 have : (r % ((2 ^ 64 : Nat) : Int)).toNat = r.toNat := by omega
 rw [this]
 omega
theorem cdigest_any (h : Hd) (hk : h.Ok) (w : World) (ht : TB w) :
  Calls Tryz.prog 49 #[hdV h] w fun e w' => e = .returned (.int .u64 (digH h)) ∧ Ext w w' := by
 unfold hdV
 have hB := Bk.new w 34 #[.int .i64 h.o, .int .i64 h.s, .int .u64 h.r, .int .i64 h.C, .int .i64 h.S]
 have hx : Ext w (w.alloc (.cells #[.int .i64 h.o, .int .i64 h.s, .int .u64 h.r, .int .i64 h.C, .int .i64 h.S] 34)) := (Ext.refl w).alloc _
 have HW := Lib.hid (dgl_wf hk)
 have k1 : IntKind.i64.wrap (h.r / 4294967296) = h.r / 4294967296 := by have := hk.r; rw [IntKind.wrap_i64]; omega
 have k2 := and_low hk.r
 have k3 : IntKind.i64.wrap (h.r % 4294967296) = h.r % 4294967296 := by rw [IntKind.wrap_i64]; omega
 have HD := Lib.hid (fun (W : World) (hx : Ext w W) a1 c1 (h1 : Sl .i64 W a1 6 c1 (dgl h)) => dints_any a1 6 c1 (dgl h) W h1 (by omega) (ht.ext hx))
 clear ht
 clear hk
 go_enter Tryz.func49, Tryz.ntmps49
 go_upto_region 1 with fail
 generalize w.alloc (.cells #[.int .i64 h.o, .int .i64 h.s, .int .u64 h.r, .int .i64 h.C, .int .i64 h.S] 34) = V at *
 obtain ⟨b, hb⟩ : ∃ b, w.heap.size = b := ⟨_, rfl⟩
 rw [hb] at hB ⊢
 clear hb
 have c0 := hB.c 0 _ rfl
 have c1 := hB.c 1 _ rfl
 have c2 := hB.c 2 _ rfl
 have c3 := hB.c 3 _ rfl
 have c4 := hB.c 4 _ rfl
 have hl := litSl .i64 3 V V.heap.size 6 (dgl h) #[.int .i64 h.o, .int .i64 h.s, .int .i64 (h.r / 4294967296), .int .i64 (h.r % 4294967296), .int .i64 h.C, .int .i64 h.S] rfl rfl rfl (by simp [dgl, maxLen]) HW.out
 go_wp2_with (go_at_call 89; refine (HD.out _ (hx.alloc _) _ _ hl).mono ?_; rintro e w2 ⟨rfl, hx2⟩)
 go_ret
 exact ⟨rfl, (hx.alloc _).trans hx2⟩
theorem memB4 : memB 4 = true := ev4
theorem cformed_yes (h : Hd) (hk : h.Ok) (w : World) (ht : TB w) : Calls Tryz.prog 70 #[hdV h] w fun e w' => e = .returned (.bool true) ∧ Ext w w' := by
 have HRG := Lib.hid (fun (W : World) (hx : Ext w W) => oright_any 4 (by omega) memB4 h hk W (ht.ext hx))
 unfold hdV at HRG ⊢
 have hB := Bk.new w 34 #[.int .i64 h.o, .int .i64 h.s, .int .u64 h.r, .int .i64 h.C, .int .i64 h.S]
 have hx : Ext w (w.alloc (.cells #[.int .i64 h.o, .int .i64 h.s, .int .u64 h.r, .int .i64 h.C, .int .i64 h.S] 34)) := (Ext.refl w).alloc _
 clear hk ht
 go_enter Tryz.func70, Tryz.ntmps70
 go_upto_region 1 with fail
 generalize w.alloc (.cells #[.int .i64 h.o, .int .i64 h.s, .int .u64 h.r, .int .i64 h.C, .int .i64 h.S] 34) = V at *
 obtain ⟨b, hb⟩ : ∃ b, w.heap.size = b := ⟨_, rfl⟩
 rw [hb] at hB ⊢
 clear hb
 have c0 := hB.c 0 _ rfl
 have c1 := hB.c 1 _ rfl
 have c2 := hB.c 2 _ rfl
 have c3 := hB.c 3 _ rfl
 have c4 := hB.c 4 _ rfl
 go_wp2_with (go_at_call 48; refine (HRG.out _ hx).mono ?_; rintro e w2 ⟨rfl, hx2⟩)
 go_ret
 exact ⟨rfl, hx.trans hx2⟩
theorem cvalues_any (id : Int) (a : Option Addr) (n c : Nat) (es : List En) (m : Nat) (w : World) (h : Rw w a n c es) (h1 : 1 ≤ m) (hm : m ≤ n) (hn : n ≤ 4096) (ht : TB w) :
  Calls Tryz.prog 74 #[.agg #[.int .i64 id, .slice a n c], .int .i64 m] w fun e w' => ∃ a' c', e = .returned (.slice a' m c') ∧ OwI .u64 25 w.heap.size w' a' m c' (vals (es.take m)) ∧ Ext w w' := by
 have bd := h.bd
 obtain ⟨x1, o1, rfl, _⟩ := h.at (by omega)
 have HL := Lib.hid h.hlen
 have HE := Lib.hid h
 have HT := Lib.hid ht
 have hm1 : (m : Int) ≤ (c : Int) := by omega
 have hB := Bk.new w 24 #[.int .i64 id, .slice (some ⟨x1, o1, none⟩) n c]
 have hx0 : Ext w (w.alloc (.cells #[.int .i64 id, .slice (some ⟨x1, o1, none⟩) n c] 24)) := (Ext.refl w).alloc _
 clear h ht
 go_enter Tryz.func74, Tryz.ntmps74
 go_upto_region 1 with fail
 generalize w.alloc (.cells #[.int .i64 id, .slice (some ⟨x1, o1, none⟩) n c] 24) = V at *
 obtain ⟨b, hb⟩ : ∃ b, w.heap.size = b := ⟨_, rfl⟩
 rw [hb] at hB ⊢
 clear hb
 have c1 := hB.c 1 _ rfl
 go_wp2_with fail
 clear c1 hm1
 go_loopw [5, 13] (fun o i wr => ∃ (k : Nat) (a' : Option Addr) (c' : Nat), k ≤ m ∧ o = .slice a' k c' ∧ i = .int .i64 k ∧ OwI .u64 25 w.heap.size wr a' k c' (vals (es.take k)) ∧ Hid (Ext w wr)) (fun _ i _ => m - (intOf i).toNat)
 case atStart => exact ⟨0, none, 0, by omega, rfl, rfl, OwI.nil _ _ _ _, Lib.hid hx0⟩
 case round =>
  obtain ⟨k, a', c', hk, rfl, rfl, ho, hx⟩ := hrel
  by_cases hlt : k < m
  ·obtain ⟨x2, o2, e2, hc1⟩ := HE.out.at (by omega)
   obtain ⟨rfl, rfl⟩ : x1 = x2 ∧ o1 = o2 := by simpa using e2
   clear e2
   have hkn : k < n := by omega
   have hr := rangeAt_ext (hc1 k hkn) hx.out
   rw [sz_en] at hr
   have HWF := Lib.hid (HE.out.wfAt hkn)
   have HS := Lib.hid (take_vals_succ (es := es) (k := k) (by rw [HL.out]; exact hkn))
   clear hc1
   generalize nthR es k = x at *
   obtain ⟨d0, d1, d2⟩ := cells_en hr
   clear hr
   have hx9 : Ext wr (wr.alloc (.cells #[.int .u64 x.d, .int .i64 x.lo, .int .i64 x.hi] 41)) := (Ext.refl wr).alloc _
   have hX := Bk.new wr 41 #[.int .u64 x.d, .int .i64 x.lo, .int .i64 x.hi]
   have HLF := Lib.hid (fun (W : World) (hx : Ext w W) => oleaf_any x (en_rng HWF.out) HWF.out.lo HWF.out.hi W (HT.out.ext hx))
   unfold enV at HLF
   go_upto_region 5 with fail
   clear d0 d1 d2
   replace ho := ho.ext hx9
   replace hx := Lib.hid (hx.out.trans hx9)
   clear hx9
   generalize wr.alloc (.cells #[.int .u64 x.d, .int .i64 x.lo, .int .i64 x.hi] 41) = w1 at *
   have c0 := hX.c 0 _ rfl
   have c1 := hX.c 1 _ rfl
   have c2 := hX.c 2 _ rfl
   go_wp2_with (go_at_call 55; refine (HLF.out _ hx.out).mono ?_; rintro e w2 ⟨rfl, hx2⟩; refine hold ?_)
   refine held ?_
   have ho2 := ho.ext hx2
   have hz2 : w.heap.size ≤ w2.heap.size := (hx.out.trans hx2).sz
   go_wp2_with (at_builtin; refine app1 el_u64 rfl _ _ rfl w2 w.heap.size _ _ _ _ (valE x) rfl ho2 rfl hz2 (by unfold maxLen; omega) (by omega) ?_; intro g3 c3 w3 ho3 hB3; refine hold ?_)
   refine held ?_
   have hE3 : Ext w w3 := Below.trans (hx.out.trans hx2) hB3
   clear hB3 ho2 hz2 ho hx2 hx hX c0 c1 c2
   go_wp2_with fail
   refine ⟨⟨k + 1, some ⟨g3, 0, none⟩, c3, by omega, rfl, by go_num, ?_, Lib.hid hE3⟩, by simp only [intOf]; omega⟩
   rw [HS.out]; exact ho3
  ·obtain rfl : m = k := by omega
   go_wp2_with fail
   go_ret
   exact ⟨a', c', rfl, ho, hx.out⟩
theorem chas_yes (id : Int) (a : Option Addr) (n c : Nat) (es : List En) (s : Nat) (R C S : Int) (w : World) (h : Rw w a n c es) (h1 : 1 ≤ s) (hs : s ≤ n) (hn : n ≤ 4096) (hR : rootT (vals (es.take s)) = R) (ht : TB w) :
  Calls Tryz.prog 71 #[.agg #[.int .i64 id, .slice a n c], .agg #[.int .i64 id, .int .i64 s, .int .u64 R, .int .i64 C, .int .i64 S]] w fun e w' => e = .returned (.bool true) ∧ Ext w w' := by
 have bd := h.bd
 obtain ⟨x1, o1, rfl, _⟩ := h.at (by omega)
 have HCL := Lib.hid (fun (W : World) (hx : Ext w W) => cvalues_any id (some ⟨x1, o1, none⟩) n c es s W (h.ext hx) h1 hs hn (ht.ext hx))
 have HTB := Lib.hid ht
 have HR := Lib.hid hR
 have hB := (Bk.new w 24 #[.int .i64 id, .slice (some ⟨x1, o1, none⟩) n c]).ext ((Ext.refl _).alloc (.cells #[.int .i64 id, .int .i64 s, .int .u64 R, .int .i64 C, .int .i64 S] 34))
 have hH : Bk ((w.alloc (.cells #[.int .i64 id, .slice (some ⟨x1, o1, none⟩) n c] 24)).alloc (.cells #[.int .i64 id, .int .i64 s, .int .u64 R, .int .i64 C, .int .i64 S] 34)) (w.heap.size + 1) 34 #[.int .i64 id, .int .i64 s, .int .u64 R, .int .i64 C, .int .i64 S] := by simpa using Bk.new (w.alloc (.cells #[.int .i64 id, .slice (some ⟨x1, o1, none⟩) n c] 24)) 34 #[.int .i64 id, .int .i64 s, .int .u64 R, .int .i64 C, .int .i64 S]
 have hx : Ext w ((w.alloc (.cells #[.int .i64 id, .slice (some ⟨x1, o1, none⟩) n c] 24)).alloc (.cells #[.int .i64 id, .int .i64 s, .int .u64 R, .int .i64 C, .int .i64 S] 34)) := ((Ext.refl w).alloc _).alloc _
 have k9 : ((s : Int) ≤ (n : Int)) := by omega
 have k10 : ¬ ((n : Int) < (s : Int)) := by omega
 have k11 : decide ((n : Int) < (s : Int)) = false := decide_eq_false k10
 clear h hR ht
 go_enter Tryz.func71, Tryz.ntmps71
 go_upto_region 1 with fail
 generalize (w.alloc (.cells #[.int .i64 id, .slice (some ⟨x1, o1, none⟩) n c] 24)).alloc (.cells #[.int .i64 id, .int .i64 s, .int .u64 R, .int .i64 C, .int .i64 S] 34) = V at *
 obtain ⟨b, hb⟩ : ∃ b, w.heap.size = b := ⟨_, rfl⟩
 obtain ⟨b4, hb4⟩ : ∃ b4, w.heap.size + 1 = b4 := ⟨_, rfl⟩
 rw [hb4] at hH
 have hb5 : b + 1 = b4 := by omega
 rw [hb] at hB ⊢
 rw [hb5]
 clear hb hb4 hb5
 have c0 := hB.c 0 _ rfl
 have c1 := hB.c 1 _ rfl
 have k0 := hH.c 0 _ rfl
 have k1 := hH.c 1 _ rfl
 have k2 := hH.c 2 _ rfl
 have k3 := hH.c 3 _ rfl
 have k4 := hH.c 4 _ rfl
 go_wp2_with (go_at_call 74; refine (HCL.out _ hx).mono ?_; rintro e w2 ⟨a', c', rfl, ho, hx1⟩; refine hold ?_)
 refine held ?_
 replace hx := hx.trans hx1
 replace hB := hB.ext hx1
 replace hH := hH.ext hx1
 clear HCL k9 k10 k11
 clear hx1
 clear c0 c1 k0 k1 k2 k3 k4
 obtain ⟨g, rfl, hg⟩ := ho.headU (by omega)
 have hsl := ho.sl (vals_u _)
 have HRT := Lib.hid (tRoot_any g 0 s c' (vals (es.take s)) w2 h1 (by omega) hsl (HTB.out.ext hx))
 rw [HR.out] at HRT
 clear hsl ho
 go_wp2_with (go_at_call 15; refine HRT.out.mono ?_; rintro e w3 ⟨rfl, hx1⟩; refine hold ?_)
 refine held ?_
 replace hx := hx.trans hx1
 replace hB := hB.ext hx1
 replace hH := hH.ext hx1
 clear HRT
 clear hx1
 have k0 := hH.c 0 _ rfl
 have k1 := hH.c 1 _ rfl
 have k2 := hH.c 2 _ rfl
 have k3 := hH.c 3 _ rfl
 have k4 := hH.c 4 _ rfl
 go_wp2_with fail
 go_ret
 exact ⟨rfl, hx⟩
def firstE (es : List En) (d : Int) : Int := match es.findIdx? (fun e => decide (e.d = d)) with
 | some k => (k : Int)
 | none => -1
theorem firstE_found {es : List En} {d : Int} {k : Nat} (hk : k < es.length) (h : (nthR es k).d = d) (hn : ∀ i, i < k → (nthR es i).d ≠ d) : firstE es d = k := by
 have : es.findIdx? (fun e => decide (e.d = d)) = some k := by
  rw [List.findIdx?_eq_some_iff_getElem]
  refine ⟨hk, by rw [← nthR_get hk]; simpa using h, fun j hj => ?_⟩
  rw [← nthR_get (by omega)]
  simpa using hn j hj
 unfold firstE
 rw [this]
theorem firstE_none {es : List En} {d : Int} (h : ∀ i, i < es.length → (nthR es i).d ≠ d) : firstE es d = -1 := by
 have : es.findIdx? (fun e => decide (e.d = d)) = none := by
  rw [List.findIdx?_eq_none_iff]
  intro x hx
  obtain ⟨i, hi, rfl⟩ := List.mem_iff_getElem.1 hx
  have := h i hi
  rw [nthR_get hi] at this
  simpa using this
 unfold firstE
 rw [this]
open Go.RowKit Go.Sort Go.Shelf
theorem clo_w (x : En) (d : Int) (bw : Nat) (w : World) (hc : w.cell? ⟨bw, 0, none⟩ = some (.int .u64 d)) :
  Calls Tryz.prog 73 #[enV x, .pointer (some ⟨bw, 0, none⟩)] w fun e w' => e = .returned (.bool (x.d == d)) ∧ Ext w w' := by
 unfold enV
 have hB := Bk.new w 41 #[.int .u64 x.d, .int .i64 x.lo, .int .i64 x.hi]
 have hx : Ext w (w.alloc (.cells #[.int .u64 x.d, .int .i64 x.lo, .int .i64 x.hi] 41)) := (Ext.refl w).alloc _
 have hd := hx.cell hc
 clear hc
 go_enter Tryz.func73, Tryz.ntmps73
 go_upto_region 1 with fail
 generalize w.alloc (.cells #[.int .u64 x.d, .int .i64 x.lo, .int .i64 x.hi] 41) = V at *
 generalize w.heap.size = b at *
 have c0 := hB.c 0 _ rfl
 go_wp2_with fail
 go_ret
 exact ⟨rfl, hx⟩
theorem idx_w (a : Option Addr) (n c : Nat) (es : List En) (d : Int) (bw : Nat) (w : World) (h : Rw w a n c es) (hn : n ≤ 4096) (hc : w.cell? ⟨bw, 0, none⟩ = some (.int .u64 d)) :
  Calls Tryz.prog 72 #[.slice a n c, .func (.func 73) #[] #[.pointer (some ⟨bw, 0, none⟩)]] w fun e w' => e = .returned (.int .i64 (firstE es d)) ∧ Ext w w' := by
 have bd := h.bd
 have HL := Lib.hid h.hlen
 have HE := Lib.hid h
 have HD := Lib.hid hc
 clear h hc
 go_enter Tryz.func72, Tryz.ntmps72
 go_wp2_with fail
 go_loopw [8] (fun i wr => ∃ (k : Nat), k ≤ n ∧ i = .int .i64 k ∧ Hid (∀ j, j < k → (nthR es j).d ≠ d) ∧ Hid (Ext w wr)) (fun i _ => n - (intOf i).toNat)
 case atStart => exact ⟨0, by omega, rfl, Lib.hid (fun j hj => by omega), Lib.hid (Ext.refl w)⟩
 case round =>
  obtain ⟨k, hk, rfl, HN, hx⟩ := hrel
  by_cases hlt : k < n
  ·obtain ⟨x1, o1, rfl, hc1⟩ := HE.out.at (by omega)
   have hr := rangeAt_ext (hc1 k hlt) hx.out
   rw [sz_en] at hr
   clear hc1
   obtain ⟨x, hx9⟩ : ∃ x, nthR es k = x := ⟨_, rfl⟩
   have HX := Lib.hid hx9
   rw [hx9] at hr
   clear hx9
   obtain ⟨d0, d1, d2⟩ := cells_en hr
   clear hr
   have HCL := Lib.hid (clo_w x d bw wr (hx.out.cell HD.out))
   unfold enV at HCL
   by_cases hxd : x.d = d
   ·have HF : Hid (firstE es d = k) := Lib.hid (firstE_found (by rw [HL.out]; exact hlt) (by rw [HX.out]; exact hxd) HN.out)
    rw [show (x.d == d) = true by simp [hxd]] at HCL
    clear hxd
    go_wp2_with (go_at_call 73; refine HCL.out.mono ?_; rintro e w2 ⟨rfl, hx2⟩; refine hold ?_)
    refine held ?_
    go_wp2_with fail
    go_ret
    rw [HF.out]
    exact ⟨rfl, hx.out.trans hx2⟩
   ·have HN2 : Hid (∀ j, j < k + 1 → (nthR es j).d ≠ d) := Lib.hid (fun j hj => by
     rcases Nat.lt_or_ge j k with h | h
     ·exact HN.out j h
     ·obtain rfl : j = k := by omega
      rw [HX.out]; exact hxd)
    rw [show (x.d == d) = false by simp [hxd]] at HCL
    clear hxd
    go_wp2_with (go_at_call 73; refine HCL.out.mono ?_; rintro e w2 ⟨rfl, hx2⟩; refine hold ?_)
    refine held ?_
    go_wp2_with fail
    refine ⟨⟨k + 1, by omega, by go_num, HN2, Lib.hid (hx.out.trans hx2)⟩, by simp only [intOf]; omega⟩
  ·obtain rfl : n = k := by omega
   have HF : Hid (firstE es d = -1) := Lib.hid (firstE_none (fun i hi => HN.out i (by rw [← HL.out]; exact hi)))
   go_wp2_with fail
   go_ret
   rw [HF.out]
   exact ⟨rfl, hx.out⟩
theorem clo_l (x : En) (d : Int) (bw : Nat) (w : World) (hc : w.cell? ⟨bw, 0, none⟩ = some (.int .u64 d)) :
  Calls Tryz.prog 100 #[enV x, .pointer (some ⟨bw, 0, none⟩)] w fun e w' => e = .returned (.bool (x.d == d)) ∧ Ext w w' := by
 unfold enV
 have hB := Bk.new w 41 #[.int .u64 x.d, .int .i64 x.lo, .int .i64 x.hi]
 have hx : Ext w (w.alloc (.cells #[.int .u64 x.d, .int .i64 x.lo, .int .i64 x.hi] 41)) := (Ext.refl w).alloc _
 have hd := hx.cell hc
 clear hc
 go_enter Tryz.func100, Tryz.ntmps100
 go_upto_region 1 with fail
 generalize w.alloc (.cells #[.int .u64 x.d, .int .i64 x.lo, .int .i64 x.hi] 41) = V at *
 generalize w.heap.size = b at *
 have c0 := hB.c 0 _ rfl
 go_wp2_with fail
 go_ret
 exact ⟨rfl, hx⟩
theorem idx_l (a : Option Addr) (n c : Nat) (es : List En) (d : Int) (bw : Nat) (w : World) (h : Rw w a n c es) (hn : n ≤ 4096) (hc : w.cell? ⟨bw, 0, none⟩ = some (.int .u64 d)) :
  Calls Tryz.prog 72 #[.slice a n c, .func (.func 100) #[] #[.pointer (some ⟨bw, 0, none⟩)]] w fun e w' => e = .returned (.int .i64 (firstE es d)) ∧ Ext w w' := by
 have bd := h.bd
 have HL := Lib.hid h.hlen
 have HE := Lib.hid h
 have HD := Lib.hid hc
 clear h hc
 go_enter Tryz.func72, Tryz.ntmps72
 go_wp2_with fail
 go_loopw [8] (fun i wr => ∃ (k : Nat), k ≤ n ∧ i = .int .i64 k ∧ Hid (∀ j, j < k → (nthR es j).d ≠ d) ∧ Hid (Ext w wr)) (fun i _ => n - (intOf i).toNat)
 case atStart => exact ⟨0, by omega, rfl, Lib.hid (fun j hj => by omega), Lib.hid (Ext.refl w)⟩
 case round =>
  obtain ⟨k, hk, rfl, HN, hx⟩ := hrel
  by_cases hlt : k < n
  ·obtain ⟨x1, o1, rfl, hc1⟩ := HE.out.at (by omega)
   have hr := rangeAt_ext (hc1 k hlt) hx.out
   rw [sz_en] at hr
   clear hc1
   obtain ⟨x, hx9⟩ : ∃ x, nthR es k = x := ⟨_, rfl⟩
   have HX := Lib.hid hx9
   rw [hx9] at hr
   clear hx9
   obtain ⟨d0, d1, d2⟩ := cells_en hr
   clear hr
   have HCL := Lib.hid (clo_l x d bw wr (hx.out.cell HD.out))
   unfold enV at HCL
   by_cases hxd : x.d = d
   ·have HF : Hid (firstE es d = k) := Lib.hid (firstE_found (by rw [HL.out]; exact hlt) (by rw [HX.out]; exact hxd) HN.out)
    rw [show (x.d == d) = true by simp [hxd]] at HCL
    clear hxd
    go_wp2_with (go_at_call 100; refine HCL.out.mono ?_; rintro e w2 ⟨rfl, hx2⟩; refine hold ?_)
    refine held ?_
    go_wp2_with fail
    go_ret
    rw [HF.out]
    exact ⟨rfl, hx.out.trans hx2⟩
   ·have HN2 : Hid (∀ j, j < k + 1 → (nthR es j).d ≠ d) := Lib.hid (fun j hj => by
     rcases Nat.lt_or_ge j k with h | h
     ·exact HN.out j h
     ·obtain rfl : j = k := by omega
      rw [HX.out]; exact hxd)
    rw [show (x.d == d) = false by simp [hxd]] at HCL
    clear hxd
    go_wp2_with (go_at_call 100; refine HCL.out.mono ?_; rintro e w2 ⟨rfl, hx2⟩; refine hold ?_)
    refine held ?_
    go_wp2_with fail
    refine ⟨⟨k + 1, by omega, by go_num, HN2, Lib.hid (hx.out.trans hx2)⟩, by simp only [intOf]; omega⟩
  ·obtain rfl : n = k := by omega
   have HF : Hid (firstE es d = -1) := Lib.hid (firstE_none (fun i hi => HN.out i (by rw [← HL.out]; exact hi)))
   go_wp2_with fail
   go_ret
   rw [HF.out]
   exact ⟨rfl, hx.out⟩
end Go.Proofs.YtacicanjmleikaaGreatDoor
