/-
  The reference's kind and Take, walked. Written by wip/gen_jo.py.
-/
import Derived.Test.YtdmfdimhjemngaaGreatDoorJN
namespace Go.Proofs.YtdmfdimhjemngaaGreatDoor
open Go.RowKit Go.Sort Go.Shelf
set_option linter.unusedSimpArgs false
set_option linter.unusedVariables false
set_option maxRecDepth 100000

theorem Bk.set10 {W : World} {b : Nat} {T : TypeId} {u0 u1 u2 u3 u4 u5 u6 u7 u8 u9 : Value} (h : Bk W b T #[u0, u1, u2, u3, u4, u5, u6, u7, u8, u9]) (v0 v1 v2 v3 v4 v5 v6 v7 v8 v9 : Value) : Bk ((((((((((W.setCell ⟨b, 0, none⟩ (v0)).setCell ⟨b, 1, none⟩ (v1)).setCell ⟨b, 2, none⟩ (v2)).setCell ⟨b, 3, none⟩ (v3)).setCell ⟨b, 4, none⟩ (v4)).setCell ⟨b, 5, none⟩ (v5)).setCell ⟨b, 6, none⟩ (v6)).setCell ⟨b, 7, none⟩ (v7)).setCell ⟨b, 8, none⟩ (v8)).setCell ⟨b, 9, none⟩ (v9)) b T #[v0, v1, v2, v3, v4, v5, v6, v7, v8, v9] := by
  have g0 : Bk (W.setCell ⟨b, 0, none⟩ v0) b T #[v0, u1, u2, u3, u4, u5, u6, u7, u8, u9] := h.set 0 v0
  have g1 : Bk ((W.setCell ⟨b, 0, none⟩ v0).setCell ⟨b, 1, none⟩ v1) b T #[v0, v1, u2, u3, u4, u5, u6, u7, u8, u9] := g0.set 1 v1
  have g2 : Bk (((W.setCell ⟨b, 0, none⟩ v0).setCell ⟨b, 1, none⟩ v1).setCell ⟨b, 2, none⟩ v2) b T #[v0, v1, v2, u3, u4, u5, u6, u7, u8, u9] := g1.set 2 v2
  have g3 : Bk ((((W.setCell ⟨b, 0, none⟩ v0).setCell ⟨b, 1, none⟩ v1).setCell ⟨b, 2, none⟩ v2).setCell ⟨b, 3, none⟩ v3) b T #[v0, v1, v2, v3, u4, u5, u6, u7, u8, u9] := g2.set 3 v3
  have g4 : Bk (((((W.setCell ⟨b, 0, none⟩ v0).setCell ⟨b, 1, none⟩ v1).setCell ⟨b, 2, none⟩ v2).setCell ⟨b, 3, none⟩ v3).setCell ⟨b, 4, none⟩ v4) b T #[v0, v1, v2, v3, v4, u5, u6, u7, u8, u9] := g3.set 4 v4
  have g5 : Bk ((((((W.setCell ⟨b, 0, none⟩ v0).setCell ⟨b, 1, none⟩ v1).setCell ⟨b, 2, none⟩ v2).setCell ⟨b, 3, none⟩ v3).setCell ⟨b, 4, none⟩ v4).setCell ⟨b, 5, none⟩ v5) b T #[v0, v1, v2, v3, v4, v5, u6, u7, u8, u9] := g4.set 5 v5
  have g6 : Bk (((((((W.setCell ⟨b, 0, none⟩ v0).setCell ⟨b, 1, none⟩ v1).setCell ⟨b, 2, none⟩ v2).setCell ⟨b, 3, none⟩ v3).setCell ⟨b, 4, none⟩ v4).setCell ⟨b, 5, none⟩ v5).setCell ⟨b, 6, none⟩ v6) b T #[v0, v1, v2, v3, v4, v5, v6, u7, u8, u9] := g5.set 6 v6
  have g7 : Bk ((((((((W.setCell ⟨b, 0, none⟩ v0).setCell ⟨b, 1, none⟩ v1).setCell ⟨b, 2, none⟩ v2).setCell ⟨b, 3, none⟩ v3).setCell ⟨b, 4, none⟩ v4).setCell ⟨b, 5, none⟩ v5).setCell ⟨b, 6, none⟩ v6).setCell ⟨b, 7, none⟩ v7) b T #[v0, v1, v2, v3, v4, v5, v6, v7, u8, u9] := g6.set 7 v7
  have g8 : Bk (((((((((W.setCell ⟨b, 0, none⟩ v0).setCell ⟨b, 1, none⟩ v1).setCell ⟨b, 2, none⟩ v2).setCell ⟨b, 3, none⟩ v3).setCell ⟨b, 4, none⟩ v4).setCell ⟨b, 5, none⟩ v5).setCell ⟨b, 6, none⟩ v6).setCell ⟨b, 7, none⟩ v7).setCell ⟨b, 8, none⟩ v8) b T #[v0, v1, v2, v3, v4, v5, v6, v7, v8, u9] := g7.set 8 v8
  have g9 : Bk ((((((((((W.setCell ⟨b, 0, none⟩ v0).setCell ⟨b, 1, none⟩ v1).setCell ⟨b, 2, none⟩ v2).setCell ⟨b, 3, none⟩ v3).setCell ⟨b, 4, none⟩ v4).setCell ⟨b, 5, none⟩ v5).setCell ⟨b, 6, none⟩ v6).setCell ⟨b, 7, none⟩ v7).setCell ⟨b, 8, none⟩ v8).setCell ⟨b, 9, none⟩ v9) b T #[v0, v1, v2, v3, v4, v5, v6, v7, v8, v9] := g8.set 9 v9
  exact g9
theorem Ext.set10 {w W : World} {b : Nat} (hE : Ext w W) (hb : w.heap.size ≤ b) (v0 v1 v2 v3 v4 v5 v6 v7 v8 v9 : Value) : Ext w ((((((((((W.setCell ⟨b, 0, none⟩ (v0)).setCell ⟨b, 1, none⟩ (v1)).setCell ⟨b, 2, none⟩ (v2)).setCell ⟨b, 3, none⟩ (v3)).setCell ⟨b, 4, none⟩ (v4)).setCell ⟨b, 5, none⟩ (v5)).setCell ⟨b, 6, none⟩ (v6)).setCell ⟨b, 7, none⟩ (v7)).setCell ⟨b, 8, none⟩ (v8)).setCell ⟨b, 9, none⟩ (v9)) := ((((((((((hE.setCell (p := ⟨b, 0, none⟩) hb _).setCell (p := ⟨b, 1, none⟩) hb _).setCell (p := ⟨b, 2, none⟩) hb _).setCell (p := ⟨b, 3, none⟩) hb _).setCell (p := ⟨b, 4, none⟩) hb _).setCell (p := ⟨b, 5, none⟩) hb _).setCell (p := ⟨b, 6, none⟩) hb _).setCell (p := ⟨b, 7, none⟩) hb _).setCell (p := ⟨b, 8, none⟩) hb _).setCell (p := ⟨b, 9, none⟩) hb _)
theorem res_rkind (W : World) (b : Nat) (v0 v1 v2 v3 v4 v5 v6 v7 v8 v9 k : Value) (tmps : Array Value) (h6 : tmps[6]?.getD undef = k) (h7 : tmps[7]?.getD undef = .pointer (some ⟨b, 0, none⟩)) (h : Bk W b 60 #[v0, v1, v2, v3, v4, v5, v6, v7, v8, v9]) :
    (results Tryz.f38 tmps).run Tryz.prog W = .ok (.tuple #[k, .agg #[v0, v1, v2, v3, v4, v5, v6, v7, v8, v9]]) W := by
  have c0 := h.c 0 _ rfl
  have c1 := h.c 1 _ rfl
  have c2 := h.c 2 _ rfl
  have c3 := h.c 3 _ rfl
  have c4 := h.c 4 _ rfl
  have c5 := h.c 5 _ rfl
  have c6 := h.c 6 _ rfl
  have c7 := h.c 7 _ rfl
  have c8 := h.c 8 _ rfl
  have c9 := h.c 9 _ rfl
  simp [results, Tryz.results38, go_sem, h6, h7, c0, c1, c2, c3, c4, c5, c6, c7, c8, c9]
theorem rgetR_no {xs : List Int} (h : gpX xs = none) (a1 : Option Addr) (n1 c1 : Nat) (w : World) (h1 : Sl .u8 w a1 n1 c1 xs) (hn1 : n1 ≤ 1000000000) :
    Calls Tryz.prog 56 #[.slice a1 n1 c1] w fun e w' => e = .returned (.tuple #[.agg #[.int .i64 0, .int .i64 0, .int .i64 0, .int .u64 0, .int .i64 0, .int .i64 0, .int .i64 0, .int .i64 0, .int .i64 0, .int .i64 0], .int .i64 7]) ∧ Ext w w' :=
  (rgetReply_any a1 n1 c1 xs w h1 hn1).mono fun e w' h2 => by
    have hq : lrep xs = none := by unfold gpX at h; simpa using h
    rw [hq] at h2; exact h2
theorem rgetR_yes {xs : List Int} {x : Rp} (h : gpX xs = some x) (a1 : Option Addr) (n1 c1 : Nat) (w : World) (h1 : Sl .u8 w a1 n1 c1 xs) (hn1 : n1 ≤ 1000000000) :
    Calls Tryz.prog 56 #[.slice a1 n1 c1] w fun e w' => e = .returned (.tuple #[.agg #[.int .i64 x.a, .int .i64 x.h, .int .i64 x.r, .int .u64 x.n, .int .i64 x.lo, .int .i64 x.hi, .int .i64 x.k, .int .i64 x.t, .int .i64 x.c, .int .i64 x.s], .int .i64 0]) ∧ Ext w w' :=
  (rgetReply_any a1 n1 c1 xs w h1 hn1).mono fun e w' h2 => by
    unfold gpX at h
    rcases hq : lrep xs with _ | q
    · rw [hq] at h; cases h
    rw [hq] at h h2
    obtain rfl : rpOf q = x := Option.some.inj h
    exact h2
def rp0 : Rp := ⟨0, 0, 0, 0, 0, 0, 0, 0, 0, 0⟩
theorem rp0_ok : rp0.Ok := ⟨rfl, rfl, rfl, rfl, rfl, rfl, rfl, rfl, rfl, rfl⟩
def KdQ (w w' : World) (e : Ending) (b : Bx) (p : Option Rp) (t : Int) : Prop := ∃ rr : Rp, rr.Ok ∧ e = .returned (.tuple #[.int .i64 (kdX b p t), .agg #[.int .i64 rr.a, .int .i64 rr.h, .int .i64 rr.r, .int .u64 rr.n, .int .i64 rr.lo, .int .i64 rr.hi, .int .i64 rr.k, .int .i64 rr.t, .int .i64 rr.c, .int .i64 rr.s]]) ∧ (∀ r, p = some r → rr = r) ∧ Ext w w'

set_option maxHeartbeats 8000000 in
theorem rkind_any (b : Bx) (sa : Option Addr) (sn sc : Nat) (ga : Option Addr) (gn gc : Nat) (pa : Option Addr) (pn pc : Nat) (bytes : List Int) (t : Int) (w : World) (hb : BxF w b sa sn sc ga gn gc) (hp : Sl .u8 w pa pn pc bytes) (hpn : pn ≤ 1000000000) (hf : frmX b = true) :
    Calls Tryz.prog 38 #[.agg #[.int .i64 b.host, .int .i64 b.round, .int .u64 b.head, .int .i64 b.sent, .int .i64 b.wait, .slice sa sn sc, .slice ga gn gc], .slice pa pn pc, .int .i64 t] w fun e w' => KdQ w w' e b (gpX bytes) t := by
  have bd := hb.rw.bd
  have bd2 := hp.bd
  have HL := Lib.hid hb.rw.hlen
  have HO := Lib.hid hb.ok
  have hF := frmX_iff.1 hf
  have hs0 := hF.sent
  have hw0 := hF.wait
  have hE : Ext w ((w.alloc (.cells #[.int .i64 b.host, .int .i64 b.round, .int .u64 b.head, .int .i64 b.sent, .int .i64 b.wait, .slice sa sn sc, .slice ga gn gc] 29)).alloc (.cells #[.int .i64 0, .int .i64 0, .int .i64 0, .int .u64 0, .int .i64 0, .int .i64 0, .int .i64 0, .int .i64 0, .int .i64 0, .int .i64 0] 60)) := ((Ext.refl w).alloc _).alloc _
  have hP : Bk ((w.alloc (.cells #[.int .i64 b.host, .int .i64 b.round, .int .u64 b.head, .int .i64 b.sent, .int .i64 b.wait, .slice sa sn sc, .slice ga gn gc] 29)).alloc (.cells #[.int .i64 0, .int .i64 0, .int .i64 0, .int .u64 0, .int .i64 0, .int .i64 0, .int .i64 0, .int .i64 0, .int .i64 0, .int .i64 0] 60)) w.heap.size 29 #[.int .i64 b.host, .int .i64 b.round, .int .u64 b.head, .int .i64 b.sent, .int .i64 b.wait, .slice sa sn sc, .slice ga gn gc] := (Bk.new w 29 #[.int .i64 b.host, .int .i64 b.round, .int .u64 b.head, .int .i64 b.sent, .int .i64 b.wait, .slice sa sn sc, .slice ga gn gc]).ext ((Ext.refl _).alloc _)
  have hR := Bk.new (w.alloc (.cells #[.int .i64 b.host, .int .i64 b.round, .int .u64 b.head, .int .i64 b.sent, .int .i64 b.wait, .slice sa sn sc, .slice ga gn gc] 29)) 60 #[.int .i64 0, .int .i64 0, .int .i64 0, .int .u64 0, .int .i64 0, .int .i64 0, .int .i64 0, .int .i64 0, .int .i64 0, .int .i64 0]
  rw [World.size_alloc] at hR
  clear hF hf
  go_enter Tryz.func38, Tryz.ntmps38
  go_upto_region 1 with fail
  generalize (w.alloc (.cells #[.int .i64 b.host, .int .i64 b.round, .int .u64 b.head, .int .i64 b.sent, .int .i64 b.wait, .slice sa sn sc, .slice ga gn gc] 29)).alloc (.cells #[.int .i64 0, .int .i64 0, .int .i64 0, .int .u64 0, .int .i64 0, .int .i64 0, .int .i64 0, .int .i64 0, .int .i64 0, .int .i64 0] 60) = V at *
  obtain ⟨rb, hrb⟩ : ∃ rb, w.heap.size + 1 = rb := ⟨_, rfl⟩
  obtain ⟨pb, hpb⟩ : ∃ pb, w.heap.size = pb := ⟨_, rfl⟩
  rw [hrb] at hR ⊢
  have hrw : w.heap.size ≤ rb := by omega
  rw [hpb] at hP ⊢
  clear hrb hpb
  rcases hg0 : gpX bytes with _ | x
  · have HP : Hid (∀ r, (none : Option Rp) = some r → rp0 = r) := Lib.hid (fun r h => by cases h)
    go_wp2_with fail
    refine (rgetR_no hg0 pa pn pc V (hp.ext hE) hpn).mono ?_
    rintro _ w1 ⟨rfl, hx⟩
    have HG := Lib.hid hg0
    clear hg0
    go_upto_region 2 with fail
    have hX := Bk.new w1 60 #[.int .i64 0, .int .i64 0, .int .i64 0, .int .u64 0, .int .i64 0, .int .i64 0, .int .i64 0, .int .i64 0, .int .i64 0, .int .i64 0]
    have hxa : Ext w1 (w1.alloc (.cells #[.int .i64 0, .int .i64 0, .int .i64 0, .int .u64 0, .int .i64 0, .int .i64 0, .int .i64 0, .int .i64 0, .int .i64 0, .int .i64 0] 60)) := (Ext.refl w1).alloc _
    generalize w1.alloc (.cells #[.int .i64 0, .int .i64 0, .int .i64 0, .int .u64 0, .int .i64 0, .int .i64 0, .int .i64 0, .int .i64 0, .int .i64 0, .int .i64 0] 60) = W1 at *
    generalize w1.heap.size = xb at hX ⊢
    replace hx := hx.trans hxa
    clear hxa
    replace hP := hP.ext hx
    replace hR := hR.ext hx
    replace hE := hE.trans hx
    clear hx
    go_upto_region 3 with fail
    have lx := hX.lt
    have y0 := hX.c 0 _ rfl
    have y1 := hX.c 1 _ rfl
    have y2 := hX.c 2 _ rfl
    have y3 := hX.c 3 _ rfl
    have y4 := hX.c 4 _ rfl
    have y5 := hX.c 5 _ rfl
    have y6 := hX.c 6 _ rfl
    have y7 := hX.c 7 _ rfl
    have y8 := hX.c 8 _ rfl
    have y9 := hX.c 9 _ rfl
    have hg := @grow_cell
    refine region_tail 2 (by kernel_rfl) (by kernel_rfl) ?_
    simp only [List.take_succ_cons, List.take_zero, List.drop_succ_cons, List.drop_zero]
    repeat (go_big_quiet_step (fail))
    refine wpQuiet_nil ?_
    intro w5 hx5
    clear hg y0 y1 y2 y3 y4 y5 y6 y7 y8 y9 lx
    have hR5 := hR.ext hx5
    have z0 := hR5.c 0 _ rfl
    have z1 := hR5.c 1 _ rfl
    have z2 := hR5.c 2 _ rfl
    have z3 := hR5.c 3 _ rfl
    have z4 := hR5.c 4 _ rfl
    have z5 := hR5.c 5 _ rfl
    have z6 := hR5.c 6 _ rfl
    have z7 := hR5.c 7 _ rfl
    have z8 := hR5.c 8 _ rfl
    have z9 := hR5.c 9 _ rfl
    have fz := hR5.free
    go_wp2_with fail
    exact bodyPost_ret (res_rkind _ rb (.int .i64 rp0.a) (.int .i64 rp0.h) (.int .i64 rp0.r) (.int .u64 rp0.n) (.int .i64 rp0.lo) (.int .i64 rp0.hi) (.int .i64 rp0.k) (.int .i64 rp0.t) (.int .i64 rp0.c) (.int .i64 rp0.s) (.int .i64 5) _ (by rfl) (by rfl) (Bk.set10 hR5 _ _ _ _ _ _ _ _ _ _)) rfl ⟨rp0, rp0_ok, by rw [HG.out, kd_none], by rw [HG.out]; exact HP.out, (hE.trans hx5).set10 hrw _ _ _ _ _ _ _ _ _ _⟩
  · obtain ⟨hwx, hxo⟩ := gpX_conv hp.wf hg0
    have HP : Hid (∀ r, some x = some r → x = r) := Lib.hid (fun r h => by cases h; rfl)
    have HXO := Lib.hid hxo
    go_wp2_with fail
    refine (rgetR_yes hg0 pa pn pc V (hp.ext hE) hpn).mono ?_
    rintro _ w1 ⟨rfl, hx⟩
    have HG := Lib.hid hg0
    clear hg0 hwx hxo
    go_upto_region 2 with fail
    have hX := Bk.new w1 60 #[.int .i64 x.a, .int .i64 x.h, .int .i64 x.r, .int .u64 x.n, .int .i64 x.lo, .int .i64 x.hi, .int .i64 x.k, .int .i64 x.t, .int .i64 x.c, .int .i64 x.s]
    have hxa : Ext w1 (w1.alloc (.cells #[.int .i64 x.a, .int .i64 x.h, .int .i64 x.r, .int .u64 x.n, .int .i64 x.lo, .int .i64 x.hi, .int .i64 x.k, .int .i64 x.t, .int .i64 x.c, .int .i64 x.s] 60)) := (Ext.refl w1).alloc _
    generalize w1.alloc (.cells #[.int .i64 x.a, .int .i64 x.h, .int .i64 x.r, .int .u64 x.n, .int .i64 x.lo, .int .i64 x.hi, .int .i64 x.k, .int .i64 x.t, .int .i64 x.c, .int .i64 x.s] 60) = W1 at *
    generalize w1.heap.size = xb at hX ⊢
    replace hx := hx.trans hxa
    clear hxa
    replace hP := hP.ext hx
    replace hR := hR.ext hx
    replace hE := hE.trans hx
    clear hx
    have p0 := hP.c 0 _ rfl
    have p1 := hP.c 1 _ rfl
    have p2 := hP.c 2 _ rfl
    have p3 := hP.c 3 _ rfl
    have p4 := hP.c 4 _ rfl
    have p5 := hP.c 5 _ rfl
    have p6 := hP.c 6 _ rfl
    have y0 := hX.c 0 _ rfl
    have y1 := hX.c 1 _ rfl
    have y2 := hX.c 2 _ rfl
    have y3 := hX.c 3 _ rfl
    have y4 := hX.c 4 _ rfl
    have y5 := hX.c 5 _ rfl
    have y6 := hX.c 6 _ rfl
    have y7 := hX.c 7 _ rfl
    have y8 := hX.c 8 _ rfl
    have y9 := hX.c 9 _ rfl
    go_wp2_with fail
    refine (rfits_any b sa sn sc ga gn gc x HXO.out W1 (hb.ext hE)).mono ?_
    rintro _ w2 ⟨rfl, hx⟩
    clear p0 p1 p2 p3 p4 p5 p6 y0 y1 y2 y3 y4 y5 y6 y7 y8 y9
    replace hP := hP.ext hx
    replace hR := hR.ext hx
    replace hX := hX.ext hx
    replace hE := hE.trans hx
    clear hx
    rcases hown : ownB b x with _ | _
    · have HK : Hid (kdX b (some x) t = 3) := Lib.hid (kd_other.2 hown)
      clear hown
      go_upto_region 6 with fail
      have lx := hX.lt
      have y0 := hX.c 0 _ rfl
      have y1 := hX.c 1 _ rfl
      have y2 := hX.c 2 _ rfl
      have y3 := hX.c 3 _ rfl
      have y4 := hX.c 4 _ rfl
      have y5 := hX.c 5 _ rfl
      have y6 := hX.c 6 _ rfl
      have y7 := hX.c 7 _ rfl
      have y8 := hX.c 8 _ rfl
      have y9 := hX.c 9 _ rfl
      have hg := @grow_cell
      refine region_tail 2 (by kernel_rfl) (by kernel_rfl) ?_
      simp only [List.take_succ_cons, List.take_zero, List.drop_succ_cons, List.drop_zero]
      repeat (go_big_quiet_step (fail))
      refine wpQuiet_nil ?_
      intro w5 hx5
      clear hg y0 y1 y2 y3 y4 y5 y6 y7 y8 y9 lx
      have hR5 := hR.ext hx5
      have z0 := hR5.c 0 _ rfl
      have z1 := hR5.c 1 _ rfl
      have z2 := hR5.c 2 _ rfl
      have z3 := hR5.c 3 _ rfl
      have z4 := hR5.c 4 _ rfl
      have z5 := hR5.c 5 _ rfl
      have z6 := hR5.c 6 _ rfl
      have z7 := hR5.c 7 _ rfl
      have z8 := hR5.c 8 _ rfl
      have z9 := hR5.c 9 _ rfl
      have fz := hR5.free
      go_wp2_with fail
      exact bodyPost_ret (res_rkind _ rb (.int .i64 x.a) (.int .i64 x.h) (.int .i64 x.r) (.int .u64 x.n) (.int .i64 x.lo) (.int .i64 x.hi) (.int .i64 x.k) (.int .i64 x.t) (.int .i64 x.c) (.int .i64 x.s) (.int .i64 3) _ (by rfl) (by rfl) (Bk.set10 hR5 _ _ _ _ _ _ _ _ _ _)) rfl ⟨x, HXO.out, by rw [HG.out, HK.out], by rw [HG.out]; exact HP.out, (hE.trans hx5).set10 hrw _ _ _ _ _ _ _ _ _ _⟩
    have HOWN := Lib.hid hown
    clear hown
    go_wp2_with fail
    go_loopw [11] (fun i wr => ∃ k : Nat, k ≤ gn ∧ i = .int .i64 (k : Int) ∧ Hid (∀ i, i < k → (nthR b.got i).a ≠ x.a) ∧ Ext w2 wr) (fun i _ => gn - (intOf i).toNat)
    case atStart => exact ⟨0, by omega, rfl, Lib.hid (fun i hi => absurd hi (by omega)), Ext.refl w2⟩
    case round =>
      obtain ⟨k, hk, rfl, HN, hEr⟩ := hrel
      have hPr := hP.ext hEr
      have hXr := hX.ext hEr
      have hRr := hR.ext hEr
      have hEw := hE.trans hEr
      have p6 := hPr.c 6 _ rfl
      by_cases hlt : k < gn
      · obtain ⟨gb, go, rfl, hcg⟩ := hb.rw.at (by omega)
        have hr := rangeAt_ext (hcg k hlt) hEw
        rw [sz_rp] at hr
        have q0 := (cells_rp hr).1
        have y0 := hXr.c 0 _ rfl
        have m1 := lt_of_cell q0
        have m2 := hXr.lt
        have m3 := hPr.lt
        simp only at m1
        clear hcg hr
        generalize hy : nthR b.got k = y at *
        have HY := Lib.hid hy
        clear hy
        have hg := @grow_cell
        by_cases hya : y.a = x.a
        · have q1 : (y.a == x.a) = true := by simp [hya]
          have HK : Hid (kdX b (some x) t = 2) := Lib.hid (by
            unfold kdX kindX
            simp only
            rw [HOWN.out, if_neg (by decide), if_pos]
            rw [List.any_eq_true]
            exact ⟨y, by rw [← HY.out]; exact nthR_mem (by rw [HL.out]; exact hlt), q1⟩)
          rw [hya] at q0
          have q2 : (x.a == x.a) = true := by simp
          clear hya q1
          go_upto_region 10 with fail
          refine region_ext (by kernel_rfl) (by kernel_rfl) ?_
          repeat (go_big_quiet_step (fail))
          refine wpQuiet_nil ?_
          intro w4 hx4
          clear hg q0 y0 m1 m2 m3 p6 q2
          have hX4 := hXr.ext hx4
          have hR4 := hRr.ext hx4
          have hE4 := hEw.trans hx4
          go_upto_region 11 with fail
          have lx := hX4.lt
          have y0 := hX4.c 0 _ rfl
          have y1 := hX4.c 1 _ rfl
          have y2 := hX4.c 2 _ rfl
          have y3 := hX4.c 3 _ rfl
          have y4 := hX4.c 4 _ rfl
          have y5 := hX4.c 5 _ rfl
          have y6 := hX4.c 6 _ rfl
          have y7 := hX4.c 7 _ rfl
          have y8 := hX4.c 8 _ rfl
          have y9 := hX4.c 9 _ rfl
          have hg := @grow_cell
          refine region_tail 2 (by kernel_rfl) (by kernel_rfl) ?_
          simp only [List.take_succ_cons, List.take_zero, List.drop_succ_cons, List.drop_zero]
          repeat (go_big_quiet_step (fail))
          refine wpQuiet_nil ?_
          intro w5 hx5
          clear hg y0 y1 y2 y3 y4 y5 y6 y7 y8 y9 lx
          have hR5 := hR4.ext hx5
          have z0 := hR5.c 0 _ rfl
          have z1 := hR5.c 1 _ rfl
          have z2 := hR5.c 2 _ rfl
          have z3 := hR5.c 3 _ rfl
          have z4 := hR5.c 4 _ rfl
          have z5 := hR5.c 5 _ rfl
          have z6 := hR5.c 6 _ rfl
          have z7 := hR5.c 7 _ rfl
          have z8 := hR5.c 8 _ rfl
          have z9 := hR5.c 9 _ rfl
          have fz := hR5.free
          go_wp2_with fail
          exact bodyPost_ret (res_rkind _ rb (.int .i64 x.a) (.int .i64 x.h) (.int .i64 x.r) (.int .u64 x.n) (.int .i64 x.lo) (.int .i64 x.hi) (.int .i64 x.k) (.int .i64 x.t) (.int .i64 x.c) (.int .i64 x.s) (.int .i64 2) _ (by rfl) (by rfl) (Bk.set10 hR5 _ _ _ _ _ _ _ _ _ _)) rfl ⟨x, HXO.out, by rw [HG.out, HK.out], by rw [HG.out]; exact HP.out, (hE4.trans hx5).set10 hrw _ _ _ _ _ _ _ _ _ _⟩
        · have q1 : (y.a == x.a) = false := by simp [hya]
          have HYA := Lib.hid hya
          clear hya
          go_upto_region 10 with fail
          refine region_ext (by kernel_rfl) (by kernel_rfl) ?_
          repeat (go_big_quiet_step (fail))
          refine wpQuiet_nil ?_
          intro w4 hx4
          clear hg q0 y0 m1 m2 m3
          go_wp2_with fail
          exact ⟨⟨k + 1, by omega, by go_num, Lib.hid (fun i hi => by
            by_cases e : i = k
            · rw [e, HY.out]; exact HYA.out
            · exact HN.out i (by omega)), hEr.trans hx4⟩, by simp [intOf]; omega⟩
      · obtain rfl : k = gn := by omega
        have hany : (b.got.any fun y => y.a == x.a) = false := by
          rw [List.any_eq_false]
          intro y hy
          obtain ⟨i, hi, rfl⟩ := List.getElem_of_mem hy
          have := HN.out i (by rw [← HL.out]; exact hi)
          rw [nthR_get hi] at this
          simpa using this
        have p3 := hPr.c 3 _ rfl
        have p4 := hPr.c 4 _ rfl
        have hwr : IntKind.i64.wrap (b.sent + b.wait) = b.sent + b.wait := IntWalk.i64_in _ (by omega)
        by_cases hlate : b.sent + b.wait < t
        · have q1 : decide (b.sent + b.wait < t) = true := decide_eq_true hlate
          have HK : Hid (kdX b (some x) t = 4) := Lib.hid (by
            unfold kdX kindX
            simp only
            rw [HOWN.out, if_neg (by decide), hany, if_neg (by decide), if_pos hlate])
          clear hlate hany
          go_upto_region 13 with fail
          have lx := hXr.lt
          have y0 := hXr.c 0 _ rfl
          have y1 := hXr.c 1 _ rfl
          have y2 := hXr.c 2 _ rfl
          have y3 := hXr.c 3 _ rfl
          have y4 := hXr.c 4 _ rfl
          have y5 := hXr.c 5 _ rfl
          have y6 := hXr.c 6 _ rfl
          have y7 := hXr.c 7 _ rfl
          have y8 := hXr.c 8 _ rfl
          have y9 := hXr.c 9 _ rfl
          have hg := @grow_cell
          refine region_tail 2 (by kernel_rfl) (by kernel_rfl) ?_
          simp only [List.take_succ_cons, List.take_zero, List.drop_succ_cons, List.drop_zero]
          repeat (go_big_quiet_step (fail))
          refine wpQuiet_nil ?_
          intro w5 hx5
          clear hg y0 y1 y2 y3 y4 y5 y6 y7 y8 y9 lx
          have hR5 := hRr.ext hx5
          have z0 := hR5.c 0 _ rfl
          have z1 := hR5.c 1 _ rfl
          have z2 := hR5.c 2 _ rfl
          have z3 := hR5.c 3 _ rfl
          have z4 := hR5.c 4 _ rfl
          have z5 := hR5.c 5 _ rfl
          have z6 := hR5.c 6 _ rfl
          have z7 := hR5.c 7 _ rfl
          have z8 := hR5.c 8 _ rfl
          have z9 := hR5.c 9 _ rfl
          have fz := hR5.free
          go_wp2_with fail
          exact bodyPost_ret (res_rkind _ rb (.int .i64 x.a) (.int .i64 x.h) (.int .i64 x.r) (.int .u64 x.n) (.int .i64 x.lo) (.int .i64 x.hi) (.int .i64 x.k) (.int .i64 x.t) (.int .i64 x.c) (.int .i64 x.s) (.int .i64 4) _ (by rfl) (by rfl) (Bk.set10 hR5 _ _ _ _ _ _ _ _ _ _)) rfl ⟨x, HXO.out, by rw [HG.out, HK.out], by rw [HG.out]; exact HP.out, (hEw.trans hx5).set10 hrw _ _ _ _ _ _ _ _ _ _⟩
        · have q1 : decide (b.sent + b.wait < t) = false := decide_eq_false hlate
          have HK : Hid (kdX b (some x) t = 1) := Lib.hid (kd_fresh.2 ⟨HOWN.out, hany, hlate⟩)
          clear hlate hany
          go_upto_region 14 with fail
          have lx := hXr.lt
          have y0 := hXr.c 0 _ rfl
          have y1 := hXr.c 1 _ rfl
          have y2 := hXr.c 2 _ rfl
          have y3 := hXr.c 3 _ rfl
          have y4 := hXr.c 4 _ rfl
          have y5 := hXr.c 5 _ rfl
          have y6 := hXr.c 6 _ rfl
          have y7 := hXr.c 7 _ rfl
          have y8 := hXr.c 8 _ rfl
          have y9 := hXr.c 9 _ rfl
          have hg := @grow_cell
          refine region_tail 2 (by kernel_rfl) (by kernel_rfl) ?_
          simp only [List.take_succ_cons, List.take_zero, List.drop_succ_cons, List.drop_zero]
          repeat (go_big_quiet_step (fail))
          refine wpQuiet_nil ?_
          intro w5 hx5
          clear hg y0 y1 y2 y3 y4 y5 y6 y7 y8 y9 lx
          have hR5 := hRr.ext hx5
          have z0 := hR5.c 0 _ rfl
          have z1 := hR5.c 1 _ rfl
          have z2 := hR5.c 2 _ rfl
          have z3 := hR5.c 3 _ rfl
          have z4 := hR5.c 4 _ rfl
          have z5 := hR5.c 5 _ rfl
          have z6 := hR5.c 6 _ rfl
          have z7 := hR5.c 7 _ rfl
          have z8 := hR5.c 8 _ rfl
          have z9 := hR5.c 9 _ rfl
          have fz := hR5.free
          go_wp2_with fail
          exact bodyPost_ret (res_rkind _ rb (.int .i64 x.a) (.int .i64 x.h) (.int .i64 x.r) (.int .u64 x.n) (.int .i64 x.lo) (.int .i64 x.hi) (.int .i64 x.k) (.int .i64 x.t) (.int .i64 x.c) (.int .i64 x.s) (.int .i64 1) _ (by rfl) (by rfl) (Bk.set10 hR5 _ _ _ _ _ _ _ _ _ _)) rfl ⟨x, HXO.out, by rw [HG.out, HK.out], by rw [HG.out]; exact HP.out, (hEw.trans hx5).set10 hrw _ _ _ _ _ _ _ _ _ _⟩
end Go.Proofs.YtdmfdimhjemngaaGreatDoor
