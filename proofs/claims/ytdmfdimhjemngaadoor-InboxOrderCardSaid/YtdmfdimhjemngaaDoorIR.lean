/-
  The law InboxOthers. Written by wip/gen_ir.py.
-/
import Derived.Test.YtdmfdimhjemngaaDoorIQ
namespace Go.Proofs.YtdmfdimhjemngaaDoor
open Go.RowKit Go.Sort Go.Shelf
set_option linter.unusedSimpArgs false
set_option linter.unusedVariables false
set_option maxRecDepth 100000

theorem tk_keep {b : Bx} {p : Option Rp} {t : Int} (h0 : tkE b t = 0) (hk : tkK b p t ≠ 1) : tkB b p t = b :=
  (tkB_same h0 rfl (fun e => hk (by unfold tkK; rw [if_pos h0]; exact e))).1
theorem tk_zero {b : Bx} {p : Option Rp} {t : Int} (h : tkE b t ≠ 0) : tkK b p t = 0 ∧ tkB b p t = bx0 := ⟨tkK_no rfl h, tkB_no rfl h⟩
theorem tkK_kd {b : Bx} {p : Option Rp} {t : Int} (h0 : tkE b t = 0) : tkK b p t = kdX b p t := by unfold tkK; rw [if_pos h0]
theorem kd_cases (b : Bx) (x : Rp) (t : Int) : (ownB b x = false ∧ kdX b (some x) t = 3) ∨ (ownB b x = true ∧ (kdX b (some x) t = 1 ∨ kdX b (some x) t = 2 ∨ kdX b (some x) t = 4)) := by
  unfold kdX kindX
  simp only
  rcases ownB b x with _ | _
  · left; simp
  · right
    rcases (b.got.any fun y => y.a == x.a) with _ | _
    · by_cases h3 : b.sent + b.wait < t <;> simp [h3]
    · simp
theorem own_ord (b : Bx) (x : Rp) : ownB b x = (x.r == b.round && (x.h == b.host && (decide (x.a ∈ b.asked) && x.n == nonF b.head b.host b.round x.a))) := by
  unfold ownB
  cases decide (x.a ∈ b.asked) <;> cases (x.h == b.host) <;> cases (x.r == b.round) <;> simp

set_option maxHeartbeats 8000000 in
theorem iothers_law (b : Bx) (sa : Option Addr) (sn sc : Nat) (ga : Option Addr) (gn gc : Nat) (x : Rp) (hx0 : x.Ok) (t : Int) (pa : Option Addr) (pn pc : Nat) (bytes : List Int) (w : World) (hb : BxF w b sa sn sc ga gn gc) (hp : Sl .u8 w pa pn pc bytes) (ht : TB w) :
    Calls Tryd.prog 5 #[.agg #[.int .i64 b.host, .int .i64 b.round, .int .u64 b.head, .int .i64 b.sent, .int .i64 b.wait, .slice sa sn sc, .slice ga gn gc], .agg #[.int .i64 x.a, .int .i64 x.h, .int .i64 x.r, .int .u64 x.n, .int .i64 x.lo, .int .i64 x.hi, .int .i64 x.k, .int .i64 x.t, .int .i64 x.c, .int .i64 x.s], .int .i64 t, .slice pa pn pc] w fun e w' => e = .returned (.bool true) ∧ Ext w w' := by
  have HT := Lib.hid ht
  have bs := hb.sl.bd
  have bg := hb.rw.bd
  have bp := hp.bd
  clear ht
  have hP := (Bk.new w 33 #[.int .i64 b.host, .int .i64 b.round, .int .u64 b.head, .int .i64 b.sent, .int .i64 b.wait, .slice sa sn sc, .slice ga gn gc]).ext ((Ext.refl _).alloc (.cells #[.int .i64 x.a, .int .i64 x.h, .int .i64 x.r, .int .u64 x.n, .int .i64 x.lo, .int .i64 x.hi, .int .i64 x.k, .int .i64 x.t, .int .i64 x.c, .int .i64 x.s] 52))
  have hQ := Bk.new (w.alloc (.cells #[.int .i64 b.host, .int .i64 b.round, .int .u64 b.head, .int .i64 b.sent, .int .i64 b.wait, .slice sa sn sc, .slice ga gn gc] 33)) 52 #[.int .i64 x.a, .int .i64 x.h, .int .i64 x.r, .int .u64 x.n, .int .i64 x.lo, .int .i64 x.hi, .int .i64 x.k, .int .i64 x.t, .int .i64 x.c, .int .i64 x.s]
  rw [World.size_alloc] at hQ
  have hE : Ext w ((w.alloc (.cells #[.int .i64 b.host, .int .i64 b.round, .int .u64 b.head, .int .i64 b.sent, .int .i64 b.wait, .slice sa sn sc, .slice ga gn gc] 33)).alloc (.cells #[.int .i64 x.a, .int .i64 x.h, .int .i64 x.r, .int .u64 x.n, .int .i64 x.lo, .int .i64 x.hi, .int .i64 x.k, .int .i64 x.t, .int .i64 x.c, .int .i64 x.s] 52)) := ((Ext.refl w).alloc _).alloc _
  go_enter Tryd.func5, Tryd.ntmps5
  go_upto_region 1 with fail
  generalize (w.alloc (.cells #[.int .i64 b.host, .int .i64 b.round, .int .u64 b.head, .int .i64 b.sent, .int .i64 b.wait, .slice sa sn sc, .slice ga gn gc] 33)).alloc (.cells #[.int .i64 x.a, .int .i64 x.h, .int .i64 x.r, .int .u64 x.n, .int .i64 x.lo, .int .i64 x.hi, .int .i64 x.k, .int .i64 x.t, .int .i64 x.c, .int .i64 x.s] 52) = V at *
  generalize w.heap.size + 1 = qb at hQ ⊢
  generalize w.heap.size = pb at hP ⊢
  have p0 := hP.c 0 _ rfl
  have p1 := hP.c 1 _ rfl
  have p2 := hP.c 2 _ rfl
  have p3 := hP.c 3 _ rfl
  have p4 := hP.c 4 _ rfl
  have p5 := hP.c 5 _ rfl
  have p6 := hP.c 6 _ rfl
  have r0 := hQ.c 0 _ rfl
  have r1 := hQ.c 1 _ rfl
  have r2 := hQ.c 2 _ rfl
  have r3 := hQ.c 3 _ rfl
  have r4 := hQ.c 4 _ rfl
  have r5 := hQ.c 5 _ rfl
  have r6 := hQ.c 6 _ rfl
  have r7 := hQ.c 7 _ rfl
  have r8 := hQ.c 8 _ rfl
  have r9 := hQ.c 9 _ rfl
  go_wp2_with fail
  refine (ihead_any V (TB.ext HT.out hE)).mono ?_
  rintro _ w1 ⟨rfl, hx⟩
  clear p0 p1 p2 p3 p4 p5 p6 r0 r1 r2 r3 r4 r5 r6 r7 r8 r9
  replace hP := hP.ext hx
  replace hQ := hQ.ext hx
  replace hE := hE.trans hx
  clear hx
  have p0 := hP.c 0 _ rfl
  have p1 := hP.c 1 _ rfl
  have p2 := hP.c 2 _ rfl
  have p3 := hP.c 3 _ rfl
  have p4 := hP.c 4 _ rfl
  have p5 := hP.c 5 _ rfl
  have p6 := hP.c 6 _ rfl
  have r0 := hQ.c 0 _ rfl
  have r1 := hQ.c 1 _ rfl
  have r2 := hQ.c 2 _ rfl
  have r3 := hQ.c 3 _ rfl
  have r4 := hQ.c 4 _ rfl
  have r5 := hQ.c 5 _ rfl
  have r6 := hQ.c 6 _ rfl
  have r7 := hQ.c 7 _ rfl
  have r8 := hQ.c 8 _ rfl
  have r9 := hQ.c 9 _ rfl
  go_wp2_with fail
  refine (ifew_any b sa sn sc ga gn gc w1 (hb.ext hE)).mono ?_
  rintro _ w2 ⟨rfl, hx⟩
  clear p0 p1 p2 p3 p4 p5 p6 r0 r1 r2 r3 r4 r5 r6 r7 r8 r9
  replace hP := hP.ext hx
  replace hQ := hQ.ext hx
  replace hE := hE.trans hx
  clear hx
  have p0 := hP.c 0 _ rfl
  have p1 := hP.c 1 _ rfl
  have p2 := hP.c 2 _ rfl
  have p3 := hP.c 3 _ rfl
  have p4 := hP.c 4 _ rfl
  have p5 := hP.c 5 _ rfl
  have p6 := hP.c 6 _ rfl
  have r0 := hQ.c 0 _ rfl
  have r1 := hQ.c 1 _ rfl
  have r2 := hQ.c 2 _ rfl
  have r3 := hQ.c 3 _ rfl
  have r4 := hQ.c 4 _ rfl
  have r5 := hQ.c 5 _ rfl
  have r6 := hQ.c 6 _ rfl
  have r7 := hQ.c 7 _ rfl
  have r8 := hQ.c 8 _ rfl
  have r9 := hQ.c 9 _ rfl
  by_cases hf1 : sn ≤ 20
  rotate_left
  · have hd : (decide (sn ≤ 20) && decide (gn ≤ 20)) = false := by simp; omega
    rw [hd]
    go_wp2_with fail
    go_ret
    exact ⟨rfl, hE⟩
  by_cases hf2 : gn ≤ 20
  rotate_left
  · have hd : (decide (sn ≤ 20) && decide (gn ≤ 20)) = false := by simp; omega
    rw [hd]
    go_wp2_with fail
    go_ret
    exact ⟨rfl, hE⟩
  have hd : (decide (sn ≤ 20) && decide (gn ≤ 20)) = true := by simp; omega
  rw [hd]
  clear hd
  by_cases hpn : 200 < pn
  · have q : decide ((200 : Int) < (pn : Int)) = true := by simp; omega
    go_wp2_with fail
    go_ret
    exact ⟨rfl, hE⟩
  have q : decide ((200 : Int) < (pn : Int)) = false := by simp; omega
  have T1 : Hid (∀ W, BxF W b sa sn sc ga gn gc → Sl .u8 W pa pn pc bytes → TB W → Calls Tryd.prog 14 #[.agg #[.int .i64 b.host, .int .i64 b.round, .int .u64 b.head, .int .i64 b.sent, .int .i64 b.wait, .slice sa sn sc, .slice ga gn gc], .slice pa pn pc, .int .i64 t] W fun e w' => TkQ W w' e (tkB b (gpX bytes) t) (tkK b (gpX bytes) t) (tkE b t)) := Lib.hid (fun W h1 h2 h3 => itake_any b sa sn sc ga gn gc pa pn pc bytes t W h1 h2 (by omega) (by omega) (by omega) h3)
  have TZ : Hid (tkE b t ≠ 0 → tkK b (gpX bytes) t = 0) := Lib.hid (fun h => (tk_zero h).1)
  have TS : Hid (tkE b t = 0 → tkK b (gpX bytes) t ≠ 1 → tkB b (gpX bytes) t = b) := Lib.hid tk_keep
  have TE : Hid (tkE b t = tkE b t) := Lib.hid rfl
  clear TE
  obtain ⟨B1, hB1⟩ : ∃ z, tkB b (gpX bytes) t = z := ⟨_, rfl⟩
  obtain ⟨K1, hK1⟩ : ∃ z, tkK b (gpX bytes) t = z := ⟨_, rfl⟩
  obtain ⟨E1, hE1⟩ : ∃ z, tkE b t = z := ⟨_, rfl⟩
  rw [hB1, hK1, hE1] at T1
  rw [hK1, hE1] at TZ
  rw [hE1, hK1, hB1] at TS
  have HE1 := Lib.hid hE1
  clear hB1 hK1 hE1
  go_wp2_with fail
  refine (T1.out w2 (hb.ext hE) (hp.ext hE) (TB.ext HT.out hE)).mono ?_
  rintro _ w3 ⟨sa1, sn1, sc1, ga1, gn1, gc1, rfl, hF1, -, hx⟩
  go_upto_region 5 with fail
  have hX := Bk.new w3 33 #[.int .i64 B1.host, .int .i64 B1.round, .int .u64 B1.head, .int .i64 B1.sent, .int .i64 B1.wait, .slice sa1 sn1 sc1, .slice ga1 gn1 gc1]
  replace hx := hx.alloc (.cells #[.int .i64 B1.host, .int .i64 B1.round, .int .u64 B1.head, .int .i64 B1.sent, .int .i64 B1.wait, .slice sa1 sn1 sc1, .slice ga1 gn1 gc1] 33)
  have hx2 : Ext w3 (w3.alloc (.cells #[.int .i64 B1.host, .int .i64 B1.round, .int .u64 B1.head, .int .i64 B1.sent, .int .i64 B1.wait, .slice sa1 sn1 sc1, .slice ga1 gn1 gc1] 33)) := (Ext.refl w3).alloc _
  generalize w3.alloc (.cells #[.int .i64 B1.host, .int .i64 B1.round, .int .u64 B1.head, .int .i64 B1.sent, .int .i64 B1.wait, .slice sa1 sn1 sc1, .slice ga1 gn1 gc1] 33) = V3 at *
  generalize w3.heap.size = bhX at hX ⊢
  replace hF1 := hF1.ext hx2
  clear hx2
  clear p0 p1 p2 p3 p4 p5 p6 r0 r1 r2 r3 r4 r5 r6 r7 r8 r9
  replace hP := hP.ext hx
  replace hQ := hQ.ext hx
  replace hE := hE.trans hx
  clear hx
  have p0 := hP.c 0 _ rfl
  have p1 := hP.c 1 _ rfl
  have p2 := hP.c 2 _ rfl
  have p3 := hP.c 3 _ rfl
  have p4 := hP.c 4 _ rfl
  have p5 := hP.c 5 _ rfl
  have p6 := hP.c 6 _ rfl
  have r0 := hQ.c 0 _ rfl
  have r1 := hQ.c 1 _ rfl
  have r2 := hQ.c 2 _ rfl
  have r3 := hQ.c 3 _ rfl
  have r4 := hQ.c 4 _ rfl
  have r5 := hQ.c 5 _ rfl
  have r6 := hQ.c 6 _ rfl
  have r7 := hQ.c 7 _ rfl
  have r8 := hQ.c 8 _ rfl
  have r9 := hQ.c 9 _ rfl
  have x0 := hX.c 0 _ rfl
  have x1 := hX.c 1 _ rfl
  have x2 := hX.c 2 _ rfl
  have x3 := hX.c 3 _ rfl
  have x4 := hX.c 4 _ rfl
  have x5 := hX.c 5 _ rfl
  have x6 := hX.c 6 _ rfl
  clear T1
  go_cut [9] (fun s9 wx => s9 = .bool true ∧ Ext V3 wx)
  case first =>
    by_cases hz : E1 = 0
    · subst hz
      by_cases hk : K1 = 1
      · subst hk
        go_wp2_with fail
        go_meet
        exact ⟨rfl, Ext.refl _⟩
      · have hq : (K1 == 1) = false := by simpa using hk
        have hBb := TS.out rfl hk
        have HBB := Lib.hid hBb
        clear hk hBb
        go_wp2_with fail
        refine (rsame13_any B1 sa1 sn1 sc1 ga1 gn1 gc1 b sa sn sc ga gn gc V3 hF1 (hb.ext hE)).mono ?_
        rintro _ w4 ⟨rfl, hx⟩
        rw [decide_eq_true HBB.out]
        clear p0 p1 p2 p3 p4 p5 p6 r0 r1 r2 r3 r4 r5 r6 r7 r8 r9 x0 x1 x2 x3 x4 x5 x6
        go_wp2_with fail
        go_meet
        exact ⟨rfl, hx⟩
    · have hq : (E1 != 0) = true := by simpa using hz
      go_wp2_with fail
      go_meet
      exact ⟨rfl, Ext.refl _⟩
  case rest =>
    obtain ⟨rfl, hx⟩ := hcut
    have hxq := hx
    clear x0 x1 x2 x3 x4 x5 x6 hX hF1
    clear p0 p1 p2 p3 p4 p5 p6 r0 r1 r2 r3 r4 r5 r6 r7 r8 r9
    replace hP := hP.ext hx
    replace hQ := hQ.ext hx
    replace hE := hE.trans hx
    clear hx
    have p0 := hP.c 0 _ rfl
    have p1 := hP.c 1 _ rfl
    have p2 := hP.c 2 _ rfl
    have p3 := hP.c 3 _ rfl
    have p4 := hP.c 4 _ rfl
    have p5 := hP.c 5 _ rfl
    have p6 := hP.c 6 _ rfl
    have r0 := hQ.c 0 _ rfl
    have r1 := hQ.c 1 _ rfl
    have r2 := hQ.c 2 _ rfl
    have r3 := hQ.c 3 _ rfl
    have r4 := hQ.c 4 _ rfl
    have r5 := hQ.c 5 _ rfl
    have r6 := hQ.c 6 _ rfl
    have r7 := hQ.c 7 _ rfl
    have r8 := hQ.c 8 _ rfl
    have r9 := hQ.c 9 _ rfl
    go_wp2_with fail
    refine (iput_any x hx0 _).mono ?_
    rintro _ w5 ⟨pa2, pn2, pc2, rfl, hs2, hx⟩
    clear p0 p1 p2 p3 p4 p5 p6 r0 r1 r2 r3 r4 r5 r6 r7 r8 r9
    replace hP := hP.ext hx
    replace hQ := hQ.ext hx
    replace hE := hE.trans hx
    clear hx
    have p0 := hP.c 0 _ rfl
    have p1 := hP.c 1 _ rfl
    have p2 := hP.c 2 _ rfl
    have p3 := hP.c 3 _ rfl
    have p4 := hP.c 4 _ rfl
    have p5 := hP.c 5 _ rfl
    have p6 := hP.c 6 _ rfl
    have r0 := hQ.c 0 _ rfl
    have r1 := hQ.c 1 _ rfl
    have r2 := hQ.c 2 _ rfl
    have r3 := hQ.c 3 _ rfl
    have r4 := hQ.c 4 _ rfl
    have r5 := hQ.c 5 _ rfl
    have r6 := hQ.c 6 _ rfl
    have r7 := hQ.c 7 _ rfl
    have r8 := hQ.c 8 _ rfl
    have r9 := hQ.c 9 _ rfl
    rcases hw : wfR x with _ | _
    · rw [hw] at hs2
      simp only [okE, Bool.false_eq_true, if_false] at hs2 ⊢
      have hpn2 : pn2 = 0 := hs2.hlen.symm
      subst hpn2
      go_wp2_with fail
      refine (itake_any b sa sn sc ga gn gc pa2 0 pc2 [] t w5 (hb.ext hE) hs2 (by omega) (by omega) (by omega) (TB.ext HT.out hE)).mono ?_
      rintro _ w6 ⟨sa2, sn2, sc2, ga2, gn2, gc2, rfl, hF2, -, hx⟩
      go_upto_region 8 with fail
      have hY := Bk.new w6 33 #[.int .i64 (tkB b (gpX []) t).host, .int .i64 (tkB b (gpX []) t).round, .int .u64 (tkB b (gpX []) t).head, .int .i64 (tkB b (gpX []) t).sent, .int .i64 (tkB b (gpX []) t).wait, .slice sa2 sn2 sc2, .slice ga2 gn2 gc2]
      replace hx := hx.alloc (.cells #[.int .i64 (tkB b (gpX []) t).host, .int .i64 (tkB b (gpX []) t).round, .int .u64 (tkB b (gpX []) t).head, .int .i64 (tkB b (gpX []) t).sent, .int .i64 (tkB b (gpX []) t).wait, .slice sa2 sn2 sc2, .slice ga2 gn2 gc2] 33)
      have hx2 : Ext w6 (w6.alloc (.cells #[.int .i64 (tkB b (gpX []) t).host, .int .i64 (tkB b (gpX []) t).round, .int .u64 (tkB b (gpX []) t).head, .int .i64 (tkB b (gpX []) t).sent, .int .i64 (tkB b (gpX []) t).wait, .slice sa2 sn2 sc2, .slice ga2 gn2 gc2] 33)) := (Ext.refl w6).alloc _
      generalize w6.alloc (.cells #[.int .i64 (tkB b (gpX []) t).host, .int .i64 (tkB b (gpX []) t).round, .int .u64 (tkB b (gpX []) t).head, .int .i64 (tkB b (gpX []) t).sent, .int .i64 (tkB b (gpX []) t).wait, .slice sa2 sn2 sc2, .slice ga2 gn2 gc2] 33) = V6 at *
      generalize w6.heap.size = bhY at hY ⊢
      clear hx2
      clear p0 p1 p2 p3 p4 p5 p6 r0 r1 r2 r3 r4 r5 r6 r7 r8 r9
      replace hP := hP.ext hx
      replace hQ := hQ.ext hx
      replace hs2 := hs2.ext hx
      replace hE := hE.trans hx
      clear hx
      have p0 := hP.c 0 _ rfl
      have p1 := hP.c 1 _ rfl
      have p2 := hP.c 2 _ rfl
      have p3 := hP.c 3 _ rfl
      have p4 := hP.c 4 _ rfl
      have p5 := hP.c 5 _ rfl
      have p6 := hP.c 6 _ rfl
      have r0 := hQ.c 0 _ rfl
      have r1 := hQ.c 1 _ rfl
      have r2 := hQ.c 2 _ rfl
      have r3 := hQ.c 3 _ rfl
      have r4 := hQ.c 4 _ rfl
      have r5 := hQ.c 5 _ rfl
      have r6 := hQ.c 6 _ rfl
      have r7 := hQ.c 7 _ rfl
      have r8 := hQ.c 8 _ rfl
      have r9 := hQ.c 9 _ rfl
      have y0 := hY.c 0 _ rfl
      have y1 := hY.c 1 _ rfl
      have y2 := hY.c 2 _ rfl
      have y3 := hY.c 3 _ rfl
      have y4 := hY.c 4 _ rfl
      have y5 := hY.c 5 _ rfl
      have y6 := hY.c 6 _ rfl
      generalize tkE b t = E2 at *
      generalize tkK b (gpX []) t = K2 at *
      go_wp2_with fail
      go_ret
      exact ⟨rfl, hE⟩
    rw [hw] at hs2
    simp only [okE, if_true] at hs2 ⊢
    have hpn2 : pn2 ≤ 1000000000 := by rw [← hs2.hlen]; have := ppX_len hx0 hw; omega
    have T2 : Hid (∀ W, BxF W b sa sn sc ga gn gc → Sl .u8 W pa2 pn2 pc2 (ppX x) → TB W → Calls Tryd.prog 14 #[.agg #[.int .i64 b.host, .int .i64 b.round, .int .u64 b.head, .int .i64 b.sent, .int .i64 b.wait, .slice sa sn sc, .slice ga gn gc], .slice pa2 pn2 pc2, .int .i64 t] W fun e w' => TkQ W w' e (tkB b (some x) t) (tkK b (some x) t) (tkE b t)) := Lib.hid (fun W h1 h2 h3 => by
      have := itake_any b sa sn sc ga gn gc pa2 pn2 pc2 (ppX x) t W h1 h2 hpn2 (by omega) (by omega) h3
      rw [gpX_pp hx0 hw] at this
      exact this)
    have KC : Hid (tkE b t = 0 → ((ownB b x = false ∧ tkK b (some x) t = 3) ∨ (ownB b x = true ∧ (tkK b (some x) t = 1 ∨ tkK b (some x) t = 2 ∨ tkK b (some x) t = 4)))) := Lib.hid (fun h => by rw [tkK_kd h]; exact kd_cases b x t)
    have TZ2 : Hid (tkE b t ≠ 0 → tkK b (some x) t = 0) := Lib.hid (fun h => (tk_zero h).1)
    have TS2 : Hid (tkE b t = 0 → tkK b (some x) t ≠ 1 → tkB b (some x) t = b) := Lib.hid tk_keep
    rw [HE1.out] at T2 KC TZ2 TS2
    clear hw
    obtain ⟨B2, hB2⟩ : ∃ z, tkB b (some x) t = z := ⟨_, rfl⟩
    obtain ⟨K2, hK2⟩ : ∃ z, tkK b (some x) t = z := ⟨_, rfl⟩
    rw [hB2, hK2] at T2
    rw [hK2] at TZ2 KC
    rw [hK2, hB2] at TS2
    clear hB2 hK2
    go_wp2_with fail
    refine (T2.out w5 (hb.ext hE) hs2 (TB.ext HT.out hE)).mono ?_
    rintro _ w6 ⟨sa2, sn2, sc2, ga2, gn2, gc2, rfl, hF2, -, hx⟩
    go_upto_region 8 with fail
    have hY := Bk.new w6 33 #[.int .i64 B2.host, .int .i64 B2.round, .int .u64 B2.head, .int .i64 B2.sent, .int .i64 B2.wait, .slice sa2 sn2 sc2, .slice ga2 gn2 gc2]
    replace hx := hx.alloc (.cells #[.int .i64 B2.host, .int .i64 B2.round, .int .u64 B2.head, .int .i64 B2.sent, .int .i64 B2.wait, .slice sa2 sn2 sc2, .slice ga2 gn2 gc2] 33)
    have hx2 : Ext w6 (w6.alloc (.cells #[.int .i64 B2.host, .int .i64 B2.round, .int .u64 B2.head, .int .i64 B2.sent, .int .i64 B2.wait, .slice sa2 sn2 sc2, .slice ga2 gn2 gc2] 33)) := (Ext.refl w6).alloc _
    generalize w6.alloc (.cells #[.int .i64 B2.host, .int .i64 B2.round, .int .u64 B2.head, .int .i64 B2.sent, .int .i64 B2.wait, .slice sa2 sn2 sc2, .slice ga2 gn2 gc2] 33) = V6 at *
    generalize w6.heap.size = bhY at hY ⊢
    replace hF2 := hF2.ext hx2
    clear hx2
    clear p0 p1 p2 p3 p4 p5 p6 r0 r1 r2 r3 r4 r5 r6 r7 r8 r9
    replace hP := hP.ext hx
    replace hQ := hQ.ext hx
    replace hs2 := hs2.ext hx
    replace hE := hE.trans hx
    clear hx
    have p0 := hP.c 0 _ rfl
    have p1 := hP.c 1 _ rfl
    have p2 := hP.c 2 _ rfl
    have p3 := hP.c 3 _ rfl
    have p4 := hP.c 4 _ rfl
    have p5 := hP.c 5 _ rfl
    have p6 := hP.c 6 _ rfl
    have r0 := hQ.c 0 _ rfl
    have r1 := hQ.c 1 _ rfl
    have r2 := hQ.c 2 _ rfl
    have r3 := hQ.c 3 _ rfl
    have r4 := hQ.c 4 _ rfl
    have r5 := hQ.c 5 _ rfl
    have r6 := hQ.c 6 _ rfl
    have r7 := hQ.c 7 _ rfl
    have r8 := hQ.c 8 _ rfl
    have r9 := hQ.c 9 _ rfl
    have y0 := hY.c 0 _ rfl
    have y1 := hY.c 1 _ rfl
    have y2 := hY.c 2 _ rfl
    have y3 := hY.c 3 _ rfl
    have y4 := hY.c 4 _ rfl
    have y5 := hY.c 5 _ rfl
    have y6 := hY.c 6 _ rfl
    clear T2
    by_cases hz : E1 = 0
    rotate_left
    · have hq : (E1 != 0) = true := by simpa using hz
      obtain rfl : K1 = 0 := TZ.out hz
      obtain rfl : K2 = 0 := TZ2.out hz
      go_wp2_with fail
      go_ret
      exact ⟨rfl, hE⟩
    subst hz
    go_upto_region 10 with fail
    have HRO : Hid (ownB b x = (x.r == b.round && (x.h == b.host && (decide (x.a ∈ b.asked) && x.n == nonF b.head b.host b.round x.a)))) := Lib.hid (own_ord b x)
    go_cut [18] (fun s18 wx => s18 = .bool (ownB b x) ∧ Ext V6 wx)
    case first =>
      have ho := hb.ok
      have hlP := hP.lt
      have hlQ := hQ.lt
      have hg := @grow_cell
      have hhas := fun (W : World) (hW : Ext V6 W) => rHas_any sa sn sc b.asked x.a W (hb.sl.ext (hE.trans hW))
      have hnon := fun (W : World) => rnonce_any b.head b.host b.round x.a ho.head ho.host ho.round hx0.a W
      generalize decide (x.a ∈ b.asked) = MB at *
      generalize nonF b.head b.host b.round x.a = NF at *
      have HHA := Lib.hid hhas
      have HNO := Lib.hid hnon
      clear hhas hnon ho
      rcases c1 : (x.r == b.round) with _ | _
      · have C1 := Lib.hid c1
        refine region_ext (by kernel_rfl) (by kernel_rfl) ?_
        repeat (go_big_quiet_step (first | (go_at_call 19; exact Calls.regrown_of (HHA.out _ (ext_grow _ _ _))) | (go_at_call 20; exact Calls.regrown_of (HNO.out _))))
        refine wpQuiet_nil ?_
        intro w' hE2
        go_wp2_with fail
        go_meet
        exact ⟨by rw [HRO.out, C1.out]; simp, hE2⟩
      have C1 := Lib.hid c1
      rcases c2 : (x.h == b.host) with _ | _
      · have C2 := Lib.hid c2
        refine region_ext (by kernel_rfl) (by kernel_rfl) ?_
        repeat (go_big_quiet_step (first | (go_at_call 19; exact Calls.regrown_of (HHA.out _ (ext_grow _ _ _))) | (go_at_call 20; exact Calls.regrown_of (HNO.out _))))
        refine wpQuiet_nil ?_
        intro w' hE2
        go_wp2_with fail
        go_meet
        exact ⟨by rw [HRO.out, C1.out, C2.out]; simp, hE2⟩
      have C2 := Lib.hid c2
      rcases MB with _ | _
      · refine region_ext (by kernel_rfl) (by kernel_rfl) ?_
        repeat (go_big_quiet_step (first | (go_at_call 19; exact Calls.regrown_of (HHA.out _ (ext_grow _ _ _))) | (go_at_call 20; exact Calls.regrown_of (HNO.out _))))
        refine wpQuiet_nil ?_
        intro w' hE2
        go_wp2_with fail
        go_meet
        exact ⟨by rw [HRO.out, C1.out, C2.out]; simp, hE2⟩
      rcases c4 : (x.n == NF) with _ | _
      · have C4 := Lib.hid c4
        refine region_ext (by kernel_rfl) (by kernel_rfl) ?_
        repeat (go_big_quiet_step (first | (go_at_call 19; exact Calls.regrown_of (HHA.out _ (ext_grow _ _ _))) | (go_at_call 20; exact Calls.regrown_of (HNO.out _))))
        refine wpQuiet_nil ?_
        intro w' hE2
        go_wp2_with fail
        go_meet
        exact ⟨by rw [HRO.out, C1.out, C2.out, C4.out]; simp, hE2⟩
      have C4 := Lib.hid c4
      refine region_ext (by kernel_rfl) (by kernel_rfl) ?_
      repeat (go_big_quiet_step (first | (go_at_call 19; exact Calls.regrown_of (HHA.out _ (ext_grow _ _ _))) | (go_at_call 20; exact Calls.regrown_of (HNO.out _))))
      refine wpQuiet_nil ?_
      intro w' hE2
      go_wp2_with fail
      go_meet
      exact ⟨by rw [HRO.out, C1.out, C2.out, C4.out]; simp, hE2⟩
    case rest =>
      obtain ⟨rfl, hx⟩ := hcut
      clear p0 p1 p2 p3 p4 p5 p6 r0 r1 r2 r3 r4 r5 r6 r7 r8 r9 y0 y1 y2 y3 y4 y5 y6
      replace hP := hP.ext hx
      replace hQ := hQ.ext hx
      replace hY := hY.ext hx
      replace hs2 := hs2.ext hx
      replace hF2 := hF2.ext hx
      replace hE := hE.trans hx
      clear hx
      have p0 := hP.c 0 _ rfl
      have p1 := hP.c 1 _ rfl
      have p2 := hP.c 2 _ rfl
      have p3 := hP.c 3 _ rfl
      have p4 := hP.c 4 _ rfl
      have p5 := hP.c 5 _ rfl
      have p6 := hP.c 6 _ rfl
      have r0 := hQ.c 0 _ rfl
      have r1 := hQ.c 1 _ rfl
      have r2 := hQ.c 2 _ rfl
      have r3 := hQ.c 3 _ rfl
      have r4 := hQ.c 4 _ rfl
      have r5 := hQ.c 5 _ rfl
      have r6 := hQ.c 6 _ rfl
      have r7 := hQ.c 7 _ rfl
      have r8 := hQ.c 8 _ rfl
      have r9 := hQ.c 9 _ rfl
      have y0 := hY.c 0 _ rfl
      have y1 := hY.c 1 _ rfl
      have y2 := hY.c 2 _ rfl
      have y3 := hY.c 3 _ rfl
      have y4 := hY.c 4 _ rfl
      have y5 := hY.c 5 _ rfl
      have y6 := hY.c 6 _ rfl
      obtain ⟨ho, rfl⟩ | ⟨ho, hk⟩ := KC.out rfl
      · rw [ho]
        have HB2 : Hid (B2 = b) := Lib.hid (TS2.out rfl (by decide))
        clear ho KC TS2 TZ2
        go_wp2_with fail
        refine (rsame13_any B2 sa2 sn2 sc2 ga2 gn2 gc2 b sa sn sc ga gn gc _ hF2 (hb.ext hE)).mono ?_
        rintro _ w8 ⟨rfl, hx⟩
        rw [decide_eq_true HB2.out]
        clear p0 p1 p2 p3 p4 p5 p6 r0 r1 r2 r3 r4 r5 r6 r7 r8 r9 y0 y1 y2 y3 y4 y5 y6
        replace hE := hE.trans hx
        go_wp2_with fail
        go_ret
        exact ⟨rfl, hE⟩
      rw [ho]
      clear ho
      obtain rfl | rfl | rfl := hk
      · clear KC TS2 TZ2
        go_wp2_with fail
        go_ret
        exact ⟨rfl, hE⟩
      · have HB2 : Hid (B2 = b) := Lib.hid (TS2.out rfl (by decide))
        clear KC TS2 TZ2
        go_wp2_with fail
        refine (rsame13_any B2 sa2 sn2 sc2 ga2 gn2 gc2 b sa sn sc ga gn gc _ hF2 (hb.ext hE)).mono ?_
        rintro _ w8 ⟨rfl, hx⟩
        rw [decide_eq_true HB2.out]
        clear p0 p1 p2 p3 p4 p5 p6 r0 r1 r2 r3 r4 r5 r6 r7 r8 r9 y0 y1 y2 y3 y4 y5 y6
        replace hE := hE.trans hx
        go_wp2_with fail
        go_ret
        exact ⟨rfl, hE⟩
      · have HB2 : Hid (B2 = b) := Lib.hid (TS2.out rfl (by decide))
        clear KC TS2 TZ2
        go_wp2_with fail
        refine (rsame13_any B2 sa2 sn2 sc2 ga2 gn2 gc2 b sa sn sc ga gn gc _ hF2 (hb.ext hE)).mono ?_
        rintro _ w8 ⟨rfl, hx⟩
        rw [decide_eq_true HB2.out]
        clear p0 p1 p2 p3 p4 p5 p6 r0 r1 r2 r3 r4 r5 r6 r7 r8 r9 y0 y1 y2 y3 y4 y5 y6
        replace hE := hE.trans hx
        go_wp2_with fail
        go_ret
        exact ⟨rfl, hE⟩
end Go.Proofs.YtdmfdimhjemngaaDoor
