/-
  The law InboxMatchesReference. Written by wip/gen_js.py.
-/
import Derived.Test.YtdmfdimhjemngaaGreatDoorJQ
namespace Go.Proofs.YtdmfdimhjemngaaGreatDoor
open Go.RowKit Go.Sort Go.Shelf
set_option linter.unusedSimpArgs false
set_option linter.unusedVariables false
set_option maxRecDepth 100000

theorem Bk.other7 {W : World} {b k : Nat} {T : TypeId} {cs : Array Value} (h : Bk W k T cs) (hk : k ≠ b) (v0 v1 v2 v3 v4 v5 v6 : Value) : Bk (((((((W.setCell ⟨b, 0, none⟩ (v0)).setCell ⟨b, 1, none⟩ (v1)).setCell ⟨b, 2, none⟩ (v2)).setCell ⟨b, 3, none⟩ (v3)).setCell ⟨b, 4, none⟩ (v4)).setCell ⟨b, 5, none⟩ (v5)).setCell ⟨b, 6, none⟩ (v6)) k T cs := (set7_other hk _ _ _ _ _ _ _).trans h
theorem BxF.set7 {W : World} {k : Nat} {D : Bx} {sa ga : Option Addr} {sn sc gn gc : Nat} (h : BxF W D sa sn sc ga gn gc) (h1 : Aprt k sa sn) (h2 : Aprt k ga gn) (v0 v1 v2 v3 v4 v5 v6 : Value) : BxF (((((((W.setCell ⟨k, 0, none⟩ (v0)).setCell ⟨k, 1, none⟩ (v1)).setCell ⟨k, 2, none⟩ (v2)).setCell ⟨k, 3, none⟩ (v3)).setCell ⟨k, 4, none⟩ (v4)).setCell ⟨k, 5, none⟩ (v5)).setCell ⟨k, 6, none⟩ (v6)) D sa sn sc ga gn gc := ⟨h.ok, h.sl.set7 h1 _ _ _ _ _ _ _, h.rw.set7 h2 _ _ _ _ _ _ _⟩

set_option maxHeartbeats 8000000 in
theorem imatch_law (host : Int) (hho : (Lit.int .i64 host).wf = true) (ca : Option Addr) (cn cc : Nat) (rs : List (List Rp)) (sent wait : Int) (hse : (Lit.int .i64 sent).wf = true) (hwa : (Lit.int .i64 wait).wf = true) (wa : Option Addr) (wn wc : Nat) (who : List Int) (b : Bx) (sa : Option Addr) (sn sc : Nat) (ga : Option Addr) (gn gc : Nat) (pa : Option Addr) (pn pc : Nat) (bytes : List Int) (t : Int) (w : World)
    (h1 : Rws w ca cn cc rs) (h2 : Sl .i64 w wa wn wc who) (hb : BxF w b sa sn sc ga gn gc) (hp : Sl .u8 w pa pn pc bytes) (ht : TB w) :
    Calls Tryz.prog 3 #[.agg #[.int .i64 host, .slice ca cn cc], .int .i64 sent, .int .i64 wait, .slice wa wn wc, .agg #[.int .i64 b.host, .int .i64 b.round, .int .u64 b.head, .int .i64 b.sent, .int .i64 b.wait, .slice sa sn sc, .slice ga gn gc], .slice pa pn pc, .int .i64 t] w fun e w' => e = .returned (.bool true) ∧ Ext w w' := by
  have bd := h1.bd
  have bd2 := h2.bd
  have bd3 := hp.bd
  have bd4 := hb.sl.bd
  have bd5 := hb.rw.bd
  have HT := Lib.hid ht
  have HL := Lib.hid h1.hlen
  have hE : Ext w ((w.alloc (.cells #[.int .i64 host, .slice ca cn cc] 24)).alloc (.cells #[.int .i64 b.host, .int .i64 b.round, .int .u64 b.head, .int .i64 b.sent, .int .i64 b.wait, .slice sa sn sc, .slice ga gn gc] 29)) := ((Ext.refl w).alloc _).alloc _
  have hC : Bk ((w.alloc (.cells #[.int .i64 host, .slice ca cn cc] 24)).alloc (.cells #[.int .i64 b.host, .int .i64 b.round, .int .u64 b.head, .int .i64 b.sent, .int .i64 b.wait, .slice sa sn sc, .slice ga gn gc] 29)) w.heap.size 24 #[.int .i64 host, .slice ca cn cc] := (Bk.new w 24 #[.int .i64 host, .slice ca cn cc]).ext ((Ext.refl _).alloc _)
  have hB := Bk.new (w.alloc (.cells #[.int .i64 host, .slice ca cn cc] 24)) 29 #[.int .i64 b.host, .int .i64 b.round, .int .u64 b.head, .int .i64 b.sent, .int .i64 b.wait, .slice sa sn sc, .slice ga gn gc]
  rw [World.size_alloc] at hB
  clear ht
  go_enter Tryz.func3, Tryz.ntmps3
  go_upto_region 1 with fail
  generalize (w.alloc (.cells #[.int .i64 host, .slice ca cn cc] 24)).alloc (.cells #[.int .i64 b.host, .int .i64 b.round, .int .u64 b.head, .int .i64 b.sent, .int .i64 b.wait, .slice sa sn sc, .slice ga gn gc] 29) = V at *
  obtain ⟨bb, hbb⟩ : ∃ z, w.heap.size + 1 = z := ⟨_, rfl⟩
  obtain ⟨cb, hcb⟩ : ∃ z, w.heap.size = z := ⟨_, rfl⟩
  rw [hbb] at hB ⊢
  have hbw : w.heap.size ≤ bb := by omega
  rw [hcb] at hC ⊢
  clear hbb hcb
  go_wp2_with fail
  refine (ihead_any V (TB.ext HT.out hE)).mono ?_
  rintro _ w1 ⟨rfl, hx⟩
  replace hC := hC.ext hx
  replace hB := hB.ext hx
  replace hE := hE.trans hx
  clear hx
  have c0 := hC.c 0 _ rfl
  have c1 := hC.c 1 _ rfl
  have p0 := hB.c 0 _ rfl
  have p1 := hB.c 1 _ rfl
  have p2 := hB.c 2 _ rfl
  have p3 := hB.c 3 _ rfl
  have p4 := hB.c 4 _ rfl
  have p5 := hB.c 5 _ rfl
  have p6 := hB.c 6 _ rfl
  go_wp2_with fail
  refine (few12_any ca cn cc rs w1 (h1.ext hE)).mono ?_
  rintro _ w2 ⟨rfl, rfl⟩
  rcases hfew : fewB rs with _ | _
  · clear hfew
    go_wp2_with fail
    go_ret
    exact ⟨rfl, hE⟩
  have HSH := Lib.hid (fewB_short hfew).1
  have hcn := (fewB_short hfew).2.1
  rw [HL.out] at hcn
  clear hfew
  by_cases hw20 : 20 < wn
  · have q1 : decide ((20 : Int) < (wn : Int)) = true := by simp; omega
    go_wp2_with fail
    go_ret
    exact ⟨rfl, hE⟩
  have q1 : decide ((20 : Int) < (wn : Int)) = false := by simp; omega
  go_wp2_with fail
  refine (ifew_any b sa sn sc ga gn gc w1 (hb.ext hE)).mono ?_
  rintro _ w2 ⟨rfl, hx⟩
  clear c0 c1
  clear p0 p1 p2 p3 p4 p5 p6
  replace hC := hC.ext hx
  replace hB := hB.ext hx
  replace hE := hE.trans hx
  clear hx
  by_cases hs20 : sn ≤ 20
  case neg =>
    have q2 : decide (sn ≤ 20) = false := decide_eq_false hs20
    rw [q2, Bool.false_and]
    clear q2
    go_wp2_with fail
    go_ret
    exact ⟨rfl, hE⟩
  by_cases hg20 : gn ≤ 20
  case neg =>
    have q2 : decide (gn ≤ 20) = false := decide_eq_false hg20
    rw [q2, Bool.and_false]
    clear q2
    go_wp2_with fail
    go_ret
    exact ⟨rfl, hE⟩
  rw [decide_eq_true hs20, decide_eq_true hg20]
  by_cases hp200 : 200 < pn
  · have q2 : decide ((200 : Int) < (pn : Int)) = true := by simp; omega
    go_wp2_with fail
    go_ret
    exact ⟨rfl, hE⟩
  have q2 : decide ((200 : Int) < (pn : Int)) = false := by simp; omega
  have c0 := hC.c 0 _ rfl
  have c1 := hC.c 1 _ rfl
  go_wp2_with fail
  clear q1 q2
  have hro := fun (W : World) (hW : Ext w W) => ropn_any host hho ca cn cc rs sent wait hse hwa wa wn wc who W (h1.ext hW) (fun _ => HSH.out) (h2.ext hW)
  have HRO := Lib.hid hro
  clear hro
  refine (iopn_any host hho ca cn cc rs sent wait hse hwa wa wn wc who w2 (h1.ext hE) (fun _ => HSH.out) (h2.ext hE) (TB.ext HT.out hE)).mono ?_
  generalize opnB host rs sent wait who = O1 at *
  generalize opnE host rs sent wait who = Z1 at *
  rintro _ w3 ⟨sa1, sn1, sc1, ga1, gn1, gc1, rfl, hX1, -, hx⟩
  clear c0 c1
  replace hC := hC.ext hx
  replace hB := hB.ext hx
  replace hE := hE.trans hx
  clear hx
  go_upto_region 5 with fail
  have hXb := Bk.new w3 29 #[.int .i64 O1.host, .int .i64 O1.round, .int .u64 O1.head, .int .i64 O1.sent, .int .i64 O1.wait, .slice sa1 sn1 sc1, .slice ga1 gn1 gc1]
  have hx : Ext w3 (w3.alloc (.cells #[.int .i64 O1.host, .int .i64 O1.round, .int .u64 O1.head, .int .i64 O1.sent, .int .i64 O1.wait, .slice sa1 sn1 sc1, .slice ga1 gn1 gc1] 29)) := (Ext.refl w3).alloc _
  have hwx := hE.sz
  generalize w3.alloc (.cells #[.int .i64 O1.host, .int .i64 O1.round, .int .u64 O1.head, .int .i64 O1.sent, .int .i64 O1.wait, .slice sa1 sn1 sc1, .slice ga1 gn1 gc1] 29) = W3 at *
  have hlB := hB.lt
  obtain ⟨xb, hxb⟩ : ∃ z, w3.heap.size = z := ⟨_, rfl⟩
  rw [hxb] at hXb hwx hlB ⊢
  clear hxb
  replace hX1 := hX1.ext hx
  replace hC := hC.ext hx
  replace hB := hB.ext hx
  replace hE := hE.trans hx
  clear hx
  have c0 := hC.c 0 _ rfl
  have c1 := hC.c 1 _ rfl
  go_wp2_with fail
  refine (HRO.out W3 hE).mono ?_
  rintro _ w4 ⟨sa2, sn2, sc2, ga2, gn2, gc2, rfl, hY1, hx⟩
  clear c0 c1 HRO
  replace hX1 := hX1.ext hx
  replace hC := hC.ext hx
  replace hB := hB.ext hx
  replace hXb := hXb.ext hx
  replace hE := hE.trans hx
  clear hx
  go_upto_region 6 with fail
  have hYb := Bk.new w4 29 #[.int .i64 O1.host, .int .i64 O1.round, .int .u64 O1.head, .int .i64 O1.sent, .int .i64 O1.wait, .slice sa2 sn2 sc2, .slice ga2 gn2 gc2]
  have hx : Ext w4 (w4.alloc (.cells #[.int .i64 O1.host, .int .i64 O1.round, .int .u64 O1.head, .int .i64 O1.sent, .int .i64 O1.wait, .slice sa2 sn2 sc2, .slice ga2 gn2 gc2] 29)) := (Ext.refl w4).alloc _
  have hlX := hXb.lt
  have hlB2 := hB.lt
  generalize w4.alloc (.cells #[.int .i64 O1.host, .int .i64 O1.round, .int .u64 O1.head, .int .i64 O1.sent, .int .i64 O1.wait, .slice sa2 sn2 sc2, .slice ga2 gn2 gc2] 29) = W4 at *
  obtain ⟨yb, hyb⟩ : ∃ z, w4.heap.size = z := ⟨_, rfl⟩
  rw [hyb] at hYb hlX hlB2 ⊢
  clear hyb
  replace hX1 := hX1.ext hx
  replace hY1 := hY1.ext hx
  replace hC := hC.ext hx
  replace hB := hB.ext hx
  replace hXb := hXb.ext hx
  replace hE := hE.trans hx
  clear hx
  have hne : bb ≠ xb ∧ bb ≠ yb ∧ xb ≠ yb ∧ w.heap.size ≤ xb ∧ w.heap.size ≤ yb := by omega
  clear hlB hlB2 hlX hwx
  obtain ⟨hne1, hne2, hne3, hwxb, hwyb⟩ := hne
  have hs := rsame13_any O1 sa1 sn1 sc1 ga1 gn1 gc1 O1 sa2 sn2 sc2 ga2 gn2 gc2 W4 hX1 hY1
  rw [decide_eq_true rfl] at hs
  have x0 := hXb.c 0 _ rfl
  have x1 := hXb.c 1 _ rfl
  have x2 := hXb.c 2 _ rfl
  have x3 := hXb.c 3 _ rfl
  have x4 := hXb.c 4 _ rfl
  have x5 := hXb.c 5 _ rfl
  have x6 := hXb.c 6 _ rfl
  have y0 := hYb.c 0 _ rfl
  have y1 := hYb.c 1 _ rfl
  have y2 := hYb.c 2 _ rfl
  have y3 := hYb.c 3 _ rfl
  have y4 := hYb.c 4 _ rfl
  have y5 := hYb.c 5 _ rfl
  have y6 := hYb.c 6 _ rfl
  go_wp2_with fail
  refine hs.mono ?_
  clear hs x0 x1 x2 x3 x4 x5 x6 y0 y1 y2 y3 y4 y5 y6 hX1 hY1
  rintro _ w5 ⟨rfl, hx⟩
  replace hC := hC.ext hx
  replace hB := hB.ext hx
  replace hXb := hXb.ext hx
  replace hYb := hYb.ext hx
  replace hE := hE.trans hx
  clear hx
  have hq0 : (Z1 == Z1) = true := by simp
  have p0 := hB.c 0 _ rfl
  have p1 := hB.c 1 _ rfl
  have p2 := hB.c 2 _ rfl
  have p3 := hB.c 3 _ rfl
  have p4 := hB.c 4 _ rfl
  have p5 := hB.c 5 _ rfl
  have p6 := hB.c 6 _ rfl
  go_wp2_with fail
  have hrr := fun (W : World) (hW : Ext w W) => rrqs_any b sa sn sc ga gn gc W (hb.ext hW)
  have HRR := Lib.hid hrr
  clear hrr hq0
  refine (irqs_any b sa sn sc ga gn gc w5 (hb.ext hE) (TB.ext HT.out hE)).mono ?_
  generalize hok : okE (frmX b) = Z2 at *
  rintro _ w6 ⟨la, ln, lc, rfl, hL1, hx⟩
  clear p0 p1 p2 p3 p4 p5 p6
  replace hC := hC.ext hx
  replace hB := hB.ext hx
  replace hXb := hXb.ext hx
  replace hYb := hYb.ext hx
  replace hE := hE.trans hx
  clear hx
  have p0 := hB.c 0 _ rfl
  have p1 := hB.c 1 _ rfl
  have p2 := hB.c 2 _ rfl
  have p3 := hB.c 3 _ rfl
  have p4 := hB.c 4 _ rfl
  have p5 := hB.c 5 _ rfl
  have p6 := hB.c 6 _ rfl
  go_wp2_with fail
  refine (HRR.out w6 hE).mono ?_
  rintro _ w7 ⟨ma, mn, mc, rfl, hL2, hx⟩
  clear HRR
  replace hL1 := hL1.ext hx
  clear p0 p1 p2 p3 p4 p5 p6
  replace hC := hC.ext hx
  replace hB := hB.ext hx
  replace hXb := hXb.ext hx
  replace hYb := hYb.ext hx
  replace hE := hE.trans hx
  clear hx
  have hs := rsrq_any la ln lc (rqsX b) ma mn mc (rqsX b) w7 hL1 hL2
  rw [decide_eq_true rfl] at hs
  go_wp2_with fail
  refine hs.mono ?_
  clear hs hL1 hL2
  rintro _ w8 ⟨rfl, hx⟩
  replace hC := hC.ext hx
  replace hB := hB.ext hx
  replace hXb := hXb.ext hx
  replace hYb := hYb.ext hx
  replace hE := hE.trans hx
  clear hx
  have hq0 : (Z2 == Z2) = true := by simp
  have p0 := hB.c 0 _ rfl
  have p1 := hB.c 1 _ rfl
  have p2 := hB.c 2 _ rfl
  have p3 := hB.c 3 _ rfl
  have p4 := hB.c 4 _ rfl
  have p5 := hB.c 5 _ rfl
  have p6 := hB.c 6 _ rfl
  go_wp2_with fail
  have hrt := fun (W : World) (hW : Ext w W) => rtake_any b sa sn sc ga gn gc pa pn pc bytes t W (hb.ext hW) (hp.ext hW) (by omega)
  have HRT := Lib.hid hrt
  clear hrt hq0
  have hap1 := fun (k : Nat) (hk : w.heap.size ≤ k) => hb.sl.ap0 hk
  have hap2 := fun (k : Nat) (hk : w.heap.size ≤ k) => hb.rw.ap0 hk
  refine (itake_any b sa sn sc ga gn gc pa pn pc bytes t w8 (hb.ext hE) (hp.ext hE) (by omega) (by omega) (by omega) (TB.ext HT.out hE)).mono ?_
  generalize tkB b (gpX bytes) t = B3 at *
  generalize tkK b (gpX bytes) t = K3 at *
  generalize tkE b t = Z3 at *
  rintro _ w9 ⟨sa3, sn3, sc3, ga3, gn3, gc3, rfl, hX3, hfr, hx⟩
  have hax1 : Aprt xb sa3 sn3 := hfr.1.ap hXb.lt
  have hax2 : Aprt xb ga3 gn3 := hfr.2.ap hXb.lt
  have hay1 : Aprt yb sa3 sn3 := hfr.1.ap hYb.lt
  have hay2 : Aprt yb ga3 gn3 := hfr.2.ap hYb.lt
  clear hfr
  clear p0 p1 p2 p3 p4 p5 p6
  replace hC := hC.ext hx
  replace hB := hB.ext hx
  replace hXb := hXb.ext hx
  replace hYb := hYb.ext hx
  replace hE := hE.trans hx
  clear hx
  have x0 := hXb.c 0 _ rfl
  have x1 := hXb.c 1 _ rfl
  have x2 := hXb.c 2 _ rfl
  have x3 := hXb.c 3 _ rfl
  have x4 := hXb.c 4 _ rfl
  have x5 := hXb.c 5 _ rfl
  have x6 := hXb.c 6 _ rfl
  have fx := hXb.free
  go_upto_region 11 with fail
  clear fx x0 x1 x2 x3 x4 x5 x6
  have hX10 : Bk (((((((w9.setCell ⟨xb, 0, none⟩ (.int .i64 B3.host)).setCell ⟨xb, 1, none⟩ (.int .i64 B3.round)).setCell ⟨xb, 2, none⟩ (.int .u64 B3.head)).setCell ⟨xb, 3, none⟩ (.int .i64 B3.sent)).setCell ⟨xb, 4, none⟩ (.int .i64 B3.wait)).setCell ⟨xb, 5, none⟩ (.slice sa3 sn3 sc3)).setCell ⟨xb, 6, none⟩ (.slice ga3 gn3 gc3)) xb 29 #[.int .i64 B3.host, .int .i64 B3.round, .int .u64 B3.head, .int .i64 B3.sent, .int .i64 B3.wait, .slice sa3 sn3 sc3, .slice ga3 gn3 gc3] := Bk.set7 hXb _ _ _ _ _ _ _
  have hY10 : Bk (((((((w9.setCell ⟨xb, 0, none⟩ (.int .i64 B3.host)).setCell ⟨xb, 1, none⟩ (.int .i64 B3.round)).setCell ⟨xb, 2, none⟩ (.int .u64 B3.head)).setCell ⟨xb, 3, none⟩ (.int .i64 B3.sent)).setCell ⟨xb, 4, none⟩ (.int .i64 B3.wait)).setCell ⟨xb, 5, none⟩ (.slice sa3 sn3 sc3)).setCell ⟨xb, 6, none⟩ (.slice ga3 gn3 gc3)) yb 29 #[.int .i64 O1.host, .int .i64 O1.round, .int .u64 O1.head, .int .i64 O1.sent, .int .i64 O1.wait, .slice sa2 sn2 sc2, .slice ga2 gn2 gc2] := hYb.other7 (Ne.symm hne3) _ _ _ _ _ _ _
  have hB10 : Bk (((((((w9.setCell ⟨xb, 0, none⟩ (.int .i64 B3.host)).setCell ⟨xb, 1, none⟩ (.int .i64 B3.round)).setCell ⟨xb, 2, none⟩ (.int .u64 B3.head)).setCell ⟨xb, 3, none⟩ (.int .i64 B3.sent)).setCell ⟨xb, 4, none⟩ (.int .i64 B3.wait)).setCell ⟨xb, 5, none⟩ (.slice sa3 sn3 sc3)).setCell ⟨xb, 6, none⟩ (.slice ga3 gn3 gc3)) bb 29 #[.int .i64 b.host, .int .i64 b.round, .int .u64 b.head, .int .i64 b.sent, .int .i64 b.wait, .slice sa sn sc, .slice ga gn gc] := hB.other7 hne1 _ _ _ _ _ _ _
  have hXF : BxF (((((((w9.setCell ⟨xb, 0, none⟩ (.int .i64 B3.host)).setCell ⟨xb, 1, none⟩ (.int .i64 B3.round)).setCell ⟨xb, 2, none⟩ (.int .u64 B3.head)).setCell ⟨xb, 3, none⟩ (.int .i64 B3.sent)).setCell ⟨xb, 4, none⟩ (.int .i64 B3.wait)).setCell ⟨xb, 5, none⟩ (.slice sa3 sn3 sc3)).setCell ⟨xb, 6, none⟩ (.slice ga3 gn3 gc3)) B3 sa3 sn3 sc3 ga3 gn3 gc3 := hX3.set7 hax1 hax2 _ _ _ _ _ _ _
  have hE10 : Ext w (((((((w9.setCell ⟨xb, 0, none⟩ (.int .i64 B3.host)).setCell ⟨xb, 1, none⟩ (.int .i64 B3.round)).setCell ⟨xb, 2, none⟩ (.int .u64 B3.head)).setCell ⟨xb, 3, none⟩ (.int .i64 B3.sent)).setCell ⟨xb, 4, none⟩ (.int .i64 B3.wait)).setCell ⟨xb, 5, none⟩ (.slice sa3 sn3 sc3)).setCell ⟨xb, 6, none⟩ (.slice ga3 gn3 gc3)) := hE.set7 hwxb _ _ _ _ _ _ _
  clear hXb hYb hB hE hC hX3 hax1 hax2
  generalize (((((((w9.setCell ⟨xb, 0, none⟩ (.int .i64 B3.host)).setCell ⟨xb, 1, none⟩ (.int .i64 B3.round)).setCell ⟨xb, 2, none⟩ (.int .u64 B3.head)).setCell ⟨xb, 3, none⟩ (.int .i64 B3.sent)).setCell ⟨xb, 4, none⟩ (.int .i64 B3.wait)).setCell ⟨xb, 5, none⟩ (.slice sa3 sn3 sc3)).setCell ⟨xb, 6, none⟩ (.slice ga3 gn3 gc3)) = W10 at *
  have hE := hE10
  have hB := hB10
  have hYb := hY10
  have hXb := hX10
  clear hE10 hB10 hY10 hX10
  have p0 := hB.c 0 _ rfl
  have p1 := hB.c 1 _ rfl
  have p2 := hB.c 2 _ rfl
  have p3 := hB.c 3 _ rfl
  have p4 := hB.c 4 _ rfl
  have p5 := hB.c 5 _ rfl
  have p6 := hB.c 6 _ rfl
  go_wp2_with fail
  refine (HRT.out W10 hE).mono ?_
  rintro _ w11 ⟨sa4, sn4, sc4, ga4, gn4, gc4, rfl, hY3, hfr, hx⟩
  clear HRT
  obtain ⟨haz1, haz2⟩ := hfr yb hYb.lt (hap1 yb hwyb) (hap2 yb hwyb)
  clear hfr
  replace hXF := hXF.ext hx
  clear p0 p1 p2 p3 p4 p5 p6
  replace hB := hB.ext hx
  replace hXb := hXb.ext hx
  replace hYb := hYb.ext hx
  replace hE := hE.trans hx
  clear hx
  have y0 := hYb.c 0 _ rfl
  have y1 := hYb.c 1 _ rfl
  have y2 := hYb.c 2 _ rfl
  have y3 := hYb.c 3 _ rfl
  have y4 := hYb.c 4 _ rfl
  have y5 := hYb.c 5 _ rfl
  have y6 := hYb.c 6 _ rfl
  have fy := hYb.free
  go_upto_region 12 with fail
  clear fy y0 y1 y2 y3 y4 y5 y6
  have hY12 : Bk (((((((w11.setCell ⟨yb, 0, none⟩ (.int .i64 B3.host)).setCell ⟨yb, 1, none⟩ (.int .i64 B3.round)).setCell ⟨yb, 2, none⟩ (.int .u64 B3.head)).setCell ⟨yb, 3, none⟩ (.int .i64 B3.sent)).setCell ⟨yb, 4, none⟩ (.int .i64 B3.wait)).setCell ⟨yb, 5, none⟩ (.slice sa4 sn4 sc4)).setCell ⟨yb, 6, none⟩ (.slice ga4 gn4 gc4)) yb 29 #[.int .i64 B3.host, .int .i64 B3.round, .int .u64 B3.head, .int .i64 B3.sent, .int .i64 B3.wait, .slice sa4 sn4 sc4, .slice ga4 gn4 gc4] := Bk.set7 hYb _ _ _ _ _ _ _
  have hX12 : Bk (((((((w11.setCell ⟨yb, 0, none⟩ (.int .i64 B3.host)).setCell ⟨yb, 1, none⟩ (.int .i64 B3.round)).setCell ⟨yb, 2, none⟩ (.int .u64 B3.head)).setCell ⟨yb, 3, none⟩ (.int .i64 B3.sent)).setCell ⟨yb, 4, none⟩ (.int .i64 B3.wait)).setCell ⟨yb, 5, none⟩ (.slice sa4 sn4 sc4)).setCell ⟨yb, 6, none⟩ (.slice ga4 gn4 gc4)) xb 29 #[.int .i64 B3.host, .int .i64 B3.round, .int .u64 B3.head, .int .i64 B3.sent, .int .i64 B3.wait, .slice sa3 sn3 sc3, .slice ga3 gn3 gc3] := hXb.other7 hne3 _ _ _ _ _ _ _
  have hB12 : Bk (((((((w11.setCell ⟨yb, 0, none⟩ (.int .i64 B3.host)).setCell ⟨yb, 1, none⟩ (.int .i64 B3.round)).setCell ⟨yb, 2, none⟩ (.int .u64 B3.head)).setCell ⟨yb, 3, none⟩ (.int .i64 B3.sent)).setCell ⟨yb, 4, none⟩ (.int .i64 B3.wait)).setCell ⟨yb, 5, none⟩ (.slice sa4 sn4 sc4)).setCell ⟨yb, 6, none⟩ (.slice ga4 gn4 gc4)) bb 29 #[.int .i64 b.host, .int .i64 b.round, .int .u64 b.head, .int .i64 b.sent, .int .i64 b.wait, .slice sa sn sc, .slice ga gn gc] := hB.other7 hne2 _ _ _ _ _ _ _
  have hYF : BxF (((((((w11.setCell ⟨yb, 0, none⟩ (.int .i64 B3.host)).setCell ⟨yb, 1, none⟩ (.int .i64 B3.round)).setCell ⟨yb, 2, none⟩ (.int .u64 B3.head)).setCell ⟨yb, 3, none⟩ (.int .i64 B3.sent)).setCell ⟨yb, 4, none⟩ (.int .i64 B3.wait)).setCell ⟨yb, 5, none⟩ (.slice sa4 sn4 sc4)).setCell ⟨yb, 6, none⟩ (.slice ga4 gn4 gc4)) B3 sa4 sn4 sc4 ga4 gn4 gc4 := hY3.set7 haz1 haz2 _ _ _ _ _ _ _
  have hXG : BxF (((((((w11.setCell ⟨yb, 0, none⟩ (.int .i64 B3.host)).setCell ⟨yb, 1, none⟩ (.int .i64 B3.round)).setCell ⟨yb, 2, none⟩ (.int .u64 B3.head)).setCell ⟨yb, 3, none⟩ (.int .i64 B3.sent)).setCell ⟨yb, 4, none⟩ (.int .i64 B3.wait)).setCell ⟨yb, 5, none⟩ (.slice sa4 sn4 sc4)).setCell ⟨yb, 6, none⟩ (.slice ga4 gn4 gc4)) B3 sa3 sn3 sc3 ga3 gn3 gc3 := hXF.set7 hay1 hay2 _ _ _ _ _ _ _
  have hE12 : Ext w (((((((w11.setCell ⟨yb, 0, none⟩ (.int .i64 B3.host)).setCell ⟨yb, 1, none⟩ (.int .i64 B3.round)).setCell ⟨yb, 2, none⟩ (.int .u64 B3.head)).setCell ⟨yb, 3, none⟩ (.int .i64 B3.sent)).setCell ⟨yb, 4, none⟩ (.int .i64 B3.wait)).setCell ⟨yb, 5, none⟩ (.slice sa4 sn4 sc4)).setCell ⟨yb, 6, none⟩ (.slice ga4 gn4 gc4)) := hE.set7 hwyb _ _ _ _ _ _ _
  clear hXb hYb hB hE hY3 hXF haz1 haz2 hay1 hay2
  generalize (((((((w11.setCell ⟨yb, 0, none⟩ (.int .i64 B3.host)).setCell ⟨yb, 1, none⟩ (.int .i64 B3.round)).setCell ⟨yb, 2, none⟩ (.int .u64 B3.head)).setCell ⟨yb, 3, none⟩ (.int .i64 B3.sent)).setCell ⟨yb, 4, none⟩ (.int .i64 B3.wait)).setCell ⟨yb, 5, none⟩ (.slice sa4 sn4 sc4)).setCell ⟨yb, 6, none⟩ (.slice ga4 gn4 gc4)) = W12 at *
  have hs := rsame13_any B3 sa3 sn3 sc3 ga3 gn3 gc3 B3 sa4 sn4 sc4 ga4 gn4 gc4 W12 hXG hYF
  rw [decide_eq_true rfl] at hs
  have x0 := hX12.c 0 _ rfl
  have x1 := hX12.c 1 _ rfl
  have x2 := hX12.c 2 _ rfl
  have x3 := hX12.c 3 _ rfl
  have x4 := hX12.c 4 _ rfl
  have x5 := hX12.c 5 _ rfl
  have x6 := hX12.c 6 _ rfl
  have y0 := hY12.c 0 _ rfl
  have y1 := hY12.c 1 _ rfl
  have y2 := hY12.c 2 _ rfl
  have y3 := hY12.c 3 _ rfl
  have y4 := hY12.c 4 _ rfl
  have y5 := hY12.c 5 _ rfl
  have y6 := hY12.c 6 _ rfl
  go_wp2_with fail
  refine hs.mono ?_
  clear hs x0 x1 x2 x3 x4 x5 x6 y0 y1 y2 y3 y4 y5 y6 hXG hYF hX12 hY12
  rintro _ w13 ⟨rfl, hx⟩
  have hB := hB12.ext hx
  have hE := hE12.trans hx
  clear hx hB12 hE12
  have hq0 : (Z3 == Z3) = true := by simp
  have hq1 : (K3 == K3) = true := by simp
  have p0 := hB.c 0 _ rfl
  have p1 := hB.c 1 _ rfl
  have p2 := hB.c 2 _ rfl
  have p3 := hB.c 3 _ rfl
  have p4 := hB.c 4 _ rfl
  have p5 := hB.c 5 _ rfl
  have p6 := hB.c 6 _ rfl
  go_wp2_with fail
  have hrc := fun (W : World) (hW : Ext w W) => rcls_any b sa sn sc ga gn gc W (hb.ext hW)
  have HRC := Lib.hid hrc
  clear hrc hq0 hq1
  refine (icls_any b sa sn sc ga gn gc w13 (hb.ext hE) (by omega) (TB.ext HT.out hE)).mono ?_
  rw [hok] at HRC ⊢
  rintro _ w14 ⟨ra, rn, rc, rfl, hR1, hx⟩
  clear p0 p1 p2 p3 p4 p5 p6
  replace hB := hB.ext hx
  replace hE := hE.trans hx
  clear hx
  go_upto_region 14 with fail
  have hRb := Bk.new w14 45 #[.slice ra rn rc]
  have hx : Ext w14 (w14.alloc (.cells #[.slice ra rn rc] 45)) := (Ext.refl w14).alloc _
  replace hR1 := hR1.ext hx
  replace hB := hB.ext hx
  replace hE := hE.trans hx
  clear hx
  generalize w14.alloc (.cells #[.slice ra rn rc] 45) = W14 at *
  generalize w14.heap.size = rb at hRb ⊢
  have p0 := hB.c 0 _ rfl
  have p1 := hB.c 1 _ rfl
  have p2 := hB.c 2 _ rfl
  have p3 := hB.c 3 _ rfl
  have p4 := hB.c 4 _ rfl
  have p5 := hB.c 5 _ rfl
  have p6 := hB.c 6 _ rfl
  go_wp2_with fail
  refine (HRC.out W14 hE).mono ?_
  rintro _ w15 ⟨na, nn, nc, rfl, hR2, hx⟩
  clear HRC
  clear p0 p1 p2 p3 p4 p5 p6
  replace hRb := hRb.ext hx
  replace hR1 := hR1.ext hx
  replace hE := hE.trans hx
  clear hx
  go_upto_region 15 with fail
  have hNb := Bk.new w15 45 #[.slice na nn nc]
  have hx : Ext w15 (w15.alloc (.cells #[.slice na nn nc] 45)) := (Ext.refl w15).alloc _
  replace hRb := hRb.ext hx
  replace hR1 := hR1.ext hx
  replace hR2 := hR2.ext hx
  replace hE := hE.trans hx
  clear hx
  generalize w15.alloc (.cells #[.slice na nn nc] 45) = W15 at *
  generalize w15.heap.size = nb at hNb ⊢
  have hs := sameRd_any ra rn rc (clsX b) na nn nc (clsX b) W15 hR1 hR2
  rw [decide_eq_true rfl] at hs
  have z0 := hRb.c 0 _ rfl
  have z1 := hNb.c 0 _ rfl
  go_wp2_with fail
  refine hs.mono ?_
  clear hs z0 z1
  rintro _ w16 ⟨rfl, hx⟩
  have hq0 : (Z2 == Z2) = true := by simp
  go_wp2_with fail
  go_ret
  exact ⟨rfl, hE.trans hx⟩
end Go.Proofs.YtdmfdimhjemngaaGreatDoor
