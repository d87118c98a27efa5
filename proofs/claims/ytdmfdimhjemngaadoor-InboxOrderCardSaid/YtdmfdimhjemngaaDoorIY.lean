/-
  Answers in an order, walked. Written by wip/gen_iy.py.
-/
import Derived.Test.YtdmfdimhjemngaaDoorIX
namespace Go.Proofs.YtdmfdimhjemngaaDoor
open Go.RowKit Go.Sort Go.Shelf
set_option linter.unusedSimpArgs false
set_option linter.unusedVariables false
set_option maxRecDepth 100000

theorem u8_apart {W : World} {rb : Nat} {v0 v1 v2 v3 v4 : Int} {sa ga : Option Addr} {sn sc gn gc : Nat} {a : Option Addr} {n c : Nat} {xs : List Int} (hR : Bk W rb 33 #[.int .i64 v0, .int .i64 v1, .int .u64 v2, .int .i64 v3, .int .i64 v4, .slice sa sn sc, .slice ga gn gc]) (h : Sl .u8 W a n c xs) : Aprt rb a n := by
  intro b off ha hn e
  subst e
  obtain ⟨b', off', he, hc⟩ := h.at hn
  rw [ha] at he
  simp only [Option.some.injEq, Addr.mk.injEq, and_true] at he
  obtain ⟨rfl, rfl⟩ := he
  have h3 := hc 0 hn
  have hl := (show _ = _ from hR)
  simp only [World.cell?, hl, Nat.zero_mul, Nat.add_zero] at h3
  rcases Nat.lt_or_ge off 7 with h7 | h7
  · have : off = 0 ∨ off = 1 ∨ off = 2 ∨ off = 3 ∨ off = 4 ∨ off = 5 ∨ off = 6 := by omega
    rcases this with rfl | rfl | rfl | rfl | rfl | rfl | rfl <;> simp at h3
  · rw [Array.getElem?_eq_none (by simpa using h7)] at h3
    cases h3
theorem Sl.ap0 {k : IntKind} {w : World} {a : Option Addr} {n c : Nat} {xs : List Int} (h : Sl k w a n c xs) {pb : Nat} (hb : w.heap.size ≤ pb) : Aprt pb a n := by
  intro b off ha hn e
  obtain ⟨b', off', he, hc⟩ := h.at hn
  rw [ha] at he
  simp only [Option.some.injEq, Addr.mk.injEq, and_true] at he
  have := lt_of_cell (hc 0 hn)
  simp only at this
  omega
theorem Rw.ap0 {w : World} {a : Option Addr} {n c : Nat} {xs : List Rp} (h : Rw w a n c xs) {pb : Nat} (hb : w.heap.size ≤ pb) : Aprt pb a n := by
  intro b off ha hn e
  obtain ⟨b', off', he, hc⟩ := h.at hn
  rw [ha] at he
  simp only [Option.some.injEq, Addr.mk.injEq, and_true] at he
  have := lt_of_cell (hc 0 hn 0 _ rfl)
  simp only at this
  omega
/-- A block of seven cells, another one being stored into. -/
theorem Bk.other7 {W : World} {b k : Nat} {T : TypeId} {cs : Array Value} (h : Bk W k T cs) (hk : k ≠ b) (v0 v1 v2 v3 v4 v5 v6 : Value) : Bk (((((((W.setCell ⟨b, 0, none⟩ (v0)).setCell ⟨b, 1, none⟩ (v1)).setCell ⟨b, 2, none⟩ (v2)).setCell ⟨b, 3, none⟩ (v3)).setCell ⟨b, 4, none⟩ (v4)).setCell ⟨b, 5, none⟩ (v5)).setCell ⟨b, 6, none⟩ (v6)) k T cs := (set7_other hk _ _ _ _ _ _ _).trans h
theorem res_takeO (W : World) (b : Nat) (v0 v1 v2 v3 v4 v5 v6 z : Value) (tmps : Array Value) (hb : tmps[8]?.getD undef = .pointer (some ⟨b, 0, none⟩)) (h9 : tmps[9]?.getD undef = z) (h : Bk W b 33 #[v0, v1, v2, v3, v4, v5, v6]) :
    (results Tryd.f16 tmps).run Tryd.prog W = .ok (.tuple #[.agg #[v0, v1, v2, v3, v4, v5, v6], z]) W := by
  have c0 := h.c 0 _ rfl
  have c1 := h.c 1 _ rfl
  have c2 := h.c 2 _ rfl
  have c3 := h.c 3 _ rfl
  have c4 := h.c 4 _ rfl
  have c5 := h.c 5 _ rfl
  have c6 := h.c 6 _ rfl
  simp [results, Tryd.results16, go_sem, hb, h9, c0, c1, c2, c3, c4, c5, c6]
set_option maxHeartbeats 8000000 in
theorem takeO_any (B : Bx) (sa : Option Addr) (sn sc : Nat) (ga : Option Addr) (gn gc : Nat) (la : Option Addr) (ln lc : Nat) (oa : Option Addr) (on oc : Nat) (ord : List Int) (tw : Bool) (w : World)
    (hb : BxF w B sa sn sc ga gn gc) (hl : Rw w la ln lc (B.asked.map (rq1 B))) (ho : Sl .i64 w oa on oc ord) (hP : OrdP B ord) (ht : TB w) :
    Calls Tryd.prog 16 #[.agg #[.int .i64 B.host, .int .i64 B.round, .int .u64 B.head, .int .i64 B.sent, .int .i64 B.wait, .slice sa sn sc, .slice ga gn gc], .slice la ln lc, .slice oa on oc, .bool tw] w fun e w' => ∃ sa sn sc ga gn gc, e = .returned (.tuple #[.agg #[.int .i64 (bxO B ord).host, .int .i64 (bxO B ord).round, .int .u64 (bxO B ord).head, .int .i64 (bxO B ord).sent, .int .i64 (bxO B ord).wait, .slice sa sn sc, .slice ga gn gc], .bool true]) ∧ BxF w' (bxO B ord) sa sn sc ga gn gc ∧ Ext w w' := by
  have HT := Lib.hid ht
  have HOP := Lib.hid hP
  have hOP := HOP
  have HOL := Lib.hid ho.hlen
  have HLL : Hid (B.asked.length = ln) := Lib.hid (by rw [← hl.hlen, List.length_map])
  have bo := ho.bd
  have bl := hl.bd
  have hm := hP.m16
  have hl16 : ln ≤ 16 := by rw [← HLL.out]; exact hm
  have hE0 : Ext w ((w.alloc (.cells #[.int .i64 B.host, .int .i64 B.round, .int .u64 B.head, .int .i64 B.sent, .int .i64 B.wait, .slice sa sn sc, .slice ga gn gc] 33)).alloc (.cells #[.int .i64 0, .int .i64 0, .int .u64 0, .int .i64 0, .int .i64 0, .slice none 0 0, .slice none 0 0] 33)) := ((Ext.refl w).alloc _).alloc _
  have hPB : Bk ((w.alloc (.cells #[.int .i64 B.host, .int .i64 B.round, .int .u64 B.head, .int .i64 B.sent, .int .i64 B.wait, .slice sa sn sc, .slice ga gn gc] 33)).alloc (.cells #[.int .i64 0, .int .i64 0, .int .u64 0, .int .i64 0, .int .i64 0, .slice none 0 0, .slice none 0 0] 33)) w.heap.size 33 #[.int .i64 B.host, .int .i64 B.round, .int .u64 B.head, .int .i64 B.sent, .int .i64 B.wait, .slice sa sn sc, .slice ga gn gc] := (Bk.new w 33 #[.int .i64 B.host, .int .i64 B.round, .int .u64 B.head, .int .i64 B.sent, .int .i64 B.wait, .slice sa sn sc, .slice ga gn gc]).ext ((Ext.refl _).alloc _)
  have hR := Bk.new (w.alloc (.cells #[.int .i64 B.host, .int .i64 B.round, .int .u64 B.head, .int .i64 B.sent, .int .i64 B.wait, .slice sa sn sc, .slice ga gn gc] 33)) 33 #[.int .i64 0, .int .i64 0, .int .u64 0, .int .i64 0, .int .i64 0, .slice none 0 0, .slice none 0 0]
  rw [World.size_alloc] at hR
  have hap1 := fun (pb : Nat) (hpb : w.heap.size ≤ pb) => hb.sl.ap0 hpb
  have hap2 := fun (pb : Nat) (hpb : w.heap.size ≤ pb) => hb.rw.ap0 hpb
  replace hb := hb.ext hE0
  clear ht hP hm HOP
  go_enter Tryd.func16, Tryd.ntmps16
  go_upto_region 1 with fail
  generalize (w.alloc (.cells #[.int .i64 B.host, .int .i64 B.round, .int .u64 B.head, .int .i64 B.sent, .int .i64 B.wait, .slice sa sn sc, .slice ga gn gc] 33)).alloc (.cells #[.int .i64 0, .int .i64 0, .int .u64 0, .int .i64 0, .int .i64 0, .slice none 0 0, .slice none 0 0] 33) = V at *
  obtain ⟨rb, hrb⟩ : ∃ rb, w.heap.size + 1 = rb := ⟨_, rfl⟩
  obtain ⟨pb, hpb⟩ : ∃ pb, w.heap.size = pb := ⟨_, rfl⟩
  rw [hrb] at hR ⊢
  have hws : w.heap.size ≤ pb ∧ w.heap.size ≤ rb ∧ pb ≠ rb := by omega
  rw [hpb] at hPB ⊢
  obtain ⟨hpw0, hrw, hpr⟩ := hws
  replace hap1 := hap1 rb hrw
  replace hap2 := hap2 rb hrw
  clear hrb hpb
  go_wp2_with fail
  go_loopw [22] (fun i wr => ∃ (k : Nat) (sa1 : Option Addr) (sn1 sc1 : Nat) (ga1 : Option Addr) (gn1 gc1 : Nat), k ≤ on ∧ i = .int .i64 (k : Int) ∧ Bk wr pb 33 #[.int .i64 (bxO B (ord.take k)).host, .int .i64 (bxO B (ord.take k)).round, .int .u64 (bxO B (ord.take k)).head, .int .i64 (bxO B (ord.take k)).sent, .int .i64 (bxO B (ord.take k)).wait, .slice sa1 sn1 sc1, .slice ga1 gn1 gc1] ∧ Bk wr rb 33 #[.int .i64 0, .int .i64 0, .int .u64 0, .int .i64 0, .int .i64 0, .slice none 0 0, .slice none 0 0] ∧ BxF wr (bxO B (ord.take k)) sa1 sn1 sc1 ga1 gn1 gc1 ∧ (Aprt rb sa1 sn1 ∧ Aprt rb ga1 gn1) ∧ Ext w wr) (fun i _ => on - (intOf i).toNat)
  case atStart => exact ⟨0, sa, sn, sc, ga, gn, gc, by omega, rfl, hPB, hR, by rw [bxO_zero hOP.out]; exact hb, ⟨hap1, hap2⟩, hE0⟩
  case round =>
    rcases tw with _ | _
    · obtain ⟨k, sa1, sn1, sc1, ga1, gn1, gc1, hk, rfl, hPr, hRr, hFr, hap, hEr⟩ := hrel
      by_cases hlt : k < on
      · have hkl : k < ord.length := by rw [HOL.out]; exact hlt
        have hfk := hOP.out.frmO (k := k) (by omega)
        have hst := hOP.out.step hkl hfk
        have hrg := hOP.out.nth hkl
        have hwf := hOP.out.wf hrg
        have hm16 := hOP.out.m16
        have hs16 : sn1 ≤ 16 := by rw [← hFr.sl.hlen]; exact hm16
        have hg16 : gn1 ≤ 16 := by rw [← hFr.rw.hlen]; exact frm_got_len (frmX_iff.1 hfk)
        have hgp := gpX_pp hwf.2 hwf.1
        have hpl := ppX_len hwf.2 hwf.1
        obtain ⟨ob, oo, rfl, hco⟩ := ho.at (by omega)
        have d0 := hEr.cell (hco k hlt)
        clear hco
        obtain ⟨j, hj⟩ : ∃ j : Nat, nth ord k = (j : Int) := ⟨(nth ord k).toNat, by omega⟩
        rw [hj] at d0 hst hwf hgp hpl hrg
        have hjl : j < ln := by rw [← HLL.out]; omega
        have hJr := nthR_rqs B (l := B.asked) (i := j) (by omega)
        have hqok := hl.wfAt hjl
        obtain ⟨lb, lo, rfl, hcl⟩ := hl.at (by omega)
        have hcJ := cells_rq (rangeAt_ext (hcl j hjl) hEr)
        rw [hJr, sz_rq] at hcJ
        rw [hJr] at hqok
        clear hcl hJr
        have hre : rpU B (j : Int) = ansR (rq1 B (nth B.asked j)) (10 * (j : Int)) (10 * (j : Int) + 3) := rfl
        rw [hre] at hst hwf hgp hpl
        obtain ⟨q, hqe⟩ : ∃ q, rq1 B (nth B.asked j) = q := ⟨_, rfl⟩
        rw [hqe] at hcJ hqok hst hwf hgp hpl
        clear hqe hre
        obtain ⟨e0, e1, e2, e3⟩ := hcJ
        have hans := ians_any q hqok (10 * (j : Int)) (10 * (j : Int) + 3) (wf_of_i64 (by omega) (by omega)) (wf_of_i64 (by omega) (by omega)) wr
        rw [hwf.1] at hans
        simp only [if_true] at hans
        have HANS := Lib.hid hans
        have hw1 : IntKind.i64.wrap (10 * (j : Int)) = 10 * (j : Int) := IntWalk.i64_in _ (by omega)
        have hw2 : IntKind.i64.wrap (10 * (j : Int) + 3) = 10 * (j : Int) + 3 := IntWalk.i64_in _ (by omega)
        generalize ansR q (10 * (j : Int)) (10 * (j : Int) + 3) = r at *
        rw [show B.sent = (bxO B (ord.take k)).sent from rfl] at hst
        have hsu : (bxO B (ord.take (k + 1))).sent = (bxO B (ord.take k)).sent := rfl
        obtain ⟨h1, h2, h3, h4, h5, h6, h7⟩ := hst
        rw [← hsu] at h5 h6 h7
        have HT1 : Hid (tkB (bxO B (ord.take k)) (gpX (ppX r)) (bxO B (ord.take k)).sent = bxO B (ord.take (k + 1)) ∧ tkK (bxO B (ord.take k)) (gpX (ppX r)) (bxO B (ord.take k)).sent = 1 ∧ tkE (bxO B (ord.take k)) (bxO B (ord.take k)).sent = 0) := Lib.hid (by rw [hgp]; exact ⟨h3, h2, h1⟩)
        have HT2 : Hid (tkB (bxO B (ord.take (k + 1))) (gpX (ppX r)) (bxO B (ord.take (k + 1))).sent = bxO B (ord.take (k + 1)) ∧ tkK (bxO B (ord.take (k + 1))) (gpX (ppX r)) (bxO B (ord.take (k + 1))).sent = 2 ∧ tkE (bxO B (ord.take (k + 1))) (bxO B (ord.take (k + 1))).sent = 0) := Lib.hid (by rw [hgp]; exact ⟨h7, h6, h5⟩)
        have hl1 : (bxO B (ord.take (k + 1))).asked.length ≤ 16 := hm16
        have hl2 : (bxO B (ord.take (k + 1))).got.length ≤ 16 := frm_got_len (frmX_iff.1 h4)
        have HL1 := Lib.hid (And.intro hl1 hl2)
        clear h1 h2 h3 h4 h5 h6 h7 hsu hgp hwf hfk hans hl1 hl2 hj hrg hm16 hkl hqok
        generalize bxO B (ord.take k) = B1 at *
        generalize hb2 : bxO B (ord.take (k + 1)) = B2 at *
        have HB2 := Lib.hid hb2
        clear hb2
        go_wp2_with fail
        refine HANS.out.mono ?_
        rintro _ w4 ⟨xa, xn, xc, rfl, hSx, hx4⟩
        have hxn : xn ≤ 1000000000 := by rw [← hSx.hlen]; omega
        clear e0 e1 e2 e3 d0 hw1 hw2 hpl
        have hP4 := hPr.ext hx4
        have hR4 := hRr.ext hx4
        have hF4 := hFr.ext hx4
        have hE4 := hEr.trans hx4
        have x0 := hP4.c 0 _ rfl
        have x1 := hP4.c 1 _ rfl
        have x2 := hP4.c 2 _ rfl
        have x3 := hP4.c 3 _ rfl
        have x4 := hP4.c 4 _ rfl
        have x5 := hP4.c 5 _ rfl
        have x6 := hP4.c 6 _ rfl
        go_wp2_with fail
        refine (itake_is B1 sa1 sn1 sc1 ga1 gn1 gc1 xa xn xc (ppX r) B1.sent w4 hF4 hSx hxn (by omega) (by omega) (TB.ext HT.out (hE4)) HT1.out).mono ?_
        rintro _ w9 ⟨sa2, sn2, sc2, ga2, gn2, gc2, rfl, hF2, hfr2, hx9⟩
        have hpb9 := hP4.lt
        have hrb9 := hR4.lt
        have hP9 := hP4.ext hx9
        have hR9 := hR4.ext hx9
        have hE9 := hE4.trans hx9
        have hS9 := hSx.ext hx9
        clear x0 x1 x2 x3 x4 x5 x6
        go_upto_region 6 with fail
        have hX := Bk.new w9 33 #[.int .i64 B2.host, .int .i64 B2.round, .int .u64 B2.head, .int .i64 B2.sent, .int .i64 B2.wait, .slice sa2 sn2 sc2, .slice ga2 gn2 gc2]
        have hx10 : Ext w9 (w9.alloc (.cells #[.int .i64 B2.host, .int .i64 B2.round, .int .u64 B2.head, .int .i64 B2.sent, .int .i64 B2.wait, .slice sa2 sn2 sc2, .slice ga2 gn2 gc2] 33)) := (Ext.refl w9).alloc _
        have hF10 := hF2.ext hx10
        have hP10 := hP9.ext hx10
        have hR10 := hR9.ext hx10
        have hE10 := hE9.trans hx10
        have hS10 := hS9.ext hx10
        generalize w9.alloc (.cells #[.int .i64 B2.host, .int .i64 B2.round, .int .u64 B2.head, .int .i64 B2.sent, .int .i64 B2.wait, .slice sa2 sn2 sc2, .slice ga2 gn2 gc2] 33) = W10 at *
        generalize w9.heap.size = xb at hX ⊢
        have y0 := hX.c 0 _ rfl
        have y1 := hX.c 1 _ rfl
        have y2 := hX.c 2 _ rfl
        have y3 := hX.c 3 _ rfl
        have y4 := hX.c 4 _ rfl
        have y5 := hX.c 5 _ rfl
        have y6 := hX.c 6 _ rfl
        have x0 := hP10.c 0 _ rfl
        have x1 := hP10.c 1 _ rfl
        have x2 := hP10.c 2 _ rfl
        have x3 := hP10.c 3 _ rfl
        have x4 := hP10.c 4 _ rfl
        have x5 := hP10.c 5 _ rfl
        have x6 := hP10.c 6 _ rfl
        have fx := hP10.free
        have hap1 : Aprt pb sa2 sn2 := hfr2.1.ap hpb9
        have hap2 : Aprt pb ga2 gn2 := hfr2.2.ap hpb9
        have har1 : Aprt rb sa2 sn2 := hfr2.1.ap hrb9
        have har2 : Aprt rb ga2 gn2 := hfr2.2.ap hrb9
        go_wp2_with fail
        exact ⟨⟨k + 1, sa2, sn2, sc2, ga2, gn2, gc2, by omega, by go_num, by rw [HB2.out]; exact Bk.set7 hP10 _ _ _ _ _ _ _, hR10.other7 (Ne.symm hpr) _ _ _ _ _ _ _, by rw [HB2.out]; exact ⟨hF10.ok, hF10.sl.set7 hap1 _ _ _ _ _ _ _, hF10.rw.set7 hap2 _ _ _ _ _ _ _⟩, ⟨har1, har2⟩, hE10.set7 hpw0 _ _ _ _ _ _ _⟩, by simp [intOf]; omega⟩
      · obtain rfl : k = on := by omega
        rw [show ord.take k = ord by rw [← HOL.out, List.take_length]] at hPr hFr
        obtain ⟨hap1, hap2⟩ := hap
        have x0 := hPr.c 0 _ rfl
        have x1 := hPr.c 1 _ rfl
        have x2 := hPr.c 2 _ rfl
        have x3 := hPr.c 3 _ rfl
        have x4 := hPr.c 4 _ rfl
        have x5 := hPr.c 5 _ rfl
        have x6 := hPr.c 6 _ rfl
        have z0 := hRr.c 0 _ rfl
        have z1 := hRr.c 1 _ rfl
        have z2 := hRr.c 2 _ rfl
        have z3 := hRr.c 3 _ rfl
        have z4 := hRr.c 4 _ rfl
        have z5 := hRr.c 5 _ rfl
        have z6 := hRr.c 6 _ rfl
        have fz := hRr.free
        go_wp2_with fail
        exact bodyPost_ret (res_takeO _ rb _ _ _ _ _ _ _ (.bool true) _ (by rfl) (by rfl) (Bk.set7 hRr _ _ _ _ _ _ _)) rfl ⟨sa1, sn1, sc1, ga1, gn1, gc1, rfl, ⟨hFr.ok, hFr.sl.set7 hap1 _ _ _ _ _ _ _, hFr.rw.set7 hap2 _ _ _ _ _ _ _⟩, hEr.set7 hrw _ _ _ _ _ _ _⟩
    · obtain ⟨k, sa1, sn1, sc1, ga1, gn1, gc1, hk, rfl, hPr, hRr, hFr, hap, hEr⟩ := hrel
      by_cases hlt : k < on
      · have hkl : k < ord.length := by rw [HOL.out]; exact hlt
        have hfk := hOP.out.frmO (k := k) (by omega)
        have hst := hOP.out.step hkl hfk
        have hrg := hOP.out.nth hkl
        have hwf := hOP.out.wf hrg
        have hm16 := hOP.out.m16
        have hs16 : sn1 ≤ 16 := by rw [← hFr.sl.hlen]; exact hm16
        have hg16 : gn1 ≤ 16 := by rw [← hFr.rw.hlen]; exact frm_got_len (frmX_iff.1 hfk)
        have hgp := gpX_pp hwf.2 hwf.1
        have hpl := ppX_len hwf.2 hwf.1
        obtain ⟨ob, oo, rfl, hco⟩ := ho.at (by omega)
        have d0 := hEr.cell (hco k hlt)
        clear hco
        obtain ⟨j, hj⟩ : ∃ j : Nat, nth ord k = (j : Int) := ⟨(nth ord k).toNat, by omega⟩
        rw [hj] at d0 hst hwf hgp hpl hrg
        have hjl : j < ln := by rw [← HLL.out]; omega
        have hJr := nthR_rqs B (l := B.asked) (i := j) (by omega)
        have hqok := hl.wfAt hjl
        obtain ⟨lb, lo, rfl, hcl⟩ := hl.at (by omega)
        have hcJ := cells_rq (rangeAt_ext (hcl j hjl) hEr)
        rw [hJr, sz_rq] at hcJ
        rw [hJr] at hqok
        clear hcl hJr
        have hre : rpU B (j : Int) = ansR (rq1 B (nth B.asked j)) (10 * (j : Int)) (10 * (j : Int) + 3) := rfl
        rw [hre] at hst hwf hgp hpl
        obtain ⟨q, hqe⟩ : ∃ q, rq1 B (nth B.asked j) = q := ⟨_, rfl⟩
        rw [hqe] at hcJ hqok hst hwf hgp hpl
        clear hqe hre
        obtain ⟨e0, e1, e2, e3⟩ := hcJ
        have hans := ians_any q hqok (10 * (j : Int)) (10 * (j : Int) + 3) (wf_of_i64 (by omega) (by omega)) (wf_of_i64 (by omega) (by omega)) wr
        rw [hwf.1] at hans
        simp only [if_true] at hans
        have HANS := Lib.hid hans
        have hw1 : IntKind.i64.wrap (10 * (j : Int)) = 10 * (j : Int) := IntWalk.i64_in _ (by omega)
        have hw2 : IntKind.i64.wrap (10 * (j : Int) + 3) = 10 * (j : Int) + 3 := IntWalk.i64_in _ (by omega)
        generalize ansR q (10 * (j : Int)) (10 * (j : Int) + 3) = r at *
        rw [show B.sent = (bxO B (ord.take k)).sent from rfl] at hst
        have hsu : (bxO B (ord.take (k + 1))).sent = (bxO B (ord.take k)).sent := rfl
        obtain ⟨h1, h2, h3, h4, h5, h6, h7⟩ := hst
        rw [← hsu] at h5 h6 h7
        have HT1 : Hid (tkB (bxO B (ord.take k)) (gpX (ppX r)) (bxO B (ord.take k)).sent = bxO B (ord.take (k + 1)) ∧ tkK (bxO B (ord.take k)) (gpX (ppX r)) (bxO B (ord.take k)).sent = 1 ∧ tkE (bxO B (ord.take k)) (bxO B (ord.take k)).sent = 0) := Lib.hid (by rw [hgp]; exact ⟨h3, h2, h1⟩)
        have HT2 : Hid (tkB (bxO B (ord.take (k + 1))) (gpX (ppX r)) (bxO B (ord.take (k + 1))).sent = bxO B (ord.take (k + 1)) ∧ tkK (bxO B (ord.take (k + 1))) (gpX (ppX r)) (bxO B (ord.take (k + 1))).sent = 2 ∧ tkE (bxO B (ord.take (k + 1))) (bxO B (ord.take (k + 1))).sent = 0) := Lib.hid (by rw [hgp]; exact ⟨h7, h6, h5⟩)
        have hl1 : (bxO B (ord.take (k + 1))).asked.length ≤ 16 := hm16
        have hl2 : (bxO B (ord.take (k + 1))).got.length ≤ 16 := frm_got_len (frmX_iff.1 h4)
        have HL1 := Lib.hid (And.intro hl1 hl2)
        clear h1 h2 h3 h4 h5 h6 h7 hsu hgp hwf hfk hans hl1 hl2 hj hrg hm16 hkl hqok
        generalize bxO B (ord.take k) = B1 at *
        generalize hb2 : bxO B (ord.take (k + 1)) = B2 at *
        have HB2 := Lib.hid hb2
        clear hb2
        go_wp2_with fail
        refine HANS.out.mono ?_
        rintro _ w4 ⟨xa, xn, xc, rfl, hSx, hx4⟩
        have hxn : xn ≤ 1000000000 := by rw [← hSx.hlen]; omega
        clear e0 e1 e2 e3 d0 hw1 hw2 hpl
        have hP4 := hPr.ext hx4
        have hR4 := hRr.ext hx4
        have hF4 := hFr.ext hx4
        have hE4 := hEr.trans hx4
        have x0 := hP4.c 0 _ rfl
        have x1 := hP4.c 1 _ rfl
        have x2 := hP4.c 2 _ rfl
        have x3 := hP4.c 3 _ rfl
        have x4 := hP4.c 4 _ rfl
        have x5 := hP4.c 5 _ rfl
        have x6 := hP4.c 6 _ rfl
        go_wp2_with fail
        refine (itake_is B1 sa1 sn1 sc1 ga1 gn1 gc1 xa xn xc (ppX r) B1.sent w4 hF4 hSx hxn (by omega) (by omega) (TB.ext HT.out (hE4)) HT1.out).mono ?_
        rintro _ w9 ⟨sa2, sn2, sc2, ga2, gn2, gc2, rfl, hF2, hfr2, hx9⟩
        have hpb9 := hP4.lt
        have hrb9 := hR4.lt
        have hP9 := hP4.ext hx9
        have hR9 := hR4.ext hx9
        have hE9 := hE4.trans hx9
        have hS9 := hSx.ext hx9
        clear x0 x1 x2 x3 x4 x5 x6
        go_upto_region 6 with fail
        have hX := Bk.new w9 33 #[.int .i64 B2.host, .int .i64 B2.round, .int .u64 B2.head, .int .i64 B2.sent, .int .i64 B2.wait, .slice sa2 sn2 sc2, .slice ga2 gn2 gc2]
        have hx10 : Ext w9 (w9.alloc (.cells #[.int .i64 B2.host, .int .i64 B2.round, .int .u64 B2.head, .int .i64 B2.sent, .int .i64 B2.wait, .slice sa2 sn2 sc2, .slice ga2 gn2 gc2] 33)) := (Ext.refl w9).alloc _
        have hF10 := hF2.ext hx10
        have hP10 := hP9.ext hx10
        have hR10 := hR9.ext hx10
        have hE10 := hE9.trans hx10
        have hS10 := hS9.ext hx10
        generalize w9.alloc (.cells #[.int .i64 B2.host, .int .i64 B2.round, .int .u64 B2.head, .int .i64 B2.sent, .int .i64 B2.wait, .slice sa2 sn2 sc2, .slice ga2 gn2 gc2] 33) = W10 at *
        generalize w9.heap.size = xb at hX ⊢
        have y0 := hX.c 0 _ rfl
        have y1 := hX.c 1 _ rfl
        have y2 := hX.c 2 _ rfl
        have y3 := hX.c 3 _ rfl
        have y4 := hX.c 4 _ rfl
        have y5 := hX.c 5 _ rfl
        have y6 := hX.c 6 _ rfl
        have x0 := hP10.c 0 _ rfl
        have x1 := hP10.c 1 _ rfl
        have x2 := hP10.c 2 _ rfl
        have x3 := hP10.c 3 _ rfl
        have x4 := hP10.c 4 _ rfl
        have x5 := hP10.c 5 _ rfl
        have x6 := hP10.c 6 _ rfl
        have fx := hP10.free
        have hap1 : Aprt pb sa2 sn2 := hfr2.1.ap hpb9
        have hap2 : Aprt pb ga2 gn2 := hfr2.2.ap hpb9
        have har1 : Aprt rb sa2 sn2 := hfr2.1.ap hrb9
        have har2 : Aprt rb ga2 gn2 := hfr2.2.ap hrb9
        have hapx : Aprt pb xa xn := u8_apart hP10 hS10
        go_upto_region 9 with fail
        have hP11 : Bk (((((((W10.setCell ⟨pb, 0, none⟩ (.int .i64 B2.host)).setCell ⟨pb, 1, none⟩ (.int .i64 B2.round)).setCell ⟨pb, 2, none⟩ (.int .u64 B2.head)).setCell ⟨pb, 3, none⟩ (.int .i64 B2.sent)).setCell ⟨pb, 4, none⟩ (.int .i64 B2.wait)).setCell ⟨pb, 5, none⟩ (.slice sa2 sn2 sc2)).setCell ⟨pb, 6, none⟩ (.slice ga2 gn2 gc2)) pb 33 #[.int .i64 B2.host, .int .i64 B2.round, .int .u64 B2.head, .int .i64 B2.sent, .int .i64 B2.wait, .slice sa2 sn2 sc2, .slice ga2 gn2 gc2] := Bk.set7 hP10 _ _ _ _ _ _ _
        have hR11 : Bk (((((((W10.setCell ⟨pb, 0, none⟩ (.int .i64 B2.host)).setCell ⟨pb, 1, none⟩ (.int .i64 B2.round)).setCell ⟨pb, 2, none⟩ (.int .u64 B2.head)).setCell ⟨pb, 3, none⟩ (.int .i64 B2.sent)).setCell ⟨pb, 4, none⟩ (.int .i64 B2.wait)).setCell ⟨pb, 5, none⟩ (.slice sa2 sn2 sc2)).setCell ⟨pb, 6, none⟩ (.slice ga2 gn2 gc2)) rb 33 #[.int .i64 0, .int .i64 0, .int .u64 0, .int .i64 0, .int .i64 0, .slice none 0 0, .slice none 0 0] := hR10.other7 (Ne.symm hpr) _ _ _ _ _ _ _
        have hF11 : BxF (((((((W10.setCell ⟨pb, 0, none⟩ (.int .i64 B2.host)).setCell ⟨pb, 1, none⟩ (.int .i64 B2.round)).setCell ⟨pb, 2, none⟩ (.int .u64 B2.head)).setCell ⟨pb, 3, none⟩ (.int .i64 B2.sent)).setCell ⟨pb, 4, none⟩ (.int .i64 B2.wait)).setCell ⟨pb, 5, none⟩ (.slice sa2 sn2 sc2)).setCell ⟨pb, 6, none⟩ (.slice ga2 gn2 gc2)) B2 sa2 sn2 sc2 ga2 gn2 gc2 := ⟨hF10.ok, hF10.sl.set7 hap1 _ _ _ _ _ _ _, hF10.rw.set7 hap2 _ _ _ _ _ _ _⟩
        have hS11 : Sl .u8 (((((((W10.setCell ⟨pb, 0, none⟩ (.int .i64 B2.host)).setCell ⟨pb, 1, none⟩ (.int .i64 B2.round)).setCell ⟨pb, 2, none⟩ (.int .u64 B2.head)).setCell ⟨pb, 3, none⟩ (.int .i64 B2.sent)).setCell ⟨pb, 4, none⟩ (.int .i64 B2.wait)).setCell ⟨pb, 5, none⟩ (.slice sa2 sn2 sc2)).setCell ⟨pb, 6, none⟩ (.slice ga2 gn2 gc2)) xa xn xc (ppX r) := hS10.set7 hapx _ _ _ _ _ _ _
        have hE11 : Ext w (((((((W10.setCell ⟨pb, 0, none⟩ (.int .i64 B2.host)).setCell ⟨pb, 1, none⟩ (.int .i64 B2.round)).setCell ⟨pb, 2, none⟩ (.int .u64 B2.head)).setCell ⟨pb, 3, none⟩ (.int .i64 B2.sent)).setCell ⟨pb, 4, none⟩ (.int .i64 B2.wait)).setCell ⟨pb, 5, none⟩ (.slice sa2 sn2 sc2)).setCell ⟨pb, 6, none⟩ (.slice ga2 gn2 gc2)) := hE10.set7 hpw0 _ _ _ _ _ _ _
        have hs2 : sn2 ≤ 16 := by rw [← hF10.sl.hlen]; exact HL1.out.1
        have hg2 : gn2 ≤ 16 := by rw [← hF10.rw.hlen]; exact HL1.out.2
        clear x0 x1 x2 x3 x4 x5 x6 y0 y1 y2 y3 y4 y5 y6 fx hX
        generalize (((((((W10.setCell ⟨pb, 0, none⟩ (.int .i64 B2.host)).setCell ⟨pb, 1, none⟩ (.int .i64 B2.round)).setCell ⟨pb, 2, none⟩ (.int .u64 B2.head)).setCell ⟨pb, 3, none⟩ (.int .i64 B2.sent)).setCell ⟨pb, 4, none⟩ (.int .i64 B2.wait)).setCell ⟨pb, 5, none⟩ (.slice sa2 sn2 sc2)).setCell ⟨pb, 6, none⟩ (.slice ga2 gn2 gc2)) = W11 at *
        have x0 := hP11.c 0 _ rfl
        have x1 := hP11.c 1 _ rfl
        have x2 := hP11.c 2 _ rfl
        have x3 := hP11.c 3 _ rfl
        have x4 := hP11.c 4 _ rfl
        have x5 := hP11.c 5 _ rfl
        have x6 := hP11.c 6 _ rfl
        go_wp2_with fail
        refine (itake_is B2 sa2 sn2 sc2 ga2 gn2 gc2 xa xn xc (ppX r) B2.sent W11 hF11 hS11 hxn (by omega) (by omega) (TB.ext HT.out (hE11)) HT2.out).mono ?_
        rintro _ w12 ⟨sa3, sn3, sc3, ga3, gn3, gc3, rfl, hF3, hfr3, hx12⟩
        have hpb12 := hP11.lt
        have hrb12 := hR11.lt
        have hP12 := hP11.ext hx12
        have hR12 := hR11.ext hx12
        have hE12 := hE11.trans hx12
        clear x0 x1 x2 x3 x4 x5 x6
        go_upto_region 11 with fail
        have hX := Bk.new w12 33 #[.int .i64 B2.host, .int .i64 B2.round, .int .u64 B2.head, .int .i64 B2.sent, .int .i64 B2.wait, .slice sa3 sn3 sc3, .slice ga3 gn3 gc3]
        have hx13 : Ext w12 (w12.alloc (.cells #[.int .i64 B2.host, .int .i64 B2.round, .int .u64 B2.head, .int .i64 B2.sent, .int .i64 B2.wait, .slice sa3 sn3 sc3, .slice ga3 gn3 gc3] 33)) := (Ext.refl w12).alloc _
        have hF13 := hF3.ext hx13
        have hP13 := hP12.ext hx13
        have hR13 := hR12.ext hx13
        have hE13 := hE12.trans hx13
        generalize w12.alloc (.cells #[.int .i64 B2.host, .int .i64 B2.round, .int .u64 B2.head, .int .i64 B2.sent, .int .i64 B2.wait, .slice sa3 sn3 sc3, .slice ga3 gn3 gc3] 33) = W13 at *
        generalize w12.heap.size = yb at hX ⊢
        have y0 := hX.c 0 _ rfl
        have y1 := hX.c 1 _ rfl
        have y2 := hX.c 2 _ rfl
        have y3 := hX.c 3 _ rfl
        have y4 := hX.c 4 _ rfl
        have y5 := hX.c 5 _ rfl
        have y6 := hX.c 6 _ rfl
        have x0 := hP13.c 0 _ rfl
        have x1 := hP13.c 1 _ rfl
        have x2 := hP13.c 2 _ rfl
        have x3 := hP13.c 3 _ rfl
        have x4 := hP13.c 4 _ rfl
        have x5 := hP13.c 5 _ rfl
        have x6 := hP13.c 6 _ rfl
        have fx := hP13.free
        have hap3 : Aprt pb sa3 sn3 := hfr3.1.ap hpb12
        have hap4 : Aprt pb ga3 gn3 := hfr3.2.ap hpb12
        have har3 : Aprt rb sa3 sn3 := hfr3.1.ap hrb12
        have har4 : Aprt rb ga3 gn3 := hfr3.2.ap hrb12
        go_wp2_with fail
        exact ⟨⟨k + 1, sa3, sn3, sc3, ga3, gn3, gc3, by omega, by go_num, by rw [HB2.out]; exact Bk.set7 hP13 _ _ _ _ _ _ _, hR13.other7 (Ne.symm hpr) _ _ _ _ _ _ _, by rw [HB2.out]; exact ⟨hF13.ok, hF13.sl.set7 hap3 _ _ _ _ _ _ _, hF13.rw.set7 hap4 _ _ _ _ _ _ _⟩, ⟨har3, har4⟩, hE13.set7 hpw0 _ _ _ _ _ _ _⟩, by simp [intOf]; omega⟩
      · obtain rfl : k = on := by omega
        rw [show ord.take k = ord by rw [← HOL.out, List.take_length]] at hPr hFr
        obtain ⟨hap1, hap2⟩ := hap
        have x0 := hPr.c 0 _ rfl
        have x1 := hPr.c 1 _ rfl
        have x2 := hPr.c 2 _ rfl
        have x3 := hPr.c 3 _ rfl
        have x4 := hPr.c 4 _ rfl
        have x5 := hPr.c 5 _ rfl
        have x6 := hPr.c 6 _ rfl
        have z0 := hRr.c 0 _ rfl
        have z1 := hRr.c 1 _ rfl
        have z2 := hRr.c 2 _ rfl
        have z3 := hRr.c 3 _ rfl
        have z4 := hRr.c 4 _ rfl
        have z5 := hRr.c 5 _ rfl
        have z6 := hRr.c 6 _ rfl
        have fz := hRr.free
        go_wp2_with fail
        exact bodyPost_ret (res_takeO _ rb _ _ _ _ _ _ _ (.bool true) _ (by rfl) (by rfl) (Bk.set7 hRr _ _ _ _ _ _ _)) rfl ⟨sa1, sn1, sc1, ga1, gn1, gc1, rfl, ⟨hFr.ok, hFr.sl.set7 hap1 _ _ _ _ _ _ _, hFr.rw.set7 hap2 _ _ _ _ _ _ _⟩, hEr.set7 hrw _ _ _ _ _ _ _⟩
end Go.Proofs.YtdmfdimhjemngaaDoor
