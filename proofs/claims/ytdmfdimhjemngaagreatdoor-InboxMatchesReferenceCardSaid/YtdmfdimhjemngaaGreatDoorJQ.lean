/-
  The reference's Take, walked. Written by wip/gen_jq.py.
-/
import Derived.Test.YtdmfdimhjemngaaGreatDoorJO
namespace Go.Proofs.YtdmfdimhjemngaaGreatDoor
open Go.RowKit Go.Sort Go.Shelf
set_option linter.unusedSimpArgs false
set_option linter.unusedVariables false
set_option maxRecDepth 100000

theorem res_rtake (W : World) (b : Nat) (v0 v1 v2 v3 v4 v5 v6 k z : Value) (tmps : Array Value) (hb : tmps[6]?.getD undef = .pointer (some ⟨b, 0, none⟩)) (h7 : tmps[7]?.getD undef = k) (h8 : tmps[8]?.getD undef = z) (h : Bk W b 29 #[v0, v1, v2, v3, v4, v5, v6]) :
    (results Tryz.f14 tmps).run Tryz.prog W = .ok (.tuple #[.agg #[v0, v1, v2, v3, v4, v5, v6], k, z]) W := by
  have c0 := h.c 0 _ rfl
  have c1 := h.c 1 _ rfl
  have c2 := h.c 2 _ rfl
  have c3 := h.c 3 _ rfl
  have c4 := h.c 4 _ rfl
  have c5 := h.c 5 _ rfl
  have c6 := h.c 6 _ rfl
  simp [results, Tryz.results14, go_sem, hb, h7, h8, c0, c1, c2, c3, c4, c5, c6]
/-- What the reference's Take answers: its slices are the box's, or lie in blocks of their own. -/
def TkA (w w' : World) (e : Ending) (sa : Option Addr) (sn : Nat) (ga : Option Addr) (gn : Nat) (b : Bx) (k z : Int) : Prop := ∃ sa2 sn2 sc2 ga2 gn2 gc2, e = .returned (.tuple #[.agg #[.int .i64 b.host, .int .i64 b.round, .int .u64 b.head, .int .i64 b.sent, .int .i64 b.wait, .slice sa2 sn2 sc2, .slice ga2 gn2 gc2], .int .i64 k, .int .i64 z]) ∧ BxF w' b sa2 sn2 sc2 ga2 gn2 gc2 ∧ (∀ pb, pb < w.heap.size → Aprt pb sa sn → Aprt pb ga gn → Aprt pb sa2 sn2 ∧ Aprt pb ga2 gn2) ∧ Ext w w'
theorem aprt0 (pb : Nat) (a : Option Addr) : Aprt pb a 0 := fun _ _ _ h => absurd h (by omega)

set_option maxHeartbeats 8000000 in
theorem rtake_any (b : Bx) (sa : Option Addr) (sn sc : Nat) (ga : Option Addr) (gn gc : Nat) (pa : Option Addr) (pn pc : Nat) (bytes : List Int) (t : Int) (w : World) (hb : BxF w b sa sn sc ga gn gc) (hp : Sl .u8 w pa pn pc bytes) (hpn : pn ≤ 1000000000) :
    Calls Tryz.prog 14 #[.agg #[.int .i64 b.host, .int .i64 b.round, .int .u64 b.head, .int .i64 b.sent, .int .i64 b.wait, .slice sa sn sc, .slice ga gn gc], .slice pa pn pc, .int .i64 t] w fun e w' => TkA w w' e sa sn ga gn (tkB b (gpX bytes) t) (tkK b (gpX bytes) t) (tkE b t) := by
  have bd := hb.rw.bd
  have bd2 := hp.bd
  have bd3 := hb.sl.bd
  have HL := Lib.hid hb.rw.hlen
  have HO := Lib.hid hb.ok
  have hE : Ext w ((w.alloc (.cells #[.int .i64 b.host, .int .i64 b.round, .int .u64 b.head, .int .i64 b.sent, .int .i64 b.wait, .slice sa sn sc, .slice ga gn gc] 29)).alloc (.cells #[.int .i64 0, .int .i64 0, .int .u64 0, .int .i64 0, .int .i64 0, .slice none 0 0, .slice none 0 0] 29)) := ((Ext.refl w).alloc _).alloc _
  have hP : Bk ((w.alloc (.cells #[.int .i64 b.host, .int .i64 b.round, .int .u64 b.head, .int .i64 b.sent, .int .i64 b.wait, .slice sa sn sc, .slice ga gn gc] 29)).alloc (.cells #[.int .i64 0, .int .i64 0, .int .u64 0, .int .i64 0, .int .i64 0, .slice none 0 0, .slice none 0 0] 29)) w.heap.size 29 #[.int .i64 b.host, .int .i64 b.round, .int .u64 b.head, .int .i64 b.sent, .int .i64 b.wait, .slice sa sn sc, .slice ga gn gc] := (Bk.new w 29 #[.int .i64 b.host, .int .i64 b.round, .int .u64 b.head, .int .i64 b.sent, .int .i64 b.wait, .slice sa sn sc, .slice ga gn gc]).ext ((Ext.refl _).alloc _)
  have hR := Bk.new (w.alloc (.cells #[.int .i64 b.host, .int .i64 b.round, .int .u64 b.head, .int .i64 b.sent, .int .i64 b.wait, .slice sa sn sc, .slice ga gn gc] 29)) 29 #[.int .i64 0, .int .i64 0, .int .u64 0, .int .i64 0, .int .i64 0, .slice none 0 0, .slice none 0 0]
  rw [World.size_alloc] at hR
  go_enter Tryz.func14, Tryz.ntmps14
  go_upto_region 1 with fail
  generalize (w.alloc (.cells #[.int .i64 b.host, .int .i64 b.round, .int .u64 b.head, .int .i64 b.sent, .int .i64 b.wait, .slice sa sn sc, .slice ga gn gc] 29)).alloc (.cells #[.int .i64 0, .int .i64 0, .int .u64 0, .int .i64 0, .int .i64 0, .slice none 0 0, .slice none 0 0] 29) = V at *
  obtain ⟨rb, hrb⟩ : ∃ rb, w.heap.size + 1 = rb := ⟨_, rfl⟩
  obtain ⟨pb, hpb⟩ : ∃ pb, w.heap.size = pb := ⟨_, rfl⟩
  rw [hrb] at hR ⊢
  have hws : w.heap.size ≤ pb ∧ w.heap.size ≤ rb ∧ pb ≠ rb := by omega
  rw [hpb] at hP ⊢
  obtain ⟨hpw, hrw, hpr⟩ := hws
  clear hrb hpb
  have p0 := hP.c 0 _ rfl
  have p1 := hP.c 1 _ rfl
  have p2 := hP.c 2 _ rfl
  have p3 := hP.c 3 _ rfl
  have p4 := hP.c 4 _ rfl
  have p5 := hP.c 5 _ rfl
  have p6 := hP.c 6 _ rfl
  have z0 := hR.c 0 _ rfl
  have z1 := hR.c 1 _ rfl
  have z2 := hR.c 2 _ rfl
  have z3 := hR.c 3 _ rfl
  have z4 := hR.c 4 _ rfl
  have z5 := hR.c 5 _ rfl
  have z6 := hR.c 6 _ rfl
  have fz := hR.free
  have fp := hP.free
  go_wp2_with fail
  refine (rForm_any b sa sn sc ga gn gc V (hb.ext hE)).mono ?_
  rintro _ w1 ⟨rfl, hx⟩
  clear p0 p1 p2 p3 p4 p5 p6 z0 z1 z2 z3 z4 z5 z6 fz fp
  replace hP := hP.ext hx
  replace hR := hR.ext hx
  replace hE := hE.trans hx
  clear hx
  have p0 := hP.c 0 _ rfl
  have p1 := hP.c 1 _ rfl
  have p2 := hP.c 2 _ rfl
  have p3 := hP.c 3 _ rfl
  have p4 := hP.c 4 _ rfl
  have p5 := hP.c 5 _ rfl
  have p6 := hP.c 6 _ rfl
  have z0 := hR.c 0 _ rfl
  have z1 := hR.c 1 _ rfl
  have z2 := hR.c 2 _ rfl
  have z3 := hR.c 3 _ rfl
  have z4 := hR.c 4 _ rfl
  have z5 := hR.c 5 _ rfl
  have z6 := hR.c 6 _ rfl
  have fz := hR.free
  have fp := hP.free
  rcases hf : frmX b with _ | _
  · have HE : Hid (tkE b t = 1) := Lib.hid (by unfold tkE; rw [hf]; rfl)
    clear hf
    go_wp2_with fail
    exact bodyPost_ret (res_rtake _ rb (.int .i64 0) (.int .i64 0) (.int .u64 0) (.int .i64 0) (.int .i64 0) (.slice none 0 0) (.slice none 0 0) (.int .i64 0) (.int .i64 1) _ (by rfl) (by rfl) (by rfl) (Bk.set7 hR _ _ _ _ _ _ _)) rfl ⟨none, 0, 0, none, 0, 0, by rw [tkB_no HE.out (by decide), tkK_no HE.out (by decide), HE.out]; rfl, by rw [tkB_no HE.out (by decide)]; exact bx0_f _, fun _ _ _ _ => ⟨aprt0 _ _, aprt0 _ _⟩, hE.set7 hrw _ _ _ _ _ _ _⟩
  have HF := Lib.hid hf
  clear hf
  have r1 := fun (W : World) => rreading_any t W
  rcases ht : inC t 0 3000000000000000 with _ | _
  · have HE : Hid (tkE b t = 1) := Lib.hid (by unfold tkE; rw [HF.out, ht]; rfl)
    rw [ht] at r1
    clear ht
    go_wp2_with (go_at_call 27; refine (r1 _).mono ?_; rintro e w' ⟨rfl, rfl⟩)
    exact bodyPost_ret (res_rtake _ rb (.int .i64 0) (.int .i64 0) (.int .u64 0) (.int .i64 0) (.int .i64 0) (.slice none 0 0) (.slice none 0 0) (.int .i64 0) (.int .i64 1) _ (by rfl) (by rfl) (by rfl) (Bk.set7 hR _ _ _ _ _ _ _)) rfl ⟨none, 0, 0, none, 0, 0, by rw [tkB_no HE.out (by decide), tkK_no HE.out (by decide), HE.out]; rfl, by rw [tkB_no HE.out (by decide)]; exact bx0_f _, fun _ _ _ _ => ⟨aprt0 _ _, aprt0 _ _⟩, hE.set7 hrw _ _ _ _ _ _ _⟩
  rw [ht] at r1
  have HIT := Lib.hid ht
  clear ht
  by_cases hts : t < b.sent
  · have HE : Hid (tkE b t = 30) := Lib.hid (by unfold tkE; rw [HF.out, HIT.out, if_pos (by decide), if_pos hts])
    have hq : decide (t < b.sent) = true := decide_eq_true hts
    clear hts
    go_wp2_with (go_at_call 27; refine (r1 _).mono ?_; rintro e w' ⟨rfl, rfl⟩)
    exact bodyPost_ret (res_rtake _ rb (.int .i64 0) (.int .i64 0) (.int .u64 0) (.int .i64 0) (.int .i64 0) (.slice none 0 0) (.slice none 0 0) (.int .i64 0) (.int .i64 30) _ (by rfl) (by rfl) (by rfl) (Bk.set7 hR _ _ _ _ _ _ _)) rfl ⟨none, 0, 0, none, 0, 0, by rw [tkB_no HE.out (by decide), tkK_no HE.out (by decide), HE.out]; rfl, by rw [tkB_no HE.out (by decide)]; exact bx0_f _, fun _ _ _ _ => ⟨aprt0 _ _, aprt0 _ _⟩, hE.set7 hrw _ _ _ _ _ _ _⟩
  have HTE : Hid (tkE b t = 0) := Lib.hid (by unfold tkE; rw [HF.out, HIT.out, if_pos (by decide), if_neg hts])
  have hq : decide (t < b.sent) = false := decide_eq_false hts
  clear hts
  go_wp2_with (go_at_call 27; refine (r1 _).mono ?_; rintro e w' ⟨rfl, rfl⟩)
  refine (rkind_any b sa sn sc ga gn gc pa pn pc bytes t w1 (hb.ext hE) (hp.ext hE) hpn HF.out).mono ?_
  rintro _ w2 ⟨x, hxo, rfl, hxe, hx⟩
  clear p0 p1 p2 p3 p4 p5 p6 z0 z1 z2 z3 z4 z5 z6 fz fp
  clear hq r1
  replace hP := hP.ext hx
  replace hR := hR.ext hx
  replace hE := hE.trans hx
  clear hx
  have HXO := Lib.hid hxo
  have HXE := Lib.hid hxe
  clear hxo hxe
  go_upto_region 7 with fail
  have hX := Bk.new w2 60 #[.int .i64 x.a, .int .i64 x.h, .int .i64 x.r, .int .u64 x.n, .int .i64 x.lo, .int .i64 x.hi, .int .i64 x.k, .int .i64 x.t, .int .i64 x.c, .int .i64 x.s]
  have hxa : Ext w2 (w2.alloc (.cells #[.int .i64 x.a, .int .i64 x.h, .int .i64 x.r, .int .u64 x.n, .int .i64 x.lo, .int .i64 x.hi, .int .i64 x.k, .int .i64 x.t, .int .i64 x.c, .int .i64 x.s] 60)) := (Ext.refl w2).alloc _
  generalize w2.alloc (.cells #[.int .i64 x.a, .int .i64 x.h, .int .i64 x.r, .int .u64 x.n, .int .i64 x.lo, .int .i64 x.hi, .int .i64 x.k, .int .i64 x.t, .int .i64 x.c, .int .i64 x.s] 60) = Wk at *
  generalize w2.heap.size = xb at hX ⊢
  replace hP := hP.ext hxa
  replace hR := hR.ext hxa
  replace hE := hE.trans hxa
  clear hxa
  have p0 := hP.c 0 _ rfl
  have p1 := hP.c 1 _ rfl
  have p2 := hP.c 2 _ rfl
  have p3 := hP.c 3 _ rfl
  have p4 := hP.c 4 _ rfl
  have p5 := hP.c 5 _ rfl
  have p6 := hP.c 6 _ rfl
  have z0 := hR.c 0 _ rfl
  have z1 := hR.c 1 _ rfl
  have z2 := hR.c 2 _ rfl
  have z3 := hR.c 3 _ rfl
  have z4 := hR.c 4 _ rfl
  have z5 := hR.c 5 _ rfl
  have z6 := hR.c 6 _ rfl
  have fz := hR.free
  have fp := hP.free
  by_cases hk1 : kdX b (gpX bytes) t = 1
  · have hne : ∃ r, gpX bytes = some r := by
      rcases hg : gpX bytes with _ | r
      · rw [hg, kd_none] at hk1; exact absurd hk1 (by decide)
      · exact ⟨r, rfl⟩
    obtain ⟨r, hgr⟩ := hne
    obtain rfl := HXE.out r hgr
    have HTK : Hid (tkB b (gpX bytes) t = { b with got := insR x b.got } ∧ tkK b (gpX bytes) t = 1) := Lib.hid (by rw [hgr] at hk1 ⊢; exact tkB_fresh HTE.out hk1)
    have HOKI : Hid (∀ y ∈ insR x b.got, Cel.ok y) := Lib.hid (fun y hy => by
      rcases mem_insR.1 hy with h | h
      · rw [h]; exact HXO.out
      · exact hb.rw.wf y h)
    have hg16 : gn ≤ 16 := by rw [← HL.out]; exact frm_got_len (frmX_iff.1 HF.out)
    rw [hk1]
    clear hk1 hgr p0 p1 p2 p3 p4 p5 p6 z0 z1 z2 z3 z4 z5 z6 fz fp
    go_wp2_with fail
    go_loopw [12, 13, 14] (fun s d i wr => ∃ (k n : Nat) (oa : Option Addr) (oc : Nat), k ≤ gn ∧ n ≤ k + 1 ∧ Hid (doneR x b.got k = false → n ≤ k) ∧ s = .slice oa n oc ∧ i = .int .i64 (k : Int) ∧ d = .bool (doneR x b.got k) ∧ OwR 60 Wk.heap.size wr oa n oc (accR x b.got k) ∧ Ext Wk wr) (fun _ _ i _ => gn - (intOf i).toNat)
    case atStart => exact ⟨0, 0, none, 0, by omega, by omega, Lib.hid (fun _ => by omega), rfl, rfl, by rw [(accR_zero x b.got).2], by rw [(accR_zero x b.got).1]; exact OwR.nil _ _ _, Ext.refl Wk⟩
    case round =>
      obtain ⟨k, n, oa, oc, hk, hn, HNK, rfl, rfl, rfl, ho, hEr⟩ := hrel
      have hPr := hP.ext hEr
      have hXr := hX.ext hEr
      have hRr := hR.ext hEr
      have hEw := hE.trans hEr
      have hbz : Wk.heap.size ≤ wr.heap.size := hEr.sz
      have p6 := hPr.c 6 _ rfl
      by_cases hlt : k < gn
      · have hsucc := accR_succ (r := x) (l := b.got) (k := k) (by rw [HL.out]; exact hlt)
        obtain ⟨gb, go, rfl, hcg⟩ := hb.rw.at (by omega)
        have hr := rangeAt_ext (hcg k hlt) hEw
        rw [sz_rp] at hr
        obtain ⟨q0, q1, q2, q3, q4, q5, q6, q7, q8, q9⟩ := cells_rp hr
        have m1 := lt_of_cell q0
        have m2 := hXr.lt
        have m3 := hPr.lt
        simp only at m1
        clear hcg hr
        generalize hny : nthR b.got k = y at *
        have HNY := Lib.hid hny
        clear hny
        have y0 := hXr.c 0 _ rfl
        have y1 := hXr.c 1 _ rfl
        have y2 := hXr.c 2 _ rfl
        have y3 := hXr.c 3 _ rfl
        have y4 := hXr.c 4 _ rfl
        have y5 := hXr.c 5 _ rfl
        have y6 := hXr.c 6 _ rfl
        have y7 := hXr.c 7 _ rfl
        have y8 := hXr.c 8 _ rfl
        have y9 := hXr.c 9 _ rfl
        rcases hd : doneR x b.got k with _ | _
        · have hnk := HNK.out hd
          by_cases hya : x.a < y.a
          · obtain ⟨hs1, hs2⟩ := hsucc.2.1 hd hya
            have HS := Lib.hid hs1
            have HS2 := Lib.hid hs2
            have hq1 : decide (x.a < y.a) = true := decide_eq_true hya
            clear hsucc hs1 hs2 hya
            have hg := @grow_cell
            go_upto_region 14 with fail
            refine region_ext (by kernel_rfl) (by kernel_rfl) ?_
            repeat (go_big_quiet_step (fail))
            refine wpQuiet_nil ?_
            intro w4 hx4
            clear hg m1 m2 m3 y0 y1 y2 y3 y4 y5 y6 y7 y8 y9 p6 hq1
            have ho4 := ho.ext hx4
            have hX4 := hXr.ext hx4
            have hE4 := hEr.trans hx4
            have hbz4 : Wk.heap.size ≤ w4.heap.size := hE4.sz
            have y0 := hX4.c 0 _ rfl
            have y1 := hX4.c 1 _ rfl
            have y2 := hX4.c 2 _ rfl
            have y3 := hX4.c 3 _ rfl
            have y4 := hX4.c 4 _ rfl
            have y5 := hX4.c 5 _ rfl
            have y6 := hX4.c 6 _ rfl
            have y7 := hX4.c 7 _ rfl
            have y8 := hX4.c 8 _ rfl
            have y9 := hX4.c 9 _ rfl
            go_wp2_with (at_builtin; refine appR1 (α := Rp) el_rp rfl _ _ rfl _ Wk.heap.size _ _ _ _ x _ rfl rfl ho4 rfl hbz4 (by unfold maxLen; omega) (by omega) ?_; intro g3 c3 w3 ho3 hB3; refine hold ?_)
            refine held ?_
            have hE5 : Ext Wk w3 := Below.trans hE4 hB3
            clear y0 y1 y2 y3 y4 y5 y6 y7 y8 y9 q0 q1 q2 q3 q4 q5 q6 q7 q8 q9
            have hP5 := hP.ext hE5
            have hX5 := hX.ext hE5
            have hbz5 : Wk.heap.size ≤ w3.heap.size := hE5.sz
            have p6 := hP5.c 6 _ rfl
            have hr5 := (hb.rw.ext (hE.trans hE5)).at (show 0 < gn by omega)
            obtain ⟨gb2, go2, hge, hcg2⟩ := hr5
            simp only [Option.some.injEq, Addr.mk.injEq, and_true] at hge
            obtain ⟨rfl, rfl⟩ := hge
            have hr6 := hcg2 k hlt
            rw [sz_rp, HNY.out] at hr6
            obtain ⟨q0, q1, q2, q3, q4, q5, q6, q7, q8, q9⟩ := cells_rp hr6
            clear hcg2 hr6
            have ho6 := ho3
            clear ho3 hB3
            go_wp2_with (at_builtin; refine appR1 (α := Rp) el_rp rfl _ _ rfl _ Wk.heap.size _ _ _ _ y _ rfl rfl ho6 rfl hbz5 (by unfold maxLen; omega) (by omega) ?_; intro g7 c7 w7 ho7 hB7; refine hold ?_)
            refine held ?_
            go_wp2_with fail
            exact ⟨⟨k + 1, n + 1 + 1, _, _, by omega, by omega, Lib.hid (fun e => by rw [HS2.out] at e; cases e), rfl, by go_num, by rw [HS2.out], by rw [HS.out]; exact ho7, Below.trans hE5 hB7⟩, by simp [intOf]; omega⟩
          · obtain ⟨hs1, hs2⟩ := hsucc.2.2 hd hya
            have HS := Lib.hid hs1
            have HS2 := Lib.hid hs2
            have hq1 : decide (x.a < y.a) = false := decide_eq_false hya
            clear hsucc hs1 hs2 hya
            have hg := @grow_cell
            go_upto_region 14 with fail
            refine region_ext (by kernel_rfl) (by kernel_rfl) ?_
            repeat (go_big_quiet_step (fail))
            refine wpQuiet_nil ?_
            intro w4 hx4
            clear hg m1 m2 m3 y0 y1 y2 y3 y4 y5 y6 y7 y8 y9 hq1
            have ho4 := ho.ext hx4
            have hE4 := hEr.trans hx4
            have hbz4 : Wk.heap.size ≤ w4.heap.size := hE4.sz
            replace q0 := hx4.cell q0
            replace q1 := hx4.cell q1
            replace q2 := hx4.cell q2
            replace q3 := hx4.cell q3
            replace q4 := hx4.cell q4
            replace q5 := hx4.cell q5
            replace q6 := hx4.cell q6
            replace q7 := hx4.cell q7
            replace q8 := hx4.cell q8
            replace q9 := hx4.cell q9
            replace p6 := hx4.cell p6
            go_wp2_with (at_builtin; refine appR1 (α := Rp) el_rp rfl _ _ rfl _ Wk.heap.size _ _ _ _ y _ rfl rfl ho4 rfl hbz4 (by unfold maxLen; omega) (by omega) ?_; intro g3 c3 w3 ho3 hB3; refine hold ?_)
            refine held ?_
            go_wp2_with fail
            exact ⟨⟨k + 1, n + 1, _, _, by omega, by omega, Lib.hid (fun _ => by omega), rfl, by go_num, by rw [HS2.out], by rw [HS.out]; exact ho3, Below.trans hE4 hB3⟩, by simp [intOf]; omega⟩
        · obtain ⟨hs1, hs2⟩ := hsucc.1 hd
          have HS := Lib.hid hs1
          have HS2 := Lib.hid hs2
          clear hsucc hs1 hs2
          have hg := @grow_cell
          go_upto_region 14 with fail
          refine region_ext (by kernel_rfl) (by kernel_rfl) ?_
          repeat (go_big_quiet_step (fail))
          refine wpQuiet_nil ?_
          intro w4 hx4
          clear hg m1 m2 m3 y0 y1 y2 y3 y4 y5 y6 y7 y8 y9
          have ho4 := ho.ext hx4
          have hE4 := hEr.trans hx4
          have hbz4 : Wk.heap.size ≤ w4.heap.size := hE4.sz
          replace q0 := hx4.cell q0
          replace q1 := hx4.cell q1
          replace q2 := hx4.cell q2
          replace q3 := hx4.cell q3
          replace q4 := hx4.cell q4
          replace q5 := hx4.cell q5
          replace q6 := hx4.cell q6
          replace q7 := hx4.cell q7
          replace q8 := hx4.cell q8
          replace q9 := hx4.cell q9
          replace p6 := hx4.cell p6
          go_wp2_with (at_builtin; refine appR1 (α := Rp) el_rp rfl _ _ rfl _ Wk.heap.size _ _ _ _ y _ rfl rfl ho4 rfl hbz4 (by unfold maxLen; omega) (by omega) ?_; intro g3 c3 w3 ho3 hB3; refine hold ?_)
          refine held ?_
          go_wp2_with fail
          exact ⟨⟨k + 1, n + 1, _, _, by omega, by omega, Lib.hid (fun e => by rw [HS2.out] at e; cases e), rfl, by go_num, by rw [HS2.out], by rw [HS.out]; exact ho3, Below.trans hE4 hB3⟩, by simp [intOf]; omega⟩
      · obtain rfl : k = gn := by omega
        have hall := accR_all (r := x) (l := b.got)
        rw [HL.out] at hall
        rcases hd : doneR x b.got k with _ | _
        · have hI := hall.2 hd
          have HI := Lib.hid hI
          clear hall hd hI
          have y0 := hXr.c 0 _ rfl
          have y1 := hXr.c 1 _ rfl
          have y2 := hXr.c 2 _ rfl
          have y3 := hXr.c 3 _ rfl
          have y4 := hXr.c 4 _ rfl
          have y5 := hXr.c 5 _ rfl
          have y6 := hXr.c 6 _ rfl
          have y7 := hXr.c 7 _ rfl
          have y8 := hXr.c 8 _ rfl
          have y9 := hXr.c 9 _ rfl
          go_wp2_with (at_builtin; refine appR1 (α := Rp) el_rp rfl _ _ rfl _ Wk.heap.size _ _ _ _ x _ rfl rfl ho rfl hbz (by unfold maxLen; omega) (by omega) ?_; intro g3 c3 w3 ho3 hB3; refine hold ?_)
          refine held ?_
          clear p6 y0 y1 y2 y3 y4 y5 y6 y7 y8 y9
          rw [HI.out] at ho3
          have hE3 : Ext Wk w3 := Below.trans hEr hB3
          have hPe := hP.ext hE3
          have hRe := hR.ext hE3
          have hEe := hE.trans hE3
          have hfr := (ho3).frsh.1
          have hsz := hE.sz
          have hpl := hP.lt
          have hrl := hR.lt
          have hgo := (ho3).rw (by omega) HOKI.out
          have hapS := hb.sl.ap0 hpw
          have hapR := hb.sl.ap0 hrw
          have hslE := hb.sl.ext hEe
          have p0 := hPe.c 0 _ rfl
          have p1 := hPe.c 1 _ rfl
          have p2 := hPe.c 2 _ rfl
          have p3 := hPe.c 3 _ rfl
          have p4 := hPe.c 4 _ rfl
          have p5 := hPe.c 5 _ rfl
          have p6 := hPe.c 6 _ rfl
          have fp := hPe.free
          go_upto_region 21 with fail
          clear p0 p1 p2 p3 p4 p5 p6 fp
          have hP7 : Bk (w3.setCell ⟨pb, 6, none⟩ (.slice (some ⟨g3, 0, none⟩) (n + 1) c3)) pb 29 #[.int .i64 b.host, .int .i64 b.round, .int .u64 b.head, .int .i64 b.sent, .int .i64 b.wait, .slice sa sn sc, .slice (some ⟨g3, 0, none⟩) (n + 1) c3] := hPe.set 6 _
          have hR7 : Bk (w3.setCell ⟨pb, 6, none⟩ (.slice (some ⟨g3, 0, none⟩) (n + 1) c3)) rb 29 #[.int .i64 0, .int .i64 0, .int .u64 0, .int .i64 0, .int .i64 0, .slice none 0 0, .slice none 0 0] := (heap_setCell_other w3 ⟨pb, 6, none⟩ rb _ (Ne.symm hpr)).trans hRe
          have hE7 : Ext w (w3.setCell ⟨pb, 6, none⟩ (.slice (some ⟨g3, 0, none⟩) (n + 1) c3)) := hEe.setCell (p := ⟨pb, 6, none⟩) hpw _
          have hS7 := hslE.below (w' := w3.setCell ⟨pb, 6, none⟩ (.slice (some ⟨g3, 0, none⟩) (n + 1) c3)) (fun b' off ha hn => heap_setCell_other w3 ⟨pb, 6, none⟩ b' _ (hapS b' off ha hn))
          have hG7 := hgo.below (w' := w3.setCell ⟨pb, 6, none⟩ (.slice (some ⟨g3, 0, none⟩) (n + 1) c3)) (fun b' off ha hn => heap_setCell_other w3 ⟨pb, 6, none⟩ b' _ ((hfr.ap hpl) b' off ha hn))
          have p0 := hP7.c 0 _ rfl
          have p1 := hP7.c 1 _ rfl
          have p2 := hP7.c 2 _ rfl
          have p3 := hP7.c 3 _ rfl
          have p4 := hP7.c 4 _ rfl
          have p5 := hP7.c 5 _ rfl
          have p6 := hP7.c 6 _ rfl
          have z0 := hR7.c 0 _ rfl
          have z1 := hR7.c 1 _ rfl
          have z2 := hR7.c 2 _ rfl
          have z3 := hR7.c 3 _ rfl
          have z4 := hR7.c 4 _ rfl
          have z5 := hR7.c 5 _ rfl
          have z6 := hR7.c 6 _ rfl
          have fz := hR7.free
          go_wp2_with fail
          exact bodyPost_ret (res_rtake _ rb _ _ _ _ _ _ _ (.int .i64 1) (.int .i64 0) _ (by rfl) (by rfl) (by rfl) (Bk.set7 hR7 _ _ _ _ _ _ _)) rfl ⟨sa, sn, sc, (some ⟨g3, 0, none⟩), (n + 1), c3, by rw [HTK.out.1, HTK.out.2, HTE.out], by rw [HTK.out.1]; exact ⟨⟨HO.out.host, HO.out.round, HO.out.head, HO.out.sent, HO.out.wait⟩, hS7.set7 hapR _ _ _ _ _ _ _, hG7.set7 (hfr.ap hrl) _ _ _ _ _ _ _⟩, fun q hq h1 h2 => ⟨h1, hfr.ap (by omega)⟩, hE7.set7 hrw _ _ _ _ _ _ _⟩
        · have hI := hall.1 hd
          rw [hI] at ho
          clear hall hd hI p6
          have hPe := hP.ext hEr
          have hRe := hR.ext hEr
          have hEe := hE.trans hEr
          have hfr := (ho).frsh.1
          have hsz := hE.sz
          have hpl := hP.lt
          have hrl := hR.lt
          have hgo := (ho).rw (by omega) HOKI.out
          have hapS := hb.sl.ap0 hpw
          have hapR := hb.sl.ap0 hrw
          have hslE := hb.sl.ext hEe
          have p0 := hPe.c 0 _ rfl
          have p1 := hPe.c 1 _ rfl
          have p2 := hPe.c 2 _ rfl
          have p3 := hPe.c 3 _ rfl
          have p4 := hPe.c 4 _ rfl
          have p5 := hPe.c 5 _ rfl
          have p6 := hPe.c 6 _ rfl
          have fp := hPe.free
          go_upto_region 21 with fail
          clear p0 p1 p2 p3 p4 p5 p6 fp
          have hP7 : Bk (wr.setCell ⟨pb, 6, none⟩ (.slice oa n oc)) pb 29 #[.int .i64 b.host, .int .i64 b.round, .int .u64 b.head, .int .i64 b.sent, .int .i64 b.wait, .slice sa sn sc, .slice oa n oc] := hPe.set 6 _
          have hR7 : Bk (wr.setCell ⟨pb, 6, none⟩ (.slice oa n oc)) rb 29 #[.int .i64 0, .int .i64 0, .int .u64 0, .int .i64 0, .int .i64 0, .slice none 0 0, .slice none 0 0] := (heap_setCell_other wr ⟨pb, 6, none⟩ rb _ (Ne.symm hpr)).trans hRe
          have hE7 : Ext w (wr.setCell ⟨pb, 6, none⟩ (.slice oa n oc)) := hEe.setCell (p := ⟨pb, 6, none⟩) hpw _
          have hS7 := hslE.below (w' := wr.setCell ⟨pb, 6, none⟩ (.slice oa n oc)) (fun b' off ha hn => heap_setCell_other wr ⟨pb, 6, none⟩ b' _ (hapS b' off ha hn))
          have hG7 := hgo.below (w' := wr.setCell ⟨pb, 6, none⟩ (.slice oa n oc)) (fun b' off ha hn => heap_setCell_other wr ⟨pb, 6, none⟩ b' _ ((hfr.ap hpl) b' off ha hn))
          have p0 := hP7.c 0 _ rfl
          have p1 := hP7.c 1 _ rfl
          have p2 := hP7.c 2 _ rfl
          have p3 := hP7.c 3 _ rfl
          have p4 := hP7.c 4 _ rfl
          have p5 := hP7.c 5 _ rfl
          have p6 := hP7.c 6 _ rfl
          have z0 := hR7.c 0 _ rfl
          have z1 := hR7.c 1 _ rfl
          have z2 := hR7.c 2 _ rfl
          have z3 := hR7.c 3 _ rfl
          have z4 := hR7.c 4 _ rfl
          have z5 := hR7.c 5 _ rfl
          have z6 := hR7.c 6 _ rfl
          have fz := hR7.free
          go_wp2_with fail
          exact bodyPost_ret (res_rtake _ rb _ _ _ _ _ _ _ (.int .i64 1) (.int .i64 0) _ (by rfl) (by rfl) (by rfl) (Bk.set7 hR7 _ _ _ _ _ _ _)) rfl ⟨sa, sn, sc, oa, n, oc, by rw [HTK.out.1, HTK.out.2, HTE.out], by rw [HTK.out.1]; exact ⟨⟨HO.out.host, HO.out.round, HO.out.head, HO.out.sent, HO.out.wait⟩, hS7.set7 hapR _ _ _ _ _ _ _, hG7.set7 (hfr.ap hrl) _ _ _ _ _ _ _⟩, fun q hq h1 h2 => ⟨h1, hfr.ap (by omega)⟩, hE7.set7 hrw _ _ _ _ _ _ _⟩
  · have HK : Hid (tkB b (gpX bytes) t = b ∧ tkK b (gpX bytes) t = kdX b (gpX bytes) t) := Lib.hid (by
      refine tkB_same HTE.out rfl hk1)
    have hapS := hb.sl.ap0 hrw
    have hapG := hb.rw.ap0 hrw
    generalize kdX b (gpX bytes) t = K at *
    have hq1 : (K == 1) = false := by simp [hk1]
    have hq2 : (K != 1) = true := by simp [hk1]
    go_wp2_with fail
    exact bodyPost_ret (res_rtake _ rb _ _ _ _ _ _ _ (.int .i64 K) (.int .i64 0) _ (by rfl) (by rfl) (by rfl) (Bk.set7 hR _ _ _ _ _ _ _)) rfl ⟨sa, sn, sc, ga, gn, gc, by rw [HK.out.1, HK.out.2, HTE.out], by rw [HK.out.1]; exact ⟨HO.out, (hb.sl.ext hE).set7 hapS _ _ _ _ _ _ _, (hb.rw.ext hE).set7 hapG _ _ _ _ _ _ _⟩, fun _ _ h1 h2 => ⟨h1, h2⟩, hE.set7 hrw _ _ _ _ _ _ _⟩
end Go.Proofs.YtdmfdimhjemngaaGreatDoor
