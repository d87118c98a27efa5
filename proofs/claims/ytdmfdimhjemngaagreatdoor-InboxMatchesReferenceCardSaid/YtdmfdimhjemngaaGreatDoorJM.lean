/-
  The reference's Open, Close, Requests, SameRequests, walked. Written by wip/gen_jm.py.
-/
import Derived.Test.YtdmfdimhjemngaaGreatDoorIQ
namespace Go.Proofs.YtdmfdimhjemngaaGreatDoor
open Go.RowKit Go.Sort Go.Shelf
set_option linter.unusedSimpArgs false
set_option linter.unusedVariables false
set_option maxRecDepth 100000

theorem Sl.ap0 {k : IntKind} {w : World} {a : Option Addr} {n c : Nat} {xs : List Int} (h : Sl k w a n c xs) {pb : Nat} (hb : w.heap.size ≤ pb) : Aprt pb a n := by
  intro b off ha hn e
  obtain ⟨b', off', he, hc⟩ := h.at hn
  rw [ha] at he
  simp only [Option.some.injEq, Addr.mk.injEq, and_true] at he
  have := lt_of_cell (hc 0 hn)
  simp only at this
  omega
theorem Rw.ap0 {w : World} {a : Option Addr} {n c : Nat} {xs : List Rp} (h : Rw w a n c xs) {pb : Nat} (hb : w.heap.size ≤ pb) : Aprt pb a n := by
  intro b off ha hn e
  obtain ⟨b', off', he, hc⟩ := h.at hn
  rw [ha] at he
  simp only [Option.some.injEq, Addr.mk.injEq, and_true] at he
  have := lt_of_cell (hc 0 hn 0 _ rfl)
  simp only at this
  omega
theorem res_ropn (W : World) (b : Nat) (v0 v1 v2 v3 v4 v5 v6 z : Value) (tmps : Array Value) (hb : tmps[8]?.getD undef = .pointer (some ⟨b, 0, none⟩)) (h9 : tmps[9]?.getD undef = z) (h : Bk W b 29 #[v0, v1, v2, v3, v4, v5, v6]) :
    (results Tryz.f8 tmps).run Tryz.prog W = .ok (.tuple #[.agg #[v0, v1, v2, v3, v4, v5, v6], z]) W := by
  have c0 := h.c 0 _ rfl
  have c1 := h.c 1 _ rfl
  have c2 := h.c 2 _ rfl
  have c3 := h.c 3 _ rfl
  have c4 := h.c 4 _ rfl
  have c5 := h.c 5 _ rfl
  have c6 := h.c 6 _ rfl
  simp [results, Tryz.results8, go_sem, hb, h9, c0, c1, c2, c3, c4, c5, c6]

set_option maxHeartbeats 8000000 in
theorem ropn_any (host : Int) (hho : (Lit.int .i64 host).wf = true) (ca : Option Addr) (cn cc : Nat) (rs : List (List Rp)) (sent wait : Int) (hse : (Lit.int .i64 sent).wf = true) (hwa : (Lit.int .i64 wait).wf = true) (wa : Option Addr) (wn wc : Nat) (who : List Int) (w : World)
    (h1 : Rws w ca cn cc rs) (hs : Short2 cn rs) (h2 : Sl .i64 w wa wn wc who) :
    Calls Tryz.prog 8 #[.agg #[.int .i64 host, .slice ca cn cc], .int .i64 sent, .int .i64 wait, .slice wa wn wc] w fun e w' => BxP w w' e (opnB host rs sent wait who) (opnE host rs sent wait who) := by
  have bd := h1.bd
  have bd2 := h2.bd
  have HL := Lib.hid h1.hlen
  have HS := Lib.hid hs
  have hE : Ext w ((w.alloc (.cells #[.int .i64 host, .slice ca cn cc] 24)).alloc (.cells #[.int .i64 0, .int .i64 0, .int .u64 0, .int .i64 0, .int .i64 0, .slice none 0 0, .slice none 0 0] 29)) := ((Ext.refl w).alloc _).alloc _
  have hC : Bk ((w.alloc (.cells #[.int .i64 host, .slice ca cn cc] 24)).alloc (.cells #[.int .i64 0, .int .i64 0, .int .u64 0, .int .i64 0, .int .i64 0, .slice none 0 0, .slice none 0 0] 29)) w.heap.size 24 #[.int .i64 host, .slice ca cn cc] := (Bk.new w 24 #[.int .i64 host, .slice ca cn cc]).ext ((Ext.refl _).alloc _)
  have hR := Bk.new (w.alloc (.cells #[.int .i64 host, .slice ca cn cc] 24)) 29 #[.int .i64 0, .int .i64 0, .int .u64 0, .int .i64 0, .int .i64 0, .slice none 0 0, .slice none 0 0]
  rw [World.size_alloc] at hR
  clear hs
  go_enter Tryz.func8, Tryz.ntmps8
  go_upto_region 1 with fail
  generalize (w.alloc (.cells #[.int .i64 host, .slice ca cn cc] 24)).alloc (.cells #[.int .i64 0, .int .i64 0, .int .u64 0, .int .i64 0, .int .i64 0, .slice none 0 0, .slice none 0 0] 29) = V at *
  obtain ⟨rb, hrb⟩ : ∃ rb, w.heap.size + 1 = rb := ⟨_, rfl⟩
  obtain ⟨cb, hcb⟩ : ∃ cb, w.heap.size = cb := ⟨_, rfl⟩
  rw [hrb] at hR ⊢
  have hrw : w.heap.size ≤ rb := by omega
  rw [hcb] at hC ⊢
  clear hrb hcb
  have c0 := hC.c 0 _ rfl
  have c1 := hC.c 1 _ rfl
  have z0 := hR.c 0 _ rfl
  have z1 := hR.c 1 _ rfl
  have z2 := hR.c 2 _ rfl
  have z3 := hR.c 3 _ rfl
  have z4 := hR.c 4 _ rfl
  have z5 := hR.c 5 _ rfl
  have z6 := hR.c 6 _ rfl
  have fz := hR.free
  go_wp2_with fail
  refine (rvalid_any host hho ca cn cc rs V (h1.ext hE) HS.out).mono ?_
  rintro _ w1 ⟨rfl, hx⟩
  clear c0 c1 z0 z1 z2 z3 z4 z5 z6 fz
  replace hC := hC.ext hx
  replace hR := hR.ext hx
  replace hE := hE.trans hx
  clear hx
  have c0 := hC.c 0 _ rfl
  have c1 := hC.c 1 _ rfl
  have z0 := hR.c 0 _ rfl
  have z1 := hR.c 1 _ rfl
  have z2 := hR.c 2 _ rfl
  have z3 := hR.c 3 _ rfl
  have z4 := hR.c 4 _ rfl
  have z5 := hR.c 5 _ rfl
  have z6 := hR.c 6 _ rfl
  have fz := hR.free
  go_wp2_with fail
  refine (rasked_any wa wn wc who w1 (h2.ext hE)).mono ?_
  rintro _ w2 ⟨rfl, hx⟩
  clear c0 c1 z0 z1 z2 z3 z4 z5 z6 fz
  replace hC := hC.ext hx
  replace hR := hR.ext hx
  replace hE := hE.trans hx
  clear hx
  have c0 := hC.c 0 _ rfl
  have c1 := hC.c 1 _ rfl
  have z0 := hR.c 0 _ rfl
  have z1 := hR.c 1 _ rfl
  have z2 := hR.c 2 _ rfl
  have z3 := hR.c 3 _ rfl
  have z4 := hR.c 4 _ rfl
  have z5 := hR.c 5 _ rfl
  have z6 := hR.c 6 _ rfl
  have fz := hR.free
  rcases hv : validF host rs with _ | _
  · have HE : Hid (opnE host rs sent wait who = 1) := Lib.hid (opnE_no (by unfold opnX; rw [hv]; rfl))
    clear hv
    go_wp2_with fail
    exact bodyPost_ret (res_ropn _ rb (.int .i64 0) (.int .i64 0) (.int .u64 0) (.int .i64 0) (.int .i64 0) (.slice none 0 0) (.slice none 0 0) (.int .i64 1) _ (by rfl) (by rfl) (Bk.set7 hR _ _ _ _ _ _ _)) rfl ⟨none, 0, 0, none, 0, 0, by rw [opnB_no HE.out (by decide), HE.out]; rfl, by rw [opnB_no HE.out (by decide)]; exact bx0_f _, hE.set7 hrw _ _ _ _ _ _ _⟩
  have HV := Lib.hid hv
  clear hv
  rcases q1 : inC sent 0 3000000000000000 with _ | _
  · have HE : Hid (opnE host rs sent wait who = 1) := Lib.hid (opnE_no (by unfold opnX; rw [q1]; simp))
    have r1 := fun (W : World) => rreading_any sent W
    rw [q1] at r1
    clear q1
    go_wp2_with (go_at_call 27; refine (r1 _).mono ?_; rintro e w' ⟨rfl, rfl⟩)
    exact bodyPost_ret (res_ropn _ rb (.int .i64 0) (.int .i64 0) (.int .u64 0) (.int .i64 0) (.int .i64 0) (.slice none 0 0) (.slice none 0 0) (.int .i64 1) _ (by rfl) (by rfl) (Bk.set7 hR _ _ _ _ _ _ _)) rfl ⟨none, 0, 0, none, 0, 0, by rw [opnB_no HE.out (by decide), HE.out]; rfl, by rw [opnB_no HE.out (by decide)]; exact bx0_f _, hE.set7 hrw _ _ _ _ _ _ _⟩
  have r1 := fun (W : World) => rreading_any sent W
  rw [q1] at r1
  have Q1 := Lib.hid q1
  clear q1
  rcases q2 : inC wait 0 1000000000 with _ | _
  · have HE : Hid (opnE host rs sent wait who = 1) := Lib.hid (opnE_no (by unfold opnX; rw [q2]; simp))
    have r2 := fun (W : World) => rwait_any wait W
    rw [q2] at r2
    clear q2
    go_wp2_with ((first | (go_at_call 27; refine (r1 _).mono ?_) | (go_at_call 28; refine (r2 _).mono ?_)); rintro e w' ⟨rfl, rfl⟩)
    exact bodyPost_ret (res_ropn _ rb (.int .i64 0) (.int .i64 0) (.int .u64 0) (.int .i64 0) (.int .i64 0) (.slice none 0 0) (.slice none 0 0) (.int .i64 1) _ (by rfl) (by rfl) (Bk.set7 hR _ _ _ _ _ _ _)) rfl ⟨none, 0, 0, none, 0, 0, by rw [opnB_no HE.out (by decide), HE.out]; rfl, by rw [opnB_no HE.out (by decide)]; exact bx0_f _, hE.set7 hrw _ _ _ _ _ _ _⟩
  have r2 := fun (W : World) => rwait_any wait W
  rw [q2] at r2
  have Q2 := Lib.hid q2
  clear q2
  rcases qa : askB who with _ | _
  · have HE : Hid (opnE host rs sent wait who = 1) := Lib.hid (opnE_no (by unfold opnX; rw [qa]; simp))
    clear qa
    go_wp2_with ((first | (go_at_call 27; refine (r1 _).mono ?_) | (go_at_call 28; refine (r2 _).mono ?_)); rintro e w' ⟨rfl, rfl⟩)
    exact bodyPost_ret (res_ropn _ rb (.int .i64 0) (.int .i64 0) (.int .u64 0) (.int .i64 0) (.int .i64 0) (.slice none 0 0) (.slice none 0 0) (.int .i64 1) _ (by rfl) (by rfl) (Bk.set7 hR _ _ _ _ _ _ _)) rfl ⟨none, 0, 0, none, 0, 0, by rw [opnB_no HE.out (by decide), HE.out]; rfl, by rw [opnB_no HE.out (by decide)]; exact bx0_f _, hE.set7 hrw _ _ _ _ _ _ _⟩
  have HX : Hid (opnX host rs sent wait who = true) := Lib.hid (by unfold opnX; rw [HV.out, Q1.out, Q2.out, qa]; rfl)
  clear qa
  by_cases hn : cn = 200
  · have HE : Hid (opnE host rs sent wait who = 2) := Lib.hid (by unfold opnE; rw [if_pos HX.out, if_pos (by rw [HL.out]; exact hn)])
    have hq : ((cn : Int) == 200) = true := by simp [hn]
    clear hn
    go_wp2_with ((first | (go_at_call 27; refine (r1 _).mono ?_) | (go_at_call 28; refine (r2 _).mono ?_)); rintro e w' ⟨rfl, rfl⟩)
    exact bodyPost_ret (res_ropn _ rb (.int .i64 0) (.int .i64 0) (.int .u64 0) (.int .i64 0) (.int .i64 0) (.slice none 0 0) (.slice none 0 0) (.int .i64 2) _ (by rfl) (by rfl) (Bk.set7 hR _ _ _ _ _ _ _)) rfl ⟨none, 0, 0, none, 0, 0, by rw [opnB_no HE.out (by decide), HE.out]; rfl, by rw [opnB_no HE.out (by decide)]; exact bx0_f _, hE.set7 hrw _ _ _ _ _ _ _⟩
  have hq : ((cn : Int) == 200) = false := by simp; omega
  have hlen := validF_len HV.out
  rw [HL.out] at hlen
  have HSH : Hid (Short rs) := Lib.hid (HS.out hlen)
  have HFO := Lib.hid (frm_open HX.out (by rw [HL.out]; exact hn))
  clear hn
  have hrng := headF_rng rs
  have hwr : IntKind.i64.wrap ((cn : Int) + 1) = (cn : Int) + 1 := IntWalk.i64_in _ (by omega)
  go_upto_region 7 with ((first | (go_at_call 27; refine (r1 _).mono ?_) | (go_at_call 28; refine (r2 _).mono ?_)); rintro e w' ⟨rfl, rfl⟩)
  clear hq r1 r2
  have hlC := hC.lt
  have hg := @grow_cell
  have hhd := fun (W : World) (hW : Ext w2 W) => rheadf_any ca cn cc rs W (h1.ext (hE.trans hW)) HSH.out
  have HHD := Lib.hid hhd
  clear hhd
  refine region_tail 13 (by kernel_rfl) (by kernel_rfl) ?_
  simp only [List.take_succ_cons, List.take_zero, List.drop_succ_cons, List.drop_zero]
  repeat (go_big_quiet_step ((go_at_call 29; exact Calls.regrown_of (HHD.out _ (ext_grow _ _ _)))))
  refine wpQuiet_nil ?_
  intro w3 hx
  clear hg hlC
  clear c0 c1 z0 z1 z2 z3 z4 z5 z6 fz
  replace hC := hC.ext hx
  replace hR := hR.ext hx
  replace hE := hE.trans hx
  clear hx
  have c0 := hC.c 0 _ rfl
  have c1 := hC.c 1 _ rfl
  have z0 := hR.c 0 _ rfl
  have z1 := hR.c 1 _ rfl
  have z2 := hR.c 2 _ rfl
  have z3 := hR.c 3 _ rfl
  have z4 := hR.c 4 _ rfl
  have z5 := hR.c 5 _ rfl
  have z6 := hR.c 6 _ rfl
  have fz := hR.free
  go_wp2_with fail
  have hap := h2.ap0 hrw
  exact bodyPost_ret (res_ropn _ rb (.int .i64 host) (.int .i64 ((cn : Int) + 1)) (.int .u64 (headF rs)) (.int .i64 sent) (.int .i64 wait) (.slice wa wn wc) (.slice none 0 0) (.int .i64 0) _ (by rfl) (by rfl) (Bk.set7 hR _ _ _ _ _ _ _)) rfl ⟨wa, wn, wc, none, 0, 0, by rw [HFO.out.2.1, HFO.out.1, HL.out], by rw [HFO.out.2.1, HL.out]; exact ⟨⟨hho, wf_of_i64 (by simp; omega) (by simp; omega), hrng, hse, hwa⟩, (h2.ext hE).set7 hap _ _ _ _ _ _ _, Rw.nil _⟩, hE.set7 hrw _ _ _ _ _ _ _⟩
theorem res_rcls (W : World) (b : Nat) (v0 z : Value) (tmps : Array Value) (hb : tmps[2]?.getD undef = .pointer (some ⟨b, 0, none⟩)) (h3 : tmps[3]?.getD undef = z) (h : Bk W b 45 #[v0]) :
    (results Tryz.f16 tmps).run Tryz.prog W = .ok (.tuple #[.agg #[v0], z]) W := by
  have c0 := h.c 0 _ rfl
  simp [results, Tryz.results16, go_sem, hb, h3, c0]
set_option maxHeartbeats 4000000 in
theorem rcls_any (b : Bx) (sa : Option Addr) (sn sc : Nat) (ga : Option Addr) (gn gc : Nat) (w : World) (hb : BxF w b sa sn sc ga gn gc) :
    Calls Tryz.prog 16 #[.agg #[.int .i64 b.host, .int .i64 b.round, .int .u64 b.head, .int .i64 b.sent, .int .i64 b.wait, .slice sa sn sc, .slice ga gn gc]] w fun e w' => ∃ a n c, e = .returned (.tuple #[.agg #[.slice a n c], .int .i64 (okE (frmX b))]) ∧ Rw w' a n c (clsX b) ∧ Ext w w' := by
  have hE : Ext w ((w.alloc (.cells #[.int .i64 b.host, .int .i64 b.round, .int .u64 b.head, .int .i64 b.sent, .int .i64 b.wait, .slice sa sn sc, .slice ga gn gc] 29)).alloc (.cells #[.slice none 0 0] 45)) := ((Ext.refl w).alloc _).alloc _
  have hP : Bk ((w.alloc (.cells #[.int .i64 b.host, .int .i64 b.round, .int .u64 b.head, .int .i64 b.sent, .int .i64 b.wait, .slice sa sn sc, .slice ga gn gc] 29)).alloc (.cells #[.slice none 0 0] 45)) w.heap.size 29 #[.int .i64 b.host, .int .i64 b.round, .int .u64 b.head, .int .i64 b.sent, .int .i64 b.wait, .slice sa sn sc, .slice ga gn gc] := (Bk.new w 29 #[.int .i64 b.host, .int .i64 b.round, .int .u64 b.head, .int .i64 b.sent, .int .i64 b.wait, .slice sa sn sc, .slice ga gn gc]).ext ((Ext.refl _).alloc _)
  have hR := Bk.new (w.alloc (.cells #[.int .i64 b.host, .int .i64 b.round, .int .u64 b.head, .int .i64 b.sent, .int .i64 b.wait, .slice sa sn sc, .slice ga gn gc] 29)) 45 #[.slice none 0 0]
  rw [World.size_alloc] at hR
  go_enter Tryz.func16, Tryz.ntmps16
  go_upto_region 1 with fail
  generalize (w.alloc (.cells #[.int .i64 b.host, .int .i64 b.round, .int .u64 b.head, .int .i64 b.sent, .int .i64 b.wait, .slice sa sn sc, .slice ga gn gc] 29)).alloc (.cells #[.slice none 0 0] 45) = V at *
  obtain ⟨rb, hrb⟩ : ∃ rb, w.heap.size + 1 = rb := ⟨_, rfl⟩
  obtain ⟨pb, hpb⟩ : ∃ pb, w.heap.size = pb := ⟨_, rfl⟩
  rw [hrb] at hR ⊢
  have hrw : w.heap.size ≤ rb := by omega
  rw [hpb] at hP ⊢
  clear hrb hpb
  have p0 := hP.c 0 _ rfl
  have p1 := hP.c 1 _ rfl
  have p2 := hP.c 2 _ rfl
  have p3 := hP.c 3 _ rfl
  have p4 := hP.c 4 _ rfl
  have p5 := hP.c 5 _ rfl
  have p6 := hP.c 6 _ rfl
  go_wp2_with fail
  refine (rForm_any b sa sn sc ga gn gc V (hb.ext hE)).mono ?_
  rintro _ w1 ⟨rfl, hx⟩
  clear p0 p1 p2 p3 p4 p5 p6
  replace hP := hP.ext hx
  replace hR := hR.ext hx
  replace hE := hE.trans hx
  clear hx
  have p0 := hP.c 0 _ rfl
  have p1 := hP.c 1 _ rfl
  have p2 := hP.c 2 _ rfl
  have p3 := hP.c 3 _ rfl
  have p4 := hP.c 4 _ rfl
  have p5 := hP.c 5 _ rfl
  have p6 := hP.c 6 _ rfl
  have z0 := hR.c 0 _ rfl
  have fz := hR.free
  rcases hf : frmX b with _ | _
  · have HC : Hid (clsX b = []) := Lib.hid (by unfold clsX; rw [hf]; rfl)
    have HZ : Hid (okE (frmX b) = 1) := Lib.hid (by rw [hf]; rfl)
    clear hf
    go_wp2_with fail
    exact bodyPost_ret (res_rcls _ rb (.slice none 0 0) (.int .i64 1) _ (by rfl) (by rfl) (hR.set 0 _)) rfl ⟨none, 0, 0, by rw [HZ.out], by rw [HC.out]; exact Rw.nil _, hE.setCell (p := ⟨rb, 0, none⟩) hrw _⟩
  have HC : Hid (clsX b = b.got) := Lib.hid (by unfold clsX; rw [hf]; rfl)
  have HZ : Hid (okE (frmX b) = 0) := Lib.hid (by rw [hf]; rfl)
  clear hf
  go_wp2_with fail
  have hap := hb.rw.ap0 hrw
  exact bodyPost_ret (res_rcls _ rb (.slice ga gn gc) (.int .i64 0) _ (by rfl) (by rfl) (hR.set 0 _)) rfl ⟨ga, gn, gc, by rw [HZ.out], by rw [HC.out]; exact (hb.rw.ext hE).below (fun b' off ha hn => heap_setCell_other _ ⟨rb, 0, none⟩ b' _ (hap b' off ha hn)), hE.setCell (p := ⟨rb, 0, none⟩) hrw _⟩
end Go.Proofs.YtdmfdimhjemngaaGreatDoor
