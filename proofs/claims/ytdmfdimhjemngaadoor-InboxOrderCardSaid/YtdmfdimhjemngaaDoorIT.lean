/-
  A box that is opened for a chain: walked. Written by wip/gen_it.py.
-/
import Derived.Test.YtdmfdimhjemngaaDoorIS
namespace Go.Proofs.YtdmfdimhjemngaaDoor
open Go.RowKit Go.Sort Go.Shelf
set_option linter.unusedSimpArgs false
set_option linter.unusedVariables false
set_option maxRecDepth 100000

/-- Whether a box is opened. -/
def okU (host : Int) (rs : List (List Rp)) (sent wait : Int) : Bool := decide (0 ≤ sent ∧ sent ≤ 1000000000000) && (decide (0 ≤ wait ∧ wait ≤ 1000000000) && (fewB rs && (decide (rs.length < 200) && validF host rs)))
def bxU (host : Int) (rs : List (List Rp)) (sent wait au : Int) : Bx := ⟨host, (rs.length : Int) + 1, headF rs, sent, wait, askU au 16, []⟩
theorem okU_open {host : Int} {rs : List (List Rp)} {sent wait : Int} (au : Int) (h : okU host rs sent wait = true) :
    opnB host rs sent wait (askU au 16) = bxU host rs sent wait au ∧ opnE host rs sent wait (askU au 16) = 0 ∧ frmX (bxU host rs sent wait au) = true ∧ rqsX (bxU host rs sent wait au) = (askU au 16).map (rq1 (bxU host rs sent wait au)) := by
  unfold okU at h
  simp only [Bool.and_eq_true, decide_eq_true_eq] at h
  obtain ⟨h1, h2, _, h4, h5⟩ := h
  have hx : opnX host rs sent wait (askU au 16) = true := by
    unfold opnX
    rw [h5, inC_iff.2 ⟨h1.1, by omega⟩, inC_iff.2 h2, askU_ask au 16 (by omega)]
    rfl
  have hf := frm_open hx (by omega)
  refine ⟨hf.2.1, hf.1, hf.2.2, ?_⟩
  unfold rqsX
  rw [show frmX (bxU host rs sent wait au) = true from hf.2.2, if_pos rfl]
  rfl
def OpQ (host : Int) (rs : List (List Rp)) (sent wait au : Int) (w w' : World) (e : Ending) : Prop :=
  (okU host rs sent wait = false ∧ e = .returned (.tuple #[.agg #[.int .i64 0, .int .i64 0, .int .u64 0, .int .i64 0, .int .i64 0, .slice none 0 0, .slice none 0 0], .slice none 0 0, .bool false]) ∧ Ext w w') ∨
  (okU host rs sent wait = true ∧ ∃ sa sn sc ga gn gc la ln lc, e = .returned (.tuple #[.agg #[.int .i64 (bxU host rs sent wait au).host, .int .i64 (bxU host rs sent wait au).round, .int .u64 (bxU host rs sent wait au).head, .int .i64 (bxU host rs sent wait au).sent, .int .i64 (bxU host rs sent wait au).wait, .slice sa sn sc, .slice ga gn gc], .slice la ln lc, .bool true]) ∧ BxF w' (bxU host rs sent wait au) sa sn sc ga gn gc ∧ Rw w' la ln lc ((askU au 16).map (rq1 (bxU host rs sent wait au))) ∧ Ext w w')
theorem rq_apart {W : World} {rb : Nat} {a : Option Addr} {n c : Nat} {xs : List Rq} (hR : Bk W rb 33 #[.int .i64 0, .int .i64 0, .int .u64 0, .int .i64 0, .int .i64 0, .slice none 0 0, .slice none 0 0]) (h : Rw W a n c xs) : Aprt rb a n := by
  intro b off ha hn e
  subst e
  obtain ⟨b', off', he, hc⟩ := h.cells 0 hn
  rw [ha] at he
  simp only [Option.some.injEq, Addr.mk.injEq, and_true] at he
  obtain ⟨rfl, rfl⟩ := he
  have h3 := (cells_rq hc).2.2.2
  have hl := (show _ = _ from hR)
  simp only [World.cell?, hl, Nat.zero_mul, Nat.add_zero] at h3
  rcases Nat.lt_or_ge (off + 3) 7 with h7 | h7
  · have : off = 0 ∨ off = 1 ∨ off = 2 ∨ off = 3 := by omega
    rcases this with rfl | rfl | rfl | rfl <;> simp at h3
  · rw [Array.getElem?_eq_none (by simpa using h7)] at h3
    cases h3
theorem Rw.set7q {α : Type} [Cel α] {W : World} {b : Nat} {a : Option Addr} {n c : Nat} {xs : List α} (h : Rw W a n c xs) (hb : Aprt b a n) (v0 v1 v2 v3 v4 v5 v6 : Value) : Rw (((((((W.setCell ⟨b, 0, none⟩ (v0)).setCell ⟨b, 1, none⟩ (v1)).setCell ⟨b, 2, none⟩ (v2)).setCell ⟨b, 3, none⟩ (v3)).setCell ⟨b, 4, none⟩ (v4)).setCell ⟨b, 5, none⟩ (v5)).setCell ⟨b, 6, none⟩ (v6)) a n c xs := h.below (fun b' off ha hn => set7_other (hb b' off ha hn) _ _ _ _ _ _ _)
theorem res_opened (W : World) (b : Nat) (v0 v1 v2 v3 v4 v5 v6 l z : Value) (tmps : Array Value) (hb : tmps[8]?.getD undef = .pointer (some ⟨b, 0, none⟩)) (h9 : tmps[9]?.getD undef = l) (h10 : tmps[10]?.getD undef = z) (h : Bk W b 33 #[v0, v1, v2, v3, v4, v5, v6]) :
    (results Tryd.f9 tmps).run Tryd.prog W = .ok (.tuple #[.agg #[v0, v1, v2, v3, v4, v5, v6], l, z]) W := by
  have c0 := h.c 0 _ rfl
  have c1 := h.c 1 _ rfl
  have c2 := h.c 2 _ rfl
  have c3 := h.c 3 _ rfl
  have c4 := h.c 4 _ rfl
  have c5 := h.c 5 _ rfl
  have c6 := h.c 6 _ rfl
  simp [results, Tryd.results9, go_sem, hb, h9, h10, c0, c1, c2, c3, c4, c5, c6]

set_option maxHeartbeats 8000000 in
theorem opened_any (host : Int) (hho : (Lit.int .i64 host).wf = true) (ca : Option Addr) (cn cc : Nat) (rs : List (List Rp)) (sent wait : Int) (hse : (Lit.int .i64 sent).wf = true) (hwa : (Lit.int .i64 wait).wf = true) (au : Int) (hau : 0 ≤ au ∧ au ≤ 65535) (w : World)
    (h1 : Rws w ca cn cc rs) (ht : TB w) :
    Calls Tryd.prog 9 #[.agg #[.int .i64 host, .slice ca cn cc], .int .i64 sent, .int .i64 wait, .int .u16 au] w fun e w' => OpQ host rs sent wait au w w' e := by
  have bd := h1.bd
  have HT := Lib.hid ht
  have HL := Lib.hid h1.hlen
  have hE : Ext w ((w.alloc (.cells #[.int .i64 host, .slice ca cn cc] 24)).alloc (.cells #[.int .i64 0, .int .i64 0, .int .u64 0, .int .i64 0, .int .i64 0, .slice none 0 0, .slice none 0 0] 33)) := ((Ext.refl w).alloc _).alloc _
  have hC : Bk ((w.alloc (.cells #[.int .i64 host, .slice ca cn cc] 24)).alloc (.cells #[.int .i64 0, .int .i64 0, .int .u64 0, .int .i64 0, .int .i64 0, .slice none 0 0, .slice none 0 0] 33)) w.heap.size 24 #[.int .i64 host, .slice ca cn cc] := (Bk.new w 24 #[.int .i64 host, .slice ca cn cc]).ext ((Ext.refl _).alloc _)
  have hR := Bk.new (w.alloc (.cells #[.int .i64 host, .slice ca cn cc] 24)) 33 #[.int .i64 0, .int .i64 0, .int .u64 0, .int .i64 0, .int .i64 0, .slice none 0 0, .slice none 0 0]
  rw [World.size_alloc] at hR
  clear ht
  go_enter Tryd.func9, Tryd.ntmps9
  go_upto_region 1 with fail
  generalize (w.alloc (.cells #[.int .i64 host, .slice ca cn cc] 24)).alloc (.cells #[.int .i64 0, .int .i64 0, .int .u64 0, .int .i64 0, .int .i64 0, .slice none 0 0, .slice none 0 0] 33) = V at *
  obtain ⟨rb, hrb⟩ : ∃ rb, w.heap.size + 1 = rb := ⟨_, rfl⟩
  obtain ⟨cb, hcb⟩ : ∃ cb, w.heap.size = cb := ⟨_, rfl⟩
  rw [hrb] at hR ⊢
  have hrw : w.heap.size ≤ rb := by omega
  rw [hcb] at hC ⊢
  clear hrb hcb
  go_wp2_with fail
  go_loopw [11, 12] (fun s i wr => ∃ (k m cc : Nat) (aa : Option Addr), k ≤ 16 ∧ m ≤ k ∧ i = .int .i64 (k : Int) ∧ s = .slice aa m cc ∧ OwI .i64 3 V.heap.size wr aa m cc (askU au k) ∧ Ext V wr) (fun _ i _ => 16 - (intOf i).toNat)
  case atStart => exact ⟨0, 0, 0, none, by omega, by omega, rfl, rfl, OwI.nil _ _ _ _, Ext.refl V⟩
  case round =>
    obtain ⟨k, m, cap, aa, hk, hmk, rfl, rfl, ho, hEr⟩ := hrel
    by_cases hlt : k < 16
    · rcases bitV_01 hau k with h0 | h0
      · have HS : Hid (askU au (k + 1) = askU au k) := Lib.hid (by rw [askU_succ, h0, if_neg (by decide)])
        have hb : bits BinOp.and IntKind.u16 (au / 2 ^ k) 1 = 0 := h0
        clear h0
        go_wp2_with fail
        exact ⟨⟨k + 1, m, cap, aa, by omega, by omega, by go_num, rfl, by rw [HS.out]; exact ho, hEr⟩, by simp [intOf]; omega⟩
      · have HS : Hid (askU au (k + 1) = askU au k ++ [(k : Int) + 1]) := Lib.hid (by rw [askU_succ, h0, if_pos (by decide)])
        have hb : bits BinOp.and IntKind.u16 (au / 2 ^ k) 1 = 1 := h0
        clear h0
        have hlit := litSl .i64 3 wr wr.heap.size 1 [(k : Int) + 1] #[.int .i64 ((k : Int) + 1)] rfl rfl rfl (by simp [maxLen]) (by intro x hx; simp only [List.mem_singleton] at hx; subst hx; exact wf_of_i64 (by omega) (by omega))
        have ho2 := ho.ext ((Ext.refl wr).alloc (.cells #[.int .i64 ((k : Int) + 1)] 3))
        have hsz := hEr.sz
        go_wp2_with (at_builtin; refine appA el_i64 rfl _ _ rfl _ V.heap.size _ _ _ _ rfl ho2 _ _ _ _ rfl hlit (by simp; omega) (by unfold maxLen; omega) (by omega) ?_; intro a' c' w' ho3 hB3; refine hold ?_)
        refine held ?_
        go_wp2_with fail
        have hx3 : Ext V w' := Below.trans (hEr.alloc _) hB3
        exact ⟨⟨k + 1, m + 1, c', a', by omega, by omega, by go_num, rfl, by rw [HS.out]; exact ho3, hx3⟩, by simp [intOf]; omega⟩
    · obtain rfl : k = 16 := by omega
      have hS0 := ho.sl (askU_wf au (by omega))
      have HLN := Lib.hid ho.hlen
      have hCr := hC.ext hEr
      have hRr := hR.ext hEr
      have hEx := hE.trans hEr
      clear hC hR hE hEr ho
      have hC := hCr
      have hR := hRr
      have hE := hEx
      clear hCr hRr hEx
      have c0 := hC.c 0 _ rfl
      have c1 := hC.c 1 _ rfl
      have z0 := hR.c 0 _ rfl
      have z1 := hR.c 1 _ rfl
      have z2 := hR.c 2 _ rfl
      have z3 := hR.c 3 _ rfl
      have z4 := hR.c 4 _ rfl
      have z5 := hR.c 5 _ rfl
      have z6 := hR.c 6 _ rfl
      have fz := hR.free
      by_cases l1 : sent < 0
      · have q1 : decide (sent < 0) = true := decide_eq_true l1
        have HN : Hid (okU host rs sent wait = false) := Lib.hid (by unfold okU; rw [show decide (0 ≤ sent ∧ sent ≤ 1000000000000) = false from decide_eq_false (by omega)]; simp)
        clear l1
        go_wp2_with fail
        exact bodyPost_ret (res_opened _ rb (.int .i64 0) (.int .i64 0) (.int .u64 0) (.int .i64 0) (.int .i64 0) (.slice none 0 0) (.slice none 0 0) (.slice none 0 0) (.bool false) _ (by rfl) (by rfl) (by rfl) (Bk.set7 hR _ _ _ _ _ _ _)) rfl (.inl ⟨HN.out, rfl, hE.set7 hrw _ _ _ _ _ _ _⟩)
      by_cases u1 : 1000000000000 < sent
      · have q1 : decide (sent < 0) = false := decide_eq_false l1
        have q2 : decide (1000000000000 < sent) = true := decide_eq_true u1
        have HN : Hid (okU host rs sent wait = false) := Lib.hid (by unfold okU; rw [show decide (0 ≤ sent ∧ sent ≤ 1000000000000) = false from decide_eq_false (by omega)]; simp)
        clear l1 u1
        go_wp2_with fail
        exact bodyPost_ret (res_opened _ rb (.int .i64 0) (.int .i64 0) (.int .u64 0) (.int .i64 0) (.int .i64 0) (.slice none 0 0) (.slice none 0 0) (.slice none 0 0) (.bool false) _ (by rfl) (by rfl) (by rfl) (Bk.set7 hR _ _ _ _ _ _ _)) rfl (.inl ⟨HN.out, rfl, hE.set7 hrw _ _ _ _ _ _ _⟩)
      have q11 : decide (sent < 0) = false := decide_eq_false l1
      have q12 : decide (1000000000000 < sent) = false := decide_eq_false u1
      have C1 : Hid (decide (0 ≤ sent ∧ sent ≤ 1000000000000) = true) := Lib.hid (decide_eq_true ⟨by omega, by omega⟩)
      clear l1 u1
      by_cases l2 : wait < 0
      · have q1 : decide (wait < 0) = true := decide_eq_true l2
        have HN : Hid (okU host rs sent wait = false) := Lib.hid (by unfold okU; rw [show decide (0 ≤ wait ∧ wait ≤ 1000000000) = false from decide_eq_false (by omega)]; simp)
        clear l2
        go_wp2_with fail
        exact bodyPost_ret (res_opened _ rb (.int .i64 0) (.int .i64 0) (.int .u64 0) (.int .i64 0) (.int .i64 0) (.slice none 0 0) (.slice none 0 0) (.slice none 0 0) (.bool false) _ (by rfl) (by rfl) (by rfl) (Bk.set7 hR _ _ _ _ _ _ _)) rfl (.inl ⟨HN.out, rfl, hE.set7 hrw _ _ _ _ _ _ _⟩)
      by_cases u2 : 1000000000 < wait
      · have q1 : decide (wait < 0) = false := decide_eq_false l2
        have q2 : decide (1000000000 < wait) = true := decide_eq_true u2
        have HN : Hid (okU host rs sent wait = false) := Lib.hid (by unfold okU; rw [show decide (0 ≤ wait ∧ wait ≤ 1000000000) = false from decide_eq_false (by omega)]; simp)
        clear l2 u2
        go_wp2_with fail
        exact bodyPost_ret (res_opened _ rb (.int .i64 0) (.int .i64 0) (.int .u64 0) (.int .i64 0) (.int .i64 0) (.slice none 0 0) (.slice none 0 0) (.slice none 0 0) (.bool false) _ (by rfl) (by rfl) (by rfl) (Bk.set7 hR _ _ _ _ _ _ _)) rfl (.inl ⟨HN.out, rfl, hE.set7 hrw _ _ _ _ _ _ _⟩)
      have q21 : decide (wait < 0) = false := decide_eq_false l2
      have q22 : decide (1000000000 < wait) = false := decide_eq_false u2
      have C2 : Hid (decide (0 ≤ wait ∧ wait ≤ 1000000000) = true) := Lib.hid (decide_eq_true ⟨by omega, by omega⟩)
      clear l2 u2
      go_wp2_with fail
      refine (few12_any ca cn cc rs wr (h1.ext hE)).mono ?_
      rintro _ w1 ⟨rfl, rfl⟩
      rcases hf : fewB rs with _ | _
      · have HN : Hid (okU host rs sent wait = false) := Lib.hid (by unfold okU; rw [hf]; simp)
        clear hf
        go_wp2_with fail
        exact bodyPost_ret (res_opened _ rb (.int .i64 0) (.int .i64 0) (.int .u64 0) (.int .i64 0) (.int .i64 0) (.slice none 0 0) (.slice none 0 0) (.slice none 0 0) (.bool false) _ (by rfl) (by rfl) (by rfl) (Bk.set7 hR _ _ _ _ _ _ _)) rfl (.inl ⟨HN.out, rfl, hE.set7 hrw _ _ _ _ _ _ _⟩)
      have HF := Lib.hid hf
      have HSH := Lib.hid (fewB_short hf).1
      have hn60 := (fewB_short hf).2.1
      rw [HL.out] at hn60
      clear hf
      have hq200 : decide ((200 : Int) ≤ (cn : Int)) = false := by simp; omega
      go_wp2_with fail
      refine (rvalid_any host hho ca cn cc rs wr (h1.ext hE) (fun _ => HSH.out)).mono ?_
      rintro _ w2 ⟨rfl, hx⟩
      clear fz
      clear c0 c1 z0 z1 z2 z3 z4 z5 z6
      replace hC := hC.ext hx
      replace hR := hR.ext hx
      replace hS0 := hS0.ext hx
      replace hE := hE.trans hx
      clear hx
      have c0 := hC.c 0 _ rfl
      have c1 := hC.c 1 _ rfl
      have z0 := hR.c 0 _ rfl
      have z1 := hR.c 1 _ rfl
      have z2 := hR.c 2 _ rfl
      have z3 := hR.c 3 _ rfl
      have z4 := hR.c 4 _ rfl
      have z5 := hR.c 5 _ rfl
      have z6 := hR.c 6 _ rfl
      have fz := hR.free
      rcases hv : validF host rs with _ | _
      · have HN : Hid (okU host rs sent wait = false) := Lib.hid (by unfold okU; rw [hv]; simp)
        clear hv
        go_wp2_with fail
        exact bodyPost_ret (res_opened _ rb (.int .i64 0) (.int .i64 0) (.int .u64 0) (.int .i64 0) (.int .i64 0) (.slice none 0 0) (.slice none 0 0) (.slice none 0 0) (.bool false) _ (by rfl) (by rfl) (by rfl) (Bk.set7 hR _ _ _ _ _ _ _)) rfl (.inl ⟨HN.out, rfl, hE.set7 hrw _ _ _ _ _ _ _⟩)
      have HOK : Hid (okU host rs sent wait = true) := Lib.hid (by unfold okU; rw [C1.out, C2.out, HF.out, hv, decide_eq_true (show rs.length < 200 by rw [HL.out]; omega)]; rfl)
      clear hv
      have hop := (iopn_any host hho ca cn cc rs sent wait hse hwa aa m cap (askU au 16) w2 (h1.ext hE) (fun _ => HSH.out) hS0 (TB.ext HT.out hE))
      rw [(okU_open au HOK.out).1, (okU_open au HOK.out).2.1] at hop
      have HRQ := Lib.hid (okU_open au HOK.out).2.2
      have hblen : (bxU host rs sent wait au).asked.length = (askU au 16).length := rfl
      have HBL := Lib.hid hblen
      clear hblen
      generalize hbb : bxU host rs sent wait au = bb at *
      have HBB := Lib.hid hbb
      clear hbb
      go_wp2_with fail
      refine hop.mono ?_
      clear hop
      rintro _ w3 ⟨sa1, sn1, sc1, ga1, gn1, gc1, rfl, hF, hfr, hx⟩
      have hrb2 := hR.lt
      go_upto_region 10 with fail
      have hB := Bk.new w3 33 #[.int .i64 bb.host, .int .i64 bb.round, .int .u64 bb.head, .int .i64 bb.sent, .int .i64 bb.wait, .slice sa1 sn1 sc1, .slice ga1 gn1 gc1]
      replace hx := hx.alloc (.cells #[.int .i64 bb.host, .int .i64 bb.round, .int .u64 bb.head, .int .i64 bb.sent, .int .i64 bb.wait, .slice sa1 sn1 sc1, .slice ga1 gn1 gc1] 33)
      have hx2 : Ext w3 (w3.alloc (.cells #[.int .i64 bb.host, .int .i64 bb.round, .int .u64 bb.head, .int .i64 bb.sent, .int .i64 bb.wait, .slice sa1 sn1 sc1, .slice ga1 gn1 gc1] 33)) := (Ext.refl w3).alloc _
      generalize w3.alloc (.cells #[.int .i64 bb.host, .int .i64 bb.round, .int .u64 bb.head, .int .i64 bb.sent, .int .i64 bb.wait, .slice sa1 sn1 sc1, .slice ga1 gn1 gc1] 33) = V3 at *
      generalize w3.heap.size = b3 at hB ⊢
      replace hF := hF.ext hx2
      clear hx2 fz
      clear c0 c1 z0 z1 z2 z3 z4 z5 z6
      replace hR := hR.ext hx
      replace hE := hE.trans hx
      clear hx hC hS0
      have x0 := hB.c 0 _ rfl
      have x1 := hB.c 1 _ rfl
      have x2 := hB.c 2 _ rfl
      have x3 := hB.c 3 _ rfl
      have x4 := hB.c 4 _ rfl
      have x5 := hB.c 5 _ rfl
      have x6 := hB.c 6 _ rfl
      go_wp2_with fail
      refine (irqs_any bb sa1 sn1 sc1 ga1 gn1 gc1 V3 hF (TB.ext HT.out hE)).mono ?_
      rintro _ w4 ⟨la, ln, lc, rfl, hL, hx⟩
      rw [HRQ.out.2] at hL
      have hok0 : okE (frmX bb) = 0 := by rw [HRQ.out.1]; rfl
      rw [hok0]
      clear hok0 x0 x1 x2 x3 x4 x5 x6
      replace hB := hB.ext hx
      replace hR := hR.ext hx
      replace hF := hF.ext hx
      replace hE := hE.trans hx
      clear hx
      have hlm : ln = m := by rw [← hL.hlen, List.length_map, HLN.out]
      subst hlm
      have bl := hL.bd
      have x0 := hB.c 0 _ rfl
      have x1 := hB.c 1 _ rfl
      have x2 := hB.c 2 _ rfl
      have x3 := hB.c 3 _ rfl
      have x4 := hB.c 4 _ rfl
      have x5 := hB.c 5 _ rfl
      have x6 := hB.c 6 _ rfl
      have z0 := hR.c 0 _ rfl
      have z1 := hR.c 1 _ rfl
      have z2 := hR.c 2 _ rfl
      have z3 := hR.c 3 _ rfl
      have z4 := hR.c 4 _ rfl
      have z5 := hR.c 5 _ rfl
      have z6 := hR.c 6 _ rfl
      have fz := hR.free
      go_wp2_with fail
      have hap1 : Aprt rb sa1 sn1 := hfr.1.ap hrb2
      have hap2 : Aprt rb ga1 gn1 := hfr.2.ap hrb2
      have hap3 : Aprt rb la ln := rq_apart hR hL
      exact bodyPost_ret (res_opened _ rb _ _ _ _ _ _ _ (.slice la ln lc) (.bool true) _ (by rfl) (by rfl) (by rfl) (Bk.set7 hR _ _ _ _ _ _ _)) rfl (.inr ⟨HOK.out, sa1, sn1, sc1, ga1, gn1, gc1, la, ln, lc, by rw [HBB.out], by rw [HBB.out]; exact ⟨hF.ok, hF.sl.set7 hap1 _ _ _ _ _ _ _, hF.rw.set7 hap2 _ _ _ _ _ _ _⟩, by rw [HBB.out]; exact hL.set7q hap3 _ _ _ _ _ _ _, hE.set7 hrw _ _ _ _ _ _ _⟩)
end Go.Proofs.YtdmfdimhjemngaaDoor
