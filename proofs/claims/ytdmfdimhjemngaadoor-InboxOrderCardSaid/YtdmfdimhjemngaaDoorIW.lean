/-
  The law InboxChain. Written by wip/gen_iw.py.
-/
import Derived.Test.YtdmfdimhjemngaaDoorIU
namespace Go.Proofs.YtdmfdimhjemngaaDoor
open Go.RowKit Go.Sort Go.Shelf
set_option linter.unusedSimpArgs false
set_option linter.unusedVariables false
set_option maxRecDepth 100000

/-- A box of the chain's next round. -/
structure BxC (host : Int) (rs : List (List Rp)) (B : Bx) : Prop where
  host : B.host = host
  round : B.round = (rs.length : Int) + 1
  head : B.head = headF rs
  sent : B.sent = 5
  frm : frmX B = true
theorem BxC.len {host : Int} {rs : List (List Rp)} {B : Bx} (h : BxC host rs B) : B.asked.length ≤ 16 ∧ B.got.length ≤ 16 := ⟨askB_len (frmX_iff.1 h.frm).asked, frm_got_len (frmX_iff.1 h.frm)⟩
theorem BxC.first {host : Int} {rs : List (List Rp)} {wait au : Int} (h : okU host rs 5 wait = true) : BxC host rs (bxU host rs 5 wait au) := ⟨rfl, rfl, rfl, rfl, (okU_open au h).2.2.1⟩
theorem BxC.take {host : Int} {rs : List (List Rp)} {B : Bx} (h : BxC host rs B) {bytes : List Int} (hw : ∀ y ∈ bytes, (Lit.int .u8 y).wf = true) {k : Nat} (hk : k ≤ 1000) : tkE B (5 + (k : Int)) = 0 ∧ BxC host rs (tkB B (gpX bytes) (5 + (k : Int))) := by
  have e : tkE B (5 + (k : Int)) = 0 := tkE_zero h.frm (by omega) (by omega) (by rw [h.sent]; omega)
  refine ⟨e, ?_⟩
  have hf := tk_frm (t := 5 + (k : Int)) (p := gpX bytes) h.frm (fun r hr => (gpX_conv hw hr).1)
  have hb : tkB B (gpX bytes) (5 + (k : Int)) = { B with got := gotX B (gpX bytes) (5 + (k : Int)) } := by unfold tkB; rw [if_pos e]
  rw [hb]
  exact ⟨h.host, h.round, h.head, h.sent, hf⟩
theorem BxC.fits {host : Int} {rs : List (List Rp)} {B : Bx} (h : BxC host rs B) : fitsF host ((rs.length : Int) + 1) (headF rs) B.got = true := by
  have := fits_of_got (frmX_iff.1 h.frm)
  rw [h.host, h.round, h.head] at this
  exact this

set_option maxHeartbeats 8000000 in
theorem ichain_law (host : Int) (hho : (Lit.int .i64 host).wf = true) (ca : Option Addr) (cn cc : Nat) (rs : List (List Rp)) (au : Int) (hau : 0 ≤ au ∧ au ≤ 65535) (qa : Option Addr) (qn qc : Nat) (pks : List (List Int)) (w : World)
    (h1 : Rws w ca cn cc rs) (hq : Sll .u8 w qa qn qc pks) (ht : TB w) :
    Calls Tryd.prog 7 #[.agg #[.int .i64 host, .slice ca cn cc], .int .u16 au, .slice qa qn qc] w fun e w' => e = .returned (.bool true) ∧ Ext w w' := by
  have bd := h1.bd
  have bq : qn ≤ qc ∧ qc ≤ 9223372036854775807 := ⟨hq.le, by have := hq.max; unfold maxLen at this; omega⟩
  have HT := Lib.hid ht
  have HL := Lib.hid h1.hlen
  have hC := Bk.new w 24 #[.int .i64 host, .slice ca cn cc]
  have hE : Ext w (w.alloc (.cells #[.int .i64 host, .slice ca cn cc] 24)) := (Ext.refl w).alloc _
  clear ht
  go_enter Tryd.func7, Tryd.ntmps7
  go_upto_region 1 with fail
  generalize w.alloc (.cells #[.int .i64 host, .slice ca cn cc] 24) = V at *
  generalize w.heap.size = cb at hC ⊢
  have c0 := hC.c 0 _ rfl
  have c1 := hC.c 1 _ rfl
  go_wp2_with fail
  refine (ihead_any V (TB.ext HT.out hE)).mono ?_
  rintro _ w1 ⟨rfl, hx⟩
  clear c0 c1
  replace hC := hC.ext hx
  replace hE := hE.trans hx
  clear hx
  have c0 := hC.c 0 _ rfl
  have c1 := hC.c 1 _ rfl
  go_wp2_with fail
  refine (opened_any host hho ca cn cc rs 5 100 rfl rfl au hau w1 (h1.ext hE) (TB.ext HT.out hE)).mono ?_
  rintro _ w2 (⟨ho, rfl, hx⟩ | ⟨ho, sa, sn, sc, ga, gn, gc, la, ln, lc, rfl, hF, hL, hx⟩)
  · clear c0 c1
    replace hE := hE.trans hx
    go_wp2_with fail
    go_ret
    exact ⟨rfl, hE.alloc _⟩
  · have HO := Lib.hid ho
    obtain ⟨-, -, hr200, hfew, hvf⟩ := okU_num ho
    have hc200 : cn < 200 := by rw [← HL.out]; exact hr200
    have HVF := Lib.hid hvf
    have HSH := Lib.hid (fewB_short hfew).1
    clear hvf hfew ho hr200
    have hlm : ln = (askU au 16).length := by rw [← hL.hlen, List.length_map]
    have hl16 : ln ≤ 16 := by rw [hlm]; exact askU_len au 16
    have HLM := Lib.hid hlm
    clear hlm
    have hE1 := hE.trans hx
    have hC2 := hC.ext hx
    clear c0 c1 hC hE hx
    go_upto_region 3 with fail
    have hB := Bk.new w2 33 #[.int .i64 (bxU host rs 5 100 au).host, .int .i64 (bxU host rs 5 100 au).round, .int .u64 (bxU host rs 5 100 au).head, .int .i64 (bxU host rs 5 100 au).sent, .int .i64 (bxU host rs 5 100 au).wait, .slice sa sn sc, .slice ga gn gc]
    have hx2 : Ext w2 (w2.alloc (.cells #[.int .i64 (bxU host rs 5 100 au).host, .int .i64 (bxU host rs 5 100 au).round, .int .u64 (bxU host rs 5 100 au).head, .int .i64 (bxU host rs 5 100 au).sent, .int .i64 (bxU host rs 5 100 au).wait, .slice sa sn sc, .slice ga gn gc] 33)) := (Ext.refl w2).alloc _
    generalize w2.alloc (.cells #[.int .i64 (bxU host rs 5 100 au).host, .int .i64 (bxU host rs 5 100 au).round, .int .u64 (bxU host rs 5 100 au).head, .int .i64 (bxU host rs 5 100 au).sent, .int .i64 (bxU host rs 5 100 au).wait, .slice sa sn sc, .slice ga gn gc] 33) = V2 at *
    obtain ⟨b0, hb0e⟩ : ∃ z, w2.heap.size = z := ⟨_, rfl⟩
    have hb0 : w2.heap.size ≤ b0 := by omega
    rw [hb0e] at hB ⊢
    clear hb0e
    have hF2 := hF.ext hx2
    have HB1 := Lib.hid (BxC.first (wait := 100) (au := au) HO.out)
    by_cases hq20 : 20 < qn
    · have q1 : decide ((20 : Int) < (qn : Int)) = true := by simp; omega
      go_wp2_with fail
      go_ret
      exact ⟨rfl, hE1.trans hx2⟩
    have q1 : decide ((20 : Int) < (qn : Int)) = false := by simp; omega
    go_wp2_with fail
    clear q1
    go_loopw [41] (fun i wr => ∃ (k : Nat) (B : Bx) (sa1 : Option Addr) (sn1 sc1 : Nat) (ga1 : Option Addr) (gn1 gc1 : Nat), k ≤ qn ∧ i = .int .i64 (k : Int) ∧ Bk wr b0 33 #[.int .i64 B.host, .int .i64 B.round, .int .u64 B.head, .int .i64 B.sent, .int .i64 B.wait, .slice sa1 sn1 sc1, .slice ga1 gn1 gc1] ∧ BxF wr B sa1 sn1 sc1 ga1 gn1 gc1 ∧ Hid (BxC host rs B) ∧ Ext w2 wr) (fun i _ => qn - (intOf i).toNat)
    case atStart => exact ⟨0, _, sa, sn, sc, ga, gn, gc, by omega, rfl, hB, hF2, HB1, hx2⟩
    case round =>
      obtain ⟨k, B, sa1, sn1, sc1, ga1, gn1, gc1, hk, rfl, hBr, hFr, HBC, hEr⟩ := hrel
      have hlen := HBC.out.len
      have hs16 : sn1 ≤ 16 := by rw [← hFr.sl.hlen]; exact hlen.1
      have hg16 : gn1 ≤ 16 := by rw [← hFr.rw.hlen]; exact hlen.2
      clear hlen
      have hEw := hE1.trans hEr
      by_cases hlt : k < qn
      · obtain ⟨xq, oq, rfl, hcq⟩ := hq.at (by omega)
        obtain ⟨pa, pn, pc, hcp, hSp⟩ := hcq k hlt
        have d0 := hEw.cell hcp
        have hS := hSp.ext hEw
        have bp := hS.bd
        generalize nthL pks k = by1 at *
        clear hcq hcp hSp
        by_cases hp2 : 200 < pn
        · have q1 : decide ((200 : Int) < (pn : Int)) = true := by simp; omega
          go_wp2_with fail
          go_ret
          exact ⟨rfl, hEw⟩
        have q1 : decide ((200 : Int) < (pn : Int)) = false := by simp; omega
        by_cases hkl : k < ln
        · have hJr := nthR_rqs (bxU host rs 5 100 au) (l := askU au 16) (i := k) (by rw [← HLM.out]; exact hkl)
          have hqok := hL.wfAt hkl
          obtain ⟨rb, ro, rfl, hcl⟩ := hL.at (by omega)
          have hcJ := cells_rq (rangeAt_ext (hcl k hkl) hEr)
          rw [hJr, sz_rq] at hcJ
          rw [hJr] at hqok
          clear hcl hJr
          obtain ⟨q, hqe⟩ : ∃ q, rq1 (bxU host rs 5 100 au) (nth (askU au 16) k) = q := ⟨_, rfl⟩
          rw [hqe] at hcJ hqok
          clear hqe
          obtain ⟨e0, e1, e2, e3⟩ := hcJ
          have hw9 : IntKind.i64.wrap (9 + (k : Int)) = 9 + (k : Int) := IntWalk.i64_in _ (by omega)
          go_wp2_with fail
          refine (ians_any q hqok (k : Int) (9 + (k : Int)) (nat_wf (by omega)) (wf_of_i64 (by omega) (by omega)) wr).mono ?_
          rintro _ w4 ⟨xa, xn, xc, rfl, hSx, hx4⟩
          clear e0 e1 e2 e3 d0 hw9
          have hB4 := hBr.ext hx4
          have hF4 := hFr.ext hx4
          have hE4 := hEr.trans hx4
          have hS4 := hS.ext hx4
          have hrok := ansR_ok (lo := (k : Int)) (hi := 9 + (k : Int)) hqok (nat_wf (by omega)) (wf_of_i64 (by omega) (by omega))
          generalize ansR q (k : Int) (9 + (k : Int)) = r at *
          rcases hw : wfR r with _ | _
          · rw [hw] at hSx
            clear hSx hw
            have HTT := Lib.hid (HBC.out.take (bytes := by1) hS4.wf (show k ≤ 1000 by omega))
            have x0 := hB4.c 0 _ rfl
            have x1 := hB4.c 1 _ rfl
            have x2 := hB4.c 2 _ rfl
            have x3 := hB4.c 3 _ rfl
            have x4 := hB4.c 4 _ rfl
            have x5 := hB4.c 5 _ rfl
            have x6 := hB4.c 6 _ rfl
            have hwk : IntKind.i64.wrap (5 + (k : Int)) = 5 + (k : Int) := IntWalk.i64_in _ (by omega)
            go_wp2_with fail
            refine (itake_is B sa1 sn1 sc1 ga1 gn1 gc1 pa pn pc by1 (5 + (k : Int)) w4 hF4 hS4 (by omega) (by omega) (by omega) (TB.ext HT.out (hE1.trans hE4)) ⟨rfl, rfl, HTT.out.1⟩).mono ?_
            rintro _ w9 ⟨sa2, sn2, sc2, ga2, gn2, gc2, rfl, hF2, hfr2, hx9⟩
            have hb9 := (hB4).lt
            have hB9 := (hB4).ext hx9
            have hE9 := (hE4).trans hx9
            have HBC2 := Lib.hid HTT.out.2
            have hwk2 : True := trivial
            clear x0 x1 x2 x3 x4 x5 x6 hwk
            generalize tkB B (gpX by1) (5 + (k : Int)) = B2 at *
            generalize tkK B (gpX by1) (5 + (k : Int)) = K2 at *
            go_upto_region 15 with fail
            have hX := Bk.new w9 33 #[.int .i64 B2.host, .int .i64 B2.round, .int .u64 B2.head, .int .i64 B2.sent, .int .i64 B2.wait, .slice sa2 sn2 sc2, .slice ga2 gn2 gc2]
            have hx10 : Ext w9 (w9.alloc (.cells #[.int .i64 B2.host, .int .i64 B2.round, .int .u64 B2.head, .int .i64 B2.sent, .int .i64 B2.wait, .slice sa2 sn2 sc2, .slice ga2 gn2 gc2] 33)) := (Ext.refl w9).alloc _
            have hF10 := hF2.ext hx10
            have hB10 := hB9.ext hx10
            have hE10 := hE9.trans hx10
            generalize w9.alloc (.cells #[.int .i64 B2.host, .int .i64 B2.round, .int .u64 B2.head, .int .i64 B2.sent, .int .i64 B2.wait, .slice sa2 sn2 sc2, .slice ga2 gn2 gc2] 33) = W10 at *
            generalize w9.heap.size = xb at hX ⊢
            have y0 := hX.c 0 _ rfl
            have y1 := hX.c 1 _ rfl
            have y2 := hX.c 2 _ rfl
            have y3 := hX.c 3 _ rfl
            have y4 := hX.c 4 _ rfl
            have y5 := hX.c 5 _ rfl
            have y6 := hX.c 6 _ rfl
            have x0 := hB10.c 0 _ rfl
            have x1 := hB10.c 1 _ rfl
            have x2 := hB10.c 2 _ rfl
            have x3 := hB10.c 3 _ rfl
            have x4 := hB10.c 4 _ rfl
            have x5 := hB10.c 5 _ rfl
            have x6 := hB10.c 6 _ rfl
            have fx := hB10.free
            go_wp2_with fail
            have hap1 : Aprt b0 sa2 sn2 := hfr2.1.ap hb9
            have hap2 : Aprt b0 ga2 gn2 := hfr2.2.ap hb9
            exact ⟨⟨k + 1, B2, sa2, sn2, sc2, ga2, gn2, gc2, by omega, by go_num, Bk.set7 hB10 _ _ _ _ _ _ _, ⟨hF10.ok, hF10.sl.set7 hap1 _ _ _ _ _ _ _, hF10.rw.set7 hap2 _ _ _ _ _ _ _⟩, HBC2, hE10.set7 hb0 _ _ _ _ _ _ _⟩, by simp [intOf]; omega⟩
          rw [hw] at hSx
          simp only [if_true] at hSx
          have hxn : xn ≤ 1000000000 := by rw [← hSx.hlen]; have := ppX_len hrok hw; omega
          have bx := hSx.bd
          clear hw
          by_cases hpar : pn % 2 = 0
          · have y1 : ((pn : Int).tmod 2 == 0) = true := by rw [Int.tmod_eq_emod_of_nonneg (by omega)]; simp; omega
            have y2 : ((pn : Int) % 2 == 0) = true := by simp; omega
            have y3 : (pn : Int).tmod 2 = 0 := by rw [Int.tmod_eq_emod_of_nonneg (by omega)]; omega
            clear hpar
            have HTT := Lib.hid (HBC.out.take (bytes := (ppX r)) hSx.wf (show k ≤ 1000 by omega))
            have x0 := hB4.c 0 _ rfl
            have x1 := hB4.c 1 _ rfl
            have x2 := hB4.c 2 _ rfl
            have x3 := hB4.c 3 _ rfl
            have x4 := hB4.c 4 _ rfl
            have x5 := hB4.c 5 _ rfl
            have x6 := hB4.c 6 _ rfl
            have hwk : IntKind.i64.wrap (5 + (k : Int)) = 5 + (k : Int) := IntWalk.i64_in _ (by omega)
            go_wp2_with fail
            refine (itake_is B sa1 sn1 sc1 ga1 gn1 gc1 xa xn xc (ppX r) (5 + (k : Int)) w4 hF4 hSx hxn (by omega) (by omega) (TB.ext HT.out (hE1.trans hE4)) ⟨rfl, rfl, HTT.out.1⟩).mono ?_
            rintro _ w9 ⟨sa2, sn2, sc2, ga2, gn2, gc2, rfl, hF2, hfr2, hx9⟩
            have hb9 := (hB4).lt
            have hB9 := (hB4).ext hx9
            have hE9 := (hE4).trans hx9
            have HBC2 := Lib.hid HTT.out.2
            have hwk2 : True := trivial
            clear x0 x1 x2 x3 x4 x5 x6 hwk
            generalize tkB B (gpX (ppX r)) (5 + (k : Int)) = B2 at *
            generalize tkK B (gpX (ppX r)) (5 + (k : Int)) = K2 at *
            go_upto_region 15 with fail
            have hX := Bk.new w9 33 #[.int .i64 B2.host, .int .i64 B2.round, .int .u64 B2.head, .int .i64 B2.sent, .int .i64 B2.wait, .slice sa2 sn2 sc2, .slice ga2 gn2 gc2]
            have hx10 : Ext w9 (w9.alloc (.cells #[.int .i64 B2.host, .int .i64 B2.round, .int .u64 B2.head, .int .i64 B2.sent, .int .i64 B2.wait, .slice sa2 sn2 sc2, .slice ga2 gn2 gc2] 33)) := (Ext.refl w9).alloc _
            have hF10 := hF2.ext hx10
            have hB10 := hB9.ext hx10
            have hE10 := hE9.trans hx10
            generalize w9.alloc (.cells #[.int .i64 B2.host, .int .i64 B2.round, .int .u64 B2.head, .int .i64 B2.sent, .int .i64 B2.wait, .slice sa2 sn2 sc2, .slice ga2 gn2 gc2] 33) = W10 at *
            generalize w9.heap.size = xb at hX ⊢
            have y0 := hX.c 0 _ rfl
            have y1 := hX.c 1 _ rfl
            have y2 := hX.c 2 _ rfl
            have y3 := hX.c 3 _ rfl
            have y4 := hX.c 4 _ rfl
            have y5 := hX.c 5 _ rfl
            have y6 := hX.c 6 _ rfl
            have x0 := hB10.c 0 _ rfl
            have x1 := hB10.c 1 _ rfl
            have x2 := hB10.c 2 _ rfl
            have x3 := hB10.c 3 _ rfl
            have x4 := hB10.c 4 _ rfl
            have x5 := hB10.c 5 _ rfl
            have x6 := hB10.c 6 _ rfl
            have fx := hB10.free
            go_wp2_with fail
            have hap1 : Aprt b0 sa2 sn2 := hfr2.1.ap hb9
            have hap2 : Aprt b0 ga2 gn2 := hfr2.2.ap hb9
            exact ⟨⟨k + 1, B2, sa2, sn2, sc2, ga2, gn2, gc2, by omega, by go_num, Bk.set7 hB10 _ _ _ _ _ _ _, ⟨hF10.ok, hF10.sl.set7 hap1 _ _ _ _ _ _ _, hF10.rw.set7 hap2 _ _ _ _ _ _ _⟩, HBC2, hE10.set7 hb0 _ _ _ _ _ _ _⟩, by simp [intOf]; omega⟩
          · have y1 : ((pn : Int).tmod 2 == 0) = false := by rw [Int.tmod_eq_emod_of_nonneg (by omega)]; simp; omega
            have y2 : ((pn : Int) % 2 == 0) = false := by simp; omega
            have y3 : (pn : Int).tmod 2 = 1 := by rw [Int.tmod_eq_emod_of_nonneg (by omega)]; omega
            clear hpar
            have HTT := Lib.hid (HBC.out.take (bytes := by1) hS4.wf (show k ≤ 1000 by omega))
            have x0 := hB4.c 0 _ rfl
            have x1 := hB4.c 1 _ rfl
            have x2 := hB4.c 2 _ rfl
            have x3 := hB4.c 3 _ rfl
            have x4 := hB4.c 4 _ rfl
            have x5 := hB4.c 5 _ rfl
            have x6 := hB4.c 6 _ rfl
            have hwk : IntKind.i64.wrap (5 + (k : Int)) = 5 + (k : Int) := IntWalk.i64_in _ (by omega)
            go_wp2_with fail
            refine (itake_is B sa1 sn1 sc1 ga1 gn1 gc1 pa pn pc by1 (5 + (k : Int)) w4 hF4 hS4 (by omega) (by omega) (by omega) (TB.ext HT.out (hE1.trans hE4)) ⟨rfl, rfl, HTT.out.1⟩).mono ?_
            rintro _ w9 ⟨sa2, sn2, sc2, ga2, gn2, gc2, rfl, hF2, hfr2, hx9⟩
            have hb9 := (hB4).lt
            have hB9 := (hB4).ext hx9
            have hE9 := (hE4).trans hx9
            have HBC2 := Lib.hid HTT.out.2
            have hwk2 : True := trivial
            clear x0 x1 x2 x3 x4 x5 x6 hwk
            generalize tkB B (gpX by1) (5 + (k : Int)) = B2 at *
            generalize tkK B (gpX by1) (5 + (k : Int)) = K2 at *
            go_upto_region 15 with fail
            have hX := Bk.new w9 33 #[.int .i64 B2.host, .int .i64 B2.round, .int .u64 B2.head, .int .i64 B2.sent, .int .i64 B2.wait, .slice sa2 sn2 sc2, .slice ga2 gn2 gc2]
            have hx10 : Ext w9 (w9.alloc (.cells #[.int .i64 B2.host, .int .i64 B2.round, .int .u64 B2.head, .int .i64 B2.sent, .int .i64 B2.wait, .slice sa2 sn2 sc2, .slice ga2 gn2 gc2] 33)) := (Ext.refl w9).alloc _
            have hF10 := hF2.ext hx10
            have hB10 := hB9.ext hx10
            have hE10 := hE9.trans hx10
            generalize w9.alloc (.cells #[.int .i64 B2.host, .int .i64 B2.round, .int .u64 B2.head, .int .i64 B2.sent, .int .i64 B2.wait, .slice sa2 sn2 sc2, .slice ga2 gn2 gc2] 33) = W10 at *
            generalize w9.heap.size = xb at hX ⊢
            have y0 := hX.c 0 _ rfl
            have y1 := hX.c 1 _ rfl
            have y2 := hX.c 2 _ rfl
            have y3 := hX.c 3 _ rfl
            have y4 := hX.c 4 _ rfl
            have y5 := hX.c 5 _ rfl
            have y6 := hX.c 6 _ rfl
            have x0 := hB10.c 0 _ rfl
            have x1 := hB10.c 1 _ rfl
            have x2 := hB10.c 2 _ rfl
            have x3 := hB10.c 3 _ rfl
            have x4 := hB10.c 4 _ rfl
            have x5 := hB10.c 5 _ rfl
            have x6 := hB10.c 6 _ rfl
            have fx := hB10.free
            go_wp2_with fail
            have hap1 : Aprt b0 sa2 sn2 := hfr2.1.ap hb9
            have hap2 : Aprt b0 ga2 gn2 := hfr2.2.ap hb9
            exact ⟨⟨k + 1, B2, sa2, sn2, sc2, ga2, gn2, gc2, by omega, by go_num, Bk.set7 hB10 _ _ _ _ _ _ _, ⟨hF10.ok, hF10.sl.set7 hap1 _ _ _ _ _ _ _, hF10.rw.set7 hap2 _ _ _ _ _ _ _⟩, HBC2, hE10.set7 hb0 _ _ _ _ _ _ _⟩, by simp [intOf]; omega⟩
        · have hn : (ln : Int) ≤ k := by omega
          have HTT := Lib.hid (HBC.out.take (bytes := by1) hS.wf (show k ≤ 1000 by omega))
          have x0 := hBr.c 0 _ rfl
          have x1 := hBr.c 1 _ rfl
          have x2 := hBr.c 2 _ rfl
          have x3 := hBr.c 3 _ rfl
          have x4 := hBr.c 4 _ rfl
          have x5 := hBr.c 5 _ rfl
          have x6 := hBr.c 6 _ rfl
          have hwk : IntKind.i64.wrap (5 + (k : Int)) = 5 + (k : Int) := IntWalk.i64_in _ (by omega)
          go_wp2_with fail
          refine (itake_is B sa1 sn1 sc1 ga1 gn1 gc1 pa pn pc by1 (5 + (k : Int)) wr hFr hS (by omega) (by omega) (by omega) (TB.ext HT.out (hE1.trans hEr)) ⟨rfl, rfl, HTT.out.1⟩).mono ?_
          rintro _ w9 ⟨sa2, sn2, sc2, ga2, gn2, gc2, rfl, hF2, hfr2, hx9⟩
          have hb9 := (hBr).lt
          have hB9 := (hBr).ext hx9
          have hE9 := (hEr).trans hx9
          have HBC2 := Lib.hid HTT.out.2
          have hwk2 : True := trivial
          clear x0 x1 x2 x3 x4 x5 x6 hwk
          generalize tkB B (gpX by1) (5 + (k : Int)) = B2 at *
          generalize tkK B (gpX by1) (5 + (k : Int)) = K2 at *
          go_upto_region 15 with fail
          have hX := Bk.new w9 33 #[.int .i64 B2.host, .int .i64 B2.round, .int .u64 B2.head, .int .i64 B2.sent, .int .i64 B2.wait, .slice sa2 sn2 sc2, .slice ga2 gn2 gc2]
          have hx10 : Ext w9 (w9.alloc (.cells #[.int .i64 B2.host, .int .i64 B2.round, .int .u64 B2.head, .int .i64 B2.sent, .int .i64 B2.wait, .slice sa2 sn2 sc2, .slice ga2 gn2 gc2] 33)) := (Ext.refl w9).alloc _
          have hF10 := hF2.ext hx10
          have hB10 := hB9.ext hx10
          have hE10 := hE9.trans hx10
          generalize w9.alloc (.cells #[.int .i64 B2.host, .int .i64 B2.round, .int .u64 B2.head, .int .i64 B2.sent, .int .i64 B2.wait, .slice sa2 sn2 sc2, .slice ga2 gn2 gc2] 33) = W10 at *
          generalize w9.heap.size = xb at hX ⊢
          have y0 := hX.c 0 _ rfl
          have y1 := hX.c 1 _ rfl
          have y2 := hX.c 2 _ rfl
          have y3 := hX.c 3 _ rfl
          have y4 := hX.c 4 _ rfl
          have y5 := hX.c 5 _ rfl
          have y6 := hX.c 6 _ rfl
          have x0 := hB10.c 0 _ rfl
          have x1 := hB10.c 1 _ rfl
          have x2 := hB10.c 2 _ rfl
          have x3 := hB10.c 3 _ rfl
          have x4 := hB10.c 4 _ rfl
          have x5 := hB10.c 5 _ rfl
          have x6 := hB10.c 6 _ rfl
          have fx := hB10.free
          go_wp2_with fail
          have hap1 : Aprt b0 sa2 sn2 := hfr2.1.ap hb9
          have hap2 : Aprt b0 ga2 gn2 := hfr2.2.ap hb9
          exact ⟨⟨k + 1, B2, sa2, sn2, sc2, ga2, gn2, gc2, by omega, by go_num, Bk.set7 hB10 _ _ _ _ _ _ _, ⟨hF10.ok, hF10.sl.set7 hap1 _ _ _ _ _ _ _, hF10.rw.set7 hap2 _ _ _ _ _ _ _⟩, HBC2, hE10.set7 hb0 _ _ _ _ _ _ _⟩, by simp [intOf]; omega⟩
      · obtain rfl : k = qn := by omega
        have hCr := hC2.ext hEr
        have x0 := hBr.c 0 _ rfl
        have x1 := hBr.c 1 _ rfl
        have x2 := hBr.c 2 _ rfl
        have x3 := hBr.c 3 _ rfl
        have x4 := hBr.c 4 _ rfl
        have x5 := hBr.c 5 _ rfl
        have x6 := hBr.c 6 _ rfl
        go_wp2_with fail
        refine (icls_any B sa1 sn1 sc1 ga1 gn1 gc1 wr hFr (by omega) (TB.ext HT.out hEw)).mono ?_
        rintro _ w4 ⟨ra, rn, rc, rfl, hR, hx4⟩
        have hcl : clsX B = B.got := by unfold clsX; rw [HBC.out.frm]; rfl
        have hok0 : okE (frmX B) = 0 := by rw [HBC.out.frm]; rfl
        rw [hcl] at hR
        rw [hok0]
        have hrn : rn ≤ 16 := by rw [← hR.hlen]; exact HBC.out.len.2
        have HFI := Lib.hid HBC.out.fits
        clear hcl hok0 x0 x1 x2 x3 x4 x5 x6
        go_upto_region 20 with fail
        have hRb := Bk.new w4 66 #[.slice ra rn rc]
        have hx5 : Ext w4 (w4.alloc (.cells #[.slice ra rn rc] 66)) := (Ext.refl w4).alloc _
        have hC5 := (hCr.ext hx4).ext hx5
        have hE5 := (hEw.trans hx4).trans hx5
        have hR5 := hR.ext hx5
        clear hR hCr
        generalize w4.alloc (.cells #[.slice ra rn rc] 66) = W5 at *
        generalize w4.heap.size = rb at hRb ⊢
        have c0 := hC5.c 0 _ rfl
        have c1 := hC5.c 1 _ rfl
        have z0 := hRb.c 0 _ rfl
        have hap := append_any host hho ca cn cc rs ra rn rc B.got W5 (h1.ext hE5) hR5 (fun _ => HSH.out) (by omega) (TB.ext HT.out hE5)
        have hak := apd_ok (host := host) (rs := rs) (r := B.got) HVF.out (by rw [HL.out]; exact hc200) (by have := HFI.out; rw [HL.out] at this ⊢; exact this)
        rw [hak.1, hak.2.1, hak.2.2] at hap
        clear hak
        have hvd := validF_app (host := host) (rs := rs) (r := B.got) HVF.out (by rw [HL.out]; exact hc200) (by have := HFI.out; rw [HL.out] at this ⊢; exact this)
        have hsh2 : Short (rs ++ [B.got]) := fun r hr => by
          rcases List.mem_append.1 hr with h | h
          · exact HSH.out r h
          · simp only [List.mem_singleton] at h
            rw [h]
            have := HBC.out.len.2
            omega
        have HSH2 := Lib.hid hsh2
        have HVD := Lib.hid hvd
        clear hsh2 hvd
        generalize B.got = gt at *
        go_wp2_with fail
        refine hap.mono ?_
        clear hap
        rintro _ w6 ⟨da, dn, dc, rfl, hD, -, hx6⟩
        have hdn : dn = cn + 1 := by have := hD.1; rw [List.length_append, HL.out] at this; simpa using this.symm
        subst hdn
        go_upto_region 21 with fail
        have hDb := Bk.new w6 24 #[.int .i64 host, .slice da (cn + 1) dc]
        have hx7 : Ext w6 (w6.alloc (.cells #[.int .i64 host, .slice da (cn + 1) dc] 24)) := (Ext.refl w6).alloc _
        have hC7 := (hC5.ext hx6).ext hx7
        have hRb7 := (hRb.ext hx6).ext hx7
        have hE7 := (hE5.trans hx6).trans hx7
        have hR7 := (hR5.ext hx6).ext hx7
        have hD7 := (hD.ext hx7).rws (by omega)
        clear hD hR5 hC5 hRb c0 c1 z0
        generalize w6.alloc (.cells #[.int .i64 host, .slice da (cn + 1) dc] 24) = W7 at *
        generalize w6.heap.size = db at hDb ⊢
        have c0 := hC7.c 0 _ rfl
        have c1 := hC7.c 1 _ rfl
        have z0 := hRb7.c 0 _ rfl
        have e0 := hDb.c 0 _ rfl
        have e1 := hDb.c 1 _ rfl
        obtain ⟨gb, go, rfl, hcd⟩ := hD7.at (by omega)
        obtain ⟨a1, n1, k1, hcell, hrow⟩ := hcd cn (by omega)
        have hlast : nthS (rs ++ [gt]) cn = gt := by rw [nthS_app HL.out (Nat.le_refl _), Nat.sub_self]; rfl
        rw [hlast] at hrow
        clear hcd hlast
        have htk : (rs ++ [gt]).take cn = rs := by rw [List.take_append_of_le_length (by rw [HL.out]; exact Nat.le_refl _), List.take_of_length_le (by rw [HL.out]; exact Nat.le_refl _)]
        have hD8 := hD7.take (m := cn) (by omega)
        rw [htk] at hD8
        clear htk
        have hdc := hD7.bd
        have hv := fun (W : World) (hW : Ext W7 W) => valid_any host hho (some ⟨gb, go, none⟩) (cn + 1) dc (rs ++ [gt]) W (hD7.ext hW) (fun _ => HSH2.out) (TB.ext HT.out (hE7.trans hW))
        rw [HVD.out] at hv
        have hs1 := fun (W : World) (hW : Ext W7 W) => sameRds_any (some ⟨gb, go, none⟩) cn dc rs ca cn cc rs W (hD8.ext hW) (h1.ext (hE7.trans hW))
        rw [decide_eq_true rfl] at hs1
        have hs2 := fun (W : World) (hW : Ext W7 W) => sameRd_any a1 n1 k1 gt ra rn rc gt W (hrow.ext hW) (hR7.ext hW)
        rw [decide_eq_true rfl] at hs2
        have HV := Lib.hid hv
        have HS1 := Lib.hid hs1
        have HS2 := Lib.hid hs2
        clear hv hs1 hs2
        go_upto_region 22 with fail
        have l1 := hC7.lt
        have l2 := hRb7.lt
        have l3 := hDb.lt
        have l4 := lt_of_cell hcell
        simp only at l4
        have hwn : IntKind.i64.wrap ((cn : Int) + 1) = (cn : Int) + 1 := IntWalk.i64_in _ (by omega)
        have hcd1 : cn ≤ dc := by omega
        have hcd2 : (cn : Int) ≤ dc := by omega
        have hg := @grow_cell
        refine region_ext (by kernel_rfl) (by kernel_rfl) ?_
        repeat (go_big_quiet_step ((first | (go_at_call 26; exact Calls.regrown_of (HV.out _ (ext_grow _ _ _))) | (go_at_call 27; exact Calls.regrown_of (HS1.out _ (ext_grow _ _ _))) | (go_at_call 23; exact Calls.regrown_of (HS2.out _ (ext_grow _ _ _))))))
        refine wpQuiet_nil ?_
        intro w8 hx8
        go_wp2_with fail
        go_ret
        exact ⟨rfl, hE7.trans hx8⟩
end Go.Proofs.YtdmfdimhjemngaaDoor
