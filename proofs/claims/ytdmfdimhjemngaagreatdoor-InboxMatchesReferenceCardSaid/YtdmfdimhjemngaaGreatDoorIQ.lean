/-
  The example of the chapter on the inbox. Written by wip/gen_iq.py.
-/
import Derived.Test.YtdmfdimhjemngaaGreatDoorIN
namespace Go.Proofs.YtdmfdimhjemngaaGreatDoor
open Go.RowKit Go.Sort Go.Shelf
set_option linter.unusedSimpArgs false
set_option linter.unusedVariables false
set_option maxRecDepth 100000

theorem itake_is (b : Bx) (sa : Option Addr) (sn sc : Nat) (ga : Option Addr) (gn gc : Nat) (pa : Option Addr) (pn pc : Nat) (bytes : List Int) (t : Int) (w : World) (hb : BxF w b sa sn sc ga gn gc) (hp : Sl .u8 w pa pn pc bytes) (hpn : pn ≤ 1000000000) (hsn : sn ≤ 1000) (hgn : gn ≤ 1000) (ht : TB w) {B : Bx} {k z : Int}
    (h : tkB b (gpX bytes) t = B ∧ tkK b (gpX bytes) t = k ∧ tkE b t = z) :
    Calls Tryz.prog 13 #[.agg #[.int .i64 b.host, .int .i64 b.round, .int .u64 b.head, .int .i64 b.sent, .int .i64 b.wait, .slice sa sn sc, .slice ga gn gc], .slice pa pn pc, .int .i64 t] w fun e w' => TkQ w w' e B k z := by
  have := itake_any b sa sn sc ga gn gc pa pn pc bytes t w hb hp hpn hsn hgn ht
  rw [h.1, h.2.1, h.2.2] at this
  exact this
def exBx (l : List Rp) : Bx := ⟨2, 1, 0, 100, 50, [1, 3], l⟩
def exR1 (N : Int) : Rp := ⟨1, 2, 1, N, 5, 6, 0, 0, 0, 0⟩
def exR2 (N : Int) : Rp := ⟨2, 2, 1, N, 0, 0, 0, 0, 0, 0⟩
def exR3 (N : Int) : Rp := ⟨3, 2, 1, N, 7, 8, 0, 0, 0, 0⟩
theorem exR_ok {N : Int} (hN : 0 ≤ N ∧ N ≤ 18446744073709551615) : (exR1 N).Ok ∧ (exR2 N).Ok ∧ (exR3 N).Ok :=
  ⟨⟨rfl, rfl, rfl, u64_wf hN, rfl, rfl, rfl, rfl, rfl, rfl⟩, ⟨rfl, rfl, rfl, u64_wf hN, rfl, rfl, rfl, rfl, rfl, rfl⟩, ⟨rfl, rfl, rfl, u64_wf hN, rfl, rfl, rfl, rfl, rfl, rfl⟩⟩
theorem exR_wf (N : Int) : wfR (exR1 N) = true ∧ wfR (exR2 N) = true ∧ wfR (exR3 N) = true := by
  refine ⟨?_, ?_, ?_⟩ <;> simp [wfR, idsB, stampB, restB, inC, exR1, exR2, exR3]
theorem ex_bx_ok (l : List Rp) : (exBx l).Ok := ⟨rfl, rfl, by simp [exBx], rfl, rfl⟩
theorem ex_own (l : List Rp) {N1 N3 : Int} (h1 : nonF 0 2 1 1 = N1) (h3 : nonF 0 2 1 3 = N3) (N2 : Int) : ownB (exBx l) (exR1 N1) = true ∧ ownB (exBx l) (exR2 N2) = false ∧ ownB (exBx l) (exR3 N3) = true := by
  subst h1
  subst h3
  refine ⟨?_, ?_, ?_⟩ <;> simp [ownB, exBx, exR1, exR2, exR3]
theorem ex_frm {N1 N3 : Int} (h1 : nonF 0 2 1 1 = N1) (h3 : nonF 0 2 1 3 = N3) : frmX (exBx []) = true ∧ frmX (exBx [exR3 N3]) = true ∧ frmX (exBx [exR1 N1, exR3 N3]) = true := by
  have ho := ex_own
  have ha : askB [1, 3] = true := by simp [askB, ascI]
  have hg : ∀ l, FrmP (exBx l) ↔ gfrom (exBx l) 0 l = true := fun l => ⟨fun h => h.got, fun h => ⟨by simp [exBx], by simp [exBx], by simp [exBx], by simp [exBx], ha, h⟩⟩
  refine ⟨frmX_iff.2 ((hg _).2 rfl), frmX_iff.2 ((hg _).2 ?_), frmX_iff.2 ((hg _).2 ?_)⟩
  · simp only [gfrom, (ho [exR3 N3] h1 h3 0).2.2, (exR_wf N3).2.2]
    simp [exR3]
  · simp only [gfrom, (ho [exR1 N1, exR3 N3] h1 h3 0).2.2, (ho [exR1 N1, exR3 N3] h1 h3 0).1, (exR_wf N3).2.2, (exR_wf N1).1]
    simp [exR1, exR3]
/-- What Take answers in the example. -/
theorem ex_tk {N1 N2 N3 : Int} (h1 : nonF 0 2 1 1 = N1) (h2 : nonF 0 2 1 2 = N2) (h3 : nonF 0 2 1 3 = N3) :
    (tkB (exBx []) (gpX (ppX (exR3 N3))) 120 = exBx [exR3 N3] ∧ tkK (exBx []) (gpX (ppX (exR3 N3))) 120 = 1 ∧ tkE (exBx []) 120 = 0) ∧
    (tkB (exBx [exR3 N3]) (gpX (ppX (exR3 N3))) 130 = exBx [exR3 N3] ∧ tkK (exBx [exR3 N3]) (gpX (ppX (exR3 N3))) 130 = 2 ∧ tkE (exBx [exR3 N3]) 130 = 0) ∧
    (tkB (exBx [exR3 N3]) (gpX (ppX (exR1 N1))) 151 = exBx [exR3 N3] ∧ tkK (exBx [exR3 N3]) (gpX (ppX (exR1 N1))) 151 = 4 ∧ tkE (exBx [exR3 N3]) 151 = 0) ∧
    (tkB (exBx [exR3 N3]) (gpX (ppX (exR1 N1))) 150 = exBx [exR1 N1, exR3 N3] ∧ tkK (exBx [exR3 N3]) (gpX (ppX (exR1 N1))) 150 = 1 ∧ tkE (exBx [exR3 N3]) 150 = 0) ∧
    (tkB (exBx [exR1 N1, exR3 N3]) (gpX (ppX (exR2 N2))) 110 = exBx [exR1 N1, exR3 N3] ∧ tkK (exBx [exR1 N1, exR3 N3]) (gpX (ppX (exR2 N2))) 110 = 3 ∧ tkE (exBx [exR1 N1, exR3 N3]) 110 = 0) ∧
    (tkB (exBx [exR1 N1, exR3 N3]) (gpX []) 110 = exBx [exR1 N1, exR3 N3] ∧ tkK (exBx [exR1 N1, exR3 N3]) (gpX []) 110 = 5 ∧ tkE (exBx [exR1 N1, exR3 N3]) 110 = 0) ∧
    (tkB (exBx [exR1 N1, exR3 N3]) (gpX (ppX (exR1 N1))) 99 = bx0 ∧ tkK (exBx [exR1 N1, exR3 N3]) (gpX (ppX (exR1 N1))) 99 = 0 ∧ tkE (exBx [exR1 N1, exR3 N3]) 99 = 30) := by
  have r1 : 0 ≤ N1 ∧ N1 ≤ 18446744073709551615 := by rw [← h1]; exact nonF_rng _ _ _ _
  have r2 : 0 ≤ N2 ∧ N2 ≤ 18446744073709551615 := by rw [← h2]; exact nonF_rng _ _ _ _
  have r3 : 0 ≤ N3 ∧ N3 ≤ 18446744073709551615 := by rw [← h3]; exact nonF_rng _ _ _ _
  obtain ⟨f0, f1, f2⟩ := ex_frm h1 h3
  have g1 := gpX_pp (exR_ok r1).1 (exR_wf N1).1
  have g2 := gpX_pp (exR_ok r2).2.1 (exR_wf N2).2.1
  have g3 := gpX_pp (exR_ok r3).2.2 (exR_wf N3).2.2
  have ho := fun l => ex_own l h1 h3 N2
  have z : ∀ l t, frmX (exBx l) = true → 100 ≤ t → t ≤ 3000000000000000 → tkE (exBx l) t = 0 := fun l t h a b => tkE_zero h (by omega) b (by simpa [exBx] using a)
  rw [g1, g2, g3, gpX_nil]
  refine ⟨?_, ?_, ?_, ?_, ?_, ?_, ?_⟩
  · have e := z [] 120 f0 (by omega) (by omega)
    have k := tkB_fresh e (kd_fresh.2 ⟨(ho []).2.2, rfl, by simp [exBx]⟩ : kdX (exBx []) (some (exR3 N3)) 120 = 1)
    exact ⟨k.1.trans rfl, k.2, e⟩
  · have e := z [exR3 N3] 130 f1 (by omega) (by omega)
    have hk : kdX (exBx [exR3 N3]) (some (exR3 N3)) 130 = 2 := by unfold kdX kindX; simp only; rw [(ho _).2.2, if_neg (by decide), if_pos (by simp [exBx])]
    have k := tkB_same e hk (by decide)
    exact ⟨k.1, k.2, e⟩
  · have e := z [exR3 N3] 151 f1 (by omega) (by omega)
    have hk : kdX (exBx [exR3 N3]) (some (exR1 N1)) 151 = 4 := by unfold kdX kindX; simp only; rw [(ho _).1, if_neg (by decide), if_neg (by simp [exBx, exR1, exR3]), if_pos (by simp [exBx])]
    have k := tkB_same e hk (by decide)
    exact ⟨k.1, k.2, e⟩
  · have e := z [exR3 N3] 150 f1 (by omega) (by omega)
    have k := tkB_fresh e (kd_fresh.2 ⟨(ho _).1, by simp [exBx, exR1, exR3], by simp [exBx]⟩ : kdX (exBx [exR3 N3]) (some (exR1 N1)) 150 = 1)
    exact ⟨k.1.trans (by simp [exBx, insR, exR1, exR3]), k.2, e⟩
  · have e := z [exR1 N1, exR3 N3] 110 f2 (by omega) (by omega)
    have k := tkB_same e (kd_other.2 (ho _).2.1 : kdX (exBx [exR1 N1, exR3 N3]) (some (exR2 N2)) 110 = 3) (by decide)
    exact ⟨k.1, k.2, e⟩
  · have e := z [exR1 N1, exR3 N3] 110 f2 (by omega) (by omega)
    have k := tkB_same e (kd_none : kdX (exBx [exR1 N1, exR3 N3]) none 110 = 5) (by decide)
    exact ⟨k.1, k.2, e⟩
  · have e : tkE (exBx [exR1 N1, exR3 N3]) 99 = 30 := by
      unfold tkE
      rw [f2, inC_iff.2 ⟨by omega, by omega⟩, if_pos (by decide), if_pos (by simp [exBx])]
    exact ⟨tkB_no e (by decide), tkK_no e (by decide), e⟩
theorem ex_open : opnB 2 [] 100 50 [1, 3] = exBx [] ∧ opnE 2 [] 100 50 [1, 3] = 0 := by
  have hx : opnX 2 [] 100 50 [1, 3] = true := by simp [opnX, validF, inC, askB, ascI]
  have h := frm_open hx (by simp)
  exact ⟨h.2.1.trans (by simp [exBx, headF_nil]), h.1⟩
theorem ex_rqs {N1 N3 : Int} (h1 : nonF 0 2 1 1 = N1) (h3 : nonF 0 2 1 3 = N3) : rqsX (exBx []) = [⟨2, 1, 1, N1⟩, ⟨2, 3, 1, N3⟩] := by
  unfold rqsX
  rw [(ex_frm h1 h3).1, if_pos rfl]
  simp [exBx, rq1, h1, h3]
theorem Rw.len {α : Type} [Cel α] {w : World} {a : Option Addr} {n c : Nat} {xs : List α} (h : Rw w a n c xs) : n = xs.length := h.hlen.symm

set_option maxHeartbeats 8000000 in
theorem ihead_any (w : World) (ht : TB w) : Calls Tryz.prog 4 #[] w fun e w' => e = .returned (.bool true) ∧ Ext w w' := by
  have HT := Lib.hid ht
  clear ht
  obtain ⟨N1, hN1⟩ : ∃ z, nonF 0 2 1 1 = z := ⟨_, rfl⟩
  obtain ⟨N2, hN2⟩ : ∃ z, nonF 0 2 1 2 = z := ⟨_, rfl⟩
  obtain ⟨N3, hN3⟩ : ∃ z, nonF 0 2 1 3 = z := ⟨_, rfl⟩
  have HN2 := Lib.hid hN2
  have HN3 := Lib.hid hN3
  have r1 : 0 ≤ N1 ∧ N1 ≤ 18446744073709551615 := by rw [← hN1]; exact nonF_rng _ _ _ _
  have r2 : 0 ≤ N2 ∧ N2 ≤ 18446744073709551615 := by rw [← hN2]; exact nonF_rng _ _ _ _
  have r3 : 0 ≤ N3 ∧ N3 ≤ 18446744073709551615 := by rw [← hN3]; exact nonF_rng _ _ _ _
  have HTK := Lib.hid (ex_tk hN1 hN2 hN3)
  have HRQ := Lib.hid (ex_rqs hN1 hN3)
  have HFR := Lib.hid (ex_frm hN1 hN3)
  clear hN1 hN2 hN3
  have l1 := litSl .i64 3 w w.heap.size 2 [1, 3] #[.int .i64 1, .int .i64 3] rfl rfl rfl (by simp [maxLen]) (by decide)
  have hE : Ext w (w.alloc (.cells #[.int .i64 1, .int .i64 3] 3)) := (Ext.refl w).alloc _
  have hop := iopn_any 2 rfl none 0 0 [] 100 50 rfl rfl _ 2 2 [1, 3] _ (Rws.nil _) (fun _ r hr => by cases hr) l1 (TB.ext HT.out hE)
  rw [ex_open.1, ex_open.2] at hop
  have HOP := Lib.hid hop
  clear hop l1
  go_enter Tryz.func4, Tryz.ntmps4
  go_wp2_with fail
  refine HOP.out.mono ?_
  clear HOP
  rintro _ w1 ⟨sa0, sn0, sc0, ga0, gn0, gc0, rfl, hF, -, hx⟩
  replace hE := hE.trans hx
  clear hx
  have hsn := hF.sl.hlen
  have hgn := hF.rw.hlen
  obtain rfl : sn0 = 2 := hsn.symm
  obtain rfl : gn0 = 0 := hgn.symm
  clear hsn hgn
  go_upto_region 2 with fail
  have hB := Bk.new w1 29 #[.int .i64 (exBx []).host, .int .i64 (exBx []).round, .int .u64 (exBx []).head, .int .i64 (exBx []).sent, .int .i64 (exBx []).wait, .slice sa0 2 sc0, .slice ga0 0 gc0]
  have hx : Ext w1 (w1.alloc (.cells #[.int .i64 (exBx []).host, .int .i64 (exBx []).round, .int .u64 (exBx []).head, .int .i64 (exBx []).sent, .int .i64 (exBx []).wait, .slice sa0 2 sc0, .slice ga0 0 gc0] 29)) := (Ext.refl w1).alloc _
  generalize w1.alloc (.cells #[.int .i64 (exBx []).host, .int .i64 (exBx []).round, .int .u64 (exBx []).head, .int .i64 (exBx []).sent, .int .i64 (exBx []).wait, .slice sa0 2 sc0, .slice ga0 0 gc0] 29) = V1 at *
  generalize w1.heap.size = b0 at hB ⊢
  replace hF := hF.ext hx
  replace hE := hE.trans hx
  clear hx
  have p0 := hB.c 0 _ rfl
  have p1 := hB.c 1 _ rfl
  have p2 := hB.c 2 _ rfl
  have p3 := hB.c 3 _ rfl
  have p4 := hB.c 4 _ rfl
  have p5 := hB.c 5 _ rfl
  have p6 := hB.c 6 _ rfl
  go_wp2_with fail
  refine (irqs_any (exBx []) sa0 2 sc0 ga0 0 gc0 V1 hF (TB.ext HT.out hE)).mono ?_
  rintro _ w2 ⟨la, ln, lc, rfl, hL, hx⟩
  rw [HRQ.out] at hL
  have hok1 : okE (frmX (exBx [])) = 0 := by rw [HFR.out.1]; rfl
  rw [hok1]
  clear p0 p1 p2 p3 p4 p5 p6
  replace hF := hF.ext hx
  replace hB := hB.ext hx
  replace hE := hE.trans hx
  clear hx
  have hln := hL.hlen
  obtain rfl : ln = 2 := hln.symm
  clear hln hok1
  obtain ⟨lb, lo, rfl, hcl⟩ := hL.at (by omega)
  have q0 := cells_rq (hcl 0 (by omega))
  have q1 := cells_rq (hcl 1 (by omega))
  have e0 : nthR ([⟨2, 1, 1, N1⟩, ⟨2, 3, 1, N3⟩] : List Rq) 0 = ⟨2, 1, 1, N1⟩ := rfl
  have e1 : nthR ([⟨2, 1, 1, N1⟩, ⟨2, 3, 1, N3⟩] : List Rq) 1 = ⟨2, 3, 1, N3⟩ := rfl
  rw [e0, sz_rq] at q0
  rw [e1, sz_rq] at q1
  simp only [Nat.zero_mul, Nat.add_zero, Nat.one_mul] at q0 q1
  clear e0 e1 hcl
  have HQ0 := Lib.hid q0
  have HQ1 := Lib.hid q1
  go_upto_region 3 with fail
  obtain ⟨a0, a1, a2, a3⟩ := q0
  obtain ⟨b0', b1, b2, b3⟩ := q1
  have hll := lt_of_cell a0
  simp only at hll
  have hg := @grow_cell
  have hn3 := fun W => rnonce_any 0 2 1 3 (by omega) rfl rfl rfl W
  rw [HN3.out] at hn3
  have HNO := Lib.hid hn3
  clear hn3
  refine region_ext (by kernel_rfl) (by kernel_rfl) ?_
  repeat (go_big_quiet_step ((go_at_call 18; exact Calls.regrown_of (HNO.out _))))
  refine wpQuiet_nil ?_
  intro w3 hx
  clear hg hll
  replace a0 := hx.cell a0
  replace a1 := hx.cell a1
  replace a2 := hx.cell a2
  replace a3 := hx.cell a3
  replace b0' := hx.cell b0'
  replace b1 := hx.cell b1
  replace b2 := hx.cell b2
  replace b3 := hx.cell b3
  replace hF := hF.ext hx
  replace hB := hB.ext hx
  replace hE := hE.trans hx
  clear hx
  go_wp2_with fail
  refine (ians_any ⟨2, 1, 1, N1⟩ ⟨rfl, rfl, rfl, u64_wf r1⟩ 5 6 rfl rfl w3).mono ?_
  rintro _ w4 ⟨xa1, xn1, xc1, rfl, hS1, hx⟩
  have hw : wfR (ansR ⟨2, 1, 1, N1⟩ 5 6) = true := (exR_wf N1).1
  rw [hw] at hS1 ⊢
  have hS1q : Sl .u8 w4 xa1 xn1 xc1 (ppX (exR1 N1)) := hS1
  clear hS1 hw
  replace a0 := hx.cell a0
  replace a1 := hx.cell a1
  replace a2 := hx.cell a2
  replace a3 := hx.cell a3
  replace b0' := hx.cell b0'
  replace b1 := hx.cell b1
  replace b2 := hx.cell b2
  replace b3 := hx.cell b3
  replace hF := hF.ext hx
  replace hB := hB.ext hx
  replace hE := hE.trans hx
  clear hx
  go_wp2_with fail
  refine (ians_any ⟨2, 3, 1, N3⟩ ⟨rfl, rfl, rfl, u64_wf r3⟩ 7 8 rfl rfl w4).mono ?_
  rintro _ w5 ⟨xa3, xn3, xc3, rfl, hS3, hx⟩
  have hw : wfR (ansR ⟨2, 3, 1, N3⟩ 7 8) = true := (exR_wf N3).2.2
  rw [hw] at hS3 ⊢
  have hS3q : Sl .u8 w5 xa3 xn3 xc3 (ppX (exR3 N3)) := hS3
  clear hS3 hw a0 a1 a2 a3 b0' b1 b2 b3
  replace hF := hF.ext hx
  replace hB := hB.ext hx
  replace hS1q := hS1q.ext hx
  replace hE := hE.trans hx
  clear hx
  go_wp2_with fail
  refine (rnonce_any 0 2 1 2 (by omega) rfl rfl rfl w5).mono ?_
  rintro _ w6 ⟨rfl, hx⟩
  rw [HN2.out]
  replace hF := hF.ext hx
  replace hB := hB.ext hx
  replace hS1q := hS1q.ext hx
  replace hS3q := hS3q.ext hx
  replace hE := hE.trans hx
  clear hx
  go_wp2_with fail
  refine (ians_any ⟨2, 2, 1, N2⟩ ⟨rfl, rfl, rfl, u64_wf r2⟩ 0 0 rfl rfl w6).mono ?_
  rintro _ w7 ⟨xa2, xn2, xc2, rfl, hS2, hx⟩
  have hw : wfR (ansR ⟨2, 2, 1, N2⟩ 0 0) = true := (exR_wf N2).2.1
  rw [hw] at hS2 ⊢
  have hS2q : Sl .u8 w7 xa2 xn2 xc2 (ppX (exR2 N2)) := hS2
  clear hS2 hw
  replace hF := hF.ext hx
  replace hB := hB.ext hx
  replace hS1q := hS1q.ext hx
  replace hS3q := hS3q.ext hx
  replace hE := hE.trans hx
  clear hx
  have y1 : xn1 ≤ 1000000000 := by rw [← hS1q.hlen]; have := ppX_len (exR_ok r1).1 (exR_wf N1).1; omega
  have y2 : xn2 ≤ 1000000000 := by rw [← hS2q.hlen]; have := ppX_len (exR_ok r2).2.1 (exR_wf N2).2.1; omega
  have y3 : xn3 ≤ 1000000000 := by rw [← hS3q.hlen]; have := ppX_len (exR_ok r3).2.2 (exR_wf N3).2.2; omega
  have Y := Lib.hid (And.intro y1 (And.intro y2 y3))
  clear y1 y2 y3 r1 r2 r3
  have p0 := hB.c 0 _ rfl
  have p1 := hB.c 1 _ rfl
  have p2 := hB.c 2 _ rfl
  have p3 := hB.c 3 _ rfl
  have p4 := hB.c 4 _ rfl
  have p5 := hB.c 5 _ rfl
  have p6 := hB.c 6 _ rfl
  go_wp2_with fail
  refine (itake_is (exBx []) sa0 2 sc0 ga0 0 gc0 xa3 xn3 xc3 (ppX (exR3 N3)) 120 w7 hF hS3q Y.out.2.2 (by omega) (by omega) (TB.ext HT.out hE) HTK.out.1).mono ?_
  rintro _ w8 ⟨sa8, sn8, sc8, ga8, gn8, gc8, rfl, hF8, -, hx⟩
  clear p0 p1 p2 p3 p4 p5 p6
  have hsn := hF8.sl.hlen
  have hgn := hF8.rw.hlen
  obtain rfl : sn8 = 2 := hsn.symm
  obtain rfl : gn8 = 1 := hgn.symm
  clear hsn hgn
  go_upto_region 9 with fail
  have hB8 := Bk.new w8 29 #[.int .i64 (exBx [exR3 N3]).host, .int .i64 (exBx [exR3 N3]).round, .int .u64 (exBx [exR3 N3]).head, .int .i64 (exBx [exR3 N3]).sent, .int .i64 (exBx [exR3 N3]).wait, .slice sa8 2 sc8, .slice ga8 1 gc8]
  replace hx := hx.alloc (.cells #[.int .i64 (exBx [exR3 N3]).host, .int .i64 (exBx [exR3 N3]).round, .int .u64 (exBx [exR3 N3]).head, .int .i64 (exBx [exR3 N3]).sent, .int .i64 (exBx [exR3 N3]).wait, .slice sa8 2 sc8, .slice ga8 1 gc8] 29)
  have hx2 : Ext w8 (w8.alloc (.cells #[.int .i64 (exBx [exR3 N3]).host, .int .i64 (exBx [exR3 N3]).round, .int .u64 (exBx [exR3 N3]).head, .int .i64 (exBx [exR3 N3]).sent, .int .i64 (exBx [exR3 N3]).wait, .slice sa8 2 sc8, .slice ga8 1 gc8] 29)) := (Ext.refl w8).alloc _
  generalize w8.alloc (.cells #[.int .i64 (exBx [exR3 N3]).host, .int .i64 (exBx [exR3 N3]).round, .int .u64 (exBx [exR3 N3]).head, .int .i64 (exBx [exR3 N3]).sent, .int .i64 (exBx [exR3 N3]).wait, .slice sa8 2 sc8, .slice ga8 1 gc8] 29) = V8 at *
  generalize w8.heap.size = b8 at hB8 ⊢
  replace hF8 := hF8.ext hx2
  clear hx2
  replace hS1q := hS1q.ext hx
  replace hS2q := hS2q.ext hx
  replace hS3q := hS3q.ext hx
  replace hE := hE.trans hx
  clear hx
  clear hB hF
  have p0 := hB8.c 0 _ rfl
  have p1 := hB8.c 1 _ rfl
  have p2 := hB8.c 2 _ rfl
  have p3 := hB8.c 3 _ rfl
  have p4 := hB8.c 4 _ rfl
  have p5 := hB8.c 5 _ rfl
  have p6 := hB8.c 6 _ rfl
  go_wp2_with fail
  refine (itake_is (exBx [exR3 N3]) sa8 2 sc8 ga8 1 gc8 xa3 xn3 xc3 (ppX (exR3 N3)) 130 V8 hF8 hS3q Y.out.2.2 (by omega) (by omega) (TB.ext HT.out hE) HTK.out.2.1).mono ?_
  rintro _ w9 ⟨sa9, sn9, sc9, ga9, gn9, gc9, rfl, hF9, -, hx⟩
  clear p0 p1 p2 p3 p4 p5 p6
  have hsn := hF9.sl.hlen
  have hgn := hF9.rw.hlen
  obtain rfl : sn9 = 2 := hsn.symm
  obtain rfl : gn9 = 1 := hgn.symm
  clear hsn hgn
  go_upto_region 10 with fail
  have hB9 := Bk.new w9 29 #[.int .i64 (exBx [exR3 N3]).host, .int .i64 (exBx [exR3 N3]).round, .int .u64 (exBx [exR3 N3]).head, .int .i64 (exBx [exR3 N3]).sent, .int .i64 (exBx [exR3 N3]).wait, .slice sa9 2 sc9, .slice ga9 1 gc9]
  replace hx := hx.alloc (.cells #[.int .i64 (exBx [exR3 N3]).host, .int .i64 (exBx [exR3 N3]).round, .int .u64 (exBx [exR3 N3]).head, .int .i64 (exBx [exR3 N3]).sent, .int .i64 (exBx [exR3 N3]).wait, .slice sa9 2 sc9, .slice ga9 1 gc9] 29)
  have hx2 : Ext w9 (w9.alloc (.cells #[.int .i64 (exBx [exR3 N3]).host, .int .i64 (exBx [exR3 N3]).round, .int .u64 (exBx [exR3 N3]).head, .int .i64 (exBx [exR3 N3]).sent, .int .i64 (exBx [exR3 N3]).wait, .slice sa9 2 sc9, .slice ga9 1 gc9] 29)) := (Ext.refl w9).alloc _
  generalize w9.alloc (.cells #[.int .i64 (exBx [exR3 N3]).host, .int .i64 (exBx [exR3 N3]).round, .int .u64 (exBx [exR3 N3]).head, .int .i64 (exBx [exR3 N3]).sent, .int .i64 (exBx [exR3 N3]).wait, .slice sa9 2 sc9, .slice ga9 1 gc9] 29) = V9 at *
  generalize w9.heap.size = b9 at hB9 ⊢
  replace hF9 := hF9.ext hx2
  clear hx2
  replace hS1q := hS1q.ext hx
  replace hS2q := hS2q.ext hx
  replace hS3q := hS3q.ext hx
  replace hE := hE.trans hx
  clear hx
  clear hB8 hF8
  have p0 := hB9.c 0 _ rfl
  have p1 := hB9.c 1 _ rfl
  have p2 := hB9.c 2 _ rfl
  have p3 := hB9.c 3 _ rfl
  have p4 := hB9.c 4 _ rfl
  have p5 := hB9.c 5 _ rfl
  have p6 := hB9.c 6 _ rfl
  go_wp2_with fail
  refine (itake_is (exBx [exR3 N3]) sa9 2 sc9 ga9 1 gc9 xa1 xn1 xc1 (ppX (exR1 N1)) 151 V9 hF9 hS1q Y.out.1 (by omega) (by omega) (TB.ext HT.out hE) HTK.out.2.2.1).mono ?_
  rintro _ w10 ⟨sa10, sn10, sc10, ga10, gn10, gc10, rfl, hF10, -, hx⟩
  clear p0 p1 p2 p3 p4 p5 p6
  have hsn := hF10.sl.hlen
  have hgn := hF10.rw.hlen
  obtain rfl : sn10 = 2 := hsn.symm
  obtain rfl : gn10 = 1 := hgn.symm
  clear hsn hgn
  go_upto_region 11 with fail
  have hB10 := Bk.new w10 29 #[.int .i64 (exBx [exR3 N3]).host, .int .i64 (exBx [exR3 N3]).round, .int .u64 (exBx [exR3 N3]).head, .int .i64 (exBx [exR3 N3]).sent, .int .i64 (exBx [exR3 N3]).wait, .slice sa10 2 sc10, .slice ga10 1 gc10]
  replace hx := hx.alloc (.cells #[.int .i64 (exBx [exR3 N3]).host, .int .i64 (exBx [exR3 N3]).round, .int .u64 (exBx [exR3 N3]).head, .int .i64 (exBx [exR3 N3]).sent, .int .i64 (exBx [exR3 N3]).wait, .slice sa10 2 sc10, .slice ga10 1 gc10] 29)
  have hx2 : Ext w10 (w10.alloc (.cells #[.int .i64 (exBx [exR3 N3]).host, .int .i64 (exBx [exR3 N3]).round, .int .u64 (exBx [exR3 N3]).head, .int .i64 (exBx [exR3 N3]).sent, .int .i64 (exBx [exR3 N3]).wait, .slice sa10 2 sc10, .slice ga10 1 gc10] 29)) := (Ext.refl w10).alloc _
  generalize w10.alloc (.cells #[.int .i64 (exBx [exR3 N3]).host, .int .i64 (exBx [exR3 N3]).round, .int .u64 (exBx [exR3 N3]).head, .int .i64 (exBx [exR3 N3]).sent, .int .i64 (exBx [exR3 N3]).wait, .slice sa10 2 sc10, .slice ga10 1 gc10] 29) = V10 at *
  generalize w10.heap.size = b10 at hB10 ⊢
  replace hF10 := hF10.ext hx2
  clear hx2
  replace hS1q := hS1q.ext hx
  replace hS2q := hS2q.ext hx
  replace hS3q := hS3q.ext hx
  replace hB9 := hB9.ext hx
  replace hF9 := hF9.ext hx
  replace hE := hE.trans hx
  clear hx
  clear hB10 hF10
  have p0 := hB9.c 0 _ rfl
  have p1 := hB9.c 1 _ rfl
  have p2 := hB9.c 2 _ rfl
  have p3 := hB9.c 3 _ rfl
  have p4 := hB9.c 4 _ rfl
  have p5 := hB9.c 5 _ rfl
  have p6 := hB9.c 6 _ rfl
  go_wp2_with fail
  refine (itake_is (exBx [exR3 N3]) sa9 2 sc9 ga9 1 gc9 xa1 xn1 xc1 (ppX (exR1 N1)) 150 V10 hF9 hS1q Y.out.1 (by omega) (by omega) (TB.ext HT.out hE) HTK.out.2.2.2.1).mono ?_
  rintro _ w11 ⟨sa11, sn11, sc11, ga11, gn11, gc11, rfl, hF11, -, hx⟩
  clear p0 p1 p2 p3 p4 p5 p6
  have hsn := hF11.sl.hlen
  have hgn := hF11.rw.hlen
  obtain rfl : sn11 = 2 := hsn.symm
  obtain rfl : gn11 = 2 := hgn.symm
  clear hsn hgn
  go_upto_region 12 with fail
  have hB11 := Bk.new w11 29 #[.int .i64 (exBx [exR1 N1, exR3 N3]).host, .int .i64 (exBx [exR1 N1, exR3 N3]).round, .int .u64 (exBx [exR1 N1, exR3 N3]).head, .int .i64 (exBx [exR1 N1, exR3 N3]).sent, .int .i64 (exBx [exR1 N1, exR3 N3]).wait, .slice sa11 2 sc11, .slice ga11 2 gc11]
  replace hx := hx.alloc (.cells #[.int .i64 (exBx [exR1 N1, exR3 N3]).host, .int .i64 (exBx [exR1 N1, exR3 N3]).round, .int .u64 (exBx [exR1 N1, exR3 N3]).head, .int .i64 (exBx [exR1 N1, exR3 N3]).sent, .int .i64 (exBx [exR1 N1, exR3 N3]).wait, .slice sa11 2 sc11, .slice ga11 2 gc11] 29)
  have hx2 : Ext w11 (w11.alloc (.cells #[.int .i64 (exBx [exR1 N1, exR3 N3]).host, .int .i64 (exBx [exR1 N1, exR3 N3]).round, .int .u64 (exBx [exR1 N1, exR3 N3]).head, .int .i64 (exBx [exR1 N1, exR3 N3]).sent, .int .i64 (exBx [exR1 N1, exR3 N3]).wait, .slice sa11 2 sc11, .slice ga11 2 gc11] 29)) := (Ext.refl w11).alloc _
  generalize w11.alloc (.cells #[.int .i64 (exBx [exR1 N1, exR3 N3]).host, .int .i64 (exBx [exR1 N1, exR3 N3]).round, .int .u64 (exBx [exR1 N1, exR3 N3]).head, .int .i64 (exBx [exR1 N1, exR3 N3]).sent, .int .i64 (exBx [exR1 N1, exR3 N3]).wait, .slice sa11 2 sc11, .slice ga11 2 gc11] 29) = V11 at *
  generalize w11.heap.size = b11 at hB11 ⊢
  replace hF11 := hF11.ext hx2
  clear hx2
  replace hS1q := hS1q.ext hx
  replace hS2q := hS2q.ext hx
  replace hS3q := hS3q.ext hx
  replace hE := hE.trans hx
  clear hx
  clear hB9 hF9
  have p0 := hB11.c 0 _ rfl
  have p1 := hB11.c 1 _ rfl
  have p2 := hB11.c 2 _ rfl
  have p3 := hB11.c 3 _ rfl
  have p4 := hB11.c 4 _ rfl
  have p5 := hB11.c 5 _ rfl
  have p6 := hB11.c 6 _ rfl
  go_wp2_with fail
  refine (itake_is (exBx [exR1 N1, exR3 N3]) sa11 2 sc11 ga11 2 gc11 xa2 xn2 xc2 (ppX (exR2 N2)) 110 V11 hF11 hS2q Y.out.2.1 (by omega) (by omega) (TB.ext HT.out hE) HTK.out.2.2.2.2.1).mono ?_
  rintro _ w12 ⟨sa12, sn12, sc12, ga12, gn12, gc12, rfl, hF12, -, hx⟩
  clear p0 p1 p2 p3 p4 p5 p6
  have hsn := hF12.sl.hlen
  have hgn := hF12.rw.hlen
  obtain rfl : sn12 = 2 := hsn.symm
  obtain rfl : gn12 = 2 := hgn.symm
  clear hsn hgn
  go_upto_region 13 with fail
  have hB12 := Bk.new w12 29 #[.int .i64 (exBx [exR1 N1, exR3 N3]).host, .int .i64 (exBx [exR1 N1, exR3 N3]).round, .int .u64 (exBx [exR1 N1, exR3 N3]).head, .int .i64 (exBx [exR1 N1, exR3 N3]).sent, .int .i64 (exBx [exR1 N1, exR3 N3]).wait, .slice sa12 2 sc12, .slice ga12 2 gc12]
  replace hx := hx.alloc (.cells #[.int .i64 (exBx [exR1 N1, exR3 N3]).host, .int .i64 (exBx [exR1 N1, exR3 N3]).round, .int .u64 (exBx [exR1 N1, exR3 N3]).head, .int .i64 (exBx [exR1 N1, exR3 N3]).sent, .int .i64 (exBx [exR1 N1, exR3 N3]).wait, .slice sa12 2 sc12, .slice ga12 2 gc12] 29)
  have hx2 : Ext w12 (w12.alloc (.cells #[.int .i64 (exBx [exR1 N1, exR3 N3]).host, .int .i64 (exBx [exR1 N1, exR3 N3]).round, .int .u64 (exBx [exR1 N1, exR3 N3]).head, .int .i64 (exBx [exR1 N1, exR3 N3]).sent, .int .i64 (exBx [exR1 N1, exR3 N3]).wait, .slice sa12 2 sc12, .slice ga12 2 gc12] 29)) := (Ext.refl w12).alloc _
  generalize w12.alloc (.cells #[.int .i64 (exBx [exR1 N1, exR3 N3]).host, .int .i64 (exBx [exR1 N1, exR3 N3]).round, .int .u64 (exBx [exR1 N1, exR3 N3]).head, .int .i64 (exBx [exR1 N1, exR3 N3]).sent, .int .i64 (exBx [exR1 N1, exR3 N3]).wait, .slice sa12 2 sc12, .slice ga12 2 gc12] 29) = V12 at *
  generalize w12.heap.size = b12 at hB12 ⊢
  replace hF12 := hF12.ext hx2
  clear hx2
  replace hS1q := hS1q.ext hx
  replace hS2q := hS2q.ext hx
  replace hS3q := hS3q.ext hx
  replace hB11 := hB11.ext hx
  replace hF11 := hF11.ext hx
  replace hE := hE.trans hx
  clear hx
  clear hB12 hF12
  have p0 := hB11.c 0 _ rfl
  have p1 := hB11.c 1 _ rfl
  have p2 := hB11.c 2 _ rfl
  have p3 := hB11.c 3 _ rfl
  have p4 := hB11.c 4 _ rfl
  have p5 := hB11.c 5 _ rfl
  have p6 := hB11.c 6 _ rfl
  go_wp2_with fail
  refine (itake_is (exBx [exR1 N1, exR3 N3]) sa11 2 sc11 ga11 2 gc11 none 0 0 [] 110 V12 hF11 (Sl.noneNil _ V12) (by omega) (by omega) (by omega) (TB.ext HT.out hE) HTK.out.2.2.2.2.2.1).mono ?_
  rintro _ w13 ⟨sa13, sn13, sc13, ga13, gn13, gc13, rfl, hF13, -, hx⟩
  clear p0 p1 p2 p3 p4 p5 p6
  have hsn := hF13.sl.hlen
  have hgn := hF13.rw.hlen
  obtain rfl : sn13 = 2 := hsn.symm
  obtain rfl : gn13 = 2 := hgn.symm
  clear hsn hgn
  go_upto_region 14 with fail
  have hB13 := Bk.new w13 29 #[.int .i64 (exBx [exR1 N1, exR3 N3]).host, .int .i64 (exBx [exR1 N1, exR3 N3]).round, .int .u64 (exBx [exR1 N1, exR3 N3]).head, .int .i64 (exBx [exR1 N1, exR3 N3]).sent, .int .i64 (exBx [exR1 N1, exR3 N3]).wait, .slice sa13 2 sc13, .slice ga13 2 gc13]
  replace hx := hx.alloc (.cells #[.int .i64 (exBx [exR1 N1, exR3 N3]).host, .int .i64 (exBx [exR1 N1, exR3 N3]).round, .int .u64 (exBx [exR1 N1, exR3 N3]).head, .int .i64 (exBx [exR1 N1, exR3 N3]).sent, .int .i64 (exBx [exR1 N1, exR3 N3]).wait, .slice sa13 2 sc13, .slice ga13 2 gc13] 29)
  have hx2 : Ext w13 (w13.alloc (.cells #[.int .i64 (exBx [exR1 N1, exR3 N3]).host, .int .i64 (exBx [exR1 N1, exR3 N3]).round, .int .u64 (exBx [exR1 N1, exR3 N3]).head, .int .i64 (exBx [exR1 N1, exR3 N3]).sent, .int .i64 (exBx [exR1 N1, exR3 N3]).wait, .slice sa13 2 sc13, .slice ga13 2 gc13] 29)) := (Ext.refl w13).alloc _
  generalize w13.alloc (.cells #[.int .i64 (exBx [exR1 N1, exR3 N3]).host, .int .i64 (exBx [exR1 N1, exR3 N3]).round, .int .u64 (exBx [exR1 N1, exR3 N3]).head, .int .i64 (exBx [exR1 N1, exR3 N3]).sent, .int .i64 (exBx [exR1 N1, exR3 N3]).wait, .slice sa13 2 sc13, .slice ga13 2 gc13] 29) = V13 at *
  generalize w13.heap.size = b13 at hB13 ⊢
  replace hF13 := hF13.ext hx2
  clear hx2
  replace hS1q := hS1q.ext hx
  replace hS2q := hS2q.ext hx
  replace hS3q := hS3q.ext hx
  replace hB11 := hB11.ext hx
  replace hF11 := hF11.ext hx
  replace hE := hE.trans hx
  clear hx
  clear hB13 hF13
  have p0 := hB11.c 0 _ rfl
  have p1 := hB11.c 1 _ rfl
  have p2 := hB11.c 2 _ rfl
  have p3 := hB11.c 3 _ rfl
  have p4 := hB11.c 4 _ rfl
  have p5 := hB11.c 5 _ rfl
  have p6 := hB11.c 6 _ rfl
  go_wp2_with fail
  refine (itake_is (exBx [exR1 N1, exR3 N3]) sa11 2 sc11 ga11 2 gc11 xa1 xn1 xc1 (ppX (exR1 N1)) 99 V13 hF11 hS1q Y.out.1 (by omega) (by omega) (TB.ext HT.out hE) HTK.out.2.2.2.2.2.2).mono ?_
  rintro _ w14 ⟨sa14, sn14, sc14, ga14, gn14, gc14, rfl, hF14, -, hx⟩
  clear p0 p1 p2 p3 p4 p5 p6
  go_upto_region 15 with fail
  have hB14 := Bk.new w14 29 #[.int .i64 bx0.host, .int .i64 bx0.round, .int .u64 bx0.head, .int .i64 bx0.sent, .int .i64 bx0.wait, .slice sa14 sn14 sc14, .slice ga14 gn14 gc14]
  replace hx := hx.alloc (.cells #[.int .i64 bx0.host, .int .i64 bx0.round, .int .u64 bx0.head, .int .i64 bx0.sent, .int .i64 bx0.wait, .slice sa14 sn14 sc14, .slice ga14 gn14 gc14] 29)
  have hx2 : Ext w14 (w14.alloc (.cells #[.int .i64 bx0.host, .int .i64 bx0.round, .int .u64 bx0.head, .int .i64 bx0.sent, .int .i64 bx0.wait, .slice sa14 sn14 sc14, .slice ga14 gn14 gc14] 29)) := (Ext.refl w14).alloc _
  generalize w14.alloc (.cells #[.int .i64 bx0.host, .int .i64 bx0.round, .int .u64 bx0.head, .int .i64 bx0.sent, .int .i64 bx0.wait, .slice sa14 sn14 sc14, .slice ga14 gn14 gc14] 29) = V14 at *
  generalize w14.heap.size = b14 at hB14 ⊢
  replace hF14 := hF14.ext hx2
  clear hx2
  replace hS1q := hS1q.ext hx
  replace hS2q := hS2q.ext hx
  replace hS3q := hS3q.ext hx
  replace hB11 := hB11.ext hx
  replace hF11 := hF11.ext hx
  replace hE := hE.trans hx
  clear hx
  clear hB14 hF14
  have hR := hF11.rw
  obtain ⟨gb, go, rfl, hcg⟩ := hR.at (by omega)
  have c0 := hcg 0 (by omega)
  have c1 := hcg 1 (by omega)
  have e0 : nthR (exBx [exR1 N1, exR3 N3]).got 0 = exR1 N1 := rfl
  have e1 : nthR (exBx [exR1 N1, exR3 N3]).got 1 = exR3 N3 := rfl
  rw [e0, sz_rp] at c0
  rw [e1, sz_rp] at c1
  simp only [Nat.zero_mul, Nat.add_zero, Nat.one_mul] at c0 c1
  obtain ⟨u0, -⟩ := cells_rp c0
  have u1 := (cells_rp c1).2.2.2.2.1
  have u0' : V14.cell? ⟨gb, go, none⟩ = some (.int .i64 1) := u0
  have u1' : V14.cell? ⟨gb, go + 10 + 4, none⟩ = some (.int .i64 7) := u1
  have u1'' : V14.cell? ⟨gb, go + 14, none⟩ = some (.int .i64 7) := u1
  clear c0 c1 e0 e1 hcg hR u0 u1
  have p0 := hB11.c 0 _ rfl
  have p1 := hB11.c 1 _ rfl
  have p2 := hB11.c 2 _ rfl
  have p3 := hB11.c 3 _ rfl
  have p4 := hB11.c 4 _ rfl
  have p5 := hB11.c 5 _ rfl
  have p6 := hB11.c 6 _ rfl
  go_wp2_with fail
  go_ret
  exact ⟨rfl, hE⟩
end Go.Proofs.YtdmfdimhjemngaaGreatDoor
