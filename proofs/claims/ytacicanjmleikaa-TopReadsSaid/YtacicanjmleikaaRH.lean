/-
  r14Run, walked. Written by wip/gen_rh.py.
-/
import Derived.Test.YtacicanjmleikaaRG
namespace Go.Proofs.Ytacicanjmleikaa
open Go.RowKit Go.Sort Go.Shelf
set_option linter.unusedSimpArgs false
set_option linter.unusedVariables false
set_option maxRecDepth 100000

theorem stp_v {l : Ld} {q : TxR} {t : Tx} {hi : Int} {w w' : World} {e : Ending} (h : StP l q t hi w e w') : ∃ v, e = .returned v ∧ ∃ B : Bool, (stE l t hi B ≠ 0 ∧ v = .tuple #[.agg #[.int .i64 0, .slice none 0 0, .slice none 0 0], .agg #[.int .i64 0, .int .i64 0, .slice none 0 0, .slice none 0 0], .int .i64 (stE l t hi B)] ∧ Ext w w') ∨
       (stE l t hi B = 0 ∧ ∃ r' a1 c1 a2 c2, v = .tuple #[valL r', valT ⟨q.id, max (l.last + 1) hi, a1, q.rn, c1, a2, q.wn, c2⟩, .int .i64 0] ∧ LdD w.heap.size w' r' (stampL l t hi) ∧ OwR 77 w.heap.size w' a1 q.rn c1 t.rd ∧ OwR 60 w.heap.size w' a2 q.wn c2 t.wr ∧ Ext w w') := by
  obtain ⟨B, _, (⟨h1, rfl, h2⟩ | ⟨h1, r', a1, c1, a2, c2, rfl, h2⟩)⟩ := h
  · exact ⟨_, rfl, B, .inl ⟨h1, rfl, h2⟩⟩
  · exact ⟨_, rfl, B, .inr ⟨h1, r', a1, c1, a2, c2, rfl, h2⟩⟩
theorem LdL.setCr6 {W : World} {cb : Nat} {v0 v4 v0' v4' : Int} {a1 a2 a3 a1' a2' a3' : Option Addr} {n1 c1 n2 c2 n3 c3 n1' c1' n2' c2' n3' c3' : Nat} {b5 b5' : Bool} (hB : Bk W cb 38 #[.int .i64 v0, .slice a1 n1 c1, .slice a2 n2 c2, .slice a3 n3 c3, .int .i64 v4, .bool b5]) {r : LdR} {l : Ld} (h : LdL W r l) :
    LdL ((((((W.setCell ⟨cb, 0, none⟩ (.int .i64 v0')).setCell ⟨cb, 1, none⟩ (.slice a1' n1' c1')).setCell ⟨cb, 2, none⟩ (.slice a2' n2' c2')).setCell ⟨cb, 3, none⟩ (.slice a3' n3' c3')).setCell ⟨cb, 4, none⟩ (.int .i64 v4')).setCell ⟨cb, 5, none⟩ (.bool b5')) r l :=
  LdL.setCr (((((hB.set 0 (.int .i64 v0')).set 1 (.slice a1' n1' c1')).set 2 (.slice a2' n2' c2')).set 3 (.slice a3' n3' c3')).set 4 (.int .i64 v4'))
    (LdL.setCr ((((hB.set 0 (.int .i64 v0')).set 1 (.slice a1' n1' c1')).set 2 (.slice a2' n2' c2')).set 3 (.slice a3' n3' c3'))
      (LdL.setCr (((hB.set 0 (.int .i64 v0')).set 1 (.slice a1' n1' c1')).set 2 (.slice a2' n2' c2')) (LdL.setCr3 hB h) 3 _) 4 _) 5 _
theorem keep_set6 {W : World} {base b : Nat} (hb : b < base) (v0 v1 v2 v3 v4 v5 : Value) : ∀ k, base ≤ k → k < W.heap.size → ((((((W.setCell ⟨b, 0, none⟩ v0).setCell ⟨b, 1, none⟩ v1).setCell ⟨b, 2, none⟩ v2).setCell ⟨b, 3, none⟩ v3).setCell ⟨b, 4, none⟩ v4).setCell ⟨b, 5, none⟩ v5).heap[k]? = W.heap[k]? := fun k hk hlt =>
  ((heap_setCell_other _ ⟨b, 5, none⟩ k v5 (by simp only; omega)).trans (heap_setCell_other _ ⟨b, 4, none⟩ k v4 (by simp only; omega))).trans (keep_set4 hb v0 v1 v2 v3 k hk hlt)
theorem around_ok {at_ l r : Int} (h0 : 0 ≤ at_ ∧ at_ ≤ 1000000000000) (hl : 0 ≤ l ∧ l ≤ 65535) (hr : 0 ≤ r ∧ r ≤ 65535) : ivB (loA at_ l) (hiA at_ r) = true := ivB_iff.2 (by unfold loA hiA; omega)
/-- What a course ends with: a leader by which d were stamped. -/
def RunP (n : Nat) (w : World) (e : Ending) (w' : World) : Prop := ∃ (r : LdR) (l : Ld) (d : List Tx) (da : Option Addr) (dn dc : Nat) (now : Int), e = .returned (.agg #[.int .i64 r.last, .slice r.sa r.sn r.sc, .slice r.oa r.on r.oc, .slice da dn dc, .int .i64 now, .bool true]) ∧ LdL w' r l ∧ Txs w' da dn dc d ∧ CInv l d ∧ 0 ≤ now ∧ now ≤ 4294967295 * n ∧ dn ≤ n ∧ Ext w w'

set_option maxHeartbeats 8000000 in
theorem crun_any (a : Option Addr) (n c : Nat) (ds : List Dd) (w : World) (h : Dds w a n c ds) (hn : n ≤ 12) (hb : ∀ d ∈ ds, d.t.rd.length ≤ 1000000 ∧ d.t.wr.length ≤ 1000000) :
    Calls Try.prog 7 #[.slice a n c] w (RunP n w) := by
  have bd := h.bd
  have HLD := Lib.hid h.hlen
  have HBD := Lib.hid hb
  clear hb
  have hR := (Bk.new w 38 #[.int .i64 0, .slice none 0 0, .slice none 0 0, .slice none 0 0, .int .i64 0, .bool false]).ext ((Ext.refl _).alloc (.cells #[.int .i64 0, .slice none 0 0, .slice none 0 0, .slice none 0 0, .int .i64 0, .bool true] 38))
  have hC := Bk.new (w.alloc (.cells #[.int .i64 0, .slice none 0 0, .slice none 0 0, .slice none 0 0, .int .i64 0, .bool false] 38)) 38 #[.int .i64 0, .slice none 0 0, .slice none 0 0, .slice none 0 0, .int .i64 0, .bool true]
  have hE : Ext w ((w.alloc (.cells #[.int .i64 0, .slice none 0 0, .slice none 0 0, .slice none 0 0, .int .i64 0, .bool false] 38)).alloc (.cells #[.int .i64 0, .slice none 0 0, .slice none 0 0, .slice none 0 0, .int .i64 0, .bool true] 38)) := ((Ext.refl w).alloc _).alloc _
  simp only [World.size_alloc] at hC
  go_enter Try.func7, Try.ntmps7
  go_upto_region 2 with fail
  generalize (w.alloc (.cells #[.int .i64 0, .slice none 0 0, .slice none 0 0, .slice none 0 0, .int .i64 0, .bool false] 38)).alloc (.cells #[.int .i64 0, .slice none 0 0, .slice none 0 0, .slice none 0 0, .int .i64 0, .bool true] 38) = V at *
  obtain ⟨rb, hrb⟩ : ∃ rb, w.heap.size = rb := ⟨_, rfl⟩
  obtain ⟨cb, hcb⟩ : ∃ cb, w.heap.size + 1 = cb := ⟨_, rfl⟩
  have hwr : w.heap.size ≤ rb := by omega
  have hwc : w.heap.size ≤ cb := by omega
  have hne : cb ≠ rb := by omega
  rw [hcb] at hC ⊢
  rw [hrb] at hR ⊢
  clear hrb hcb
  obtain ⟨B, hBq⟩ : ∃ B, V.heap.size = B := ⟨_, rfl⟩
  have HB : Hid (cb < B ∧ rb < B ∧ w.heap.size ≤ cb ∧ cb ≠ rb) := Lib.hid ⟨by rw [← hBq]; exact hC.lt, by rw [← hBq]; exact hR.lt, hwc, hne⟩
  have HBV : Hid (B ≤ V.heap.size) := Lib.hid (by omega)
  clear hBq
  have HC0 := Lib.hid hC
  have HR0 := Lib.hid hR
  clear hC hR
  go_wp2_with fail
  go_loopw [16] (fun i wr => ∃ (k : Nat) (r : LdR) (l : Ld) (d : List Tx) (da : Option Addr) (dn dc : Nat) (now : Int), k ≤ n ∧ i = .int .i64 k ∧ Hid (CInv l d) ∧ Hid (0 ≤ now ∧ now ≤ 4294967295 * k) ∧ Hid (dn ≤ k) ∧ Hid (LdL wr r l) ∧ Hid (OwD B wr da dn dc d) ∧ Ext w wr ∧ Hid (Bk wr cb 38 #[.int .i64 r.last, .slice r.sa r.sn r.sc, .slice r.oa r.on r.oc, .slice da dn dc, .int .i64 now, .bool true]) ∧ Hid (Bk wr rb 38 #[.int .i64 0, .slice none 0 0, .slice none 0 0, .slice none 0 0, .int .i64 0, .bool false]) ∧ Hid (B ≤ wr.heap.size)) (fun i _ => n - (intOf i).toNat)
  case atStart => exact ⟨0, ⟨0, none, 0, 0, none, 0, 0⟩, ⟨0, [], []⟩, [], none, 0, 0, 0, by omega, rfl, Lib.hid CInv.zero, Lib.hid (by omega), Lib.hid (by omega), Lib.hid ⟨rfl, Rw.nil _, Txs.nil _⟩, Lib.hid (OwD.nil _ _), hE, HC0, HR0, HBV⟩
  case round =>
    clear HC0 HR0 HBV hE
    obtain ⟨k, r, l, d, da, dn, dc, now, hk, rfl, HCI, HNW0, HDN, HL, HO, hE, HC, HR, HBZ⟩ := hrel
    obtain ⟨last, sa, sn, sc, oa, on, oc⟩ := r
    simp only at HC
    have hC := HC.out
    have hR := HR.out
    have hL := HL.out
    have hO := HO.out
    have hBz := HBZ.out
    clear HC HR HL HO HBZ
    by_cases hlt : k < n
    · obtain ⟨x1, o1, rfl, hc1⟩ := h.at (by omega)
      obtain ⟨q, hr0, hdl, hok⟩ := hc1 k hlt
      have hr := rangeAt_ext hr0 hE
      have HBK := Lib.hid (HBD.out (nthD ds k) (by rw [nthD_get (by rw [HLD.out]; exact hlt)]; exact List.getElem_mem _))
      have HTX := Lib.hid (fun (W : World) (hx : Ext w W) => hdl.t.ext hx)
      have HOKT := Lib.hid hok.t
      have hrn : q.t.rn ≤ 1000000 := by have := HBK.out.1; rw [hdl.t.rd.hlen] at this; exact this
      have hwn : q.t.wn ≤ 1000000 := by have := HBK.out.2; rw [hdl.t.wr.hlen] at this; exact this
      have ha := hok.after
      have hl0 := hok.left
      have hr1 := hok.right
      clear hr0 hc1 hdl hok
      generalize (nthD ds k).t = t at *
      obtain ⟨⟨id, ts, ra, rn, rc, wa, wn, wc⟩, after, left, right, look⟩ := q
      simp only at hrn hwn ha hl0 hr1 HTX HOKT
      obtain ⟨d0, d1, d2, d3, d4, d5, d6, d7⟩ := cells_dr hr
      simp only at d0 d1 d2 d3 d4 d5 d6 d7
      clear hr
      have hD := Bk.new wr 30 #[.int .i64 id, .int .i64 ts, .slice ra rn rc, .slice wa wn wc, .int .u32 after, .int .u16 left, .int .u16 right, .bool look]
      have hx : Ext wr (wr.alloc (.cells #[.int .i64 id, .int .i64 ts, .slice ra rn rc, .slice wa wn wc, .int .u32 after, .int .u16 left, .int .u16 right, .bool look] 30)) := (Ext.refl wr).alloc _
      go_upto_region 5 with fail
      clear d0 d1 d2 d3 d4 d5 d6 d7
      have hdc : cb ≠ wr.heap.size := by have := HB.out.1; omega
      replace hC := hC.ext hx
      replace hR := hR.ext hx
      replace hL := hL.ext hx
      replace hO := hO.ext hx
      replace hE := hE.trans hx
      replace hBz := Nat.le_trans hBz hx.sz
      clear hx
      generalize wr.alloc (.cells #[.int .i64 id, .int .i64 ts, .slice ra rn rc, .slice wa wn wc, .int .u32 after, .int .u16 left, .int .u16 right, .bool look] 30) = V1 at *
      obtain ⟨xb, hxb⟩ : ∃ xb, wr.heap.size = xb := ⟨_, rfl⟩
      rw [hxb] at hD hdc ⊢
      clear hxb
      have k4 := hC.c 4 _ rfl
      have y4 := hD.c 4 _ rfl
      have hf := hC.free
      have hnw := HNW0.out
      have e1 : IntKind.i64.wrap after = after := by rw [IntKind.wrap_i64]; omega
      have e2 : IntKind.i64.wrap (now + after) = now + after := by rw [IntKind.wrap_i64]; omega
      have HNW : Hid (0 ≤ now + after ∧ now + after ≤ 4294967295 * (k + 1 : Nat)) := Lib.hid (by push_cast; omega)
      have HNB : Hid (0 ≤ now + after ∧ now + after ≤ 1000000000000) := Lib.hid (by omega)
      clear hnw
      go_upto_region 6 with fail
      replace hL := LdL.setCr hC hL 4 (.int .i64 (now + after))
      replace hO := hO.keepHi (keep_set HB.out.1 4 (.int .i64 (now + after)))
      replace hD := hD.otherB hdc 4 (.int .i64 (now + after))
      replace hR := hR.otherB hne 4 (.int .i64 (now + after))
      replace hE := hE.setCell (p := ⟨cb, 4, none⟩) hwc (.int .i64 (now + after))
      replace hBz : B ≤ (V1.setCell ⟨cb, 4, none⟩ (.int .i64 (now + after))).heap.size := by simp [World.setCell]; exact hBz
      replace hC : Bk (V1.setCell ⟨cb, 4, none⟩ (.int .i64 (now + after))) cb 38 #[.int .i64 last, .slice sa sn sc, .slice oa on oc, .slice da dn dc, .int .i64 (now + after), .bool true] := hC.set 4 (.int .i64 (now + after))
      generalize V1.setCell ⟨cb, 4, none⟩ (.int .i64 (now + after)) = V2 at *
      clear k4 y4 hf e1 e2 HNW0
      generalize now + after = now at *
      have k4 := hC.c 4 _ rfl
      have y5 := hD.c 5 _ rfl
      have y6 := hD.c 6 _ rfl
      have HAR := Lib.hid (around_any now left right V2 HNB.out hl0 hr1)
      have HIV := Lib.hid (around_ok HNB.out hl0 hr1)
      generalize loA now left = lo at *
      generalize hiA now right = hi at *
      clear HNB
      go_wp2_with (go_at_call 8; refine HAR.out.mono ?_; rintro e V3 ⟨rfl, hx⟩; refine hold ?_)
      refine held ?_
      clear k4 y5 y6 HAR
      replace hC := hC.ext hx
      replace hR := hR.ext hx
      replace hD := hD.ext hx
      replace hL := hL.ext hx
      replace hO := hO.ext hx
      replace hE := hE.trans hx
      replace hBz := Nat.le_trans hBz hx.sz
      clear hx
      have hI := Bk.new V3 41 #[.int .i64 lo, .int .i64 hi]
      have hx : Ext V3 (V3.alloc (.cells #[.int .i64 lo, .int .i64 hi] 41)) := (Ext.refl V3).alloc _
      have hic : cb ≠ V3.heap.size := by have := HB.out.1; omega
      go_upto_region 7 with fail
      replace hC := hC.ext hx
      replace hR := hR.ext hx
      replace hD := hD.ext hx
      replace hL := hL.ext hx
      replace hO := hO.ext hx
      replace hE := hE.trans hx
      replace hBz := Nat.le_trans hBz hx.sz
      clear hx
      generalize V3.alloc (.cells #[.int .i64 lo, .int .i64 hi] 41) = V5 at *
      obtain ⟨ib, hib⟩ : ∃ ib, V3.heap.size = ib := ⟨_, rfl⟩
      rw [hib] at hI hic ⊢
      clear hib
      have y7 := hD.c 7 _ rfl
      cases look with
      | false =>
        go_upto_region 13 with fail
        clear y7
        have k0 := hC.c 0 _ rfl
        have k1 := hC.c 1 _ rfl
        have k2 := hC.c 2 _ rfl
        have y0 := hD.c 0 _ rfl
        have y1 := hD.c 1 _ rfl
        have y2 := hD.c 2 _ rfl
        have y3 := hD.c 3 _ rfl
        have i0 := hI.c 0 _ rfl
        have i1 := hI.c 1 _ rfl
        have HSTM := Lib.hid (cstamp_any ⟨last, sa, sn, sc, oa, on, oc⟩ l ⟨id, ts, ra, rn, rc, wa, wn, wc⟩ t lo hi V5 hL HCI.out.val (HTX.out V5 hE) HIV.out hrn hwn)
        unfold valL valT at HSTM
        go_wp2_with (go_at_call 11; refine HSTM.out.mono ?_; intro e V6 hsp0; obtain ⟨v9, rfl, hsp⟩ := stp_v hsp0; refine hold ?_)
        refine held ?_
        have HS0 := Lib.hid hBz
        have HDL := Lib.hid (row_lt hO)
        obtain ⟨S0, hS0⟩ : ∃ S0, V5.heap.size = S0 := ⟨_, rfl⟩
        rw [hS0] at HS0 HDL hsp
        have HS5 := Lib.hid hS0
        clear k0 k1 k2 y0 y1 y2 y3 i0 i1 hS0
        obtain ⟨B9, (⟨hE0, rfl, hx⟩ | ⟨hE1, r9, a1, c1, a2, c2, rfl, hD9, p1, p2, hx⟩)⟩ := hsp
        · generalize stE l t hi B9 = E at *
          have hEb : (E == 0) = false := by simp [hE0]
          replace hC := hC.ext hx
          replace hR := hR.ext hx
          replace hD := hD.ext hx
          replace hL := hL.ext hx
          replace hO := hO.ext hx
          replace hE := hE.trans hx
          replace hBz := Nat.le_trans hBz hx.sz
          replace hI := hI.ext hx
          clear hx
          have hx : Ext V6 ((V6.alloc (.cells #[.int .i64 0, .slice none 0 0, .slice none 0 0] 36)).alloc (.cells #[.int .i64 0, .int .i64 0, .slice none 0 0, .slice none 0 0] 26)) := ((Ext.refl V6).alloc _).alloc _
          replace hC := hC.ext hx
          replace hR := hR.ext hx
          replace hD := hD.ext hx
          replace hL := hL.ext hx
          replace hO := hO.ext hx
          replace hE := hE.trans hx
          replace hBz := Nat.le_trans hBz hx.sz
          replace hI := hI.ext hx
          clear hx
          go_wp2_with fail
          exact ⟨⟨k + 1, ⟨last, sa, sn, sc, oa, on, oc⟩, l, d, da, dn, dc, now, by omega, by go_num, HCI, HNW, Lib.hid (by have := HDN.out; omega), Lib.hid hL, Lib.hid hO, hE, Lib.hid hC, Lib.hid hR, Lib.hid hBz⟩, by simp only [intOf]; omega⟩
        · obtain ⟨z1, z2, z3, z4, z5⟩ := stE_zero hE1
          have HCI9 := Lib.hid (HCI.out.stamp z1 z3 z4 z5)
          obtain ⟨M, hM⟩ : ∃ M, max (l.last + 1) hi = M := ⟨_, rfl⟩
          have HM := Lib.hid hM
          have HTF : Hid ((stampT l t hi).id = t.id ∧ (stampT l t hi).ts = M ∧ (stampT l t hi).rd = t.rd ∧ (stampT l t hi).wr = t.wr) := Lib.hid ⟨rfl, hM, rfl, rfl⟩
          have HMW : Hid ((Lit.int .i64 M).wf = true) := Lib.hid (by rw [hM] at z5; have := HCI.out.val.last; simp [Lit.wf, IntKind.min, IntKind.max, IntKind.bits, IntKind.signed]; omega)
          rw [hM]
          clear hM z1 z2 z3 z4 z5 hE1
          generalize stampL l t hi = l9 at *
          generalize stampT l t hi = t9 at *
          have HVL := Lib.hid HCI9.out.val
          obtain ⟨last9, sa9, sn9, sc9, oa9, on9, oc9⟩ := r9
          rw [show valL ⟨last9, sa9, sn9, sc9, oa9, on9, oc9⟩ = .agg #[.int .i64 last9, .slice sa9 sn9 sc9, .slice oa9 on9 oc9] from rfl, show valT ⟨id, M, a1, rn, c1, a2, wn, c2⟩ = .agg #[.int .i64 id, .int .i64 M, .slice a1 rn c1, .slice a2 wn c2] from rfl]
          rw [← HTF.out.2.2.1] at p1
          rw [← HTF.out.2.2.2] at p2
          have HWF : Hid ((∀ x ∈ t9.rd, Cel.ok x) ∧ (∀ x ∈ t9.wr, Cel.ok x)) := Lib.hid ⟨by rw [HTF.out.2.2.1]; exact (HTX.out V5 hE).rd.wf, by rw [HTF.out.2.2.2]; exact (HTX.out V5 hE).wr.wf⟩
          have HID : Hid (id = t9.id ∧ M = t9.ts) := Lib.hid ⟨(HTX.out V5 hE).id.trans HTF.out.1.symm, HTF.out.2.1.symm⟩
          have HS6 := Lib.hid (Nat.le_trans (show S0 ≤ S0 from Nat.le_refl _) (Nat.le_refl _))
          have HX6 := Lib.hid hx
          replace hC := hC.ext hx
          replace hR := hR.ext hx
          replace hD := hD.ext hx
          replace hL := hL.ext hx
          replace hO := hO.ext hx
          replace hE := hE.trans hx
          replace hBz := Nat.le_trans hBz hx.sz
          replace hI := hI.ext hx
          clear hx
          have hxx : Ext V6 ((V6.alloc (.cells #[.int .i64 last9, .slice sa9 sn9 sc9, .slice oa9 on9 oc9] 36)).alloc (.cells #[.int .i64 id, .int .i64 M, .slice a1 rn c1, .slice a2 wn c2] 26)) := ((Ext.refl V6).alloc _).alloc _
          have hM9 := (Bk.new V6 36 #[.int .i64 last9, .slice sa9 sn9 sc9, .slice oa9 on9 oc9]).ext ((Ext.refl _).alloc (.cells #[.int .i64 id, .int .i64 M, .slice a1 rn c1, .slice a2 wn c2] 26))
          have hN9 := Bk.new (V6.alloc (.cells #[.int .i64 last9, .slice sa9 sn9 sc9, .slice oa9 on9 oc9] 36)) 26 #[.int .i64 id, .int .i64 M, .slice a1 rn c1, .slice a2 wn c2]
          simp only [World.size_alloc] at hN9
          go_upto_region 15 with fail
          have hx := hxx
          clear hxx
          replace hD9 := hD9.ext hx
          replace p1 := p1.ext hx
          replace p2 := p2.ext hx
          replace hC := hC.ext hx
          replace hR := hR.ext hx
          replace hD := hD.ext hx
          replace hL := hL.ext hx
          replace hO := hO.ext hx
          replace hE := hE.trans hx
          replace hBz := Nat.le_trans hBz hx.sz
          replace hI := hI.ext hx
          clear hx
          generalize (V6.alloc (.cells #[.int .i64 last9, .slice sa9 sn9 sc9, .slice oa9 on9 oc9] 36)).alloc (.cells #[.int .i64 id, .int .i64 M, .slice a1 rn c1, .slice a2 wn c2] 26) = U at *
          have HMB : Hid (S0 ≤ V6.heap.size) := Lib.hid (by rw [← HS5.out]; exact HX6.out.sz)
          obtain ⟨mb, hmb⟩ : ∃ mb, V6.heap.size = mb := ⟨_, rfl⟩
          obtain ⟨nb, hnb⟩ : ∃ nb, V6.heap.size + 1 = nb := ⟨_, rfl⟩
          have HMN : Hid (S0 ≤ mb ∧ S0 ≤ nb) := Lib.hid (by have := HMB.out; omega)
          rw [hnb] at hN9 ⊢
          rw [hmb] at hM9 ⊢
          clear hnb hmb
          have HLY : Hid (RunL w B S0 cb rb mb nb da) := Lib.hid ⟨HB.out.1, HB.out.2.1, HS0.out, HB.out.2.2.1, HB.out.2.2.2, HMN.out.1, HMN.out.2, fun g e => HDL.out g 0 e⟩
          have HTO : Hid (∀ W, OwR 77 S0 W a1 rn c1 t9.rd → OwR 60 S0 W a2 wn c2 t9.wr → TxO da W ⟨id, M, a1, rn, c1, a2, wn, c2⟩ t9) := Lib.hid (fun W h1 h2 => ⟨⟨HID.out.1, HID.out.2, h1.rw (by omega) HWF.out.1, h2.rw (by omega) HWF.out.2⟩, ⟨HOKT.out.id, HMW.out⟩, apt_new h1 HDL.out, apt_new h2 HDL.out⟩)
          have HHI : Hid (Hi B ⟨id, M, a1, rn, c1, a2, wn, c2⟩) := Lib.hid (hi_new p1 p2 HS0.out)
          have HII : RunI w B S0 cb rb mb nb ⟨last9, sa9, sn9, sc9, oa9, on9, oc9⟩ l9 ⟨id, M, a1, rn, c1, a2, wn, c2⟩ t9 last sa sn sc oa on oc da dn dc d now (fun _ => false) { U with drawn := U.drawn + 1 } := ⟨hE.drew, hBz, fun _ => ⟨hO.ext (Ext.refl U).drew, hD9.ext (Ext.refl U).drew, p1.ext (Ext.refl U).drew, p2.ext (Ext.refl U).drew⟩, (fun h => by cases h), hM9.ext (Ext.refl U).drew, hN9.ext (Ext.refl U).drew, fun _ => hC.ext (Ext.refl U).drew, (fun h => by cases h), (fun h => by cases h), hR.ext (Ext.refl U).drew⟩
          clear hE hO hD9 p1 p2 hM9 hN9 hC hR hL hI hD hBz HTX
          refine region_relyG (RunI w B S0 cb rb mb nb ⟨last9, sa9, sn9, sc9, oa9, on9, oc9⟩ l9 ⟨id, M, a1, rn, c1, a2, wn, c2⟩ t9 last sa sn sc oa on oc da dn dc d now) [some 62, some 63, some 64, some 65, some 66, some 67, some 68, none, some 69, none] [[], [], [1], [], [3], [1, 2, 3, 4], [0, 1, 2], [0, 1, 2, 3, 4, 5, 6], [0, 1, 2, 3, 4, 5, 6, 7], [0, 1, 2, 3, 4, 5, 6, 7, 8]] [[], [], [1], [], [3], [2, 4], [], [0, 6], [], [5, 8]] [none, none, none, none, none, none, none, none, none, none] [false, false, false, false, false, false, false, false, false, false] [[], [], [], [], [], [4], [], [4], [], [4]] [] [.one ((.agg #[.int .i64 last9, .slice sa9 sn9 sc9, .slice oa9 on9 oc9])), .one ((.pointer (some ⟨cb, 3, none⟩))), .one ((.slice da dn dc)), .one ((.agg #[.int .i64 id, .int .i64 M, .slice a1 rn c1, .slice a2 wn c2])), RelBx ⟨id, M, a1, rn, c1, a2, wn, c2⟩, RelDn B (dn + 1) (d ++ [t9]), .one ((.pointer (some ⟨cb, 0, none⟩))), .any, .one ((.pointer (some ⟨cb, 3, none⟩))), .any] (by kernel_rfl) (by kernel_rfl) (by kernel_rfl) rfl HII ?_ ?_
          · refine stepsG_cons ?_ ?_
            · intro listed vs W' hl hI hd hs hn hu hz ho9
              refine hold ?_
              obtain ⟨x0, x1, x2, x3, x4, x5, x6, x7, x8, x9, rfl⟩ := lenlit10 hl; clear hl
              refine held ?_
              simp only [putAll, Act.put, List.setIfInBounds_toArray, List.set_cons_succ, List.set_cons_zero]
              have m0 := hI.m.c 0 _ rfl
              have m1 := hI.m.c 1 _ rfl
              have m2 := hI.m.c 2 _ rfl
              go_wp2_with fail
              exact relyG_done _ rfl rfl (Ext.refl _) (hI.other (by decide) (by decide) (by decide) (Ext.refl _))
            refine stepsG_cons ?_ ?_
            · intro listed vs W' hl hI hd hs hn hu hz ho9
              refine hold ?_
              obtain ⟨x0, x1, x2, x3, x4, x5, x6, x7, x8, x9, rfl⟩ := lenlit10 hl; clear hl
              refine held ?_
              simp only [putAll, Act.put, List.setIfInBounds_toArray, List.set_cons_succ, List.set_cons_zero]
              go_wp2_with fail
              exact relyG_done _ rfl rfl (Ext.refl _) (hI.other (by decide) (by decide) (by decide) (Ext.refl _))
            refine stepsG_cons ?_ ?_
            · intro listed vs W' hl hI hd hs hn hu hz ho9
              refine hold ?_
              obtain ⟨x0, x1, x2, x3, x4, x5, x6, x7, x8, x9, rfl⟩ := lenlit10 hl; clear hl
              simp only [factsL, atL, refV, List.getElem?_cons_succ, List.getElem?_cons_zero, List.getD_cons_succ, List.getD_cons_zero, RelL.one, RelL.any, RelL.blk, RelL.law, RelBx, RelDn] at hd
              obtain ⟨rfl, -⟩ := hd
              refine held ?_
              simp only [putAll, Act.put, List.setIfInBounds_toArray, List.set_cons_succ, List.set_cons_zero]
              have k3 := (hI.c1 (notL hu 7 (by decide))).c 3 _ rfl
              go_wp2_with fail
              exact relyG_done _ rfl rfl (Ext.refl _) (hI.other (by decide) (by decide) (by decide) (Ext.refl _))
            refine stepsG_cons ?_ ?_
            · intro listed vs W' hl hI hd hs hn hu hz ho9
              refine hold ?_
              obtain ⟨x0, x1, x2, x3, x4, x5, x6, x7, x8, x9, rfl⟩ := lenlit10 hl; clear hl
              refine held ?_
              simp only [putAll, Act.put, List.setIfInBounds_toArray, List.set_cons_succ, List.set_cons_zero]
              have n0 := hI.n.c 0 _ rfl
              have n1 := hI.n.c 1 _ rfl
              have n2 := hI.n.c 2 _ rfl
              have n3 := hI.n.c 3 _ rfl
              go_wp2_with fail
              exact relyG_done _ rfl rfl (Ext.refl _) (hI.other (by decide) (by decide) (by decide) (Ext.refl _))
            refine stepsG_cons ?_ ?_
            · intro listed vs W' hl hI hd hs hn hu hz ho9
              refine hold ?_
              obtain ⟨x0, x1, x2, x3, x4, x5, x6, x7, x8, x9, rfl⟩ := lenlit10 hl; clear hl
              simp only [factsL, atL, refV, List.getElem?_cons_succ, List.getElem?_cons_zero, List.getD_cons_succ, List.getD_cons_zero, RelL.one, RelL.any, RelL.blk, RelL.law, RelBx, RelDn] at hd
              obtain ⟨rfl, -⟩ := hd
              refine held ?_
              simp only [putAll, Act.put, List.setIfInBounds_toArray, List.set_cons_succ, List.set_cons_zero]
              go_wp2_with fail
              exact relyG_done _ rfl ⟨_, rfl, World.alloc_heap_new _ _⟩ ((Ext.refl _).alloc _) (hI.other (by decide) (by decide) (by decide) ((Ext.refl _).alloc _))
            refine stepsG_cons ?_ ?_
            · intro listed vs W' hl hI hd hs hn hu hz ho9
              refine hold ?_
              obtain ⟨x0, x1, x2, x3, x4, x5, x6, x7, x8, x9, rfl⟩ := lenlit10 hl; clear hl
              simp only [factsL, atL, refV, List.getElem?_cons_succ, List.getElem?_cons_zero, List.getD_cons_succ, List.getD_cons_zero, RelL.one, RelL.any, RelL.blk, RelL.law, RelBx, RelDn] at hd
              obtain ⟨rfl, ⟨b4, rfl, hb4⟩, -⟩ := hd
              refine held ?_
              simp only [putAll, Act.put, List.setIfInBounds_toArray, List.set_cons_succ, List.set_cons_zero]
              have hp := hI.pre hz
              go_wp2_with (at_builtin; refine appDb el_tx rfl _ _ rfl W' B _ _ _ _ rfl hp.1 b4 1 ⟨id, M, a1, rn, c1, a2, wn, c2⟩ t9 rfl (rangeT hb4) (HTO.out W' hp.2.2.1 hp.2.2.2) HHI.out hI.sz (by have := HDN.out; unfold maxLen; omega) (by have := HDN.out; omega) ?_; intro g3 c3 w4 ho3 hB3 hG3; refine hold ?_)
              refine held ?_
              go_wp2_with fail
              exact relyG_store _ rfl ⟨g3, c3, rfl, ho3⟩ hB3.size ⟨(fun _ _ _ h => h), (fun _ _ _ h => h), (fun _ _ _ h => h), (fun _ _ _ h => h), (fun h => by simp at h), (fun _ _ h _ => absurd rfl h), (fun _ _ _ h => h), (fun _ _ _ h => h), (fun _ _ _ h => h), (fun _ _ _ h => h), trivial⟩ (hI.app HLY.out hB3 hG3 hz (notL hu 7 (by decide)) (notL hu 9 (by decide)) HVL.out)
            refine stepsG_cons ?_ ?_
            · intro listed vs W' hl hI hd hs hn hu hz ho9
              refine hold ?_
              obtain ⟨x0, x1, x2, x3, x4, x5, x6, x7, x8, x9, rfl⟩ := lenlit10 hl; clear hl
              refine held ?_
              simp only [putAll, Act.put, List.setIfInBounds_toArray, List.set_cons_succ, List.set_cons_zero]
              go_wp2_with fail
              exact relyG_done _ rfl rfl (Ext.refl _) (hI.other (by decide) (by decide) (by decide) (Ext.refl _))
            refine stepsG_cons ?_ ?_
            · intro listed vs W' hl hI hd hs hn hu hz ho9
              refine hold ?_
              obtain ⟨x0, x1, x2, x3, x4, x5, x6, x7, x8, x9, rfl⟩ := lenlit10 hl; clear hl
              simp only [factsL, atL, refV, List.getElem?_cons_succ, List.getElem?_cons_zero, List.getD_cons_succ, List.getD_cons_zero, RelL.one, RelL.any, RelL.blk, RelL.law, RelBx, RelDn] at hd
              obtain ⟨rfl, rfl, -⟩ := hd
              refine held ?_
              simp only [putAll, Act.put, List.setIfInBounds_toArray, List.set_cons_succ, List.set_cons_zero]
              have k0 := (hI.c1 hz).c 0 _ rfl
              have k1 := (hI.c1 hz).c 1 _ rfl
              have k2 := (hI.c1 hz).c 2 _ rfl
              have hf := (hI.c1 hz).free
              go_wp2_with fail
              exact relyG_store undef rfl trivial (by simp) ⟨(fun _ _ _ h => h), (fun _ _ _ h => h), (fun _ _ _ h => h), (fun _ _ _ h => h), (fun h => by simp at h), (fun _ _ _ ⟨g, c, e, h⟩ => ⟨g, c, e, h.keepHi (keep_set3 HLY.out.lcb _ _ _)⟩), (fun _ _ _ h => h), (fun _ _ _ h => h), (fun _ _ _ h => h), (fun _ _ _ h => h), trivial⟩ (hI.st7 HLY.out hz (hs 5 (by decide)) (notL hu 9 (by decide)))
            refine stepsG_cons ?_ ?_
            · intro listed vs W' hl hI hd hs hn hu hz ho9
              refine hold ?_
              obtain ⟨x0, x1, x2, x3, x4, x5, x6, x7, x8, x9, rfl⟩ := lenlit10 hl; clear hl
              refine held ?_
              simp only [putAll, Act.put, List.setIfInBounds_toArray, List.set_cons_succ, List.set_cons_zero]
              go_wp2_with fail
              exact relyG_done _ rfl rfl (Ext.refl _) (hI.other (by decide) (by decide) (by decide) (Ext.refl _))
            refine stepsG_cons ?_ ?_
            · intro listed vs W' hl hI hd hs hn hu hz ho9
              refine hold ?_
              obtain ⟨x0, x1, x2, x3, x4, x5, x6, x7, x8, x9, rfl⟩ := lenlit10 hl; clear hl
              simp only [factsL, atL, refV, List.getElem?_cons_succ, List.getElem?_cons_zero, List.getD_cons_succ, List.getD_cons_zero, RelL.one, RelL.any, RelL.blk, RelL.law, RelBx, RelDn] at hd
              obtain ⟨⟨g5, c5, rfl, ho5⟩, rfl, -⟩ := hd
              refine held ?_
              simp only [putAll, Act.put, List.setIfInBounds_toArray, List.set_cons_succ, List.set_cons_zero]
              have h7 := hs 7 (by decide)
              have k3 := (hI.c2 h7 hz).c 3 _ rfl
              have hf := (hI.c2 h7 hz).free
              go_wp2_with fail
              exact relyG_store undef rfl trivial (by simp) ⟨(fun _ _ _ h => h), (fun _ _ _ h => h), (fun _ _ _ h => h), (fun _ _ _ h => h), (fun h => by simp at h), (fun _ _ _ ⟨g, c, e, h⟩ => ⟨g, c, e, h.keepHi (keep_set HLY.out.lcb _ _)⟩), (fun _ _ _ h => h), (fun _ _ _ h => h), (fun _ _ _ h => h), (fun _ _ _ h => h), trivial⟩ (hI.st9 HLY.out g5 c5 ho5 h7 hz (hs 5 (by decide)))
            exact trivial
          · intro listed vs W' hl hall hI hd hn
            obtain ⟨x0, x1, x2, x3, x4, x5, x6, x7, x8, x9, rfl⟩ := lenlit10 hl; clear hl
            simp only [List.length_cons, List.length_nil, factsL, atL, refV, List.getElem?_cons_succ, List.getElem?_cons_zero, List.getD_cons_succ, List.getD_cons_zero, RelL.one, RelL.any, RelL.blk, RelL.law, RelBx, RelDn] at hd
            obtain ⟨-⟩ := hd
            simp only [putAll, Act.put, List.setIfInBounds_toArray, List.set_cons_succ, List.set_cons_zero]
            obtain ⟨g9, c9, q1, q2⟩ := hI.c3 (hall 9 (by decide))
            have q3 := hI.ld (hall 5 (by decide))
            have q4 := hI.e
            have q5 := hI.rr
            have q6 := hI.sz
            clear hall hI
            go_wp2_with fail
            exact ⟨⟨k + 1, ⟨last9, sa9, sn9, sc9, oa9, on9, oc9⟩, l9, d ++ [t9], some ⟨g9, 0, none⟩, dn + 1, c9, now, by omega, by go_num, HCI9, HNW, Lib.hid (by have := HDN.out; omega), Lib.hid q3, Lib.hid q2, q4, Lib.hid q1, Lib.hid q5, Lib.hid q6⟩, by simp only [intOf]; omega⟩
      | true =>
        go_upto_region 8 with fail
        clear y7
        have k0 := hC.c 0 _ rfl
        have k1 := hC.c 1 _ rfl
        have k2 := hC.c 2 _ rfl
        have i0 := hI.c 0 _ rfl
        have i1 := hI.c 1 _ rfl
        have HSH := Lib.hid (cshow_any ⟨last, sa, sn, sc, oa, on, oc⟩ l lo hi V5 hL HCI.out.val HIV.out)
        unfold valL at HSH
        go_wp2_with (go_at_call 9; refine HSH.out.mono ?_; rintro e V6 ⟨r7, a7, c7, rfl, hL7, hx⟩; refine hold ?_)
        refine held ?_
        clear k0 k1 k2 i0 i1 HSH
        replace hC := hC.ext hx
        replace hR := hR.ext hx
        replace hD := hD.ext hx
        replace hL := hL.ext hx
        replace hO := hO.ext hx
        replace hE := hE.trans hx
        replace hBz := Nat.le_trans hBz hx.sz
        replace hI := hI.ext hx
        clear hx
        obtain ⟨last7, sa7, sn7, sc7, oa7, on7, oc7⟩ := r7
        have HCI7 := Lib.hid (HCI.out.show_ lo)
        generalize shownL l lo = l7 at *
        have hM7 := Bk.new V6 36 #[.int .i64 last7, .slice sa7 sn7 sc7, .slice oa7 on7 oc7]
        have hx : Ext V6 (V6.alloc (.cells #[.int .i64 last7, .slice sa7 sn7 sc7, .slice oa7 on7 oc7] 36)) := (Ext.refl V6).alloc _
        go_upto_region 9 with fail
        replace hL7 := hL7.ext hx
        replace hC := hC.ext hx
        replace hR := hR.ext hx
        replace hD := hD.ext hx
        replace hL := hL.ext hx
        replace hO := hO.ext hx
        replace hE := hE.trans hx
        replace hBz := Nat.le_trans hBz hx.sz
        replace hI := hI.ext hx
        clear hx
        generalize V6.alloc (.cells #[.int .i64 last7, .slice sa7 sn7 sc7, .slice oa7 on7 oc7] 36) = V7 at *
        have m0 := hM7.c 0 _ rfl
        have m1 := hM7.c 1 _ rfl
        have m2 := hM7.c 2 _ rfl
        have k0 := hC.c 0 _ rfl
        have k1 := hC.c 1 _ rfl
        have k2 := hC.c 2 _ rfl
        have hf := hC.free
        go_upto_region 13 with fail
        clear m0 m1 m2 k0 k1 k2 hf hM7 HCI hL
        have hL := LdL.setCr3 (v0' := last7) (a1' := sa7) (n1' := sn7) (c1' := sc7) (a2' := oa7) (n2' := on7) (c2' := oc7) hC hL7
        clear hL7
        replace hO := hO.keepHi (keep_set3 HB.out.1 (.int .i64 last7) (.slice sa7 sn7 sc7) (.slice oa7 on7 oc7))
        replace hD := hD.other3 hdc (.int .i64 last7) (.slice sa7 sn7 sc7) (.slice oa7 on7 oc7)
        replace hI := hI.other3 hic (.int .i64 last7) (.slice sa7 sn7 sc7) (.slice oa7 on7 oc7)
        replace hR := hR.other3 hne (.int .i64 last7) (.slice sa7 sn7 sc7) (.slice oa7 on7 oc7)
        replace hE := hE.set3 hwc (.int .i64 last7) (.slice sa7 sn7 sc7) (.slice oa7 on7 oc7)
        replace hBz : B ≤ (((V7.setCell ⟨cb, 0, none⟩ (.int .i64 last7)).setCell ⟨cb, 1, none⟩ (.slice sa7 sn7 sc7)).setCell ⟨cb, 2, none⟩ (.slice oa7 on7 oc7)).heap.size := by simp [World.setCell]; exact hBz
        replace hC := hC.set3of6 (.int .i64 last7) (.slice sa7 sn7 sc7) (.slice oa7 on7 oc7)
        generalize ((V7.setCell ⟨cb, 0, none⟩ (.int .i64 last7)).setCell ⟨cb, 1, none⟩ (.slice sa7 sn7 sc7)).setCell ⟨cb, 2, none⟩ (.slice oa7 on7 oc7) = V5 at *
        have k0 := hC.c 0 _ rfl
        have k1 := hC.c 1 _ rfl
        have k2 := hC.c 2 _ rfl
        have y0 := hD.c 0 _ rfl
        have y1 := hD.c 1 _ rfl
        have y2 := hD.c 2 _ rfl
        have y3 := hD.c 3 _ rfl
        have i0 := hI.c 0 _ rfl
        have i1 := hI.c 1 _ rfl
        have HSTM := Lib.hid (cstamp_any ⟨last7, sa7, sn7, sc7, oa7, on7, oc7⟩ l7 ⟨id, ts, ra, rn, rc, wa, wn, wc⟩ t lo hi V5 hL HCI7.out.val (HTX.out V5 hE) HIV.out hrn hwn)
        unfold valL valT at HSTM
        go_wp2_with (go_at_call 11; refine HSTM.out.mono ?_; intro e V6 hsp0; obtain ⟨v9, rfl, hsp⟩ := stp_v hsp0; refine hold ?_)
        refine held ?_
        have HS0 := Lib.hid hBz
        have HDL := Lib.hid (row_lt hO)
        obtain ⟨S0, hS0⟩ : ∃ S0, V5.heap.size = S0 := ⟨_, rfl⟩
        rw [hS0] at HS0 HDL hsp
        have HS5 := Lib.hid hS0
        clear k0 k1 k2 y0 y1 y2 y3 i0 i1 hS0
        obtain ⟨B9, (⟨hE0, rfl, hx⟩ | ⟨hE1, r9, a1, c1, a2, c2, rfl, hD9, p1, p2, hx⟩)⟩ := hsp
        · generalize stE l7 t hi B9 = E at *
          have hEb : (E == 0) = false := by simp [hE0]
          replace hC := hC.ext hx
          replace hR := hR.ext hx
          replace hD := hD.ext hx
          replace hL := hL.ext hx
          replace hO := hO.ext hx
          replace hE := hE.trans hx
          replace hBz := Nat.le_trans hBz hx.sz
          replace hI := hI.ext hx
          clear hx
          have hx : Ext V6 ((V6.alloc (.cells #[.int .i64 0, .slice none 0 0, .slice none 0 0] 36)).alloc (.cells #[.int .i64 0, .int .i64 0, .slice none 0 0, .slice none 0 0] 26)) := ((Ext.refl V6).alloc _).alloc _
          replace hC := hC.ext hx
          replace hR := hR.ext hx
          replace hD := hD.ext hx
          replace hL := hL.ext hx
          replace hO := hO.ext hx
          replace hE := hE.trans hx
          replace hBz := Nat.le_trans hBz hx.sz
          replace hI := hI.ext hx
          clear hx
          go_wp2_with fail
          exact ⟨⟨k + 1, ⟨last7, sa7, sn7, sc7, oa7, on7, oc7⟩, l7, d, da, dn, dc, now, by omega, by go_num, HCI7, HNW, Lib.hid (by have := HDN.out; omega), Lib.hid hL, Lib.hid hO, hE, Lib.hid hC, Lib.hid hR, Lib.hid hBz⟩, by simp only [intOf]; omega⟩
        · obtain ⟨z1, z2, z3, z4, z5⟩ := stE_zero hE1
          have HCI9 := Lib.hid (HCI7.out.stamp z1 z3 z4 z5)
          obtain ⟨M, hM⟩ : ∃ M, max (l7.last + 1) hi = M := ⟨_, rfl⟩
          have HM := Lib.hid hM
          have HTF : Hid ((stampT l7 t hi).id = t.id ∧ (stampT l7 t hi).ts = M ∧ (stampT l7 t hi).rd = t.rd ∧ (stampT l7 t hi).wr = t.wr) := Lib.hid ⟨rfl, hM, rfl, rfl⟩
          have HMW : Hid ((Lit.int .i64 M).wf = true) := Lib.hid (by rw [hM] at z5; have := HCI7.out.val.last; simp [Lit.wf, IntKind.min, IntKind.max, IntKind.bits, IntKind.signed]; omega)
          rw [hM]
          clear hM z1 z2 z3 z4 z5 hE1
          generalize stampL l7 t hi = l9 at *
          generalize stampT l7 t hi = t9 at *
          have HVL := Lib.hid HCI9.out.val
          obtain ⟨last9, sa9, sn9, sc9, oa9, on9, oc9⟩ := r9
          rw [show valL ⟨last9, sa9, sn9, sc9, oa9, on9, oc9⟩ = .agg #[.int .i64 last9, .slice sa9 sn9 sc9, .slice oa9 on9 oc9] from rfl, show valT ⟨id, M, a1, rn, c1, a2, wn, c2⟩ = .agg #[.int .i64 id, .int .i64 M, .slice a1 rn c1, .slice a2 wn c2] from rfl]
          rw [← HTF.out.2.2.1] at p1
          rw [← HTF.out.2.2.2] at p2
          have HWF : Hid ((∀ x ∈ t9.rd, Cel.ok x) ∧ (∀ x ∈ t9.wr, Cel.ok x)) := Lib.hid ⟨by rw [HTF.out.2.2.1]; exact (HTX.out V5 hE).rd.wf, by rw [HTF.out.2.2.2]; exact (HTX.out V5 hE).wr.wf⟩
          have HID : Hid (id = t9.id ∧ M = t9.ts) := Lib.hid ⟨(HTX.out V5 hE).id.trans HTF.out.1.symm, HTF.out.2.1.symm⟩
          have HS6 := Lib.hid (Nat.le_trans (show S0 ≤ S0 from Nat.le_refl _) (Nat.le_refl _))
          have HX6 := Lib.hid hx
          replace hC := hC.ext hx
          replace hR := hR.ext hx
          replace hD := hD.ext hx
          replace hL := hL.ext hx
          replace hO := hO.ext hx
          replace hE := hE.trans hx
          replace hBz := Nat.le_trans hBz hx.sz
          replace hI := hI.ext hx
          clear hx
          have hxx : Ext V6 ((V6.alloc (.cells #[.int .i64 last9, .slice sa9 sn9 sc9, .slice oa9 on9 oc9] 36)).alloc (.cells #[.int .i64 id, .int .i64 M, .slice a1 rn c1, .slice a2 wn c2] 26)) := ((Ext.refl V6).alloc _).alloc _
          have hM9 := (Bk.new V6 36 #[.int .i64 last9, .slice sa9 sn9 sc9, .slice oa9 on9 oc9]).ext ((Ext.refl _).alloc (.cells #[.int .i64 id, .int .i64 M, .slice a1 rn c1, .slice a2 wn c2] 26))
          have hN9 := Bk.new (V6.alloc (.cells #[.int .i64 last9, .slice sa9 sn9 sc9, .slice oa9 on9 oc9] 36)) 26 #[.int .i64 id, .int .i64 M, .slice a1 rn c1, .slice a2 wn c2]
          simp only [World.size_alloc] at hN9
          go_upto_region 15 with fail
          have hx := hxx
          clear hxx
          replace hD9 := hD9.ext hx
          replace p1 := p1.ext hx
          replace p2 := p2.ext hx
          replace hC := hC.ext hx
          replace hR := hR.ext hx
          replace hD := hD.ext hx
          replace hL := hL.ext hx
          replace hO := hO.ext hx
          replace hE := hE.trans hx
          replace hBz := Nat.le_trans hBz hx.sz
          replace hI := hI.ext hx
          clear hx
          generalize (V6.alloc (.cells #[.int .i64 last9, .slice sa9 sn9 sc9, .slice oa9 on9 oc9] 36)).alloc (.cells #[.int .i64 id, .int .i64 M, .slice a1 rn c1, .slice a2 wn c2] 26) = U at *
          have HMB : Hid (S0 ≤ V6.heap.size) := Lib.hid (by rw [← HS5.out]; exact HX6.out.sz)
          obtain ⟨mb, hmb⟩ : ∃ mb, V6.heap.size = mb := ⟨_, rfl⟩
          obtain ⟨nb, hnb⟩ : ∃ nb, V6.heap.size + 1 = nb := ⟨_, rfl⟩
          have HMN : Hid (S0 ≤ mb ∧ S0 ≤ nb) := Lib.hid (by have := HMB.out; omega)
          rw [hnb] at hN9 ⊢
          rw [hmb] at hM9 ⊢
          clear hnb hmb
          have HLY : Hid (RunL w B S0 cb rb mb nb da) := Lib.hid ⟨HB.out.1, HB.out.2.1, HS0.out, HB.out.2.2.1, HB.out.2.2.2, HMN.out.1, HMN.out.2, fun g e => HDL.out g 0 e⟩
          have HTO : Hid (∀ W, OwR 77 S0 W a1 rn c1 t9.rd → OwR 60 S0 W a2 wn c2 t9.wr → TxO da W ⟨id, M, a1, rn, c1, a2, wn, c2⟩ t9) := Lib.hid (fun W h1 h2 => ⟨⟨HID.out.1, HID.out.2, h1.rw (by omega) HWF.out.1, h2.rw (by omega) HWF.out.2⟩, ⟨HOKT.out.id, HMW.out⟩, apt_new h1 HDL.out, apt_new h2 HDL.out⟩)
          have HHI : Hid (Hi B ⟨id, M, a1, rn, c1, a2, wn, c2⟩) := Lib.hid (hi_new p1 p2 HS0.out)
          have HII : RunI w B S0 cb rb mb nb ⟨last9, sa9, sn9, sc9, oa9, on9, oc9⟩ l9 ⟨id, M, a1, rn, c1, a2, wn, c2⟩ t9 last7 sa7 sn7 sc7 oa7 on7 oc7 da dn dc d now (fun _ => false) { U with drawn := U.drawn + 1 } := ⟨hE.drew, hBz, fun _ => ⟨hO.ext (Ext.refl U).drew, hD9.ext (Ext.refl U).drew, p1.ext (Ext.refl U).drew, p2.ext (Ext.refl U).drew⟩, (fun h => by cases h), hM9.ext (Ext.refl U).drew, hN9.ext (Ext.refl U).drew, fun _ => hC.ext (Ext.refl U).drew, (fun h => by cases h), (fun h => by cases h), hR.ext (Ext.refl U).drew⟩
          clear hE hO hD9 p1 p2 hM9 hN9 hC hR hL hI hD hBz HTX
          refine region_relyG (RunI w B S0 cb rb mb nb ⟨last9, sa9, sn9, sc9, oa9, on9, oc9⟩ l9 ⟨id, M, a1, rn, c1, a2, wn, c2⟩ t9 last7 sa7 sn7 sc7 oa7 on7 oc7 da dn dc d now) [some 62, some 63, some 64, some 65, some 66, some 67, some 68, none, some 69, none] [[], [], [1], [], [3], [1, 2, 3, 4], [0, 1, 2], [0, 1, 2, 3, 4, 5, 6], [0, 1, 2, 3, 4, 5, 6, 7], [0, 1, 2, 3, 4, 5, 6, 7, 8]] [[], [], [1], [], [3], [2, 4], [], [0, 6], [], [5, 8]] [none, none, none, none, none, none, none, none, none, none] [false, false, false, false, false, false, false, false, false, false] [[], [], [], [], [], [4], [], [4], [], [4]] [] [.one ((.agg #[.int .i64 last9, .slice sa9 sn9 sc9, .slice oa9 on9 oc9])), .one ((.pointer (some ⟨cb, 3, none⟩))), .one ((.slice da dn dc)), .one ((.agg #[.int .i64 id, .int .i64 M, .slice a1 rn c1, .slice a2 wn c2])), RelBx ⟨id, M, a1, rn, c1, a2, wn, c2⟩, RelDn B (dn + 1) (d ++ [t9]), .one ((.pointer (some ⟨cb, 0, none⟩))), .any, .one ((.pointer (some ⟨cb, 3, none⟩))), .any] (by kernel_rfl) (by kernel_rfl) (by kernel_rfl) rfl HII ?_ ?_
          · refine stepsG_cons ?_ ?_
            · intro listed vs W' hl hI hd hs hn hu hz ho9
              refine hold ?_
              obtain ⟨x0, x1, x2, x3, x4, x5, x6, x7, x8, x9, rfl⟩ := lenlit10 hl; clear hl
              refine held ?_
              simp only [putAll, Act.put, List.setIfInBounds_toArray, List.set_cons_succ, List.set_cons_zero]
              have m0 := hI.m.c 0 _ rfl
              have m1 := hI.m.c 1 _ rfl
              have m2 := hI.m.c 2 _ rfl
              go_wp2_with fail
              exact relyG_done _ rfl rfl (Ext.refl _) (hI.other (by decide) (by decide) (by decide) (Ext.refl _))
            refine stepsG_cons ?_ ?_
            · intro listed vs W' hl hI hd hs hn hu hz ho9
              refine hold ?_
              obtain ⟨x0, x1, x2, x3, x4, x5, x6, x7, x8, x9, rfl⟩ := lenlit10 hl; clear hl
              refine held ?_
              simp only [putAll, Act.put, List.setIfInBounds_toArray, List.set_cons_succ, List.set_cons_zero]
              go_wp2_with fail
              exact relyG_done _ rfl rfl (Ext.refl _) (hI.other (by decide) (by decide) (by decide) (Ext.refl _))
            refine stepsG_cons ?_ ?_
            · intro listed vs W' hl hI hd hs hn hu hz ho9
              refine hold ?_
              obtain ⟨x0, x1, x2, x3, x4, x5, x6, x7, x8, x9, rfl⟩ := lenlit10 hl; clear hl
              simp only [factsL, atL, refV, List.getElem?_cons_succ, List.getElem?_cons_zero, List.getD_cons_succ, List.getD_cons_zero, RelL.one, RelL.any, RelL.blk, RelL.law, RelBx, RelDn] at hd
              obtain ⟨rfl, -⟩ := hd
              refine held ?_
              simp only [putAll, Act.put, List.setIfInBounds_toArray, List.set_cons_succ, List.set_cons_zero]
              have k3 := (hI.c1 (notL hu 7 (by decide))).c 3 _ rfl
              go_wp2_with fail
              exact relyG_done _ rfl rfl (Ext.refl _) (hI.other (by decide) (by decide) (by decide) (Ext.refl _))
            refine stepsG_cons ?_ ?_
            · intro listed vs W' hl hI hd hs hn hu hz ho9
              refine hold ?_
              obtain ⟨x0, x1, x2, x3, x4, x5, x6, x7, x8, x9, rfl⟩ := lenlit10 hl; clear hl
              refine held ?_
              simp only [putAll, Act.put, List.setIfInBounds_toArray, List.set_cons_succ, List.set_cons_zero]
              have n0 := hI.n.c 0 _ rfl
              have n1 := hI.n.c 1 _ rfl
              have n2 := hI.n.c 2 _ rfl
              have n3 := hI.n.c 3 _ rfl
              go_wp2_with fail
              exact relyG_done _ rfl rfl (Ext.refl _) (hI.other (by decide) (by decide) (by decide) (Ext.refl _))
            refine stepsG_cons ?_ ?_
            · intro listed vs W' hl hI hd hs hn hu hz ho9
              refine hold ?_
              obtain ⟨x0, x1, x2, x3, x4, x5, x6, x7, x8, x9, rfl⟩ := lenlit10 hl; clear hl
              simp only [factsL, atL, refV, List.getElem?_cons_succ, List.getElem?_cons_zero, List.getD_cons_succ, List.getD_cons_zero, RelL.one, RelL.any, RelL.blk, RelL.law, RelBx, RelDn] at hd
              obtain ⟨rfl, -⟩ := hd
              refine held ?_
              simp only [putAll, Act.put, List.setIfInBounds_toArray, List.set_cons_succ, List.set_cons_zero]
              go_wp2_with fail
              exact relyG_done _ rfl ⟨_, rfl, World.alloc_heap_new _ _⟩ ((Ext.refl _).alloc _) (hI.other (by decide) (by decide) (by decide) ((Ext.refl _).alloc _))
            refine stepsG_cons ?_ ?_
            · intro listed vs W' hl hI hd hs hn hu hz ho9
              refine hold ?_
              obtain ⟨x0, x1, x2, x3, x4, x5, x6, x7, x8, x9, rfl⟩ := lenlit10 hl; clear hl
              simp only [factsL, atL, refV, List.getElem?_cons_succ, List.getElem?_cons_zero, List.getD_cons_succ, List.getD_cons_zero, RelL.one, RelL.any, RelL.blk, RelL.law, RelBx, RelDn] at hd
              obtain ⟨rfl, ⟨b4, rfl, hb4⟩, -⟩ := hd
              refine held ?_
              simp only [putAll, Act.put, List.setIfInBounds_toArray, List.set_cons_succ, List.set_cons_zero]
              have hp := hI.pre hz
              go_wp2_with (at_builtin; refine appDb el_tx rfl _ _ rfl W' B _ _ _ _ rfl hp.1 b4 1 ⟨id, M, a1, rn, c1, a2, wn, c2⟩ t9 rfl (rangeT hb4) (HTO.out W' hp.2.2.1 hp.2.2.2) HHI.out hI.sz (by have := HDN.out; unfold maxLen; omega) (by have := HDN.out; omega) ?_; intro g3 c3 w4 ho3 hB3 hG3; refine hold ?_)
              refine held ?_
              go_wp2_with fail
              exact relyG_store _ rfl ⟨g3, c3, rfl, ho3⟩ hB3.size ⟨(fun _ _ _ h => h), (fun _ _ _ h => h), (fun _ _ _ h => h), (fun _ _ _ h => h), (fun h => by simp at h), (fun _ _ h _ => absurd rfl h), (fun _ _ _ h => h), (fun _ _ _ h => h), (fun _ _ _ h => h), (fun _ _ _ h => h), trivial⟩ (hI.app HLY.out hB3 hG3 hz (notL hu 7 (by decide)) (notL hu 9 (by decide)) HVL.out)
            refine stepsG_cons ?_ ?_
            · intro listed vs W' hl hI hd hs hn hu hz ho9
              refine hold ?_
              obtain ⟨x0, x1, x2, x3, x4, x5, x6, x7, x8, x9, rfl⟩ := lenlit10 hl; clear hl
              refine held ?_
              simp only [putAll, Act.put, List.setIfInBounds_toArray, List.set_cons_succ, List.set_cons_zero]
              go_wp2_with fail
              exact relyG_done _ rfl rfl (Ext.refl _) (hI.other (by decide) (by decide) (by decide) (Ext.refl _))
            refine stepsG_cons ?_ ?_
            · intro listed vs W' hl hI hd hs hn hu hz ho9
              refine hold ?_
              obtain ⟨x0, x1, x2, x3, x4, x5, x6, x7, x8, x9, rfl⟩ := lenlit10 hl; clear hl
              simp only [factsL, atL, refV, List.getElem?_cons_succ, List.getElem?_cons_zero, List.getD_cons_succ, List.getD_cons_zero, RelL.one, RelL.any, RelL.blk, RelL.law, RelBx, RelDn] at hd
              obtain ⟨rfl, rfl, -⟩ := hd
              refine held ?_
              simp only [putAll, Act.put, List.setIfInBounds_toArray, List.set_cons_succ, List.set_cons_zero]
              have k0 := (hI.c1 hz).c 0 _ rfl
              have k1 := (hI.c1 hz).c 1 _ rfl
              have k2 := (hI.c1 hz).c 2 _ rfl
              have hf := (hI.c1 hz).free
              go_wp2_with fail
              exact relyG_store undef rfl trivial (by simp) ⟨(fun _ _ _ h => h), (fun _ _ _ h => h), (fun _ _ _ h => h), (fun _ _ _ h => h), (fun h => by simp at h), (fun _ _ _ ⟨g, c, e, h⟩ => ⟨g, c, e, h.keepHi (keep_set3 HLY.out.lcb _ _ _)⟩), (fun _ _ _ h => h), (fun _ _ _ h => h), (fun _ _ _ h => h), (fun _ _ _ h => h), trivial⟩ (hI.st7 HLY.out hz (hs 5 (by decide)) (notL hu 9 (by decide)))
            refine stepsG_cons ?_ ?_
            · intro listed vs W' hl hI hd hs hn hu hz ho9
              refine hold ?_
              obtain ⟨x0, x1, x2, x3, x4, x5, x6, x7, x8, x9, rfl⟩ := lenlit10 hl; clear hl
              refine held ?_
              simp only [putAll, Act.put, List.setIfInBounds_toArray, List.set_cons_succ, List.set_cons_zero]
              go_wp2_with fail
              exact relyG_done _ rfl rfl (Ext.refl _) (hI.other (by decide) (by decide) (by decide) (Ext.refl _))
            refine stepsG_cons ?_ ?_
            · intro listed vs W' hl hI hd hs hn hu hz ho9
              refine hold ?_
              obtain ⟨x0, x1, x2, x3, x4, x5, x6, x7, x8, x9, rfl⟩ := lenlit10 hl; clear hl
              simp only [factsL, atL, refV, List.getElem?_cons_succ, List.getElem?_cons_zero, List.getD_cons_succ, List.getD_cons_zero, RelL.one, RelL.any, RelL.blk, RelL.law, RelBx, RelDn] at hd
              obtain ⟨⟨g5, c5, rfl, ho5⟩, rfl, -⟩ := hd
              refine held ?_
              simp only [putAll, Act.put, List.setIfInBounds_toArray, List.set_cons_succ, List.set_cons_zero]
              have h7 := hs 7 (by decide)
              have k3 := (hI.c2 h7 hz).c 3 _ rfl
              have hf := (hI.c2 h7 hz).free
              go_wp2_with fail
              exact relyG_store undef rfl trivial (by simp) ⟨(fun _ _ _ h => h), (fun _ _ _ h => h), (fun _ _ _ h => h), (fun _ _ _ h => h), (fun h => by simp at h), (fun _ _ _ ⟨g, c, e, h⟩ => ⟨g, c, e, h.keepHi (keep_set HLY.out.lcb _ _)⟩), (fun _ _ _ h => h), (fun _ _ _ h => h), (fun _ _ _ h => h), (fun _ _ _ h => h), trivial⟩ (hI.st9 HLY.out g5 c5 ho5 h7 hz (hs 5 (by decide)))
            exact trivial
          · intro listed vs W' hl hall hI hd hn
            obtain ⟨x0, x1, x2, x3, x4, x5, x6, x7, x8, x9, rfl⟩ := lenlit10 hl; clear hl
            simp only [List.length_cons, List.length_nil, factsL, atL, refV, List.getElem?_cons_succ, List.getElem?_cons_zero, List.getD_cons_succ, List.getD_cons_zero, RelL.one, RelL.any, RelL.blk, RelL.law, RelBx, RelDn] at hd
            obtain ⟨-⟩ := hd
            simp only [putAll, Act.put, List.setIfInBounds_toArray, List.set_cons_succ, List.set_cons_zero]
            obtain ⟨g9, c9, q1, q2⟩ := hI.c3 (hall 9 (by decide))
            have q3 := hI.ld (hall 5 (by decide))
            have q4 := hI.e
            have q5 := hI.rr
            have q6 := hI.sz
            clear hall hI
            go_wp2_with fail
            exact ⟨⟨k + 1, ⟨last9, sa9, sn9, sc9, oa9, on9, oc9⟩, l9, d ++ [t9], some ⟨g9, 0, none⟩, dn + 1, c9, now, by omega, by go_num, HCI9, HNW, Lib.hid (by have := HDN.out; omega), Lib.hid q3, Lib.hid q2, q4, Lib.hid q1, Lib.hid q5, Lib.hid q6⟩, by simp only [intOf]; omega⟩
    · obtain rfl : n = k := by omega
      have k0 := hC.c 0 _ rfl
      have k1 := hC.c 1 _ rfl
      have k2 := hC.c 2 _ rfl
      have k3 := hC.c 3 _ rfl
      have k4 := hC.c 4 _ rfl
      have k5 := hC.c 5 _ rfl
      have r0 := hR.c 0 _ rfl
      have r1 := hR.c 1 _ rfl
      have r2 := hR.c 2 _ rfl
      have r3 := hR.c 3 _ rfl
      have r4 := hR.c 4 _ rfl
      have r5 := hR.c 5 _ rfl
      have hf := hR.free
      go_wp2_with fail
      have hR6 := hR.set6 (.int .i64 last) (.slice sa sn sc) (.slice oa on oc) (.slice da dn dc) (.int .i64 now) (.bool true)
      refine bodyPost_ret (res_run14 _ rb _ _ _ _ _ _ _ (by rfl) hR6) rfl ?_
      exact ⟨⟨last, sa, sn, sc, oa, on, oc⟩, l, d, da, dn, dc, now, rfl, LdL.setCr6 hR hL, (hO.keepHi (keep_set6 HB.out.2.1 _ _ _ _ _ _)).owT.txs (by have := HDN.out; omega), HCI.out, HNW0.out.1, HNW0.out.2, HDN.out, hE.set6 hwr _ _ _ _ _ _⟩
end Go.Proofs.Ytacicanjmleikaa
