
import Derived.Test.YtacicanjmleikaaGreatDoorGr27
import Derived.Test.YtacicanjmleikaaGreatDoorGr23
/- A part of the proof. -/
namespace Go.Proofs.YtacicanjmleikaaGreatDoor
open Go.RowKit Go.Sort Go.Shelf Go.Maps
set_option linter.unusedSimpArgs false
set_option linter.unusedVariables false
set_option maxRecDepth 100000
theorem lenlit13p {vs : List Value} (h : vs.length = 13) : ∃ x0 x1 x2 x3 x4 x5 x6 x7 x8 x9 x10 x11 x12 : Value, vs = [x0, x1, x2, x3, x4, x5, x6, x7, x8, x9, x10, x11, x12] := by
 obtain ⟨x0, v0, rfl, h0⟩ := len_cons h
 obtain ⟨x1, v1, rfl, h1⟩ := len_cons h0
 obtain ⟨x2, v2, rfl, h2⟩ := len_cons h1
 obtain ⟨x3, v3, rfl, h3⟩ := len_cons h2
 obtain ⟨x4, v4, rfl, h4⟩ := len_cons h3
 obtain ⟨x5, v5, rfl, h5⟩ := len_cons h4
 obtain ⟨x6, v6, rfl, h6⟩ := len_cons h5
 obtain ⟨x7, v7, rfl, h7⟩ := len_cons h6
 obtain ⟨x8, v8, rfl, h8⟩ := len_cons h7
 obtain ⟨x9, v9, rfl, h9⟩ := len_cons h8
 obtain ⟨x10, v10, rfl, h10⟩ := len_cons h9
 obtain ⟨x11, v11, rfl, h11⟩ := len_cons h10
 obtain ⟨x12, v12, rfl, h12⟩ := len_cons h11
 obtain rfl := len_nil h12
 exact ⟨x0, x1, x2, x3, x4, x5, x6, x7, x8, x9, x10, x11, x12, rfl⟩
theorem lenlit16p {vs : List Value} (h : vs.length = 16) : ∃ x0 x1 x2 x3 x4 x5 x6 x7 x8 x9 x10 x11 x12 x13 x14 x15 : Value, vs = [x0, x1, x2, x3, x4, x5, x6, x7, x8, x9, x10, x11, x12, x13, x14, x15] := by
 obtain ⟨x0, v0, rfl, h0⟩ := len_cons h
 obtain ⟨x1, v1, rfl, h1⟩ := len_cons h0
 obtain ⟨x2, v2, rfl, h2⟩ := len_cons h1
 obtain ⟨x3, v3, rfl, h3⟩ := len_cons h2
 obtain ⟨x4, v4, rfl, h4⟩ := len_cons h3
 obtain ⟨x5, v5, rfl, h5⟩ := len_cons h4
 obtain ⟨x6, v6, rfl, h6⟩ := len_cons h5
 obtain ⟨x7, v7, rfl, h7⟩ := len_cons h6
 obtain ⟨x8, v8, rfl, h8⟩ := len_cons h7
 obtain ⟨x9, v9, rfl, h9⟩ := len_cons h8
 obtain ⟨x10, v10, rfl, h10⟩ := len_cons h9
 obtain ⟨x11, v11, rfl, h11⟩ := len_cons h10
 obtain ⟨x12, v12, rfl, h12⟩ := len_cons h11
 obtain ⟨x13, v13, rfl, h13⟩ := len_cons h12
 obtain ⟨x14, v14, rfl, h14⟩ := len_cons h13
 obtain ⟨x15, v15, rfl, h15⟩ := len_cons h14
 obtain rfl := len_nil h15
 exact ⟨x0, x1, x2, x3, x4, x5, x6, x7, x8, x9, x10, x11, x12, x13, x14, x15, rfl⟩
set_option maxHeartbeats 16000000 in
theorem topgrowing_from (HORD : ∀ W, TB W → Calls Tryz.prog 6 #[] W fun e w' => e = .returned (.bool true) ∧ Ext W w') {a : Option Addr} {n c : Nat} {l : List LgR} {key one two early : Nat} {w : World}
  (HLGS : ∀ (m : Nat) (l' : List LgR) W, m ≤ 24 → Rw W a m c l' → TB W → Calls Tryz.prog 19 #[.slice a m c, .int .u64 key] W (LgsP W key (lgL l') m))
  (H : Rw w a n c l) (h1 : one < 65536) (h2 : two < 65536) (h3 : early < 256) (ht : TB w) :
  Calls Tryz.prog 5 #[.slice a n c, .int .u64 key, .int .u16 one, .int .u16 two, .int .u8 early] w fun e w' => e = .returned (.bool true) ∧ Ext w w' := by
 have bd := H.bd
 have HTB := Lib.hid ht
 have HL := Lib.hid H
 have HO := Lib.hid HORD
 have HLG := Lib.hid (fun (m : Nat) (hm : m ≤ 24) (l' : List LgR) (W : World) (hr : Rw W a m c l') (hx : Ext w W) => HLGS m l' W hm hr (ht.ext hx))
 have HB1 := Lib.hid h1
 have HB2 := Lib.hid h2
 have HB3 := Lib.hid h3
 clear H ht HORD HLGS h1 h2 h3
 go_enter Tryz.func5, Tryz.ntmps5
 go_wp2_with (go_at_call 6; refine (HO.out _ HTB.out).mono ?_; rintro e9 w1 ⟨rfl, hx⟩; refine hold ?_)
 refine held ?_
 clear HO
 by_cases g : n ≤ 24
 case neg =>
  have g1 : (24 : Int) < (n : Int) := by omega
  go_wp2_with fail
  go_ret
  exact ⟨rfl, hx⟩
 have g1 : ¬ ((24 : Int) < (n : Int)) := by omega
 go_upto_region 4 with fail
 clear g1
 have HN24 := Lib.hid g
 clear g
 have HM : Hid (early % (n + 1) ≤ n) := Lib.hid (by have := Nat.mod_lt early (show 0 < n + 1 by omega); omega)
 obtain ⟨M, hM⟩ : ∃ m, early % (n + 1) = m := ⟨_, rfl⟩
 rw [hM] at HM
 have hl1 := HLG.out M (by have := HM.out; have := HN24.out; omega) (l.take M) _ ((HL.out.ext hx).take HM.out) hx
 unfold LgsP at hl1
 rw [run_take] at hl1
 have HOP := Lib.hid (run_ok key (lgL l) (lgL_ok HL.out) M)
 have HOQ := Lib.hid (run_ok key (lgL l) (lgL_ok HL.out) n)
 have HLT := Lib.hid (run_later key (lgL l) HM.out)
 have HMN := Lib.hid (run_mon key (lgL l) (lgL_ok HL.out) n)
 generalize runP key (lgL l) M = s at *
 have hm2 : (wrap64 ((early : Nat) : Int)).tmod ((n : Int) + 1) = (M : Int) := by
  have e9 : wrap64 ((early : Nat) : Int) = (early : Int) := by have := HB3.out; unfold wrap64; omega
  rw [e9, Int.tmod_eq_emod_of_nonneg (by omega), ← hM]
  push_cast
  rfl
 clear hM
 have hmn := HM.out
 go_wp2_with (go_at_call 19; refine hl1.mono ?_; rintro e9 w2 ⟨basep, b6p, obp, ocp, tbp, hap, hnp, hcp, kap, kcp, osp, tsp, rfl, hPp, hx1⟩; refine hold ?_)
 refine held ?_
 have B12 := Bk.new w2 RPs #[.slice (some ⟨obp, 0, none⟩) 3 ocp, .slice (some ⟨tbp, 0, none⟩) 3 3, .slice hap hnp hcp, .slice kap 3 kcp]
 have hxa : Ext w2 (w2.alloc (.cells #[.slice (some ⟨obp, 0, none⟩) 3 ocp, .slice (some ⟨tbp, 0, none⟩) 3 3, .slice hap hnp hcp, .slice kap 3 kcp] RPs)) := (Ext.refl w2).alloc _
 go_upto_region 5 with fail
 replace hPp := hPp.ext hxa
 replace hx := (hx.trans hx1).trans hxa
 clear hx1 hxa
 generalize w2.alloc (.cells #[.slice (some ⟨obp, 0, none⟩) 3 ocp, .slice (some ⟨tbp, 0, none⟩) 3 3, .slice hap hnp hcp, .slice kap 3 kcp] RPs) = V1 at *
 obtain ⟨b12, hb12⟩ : ∃ b, w2.heap.size = b := ⟨_, rfl⟩
 rw [hb12] at B12 ⊢
 clear hb12
 clear hm2 hmn hl1
 have HPp := Lib.hid hPp
 clear hPp
 have hl2 := HLG.out n HN24.out l _ (HL.out.ext hx) hx
 unfold LgsP at hl2
 generalize runP key (lgL l) n = t at *
 go_wp2_with (go_at_call 19; refine hl2.mono ?_; rintro e9 w3 ⟨baseq, b6q, obq, ocq, tbq, haq, hnq, hcq, kaq, kcq, osq, tsq, rfl, hPq, hx1⟩; refine hold ?_)
 refine held ?_
 have B14 := Bk.new w3 RPs #[.slice (some ⟨obq, 0, none⟩) 3 ocq, .slice (some ⟨tbq, 0, none⟩) 3 3, .slice haq hnq hcq, .slice kaq 3 kcq]
 have hxa : Ext w3 (w3.alloc (.cells #[.slice (some ⟨obq, 0, none⟩) 3 ocq, .slice (some ⟨tbq, 0, none⟩) 3 3, .slice haq hnq hcq, .slice kaq 3 kcq] RPs)) := (Ext.refl w3).alloc _
 go_upto_region 6 with fail
 replace hPq := hPq.ext hxa
 replace B12 := (B12.ext hx1).ext hxa
 replace HPp := Lib.hid ((HPp.out.ext hx1).ext hxa)
 replace hx := (hx.trans hx1).trans hxa
 clear hx1 hxa
 generalize w3.alloc (.cells #[.slice (some ⟨obq, 0, none⟩) 3 ocq, .slice (some ⟨tbq, 0, none⟩) 3 3, .slice haq hnq hcq, .slice kaq 3 kcq] RPs) = V at *
 obtain ⟨b14, hb14⟩ : ∃ b, w3.heap.size = b := ⟨_, rfl⟩
 rw [hb14] at B14 ⊢
 clear hb14
 clear hl2 HLG
 have HPq := Lib.hid hPq
 clear hPq
 have HV := Lib.hid hx
 have HTV := Lib.hid (HTB.out.ext hx)
 clear hx HTB
 have hx := Ext.refl V
 have HEN := Lib.hid (fun (m : Nat) (hm : m < 65536) (W : World) (hx : Ext V W) => r7entry_any (ta := some ⟨tbp, 0, none⟩) (tn := 3) (tc := 3) (ha := hap) (hn := hnp) (hc := hcp) (ka := kap) (kn := 3) (kc := kcp) (HPp.out.ext hx).offRw hm (fun k hk => by rw [(HPp.out.ids k hk).2.1]; have := (HOP.out.len k).2; have := HN24.out; have := HM.out; omega))
 clear bd
 have HE1 := Lib.hid (fun (W : World) (hx : Ext V W) => HEN.out one HB1.out W hx)
 have HE2 := Lib.hid (fun (W : World) (hx : Ext V W) => HEN.out two HB2.out W hx)
 unfold EntV at HE1 HE2
 have HA3 : Hid (one % 3 < 3) := Lib.hid (Nat.mod_lt _ (by omega))
 have HB3' : Hid (two % 3 < 3) := Lib.hid (Nat.mod_lt _ (by omega))
 obtain ⟨A, hA⟩ : ∃ x, one % 3 = x := ⟨_, rfl⟩
 obtain ⟨B, hB⟩ : ∃ x, two % 3 = x := ⟨_, rfl⟩
 rw [hA] at HE1 HA3
 rw [hB] at HE2 HB3'
 have HNA : Hid ((nthR osp A).n = (s.lg A).length) := Lib.hid (HPp.out.ids A HA3.out).2.1
 have HNB : Hid ((nthR osp B).n = (s.lg B).length) := Lib.hid (HPp.out.ids B HB3'.out).2.1
 rw [HNA.out] at HE1
 rw [HNB.out] at HE2
 clear hA hB HNA HNB HEN
 by_cases z1 : (s.lg A).length = 0
 case pos =>
  simp only [if_pos z1] at HE1
  clear z1
  have c0 := B12.c 0 _ rfl
  have c1 := B12.c 1 _ rfl
  have c2 := B12.c 2 _ rfl
  have c3 := B12.c 3 _ rfl
  go_wp2_with (go_at_call 20; refine (HE1.out _ hx).mono ?_; rintro e9 w4 ⟨rfl, hx1⟩; refine hold ?_)
  refine held ?_
  clear c0 c1 c2 c3
  go_upto_region 7 with fail
  replace B12 := B12.ext hx1
  replace B14 := B14.ext hx1
  replace hx := hx.trans hx1
  clear hx1
  by_cases z2 : (s.lg B).length = 0
  case pos =>
   simp only [if_pos z2] at HE2
   clear z2
   have c0 := B12.c 0 _ rfl
   have c1 := B12.c 1 _ rfl
   have c2 := B12.c 2 _ rfl
   have c3 := B12.c 3 _ rfl
   go_wp2_with (go_at_call 20; refine (HE2.out _ hx).mono ?_; rintro e9 w5 ⟨rfl, hx1⟩; refine hold ?_)
   refine held ?_
   clear c0 c1 c2 c3
   replace hx := hx.trans hx1
   clear hx1
   go_wp2_with fail
   go_ret
   exact ⟨rfl, HV.out.trans hx⟩
  case neg =>
   simp only [if_neg z2] at HE2
   clear z2
   have c0 := B12.c 0 _ rfl
   have c1 := B12.c 1 _ rfl
   have c2 := B12.c 2 _ rfl
   have c3 := B12.c 3 _ rfl
   go_wp2_with (go_at_call 20; refine (HE2.out _ hx).mono ?_; rintro e9 w5 ⟨rfl, hx1⟩; refine hold ?_)
   refine held ?_
   clear c0 c1 c2 c3
   replace hx := hx.trans hx1
   clear hx1
   go_wp2_with fail
   go_ret
   exact ⟨rfl, HV.out.trans hx⟩
 simp only [if_neg z1] at HE1
 have HIA : Hid (one / 3 % (s.lg A).length < (s.lg A).length) := Lib.hid (Nat.mod_lt _ (by omega))
 clear z1
 obtain ⟨I, hI⟩ : ∃ x, one / 3 % (s.lg A).length = x := ⟨_, rfl⟩
 rw [hI] at HE1 HIA
 clear hI
 have c0 := B12.c 0 _ rfl
 have c1 := B12.c 1 _ rfl
 have c2 := B12.c 2 _ rfl
 have c3 := B12.c 3 _ rfl
 go_wp2_with (go_at_call 20; refine (HE1.out _ hx).mono ?_; rintro e9 w4 ⟨rfl, hx1⟩; refine hold ?_)
 refine held ?_
 clear c0 c1 c2 c3
 go_upto_region 7 with fail
 replace B12 := B12.ext hx1
 replace B14 := B14.ext hx1
 replace hx := hx.trans hx1
 clear hx1
 clear HE1
 by_cases z2 : (s.lg B).length = 0
 case pos =>
  simp only [if_pos z2] at HE2
  clear z2
  have c0 := B12.c 0 _ rfl
  have c1 := B12.c 1 _ rfl
  have c2 := B12.c 2 _ rfl
  have c3 := B12.c 3 _ rfl
  go_wp2_with (go_at_call 20; refine (HE2.out _ hx).mono ?_; rintro e9 w5 ⟨rfl, hx1⟩; refine hold ?_)
  refine held ?_
  clear c0 c1 c2 c3
  replace hx := hx.trans hx1
  clear hx1
  go_wp2_with fail
  go_ret
  exact ⟨rfl, HV.out.trans hx⟩
 simp only [if_neg z2] at HE2
 have HIB : Hid (two / 3 % (s.lg B).length < (s.lg B).length) := Lib.hid (Nat.mod_lt _ (by omega))
 clear z2
 obtain ⟨K, hK⟩ : ∃ x, two / 3 % (s.lg B).length = x := ⟨_, rfl⟩
 rw [hK] at HE2 HIB
 clear hK
 have c0 := B12.c 0 _ rfl
 have c1 := B12.c 1 _ rfl
 have c2 := B12.c 2 _ rfl
 have c3 := B12.c 3 _ rfl
 go_wp2_with (go_at_call 20; refine (HE2.out _ hx).mono ?_; rintro e9 w5 ⟨rfl, hx1⟩; refine hold ?_)
 refine held ?_
 clear c0 c1 c2 c3
 go_upto_region 8 with fail
 replace B12 := B12.ext hx1
 replace B14 := B14.ext hx1
 replace hx := hx.trans hx1
 clear hx1
 clear HE2
 have HH12 : Hid (hnp ≤ 12 ∧ hnq ≤ 12) := Lib.hid ⟨by have := HOP.out.hlen.1; have := HPp.out.hlen; omega, by have := HOQ.out.hlen.1; have := HPq.out.hlen; omega⟩
 have HM24 : Hid (M ≤ 24) := Lib.hid (by have := HM.out; have := HN24.out; omega)
 have HFP := Lib.hid (fun (W : World) (hx : Ext V W) => find_any (HPp.out.ext hx) HOP.out HM24.out ((HPp.out.ext hx).hRw HOP.out HM24.out) HH12.out.1 (fun h hh => hh) HA3.out HIA.out HB3'.out HIB.out (HTV.out.ext hx))
 have HIA2 : Hid (I < (t.lg A).length) := Lib.hid (Nat.lt_of_lt_of_le HIA.out (later_log HLT.out A))
 have HIB2 : Hid (K < (t.lg B).length) := Lib.hid (Nat.lt_of_lt_of_le HIB.out (later_log HLT.out B))
 have HFQ := Lib.hid (fun (W : World) (hx : Ext V W) => find_any (HPq.out.ext hx) HOQ.out HN24.out ((HPq.out.ext hx).hRw HOQ.out HN24.out) HH12.out.2 (fun h hh => hh) HA3.out HIA2.out HB3'.out HIB2.out (HTV.out.ext hx))
 unfold FdX at HFP HFQ
 go_upto_region 10 with fail
 have c0 := B12.c 0 _ rfl
 have c2 := B12.c 2 _ rfl
 have a3 := HA3.out
 have b3 := HB3'.out
 go_wp2_with (go_at_call 12; refine (HFP.out _ hx).mono ?_; rintro e9 w8 ⟨CL1, r1, rfl, hF1, hx1⟩; refine hold ?_)
 refine held ?_
 clear c0 c2 a3 b3 HFP
 replace hx := hx.trans hx1
 replace B12 := B12.ext hx1
 replace B14 := B14.ext hx1
 clear hx1
 have HFL1 : Hid (CL1.length = 22 ∧ ∀ v ∈ CL1, v.oneCell' = true) := Lib.hid ⟨hF1.len, hF1.one⟩
 have Gz := Bk.new w8 47 #[.int .i64 0, .int .i64 0, .int .u64 0, .int .i64 0, .int .i64 0, .int .i64 0, .int .u64 0, .int .i64 0, .int .i64 0, .slice none 0 0, .slice none 0 0, .slice none 0 0, .int .i64 0, .int .i64 0, .int .u64 0, .int .i64 0, .int .i64 0, .int .i64 0, .int .u64 0, .int .i64 0, .int .i64 0, .slice none 0 0]
 have hx1 : Ext w8 (w8.alloc (.cells #[.int .i64 0, .int .i64 0, .int .u64 0, .int .i64 0, .int .i64 0, .int .i64 0, .int .u64 0, .int .i64 0, .int .i64 0, .slice none 0 0, .slice none 0 0, .slice none 0 0, .int .i64 0, .int .i64 0, .int .u64 0, .int .i64 0, .int .i64 0, .int .i64 0, .int .u64 0, .int .i64 0, .int .i64 0, .slice none 0 0] 47)) := (Ext.refl _).alloc _
 go_wp2_with (refine storeBk rfl 47 _ _ rfl w8.heap.size CL1 Gz (by rw [HFL1.out.1]; rfl) rfl rfl (by rw [HFL1.out.1]; kernel_rfl) HFL1.out.2 ?_; refine hold ?_)
 have G1 := Gz.allCells CL1 (by rw [HFL1.out.1]; rfl)
 replace hx1 := Ext.cells (b := w8.heap.size) (Nat.le_refl _) CL1 0 hx1
 clear Gz
 replace hx := hx.trans hx1
 replace B12 := B12.ext hx1
 replace B14 := B14.ext hx1
 replace hF1 := hF1.ext hx1
 clear hx1
 generalize (w8.alloc (.cells #[.int .i64 0, .int .i64 0, .int .u64 0, .int .i64 0, .int .i64 0, .int .i64 0, .int .u64 0, .int .i64 0, .int .i64 0, .slice none 0 0, .slice none 0 0, .slice none 0 0, .int .i64 0, .int .i64 0, .int .u64 0, .int .i64 0, .int .i64 0, .int .i64 0, .int .u64 0, .int .i64 0, .int .i64 0, .slice none 0 0] 47)).setCells w8.heap.size 0 CL1 = U1 at *
 obtain ⟨b22, hb25⟩ : ∃ b, w8.heap.size = b := ⟨_, rfl⟩
 rw [hb25] at G1 ⊢
 clear hb25
 refine held ?_
 go_upto_region 11 with fail
 have c0 := B14.c 0 _ rfl
 have c2 := B14.c 2 _ rfl
 have a3 := HA3.out
 have b3 := HB3'.out
 go_wp2_with (go_at_call 12; refine (HFQ.out _ hx).mono ?_; rintro e9 w9 ⟨CL2, r2, rfl, hF2, hx1⟩; refine hold ?_)
 refine held ?_
 clear c0 c2 a3 b3 HFQ
 replace hx := hx.trans hx1
 replace B12 := B12.ext hx1
 replace B14 := B14.ext hx1
 replace G1 := G1.ext hx1
 replace hF1 := hF1.ext hx1
 clear hx1
 have HFL2 : Hid (CL2.length = 22 ∧ ∀ v ∈ CL2, v.oneCell' = true) := Lib.hid ⟨hF2.len, hF2.one⟩
 have Gz := Bk.new w9 47 #[.int .i64 0, .int .i64 0, .int .u64 0, .int .i64 0, .int .i64 0, .int .i64 0, .int .u64 0, .int .i64 0, .int .i64 0, .slice none 0 0, .slice none 0 0, .slice none 0 0, .int .i64 0, .int .i64 0, .int .u64 0, .int .i64 0, .int .i64 0, .int .i64 0, .int .u64 0, .int .i64 0, .int .i64 0, .slice none 0 0]
 have hx1 : Ext w9 (w9.alloc (.cells #[.int .i64 0, .int .i64 0, .int .u64 0, .int .i64 0, .int .i64 0, .int .i64 0, .int .u64 0, .int .i64 0, .int .i64 0, .slice none 0 0, .slice none 0 0, .slice none 0 0, .int .i64 0, .int .i64 0, .int .u64 0, .int .i64 0, .int .i64 0, .int .i64 0, .int .u64 0, .int .i64 0, .int .i64 0, .slice none 0 0] 47)) := (Ext.refl _).alloc _
 go_wp2_with (refine storeBk rfl 47 _ _ rfl w9.heap.size CL2 Gz (by rw [HFL2.out.1]; rfl) rfl rfl (by rw [HFL2.out.1]; kernel_rfl) HFL2.out.2 ?_; refine hold ?_)
 have G2 := Gz.allCells CL2 (by rw [HFL2.out.1]; rfl)
 replace hx1 := Ext.cells (b := w9.heap.size) (Nat.le_refl _) CL2 0 hx1
 clear Gz
 replace hx := hx.trans hx1
 replace B12 := B12.ext hx1
 replace B14 := B14.ext hx1
 replace G1 := G1.ext hx1
 replace hF1 := hF1.ext hx1
 replace hF2 := hF2.ext hx1
 clear hx1
 generalize (w9.alloc (.cells #[.int .i64 0, .int .i64 0, .int .u64 0, .int .i64 0, .int .i64 0, .int .i64 0, .int .u64 0, .int .i64 0, .int .i64 0, .slice none 0 0, .slice none 0 0, .slice none 0 0, .int .i64 0, .int .i64 0, .int .u64 0, .int .i64 0, .int .i64 0, .int .i64 0, .int .u64 0, .int .i64 0, .int .i64 0, .slice none 0 0] 47)).setCells w9.heap.size 0 CL2 = U2 at *
 obtain ⟨b25, hb25⟩ : ∃ b, w9.heap.size = b := ⟨_, rfl⟩
 rw [hb25] at G2 ⊢
 clear hb25
 refine held ?_
 go_upto_region 12 with fail
 have HYS : Hid (r1 = true → r2 = true) := Lib.hid (fun e => by
  cases hr : r2 with
  | true => rfl
  | false =>
   obtain ⟨c, _, _, _, _, _, _, hS, _⟩ := hF1.yes e
   obtain ⟨c', hS'⟩ := found_grown (HLT.out.grown HOP.out) ⟨c, hS⟩
   have h9 := hF2.no hr
   rw [hS'] at h9
   cases h9)
 have HLL : Hid (hnp ≤ hnq) := Lib.hid (by rw [← HPp.out.hlen, ← HPq.out.hlen]; exact later_len HLT.out)
 clear hF2 G2 HFL2
 have hll := HLL.out
 have y1 : ¬ ((hnq : Int) < (hnp : Int)) := by omega
 have y2 : decide ((hnq : Int) < (hnp : Int)) = false := decide_eq_false y1
 have y3 : ¬ (hnq < hnp) := by omega
 have y4 : decide (hnq < hnp) = false := decide_eq_false y3
 have c2 := B12.c 2 _ rfl
 have e2 := B14.c 2 _ rfl
 cases r1
 case' false =>
  clear HYS hF1 G1 HFL1
  go_upto_region 17 with fail
  clear c2 e2 y1 y2 y3 y4 hll
  have HXW := Lib.hid hx
  have HB12 := Lib.hid B12
  have HB14 := Lib.hid B14
  clear B12 B14 hx
  generalize U2 = W0 at *
 case' true =>
  have hr2 := HYS.out rfl
  subst hr2
  clear HYS
  go_upto_region 14 with fail
  clear c2 e2 y1 y2 y3 y4 hll
  go_upto_region 15 with fail
  have c3 := B14.c 3 _ rfl
  have hK := (HPq.out.ext hx).keys
  have HCK := Lib.hid (hF1.check HOP.out HM24.out (fun h hh => hh) hK (HTV.out.ext hx))
  go_wp2_with (refine loadBk rfl 47 _ rfl b22 rfl CL1 G1 _ Tryz.underlying47 rfl (by rw [HFL1.out.1]; kernel_rfl) ?_; refine hold ?_)
  refine held ?_
  go_wp2_with (go_at_call 14; refine HCK.out.mono ?_; rintro e9 w10 ⟨rfl, hx1⟩; refine hold ?_)
  refine held ?_
  clear c3 hK HCK hF1 G1
  replace hx := hx.trans hx1
  replace B12 := B12.ext hx1
  replace B14 := B14.ext hx1
  clear hx1
  go_upto_region 17 with fail
  have HXW := Lib.hid hx
  have HB12 := Lib.hid B12
  have HB14 := Lib.hid B14
  clear B12 B14 hx
  generalize w10 = W0 at *
 all_goals
  go_wp2_with fail
  go_loopw [30] (fun jx wr => ∃ j : Nat, j ≤ hnp ∧ jx = .int .i64 j ∧ Hid (Ext W0 wr)) (fun jx _ => hnp - (intOf jx).toNat)
  case atStart => exact ⟨0, by omega, rfl, Lib.hid (Ext.refl W0)⟩
  case round => as_aux_lemma =>
   obtain ⟨j, hj, rfl, HX⟩ := hrel
   have hj12 := HH12.out
   by_cases hlt : j < hnp
   ·have HJP : Hid (j < s.hs.length) := Lib.hid (by rw [HPp.out.hlen]; exact hlt)
    obtain ⟨hje, hjt⟩ := grow_head HLT.out HJP.out
    obtain ⟨k, q, hK⟩ := HOQ.out.hdK HN24.out hjt
    rw [hje] at hK
    have HJT : Hid (nthR t.hs j = nthR s.hs j ∧ j < hnq) := Lib.hid ⟨hje, by rw [← HPq.out.hlen]; exact hjt⟩
    clear hje hjt
    obtain ⟨pb1, po1, hxa, hc1⟩ := (HPp.out.hRw HOP.out HM24.out).at (by omega)
    obtain ⟨qb2, qo2, hxb, hc2⟩ := (HPq.out.hRw HOQ.out HN24.out).at (by have := HJT.out.2; omega)
    have HC1 : Hid (∀ W, Ext V W → W.rangeAt pb1 (po1 + j * 5) (Cel.enc (nthR s.hs j))) := Lib.hid (fun W hW => rangeAt_ext (hc1 j hlt) hW)
    have HC2 : Hid (∀ W, Ext V W → ∀ m, m < hnq → W.rangeAt qb2 (qo2 + m * 5) (Cel.enc (nthR t.hs m))) := Lib.hid (fun W hW m hm => rangeAt_ext (hc2 m hm) hW)
    have HXA := Lib.hid hxa
    have HXB := Lib.hid hxb
    clear hc1 hc2 hxa hxb
    generalize nthR s.hs j = h at *
    obtain ⟨o, sz, r, C, S⟩ := h
    have ho := hK.o
    have hs := hK.s
    simp only at ho hs
    subst ho hs
    have HK := Lib.hid hK
    have hk3 := hK.lt
    have hq1 := hK.pos
    have hq2 := hK.le
    have HKQ : Hid (k < 3 ∧ 1 ≤ q ∧ q ≤ (t.lg k).length ∧ (t.lg k).length ≤ 24) := Lib.hid ⟨hk3, hq1, hq2, by have := (HOQ.out.len k).2; have := HN24.out; omega⟩
    clear hK hk3 hq1 hq2
    have hx9 := HXW.out.trans HX.out
    have B9 := HB12.out.ext HX.out
    have c2 := B9.c 2 _ rfl
    rw [HXA.out] at c2
    obtain ⟨d0, d1, d2, d3, d4⟩ := cells_hd (HC1.out wr hx9)
    simp only at d0 d1 d2 d3 d4
    go_upto_region 21 with fail
    clear c2 d0 d1 d2 d3 d4 B9 hx9
    have B31 := Bk.new wr RH #[.int .i64 ((k : Int) + 1), .int .i64 (q : Nat), .int .u64 r, .int .i64 C, .int .i64 S]
    have HX3 : Hid (Ext W0 (wr.alloc (.cells #[.int .i64 ((k : Int) + 1), .int .i64 (q : Nat), .int .u64 r, .int .i64 C, .int .i64 S] RH))) := Lib.hid (HX.out.alloc _)
    generalize wr.alloc (.cells #[.int .i64 ((k : Int) + 1), .int .i64 (q : Nat), .int .u64 r, .int .i64 C, .int .i64 S] RH) = U3 at *
    obtain ⟨b31, hb31⟩ : ∃ b, wr.heap.size = b := ⟨_, rfl⟩
    rw [hb31] at B31 ⊢
    clear hb31 HX
    have hx9 := HXW.out.trans HX3.out
    have B9 := HB14.out.ext HX3.out
    have e2 := B9.c 2 _ rfl
    rw [HXB.out] at e2
    have hr := HC2.out U3 hx9 j HJT.out.2
    rw [HJT.out.1] at hr
    obtain ⟨f0, f1, f2, f3, f4⟩ := cells_hd hr
    simp only at f0 f1 f2 f3 f4
    clear hr
    have d0 := B31.c 0 _ rfl
    have d1 := B31.c 1 _ rfl
    have d2 := B31.c 2 _ rfl
    have d3 := B31.c 3 _ rfl
    have d4 := B31.c 4 _ rfl
    obtain ⟨hk3, hq1, hq2, hq4⟩ := HKQ.out
    have z1 : ¬ ((k : Int) + 1 < 1) := by omega
    have z2 : decide ((k : Int) + 1 < 1) = false := decide_eq_false z1
    have z3 : ¬ ((3 : Int) < (k : Int) + 1) := by omega
    have z4 : decide ((3 : Int) < (k : Int) + 1) = false := decide_eq_false z3
    have z5 : ¬ ((q : Int) < 1) := by omega
    have z6 : decide ((q : Int) < 1) = false := decide_eq_false z5
    have heq : ∀ W, (Op.equalIn 10000 34 (.agg #[.int .i64 ((k : Int) + 1), .int .i64 (q : Nat), .int .u64 r, .int .i64 C, .int .i64 S]) (.agg #[.int .i64 ((k : Int) + 1), .int .i64 (q : Nat), .int .u64 r, .int .i64 C, .int .i64 S])).run Tryz.prog W = .ok true W := fun W => by
     have h9 := eqHd ⟨(k : Int) + 1, q, r, C, S⟩ ⟨(k : Int) + 1, q, r, C, S⟩ W
     simpa using h9
    have hjq := HJT.out.2
    have hg := @grow_cell
    have hl0 := B9.lt
    have hl1 := B31.lt
    have hl2 := lt_of_cell f0
    simp only at hl2
    refine region_ext (by kernel_rfl) (by kernel_rfl) ?_
    repeat (go_big_quiet_step (fail))
    refine wpQuiet_nil ?_
    intro U4 hE
    clear e2 f0 f1 f2 f3 f4 d0 d1 d2 d3 d4 z1 z2 z3 z4 z5 z6 heq hg hl0 hl1 hl2 B9 hx9
    replace HX3 := Lib.hid (HX3.out.trans hE)
    replace B31 := B31.ext hE
    clear hE
    go_upto_region 23 with fail
    have hx9 := HXW.out.trans HX3.out
    have B9 := HB14.out.ext HX3.out
    have c0 := B9.c 0 _ rfl
    have d0 := B31.c 0 _ rfl
    obtain ⟨p3, p4⟩ := (HPq.out.ext hx9).offAt HKQ.out.1
    obtain ⟨OA, hOA⟩ : ∃ x, (nthR osq k).a = x := ⟨_, rfl⟩
    obtain ⟨ln, hln⟩ : ∃ x, (t.lg k).length = x := ⟨_, rfl⟩
    obtain ⟨oc3, hoc⟩ : ∃ x, (nthR osq k).c = x := ⟨_, rfl⟩
    have HOA : Hid ((nthR osq k).a = OA ∧ (t.lg k).length = ln ∧ (nthR osq k).c = oc3) := Lib.hid ⟨hOA, hln, hoc⟩
    rw [hOA, hln, hoc] at p4
    have hKQ := HKQ.out
    rw [hln] at hKQ
    have HKQ2 := Lib.hid hKQ
    clear hOA hln hoc
    obtain ⟨hk3, hq1, hq2, hq4⟩ := hKQ
    go_upto_region 24 with fail
    clear c0 d0 p3 p4 B9 hx9 hk3 hq1 hq2 hq4
    have B32 := Bk.new U4 RO #[.int .i64 ((k : Int) + 1), .slice OA ln oc3]
    have hx1 : Ext U4 (U4.alloc (.cells #[.int .i64 ((k : Int) + 1), .slice OA ln oc3] RO)) := (Ext.refl U4).alloc _
    replace B31 := B31.ext hx1
    replace HX3 := Lib.hid (HX3.out.trans hx1)
    clear hx1
    generalize U4.alloc (.cells #[.int .i64 ((k : Int) + 1), .slice OA ln oc3] RO) = U5 at *
    obtain ⟨b32, hb32⟩ : ∃ b, U4.heap.size = b := ⟨_, rfl⟩
    rw [hb32] at B32 ⊢
    clear hb32
    have HIQ : Hid (I % q < q) := Lib.hid (Nat.mod_lt _ (by have := HKQ2.out.2.1; omega))
    obtain ⟨i0, hi0⟩ : ∃ x, I % q = x := ⟨_, rfl⟩
    rw [hi0] at HIQ
    have HI0 : Hid (((I : Int) % (q : Int)) = (i0 : Int) ∧ ((q : Int) == 0) = false ∧ ¬ ((q : Int) = 0) ∧ ((I : Int).tmod (q : Int)) = (i0 : Int)) := Lib.hid (by
     have h1 := HKQ2.out.2.1
     have h2 : ((I : Int) % (q : Int)) = (i0 : Int) := by rw [← hi0]; push_cast; rfl
     exact ⟨h2, by simp; omega, by omega, by rw [Int.tmod_eq_emod_of_nonneg (by omega)]; exact h2⟩)
    clear hi0
    have HPR := Lib.hid (fun (W : World) (hx : Ext U5 W) => prove_past ((HPq.out.ext (HXW.out.trans HX3.out)).ext hx) HOQ.out HN24.out HK.out HIQ.out (HTV.out.ext ((HXW.out.trans HX3.out).trans hx)))
    rw [HOA.out.1, HOA.out.2.1, HOA.out.2.2] at HPR
    unfold hdV at HPR
    have HII : ∀ vs, HI24 U5 ⟨(k : Int) + 1, (q : Nat), r, C, S⟩ (i0 : Nat) (nthR (t.lg k) i0) (inclT (vals ((t.lg k).take q)) i0) (fun _ => false) vs { U5 with drawn := U5.drawn + 1 } := fun vs => HI24.zero (Ext.refl U5).drew
    refine region_relyH (HI24 U5 ⟨(k : Int) + 1, (q : Nat), r, C, S⟩ (i0 : Nat) (nthR (t.lg k) i0) (inclT (vals ((t.lg k).take q)) i0)) [some 209, some 210, some 211, some 212, some 213, some 214, some 215, some 208, some 216, some 217, some 33, none, some 34] [[], [], [], [], [3], [2, 3, 4], [0, 1, 2, 3, 4, 5], [0, 1, 2, 3, 4, 5, 6], [0, 1, 2, 3, 4, 5, 6, 7], [0, 1, 2, 3, 4, 5, 6, 7], [], [0, 1, 2, 3, 4, 5, 6, 7, 8, 10], [0, 1, 2, 3, 4, 5, 6, 7, 8, 9, 10, 11]] [[], [], [], [], [3], [2, 4], [0, 1, 5], [6], [6, 7], [6, 7], [], [6, 8, 10], [9]] [none, none, none, none, none, none, none, some 6, some 6, none, none, none, none] [false, false, false, false, false, false, false, false, false, false, false, false, false] [[], [], [], [], [], [], [], [], [], [], [], [], []] [12] [.one ((.agg #[.int .i64 ((k : Int) + 1), .slice OA ln oc3])), .one ((.agg #[.int .i64 ((k : Int) + 1), .int .i64 (q : Nat), .int .u64 r, .int .i64 C, .int .i64 S])), .one ((.int .i64 (I : Nat))), .one ((.pointer (some ⟨b31, 1, none⟩))), .one ((.int .i64 (q : Nat))), .one ((.int .i64 (i0 : Nat))), RPv ⟨(k : Int) + 1, (q : Nat), r, C, S⟩ (i0 : Nat) (nthR (t.lg k) i0), RSm 6, RPt 6, .one ((.int .i64 0)), RPo, .any, .one ((.int .i64 0))] (by kernel_rfl) (by kernel_rfl) (by kernel_rfl) rfl (HII _) ?_ ?_
    ·refine stepsH_cons ?_ ?_
     ·as_aux_lemma =>
      intro listed vs W' hl hI hd hs hn hu hz ho9
      refine hold ?_
      obtain ⟨x0, x1, x2, x3, x4, x5, x6, x7, x8, x9, x10, x11, x12, rfl⟩ := lenlit13p hl; clear hl
      refine held ?_
      simp only [putAll, Act.put, List.setIfInBounds_toArray, List.set_cons_succ, List.set_cons_zero]
      have hB9 := B32.ext hI.ex
      have s0 := hB9.c 0 _ rfl
      have s1 := hB9.c 1 _ rfl
      go_wp2_with fail
      exact relyH_done _ rfl rfl (Ext.refl _) (hI.other (by decide) (by decide) (by decide))
     refine stepsH_cons ?_ ?_
     ·as_aux_lemma =>
      intro listed vs W' hl hI hd hs hn hu hz ho9
      refine hold ?_
      obtain ⟨x0, x1, x2, x3, x4, x5, x6, x7, x8, x9, x10, x11, x12, rfl⟩ := lenlit13p hl; clear hl
      refine held ?_
      simp only [putAll, Act.put, List.setIfInBounds_toArray, List.set_cons_succ, List.set_cons_zero]
      have hB9 := B31.ext hI.ex
      have s0 := hB9.c 0 _ rfl
      have s1 := hB9.c 1 _ rfl
      have s2 := hB9.c 2 _ rfl
      have s3 := hB9.c 3 _ rfl
      have s4 := hB9.c 4 _ rfl
      go_wp2_with fail
      exact relyH_done _ rfl rfl (Ext.refl _) (hI.other (by decide) (by decide) (by decide))
     refine stepsH_cons ?_ ?_
     ·as_aux_lemma =>
      intro listed vs W' hl hI hd hs hn hu hz ho9
      refine hold ?_
      obtain ⟨x0, x1, x2, x3, x4, x5, x6, x7, x8, x9, x10, x11, x12, rfl⟩ := lenlit13p hl; clear hl
      refine held ?_
      simp only [putAll, Act.put, List.setIfInBounds_toArray, List.set_cons_succ, List.set_cons_zero]
      go_wp2_with fail
      exact relyH_done _ rfl rfl (Ext.refl _) (hI.other (by decide) (by decide) (by decide))
     refine stepsH_cons ?_ ?_
     ·as_aux_lemma =>
      intro listed vs W' hl hI hd hs hn hu hz ho9
      refine hold ?_
      obtain ⟨x0, x1, x2, x3, x4, x5, x6, x7, x8, x9, x10, x11, x12, rfl⟩ := lenlit13p hl; clear hl
      refine held ?_
      simp only [putAll, Act.put, List.setIfInBounds_toArray, List.set_cons_succ, List.set_cons_zero]
      go_wp2_with fail
      exact relyH_done _ rfl rfl (Ext.refl _) (hI.other (by decide) (by decide) (by decide))
     refine stepsH_cons ?_ ?_
     ·as_aux_lemma =>
      intro listed vs W' hl hI hd hs hn hu hz ho9
      refine hold ?_
      obtain ⟨x0, x1, x2, x3, x4, x5, x6, x7, x8, x9, x10, x11, x12, rfl⟩ := lenlit13p hl; clear hl
      simp only [factsL, atL, refV, List.getElem?_cons_succ, List.getElem?_cons_zero, List.getD_cons_succ, List.getD_cons_zero, RelL.one, RelL.any, RelL.blk, RelL.law, RPv, RSm, RPt, RPo] at hd
      obtain ⟨rfl, -⟩ := hd
      refine held ?_
      simp only [putAll, Act.put, List.setIfInBounds_toArray, List.set_cons_succ, List.set_cons_zero]
      have hB9 := B31.ext hI.ex
      have s0 := hB9.c 0 _ rfl
      have s1 := hB9.c 1 _ rfl
      go_wp2_with fail
      exact relyH_done _ rfl rfl (Ext.refl _) (hI.other (by decide) (by decide) (by decide))
     refine stepsH_cons ?_ ?_
     ·as_aux_lemma =>
      intro listed vs W' hl hI hd hs hn hu hz ho9
      refine hold ?_
      obtain ⟨x0, x1, x2, x3, x4, x5, x6, x7, x8, x9, x10, x11, x12, rfl⟩ := lenlit13p hl; clear hl
      simp only [factsL, atL, refV, List.getElem?_cons_succ, List.getElem?_cons_zero, List.getD_cons_succ, List.getD_cons_zero, RelL.one, RelL.any, RelL.blk, RelL.law, RPv, RSm, RPt, RPo] at hd
      obtain ⟨rfl, rfl, -⟩ := hd
      refine held ?_
      simp only [putAll, Act.put, List.setIfInBounds_toArray, List.set_cons_succ, List.set_cons_zero]
      obtain ⟨u1, u2, u3, u4⟩ := HI0.out
      go_wp2_with fail
      exact relyH_done _ rfl rfl (Ext.refl _) (hI.other (by decide) (by decide) (by decide))
     refine stepsH_cons ?_ ?_
     ·as_aux_lemma =>
      intro listed vs W' hl hI hd hs hn hu hz ho9
      refine hold ?_
      obtain ⟨x0, x1, x2, x3, x4, x5, x6, x7, x8, x9, x10, x11, x12, rfl⟩ := lenlit13p hl; clear hl
      simp only [factsL, atL, refV, List.getElem?_cons_succ, List.getElem?_cons_zero, List.getD_cons_succ, List.getD_cons_zero, RelL.one, RelL.any, RelL.blk, RelL.law, RPv, RSm, RPt, RPo] at hd
      obtain ⟨rfl, rfl, rfl, -⟩ := hd
      refine held ?_
      simp only [putAll, Act.put, List.setIfInBounds_toArray, List.set_cons_succ, List.set_cons_zero]
      go_wp2_with (go_at_call 22; refine (HPR.out _ hI.ex).mono ?_; rintro e9 w9 ⟨pa, pn, pc, rfl, hs9, hf9, hx9⟩)
      exact relyH_done _ rfl ⟨pa, pn, pc, rfl⟩ hx9 (hI.call (notL hu 11 (by decide)) (by simp) hx9 hs9 hf9)
     refine stepsH_cons ?_ ?_
     ·as_aux_lemma =>
      intro listed vs W' hl hI hd hs hn hu hz ho9
      refine hold ?_
      obtain ⟨x0, x1, x2, x3, x4, x5, x6, x7, x8, x9, x10, x11, x12, rfl⟩ := lenlit13p hl; clear hl
      simp only [factsL, atL, refV, List.getElem?_cons_succ, List.getElem?_cons_zero, List.getD_cons_succ, List.getD_cons_zero, RelL.one, RelL.any, RelL.blk, RelL.law, RPv, RSm, RPt, RPo] at hd
      obtain ⟨⟨pa, pn, pc, rfl⟩, -⟩ := hd
      refine held ?_
      simp only [putAll, Act.put, List.setIfInBounds_toArray, List.set_cons_succ, List.set_cons_zero]
      unfold rcV
      go_wp2_with fail
      exact relyH_done _ rfl rfl (Ext.refl _) (hI.other (by decide) (by decide) (by decide))
     refine stepsH_cons ?_ ?_
     ·as_aux_lemma =>
      intro listed vs W' hl hI hd hs hn hu hz ho9
      refine hold ?_
      obtain ⟨x0, x1, x2, x3, x4, x5, x6, x7, x8, x9, x10, x11, x12, rfl⟩ := lenlit13p hl; clear hl
      simp only [factsL, atL, refV, List.getElem?_cons_succ, List.getElem?_cons_zero, List.getD_cons_succ, List.getD_cons_zero, RelL.one, RelL.any, RelL.blk, RelL.law, RPv, RSm, RPt, RPo] at hd
      obtain ⟨⟨pa, pn, pc, rfl⟩, rfl, -⟩ := hd
      refine held ?_
      simp only [putAll, Act.put, List.setIfInBounds_toArray, List.set_cons_succ, List.set_cons_zero]
      unfold rcV
      go_wp2_with fail
      exact relyH_done _ rfl ⟨_, _, rfl, rfl⟩ (Ext.refl _) (hI.other (by decide) (by decide) (by decide))
     refine stepsH_cons ?_ ?_
     ·as_aux_lemma =>
      intro listed vs W' hl hI hd hs hn hu hz ho9
      refine hold ?_
      obtain ⟨x0, x1, x2, x3, x4, x5, x6, x7, x8, x9, x10, x11, x12, rfl⟩ := lenlit13p hl; clear hl
      simp only [factsL, atL, refV, List.getElem?_cons_succ, List.getElem?_cons_zero, List.getD_cons_succ, List.getD_cons_zero, RelL.one, RelL.any, RelL.blk, RelL.law, RPv, RSm, RPt, RPo] at hd
      obtain ⟨⟨pa, pn, pc, rfl⟩, rfl, -⟩ := hd
      refine held ?_
      simp only [putAll, Act.put, List.setIfInBounds_toArray, List.set_cons_succ, List.set_cons_zero]
      unfold rcV
      go_wp2_with fail
      exact relyH_done _ rfl rfl (Ext.refl _) (hI.other (by decide) (by decide) (by decide))
     refine stepsH_cons ?_ ?_
     ·as_aux_lemma =>
      intro listed vs W' hl hI hd hs hn hu hz ho9
      refine hold ?_
      obtain ⟨x0, x1, x2, x3, x4, x5, x6, x7, x8, x9, x10, x11, x12, rfl⟩ := lenlit13p hl; clear hl
      refine held ?_
      simp only [putAll, Act.put, List.setIfInBounds_toArray, List.set_cons_succ, List.set_cons_zero]
      go_wp2_with fail
      exact relyH_done _ rfl ⟨_, rfl⟩ ((Ext.refl _).alloc _) (hI.al (notL hu 11 (by decide)) (by simp))
     refine stepsH_cons ?_ ?_
     ·as_aux_lemma =>
      intro listed vs W' hl hI hd hs hn hu hz ho9
      refine hold ?_
      obtain ⟨x0, x1, x2, x3, x4, x5, x6, x7, x8, x9, x10, x11, x12, rfl⟩ := lenlit13p hl; clear hl
      simp only [factsL, atL, refV, List.getElem?_cons_succ, List.getElem?_cons_zero, List.getD_cons_succ, List.getD_cons_zero, RelL.one, RelL.any, RelL.blk, RelL.law, RPv, RSm, RPt, RPo] at hd
      obtain ⟨⟨pa, pn, pc, rfl⟩, ⟨A8, y8, e8, rfl⟩, ⟨b10, rfl⟩, -⟩ := hd
      refine held ?_
      simp only [putAll, Act.put, List.setIfInBounds_toArray, List.set_cons_succ, List.set_cons_zero]
      simp only [Value.tuple.injEq, Array.mk.injEq, List.cons.injEq] at e8
      obtain ⟨e8, -⟩ := e8
      subst e8
      obtain ⟨b9, k1, k2, k3, k4⟩ := hI.b (hs 10 (by decide)) hz
      have k0 : ptrV b10 = ptrV b9 := k1
      simp only [ptrV, Value.pointer.injEq, Option.some.injEq, Addr.mk.injEq, and_true] at k0
      subst k0
      go_wp2_with (refine storeBk rfl RRT _ _ rfl b10 (rcC ⟨(k : Int) + 1, (q : Nat), r, C, S⟩ (i0 : Nat) (nthR (t.lg k) i0) pa pn pc) k4 rfl rfl rfl (by kernel_rfl) (rcC_one _ _ _ _ _ _) ?_; refine hold ?_)
      refine held ?_
      go_wp2_with fail
      exact relyH_store undef rfl trivial (Nat.le_of_eq (size_setCells _ _ _ _).symm) ⟨(fun _ _ _ h9 => h9), (fun _ _ _ h9 => h9), (fun _ _ _ h9 => h9), (fun _ _ _ h9 => h9), (fun _ _ _ h9 => h9), (fun _ _ _ h9 => h9), (fun _ _ _ h9 => h9), (fun _ _ _ h9 => h9), (fun _ _ _ h9 => h9), (fun _ _ _ h9 => h9), (fun _ _ _ h9 => h9), (fun _ _ h9 _ => absurd rfl h9), (fun _ hl9 _ _ => absurd (by decide) (hu 12 hl9)), trivial⟩ (hI.st (hs 6 (by decide)) (hs 10 (by decide)) hz rfl rfl undef)
     refine stepsH_cons ?_ ?_
     ·as_aux_lemma =>
      intro listed vs W' hl hI hd hs hn hu hz ho9
      refine hold ?_
      obtain ⟨x0, x1, x2, x3, x4, x5, x6, x7, x8, x9, x10, x11, x12, rfl⟩ := lenlit13p hl; clear hl
      simp only [factsL, atL, refV, List.getElem?_cons_succ, List.getElem?_cons_zero, List.getD_cons_succ, List.getD_cons_zero, RelL.one, RelL.any, RelL.blk, RelL.law, RPv, RSm, RPt, RPo] at hd
      obtain ⟨rfl, -⟩ := hd
      refine held ?_
      simp only [putAll, Act.put, List.setIfInBounds_toArray, List.set_cons_succ, List.set_cons_zero]
      go_wp2_with fail
      exact relyH_done _ rfl rfl (Ext.refl _) (hI.other (by decide) (by decide) (by decide))
     exact trivial
    ·intro listed vs W' hl hall hI hd hn
     obtain ⟨x0, x1, x2, x3, x4, x5, x6, x7, x8, x9, x10, x11, x12, rfl⟩ := lenlit13p hl; clear hl
     simp only [List.length_cons, List.length_nil, factsL, atL, refV, List.getElem?_cons_succ, List.getElem?_cons_zero, List.getD_cons_succ, List.getD_cons_zero, RelL.one, RelL.any, RelL.blk, RelL.law, RPv, RSm, RPt, RPo] at hd
     obtain ⟨rfl, -⟩ := hd
     simp only [putAll, Act.put, List.setIfInBounds_toArray, List.set_cons_succ, List.set_cons_zero]
     obtain ⟨b33, pa, pn, pc, e10, hB33, hS33⟩ := hI.f (hall 11 (by decide))
     have e10' : x10 = ptrV b33 := e10
     clear e10
     subst e10'
     have hx1 := hI.ex
     clear hI hn hall HII HPR
     unfold ptrV
     replace B31 := B31.ext hx1
     replace B32 := B32.ext hx1
     replace HX3 := Lib.hid (HX3.out.trans hx1)
     clear hx1
     generalize W' = U6 at *
     go_upto_region 25 with fail
     have hx9 := HXW.out.trans HX3.out
     have B9 := HB14.out.ext HX3.out
     have c3 := B9.c 3 _ rfl
     have d0 := B31.c 0 _ rfl
     obtain ⟨kb, ko, hka, hck⟩ := (HPq.out.ext hx9).keys.at (by omega)
     have g0 := hck k HKQ2.out.1
     rw [hka] at c3
     clear hck hka
     have HCK := Lib.hid (fun (d : Nat) (os : Array Obj) => check_past (W := grow (redrawn U6 d) os) HOQ.out HN24.out HK.out HIQ.out (hS33.ext (ext_grow _ _ _)) (HTV.out.ext (hx9.trans (ext_grow _ _ _))))
     unfold rcV at HCK
     generalize nth (psK key) k = pk at *
     have r0 := hB33.c 0 _ rfl
     have r1 := hB33.c 1 _ rfl
     have r2 := hB33.c 2 _ rfl
     have r3 := hB33.c 3 _ rfl
     have r4 := hB33.c 4 _ rfl
     have r5 := hB33.c 5 _ rfl
     have r6 := hB33.c 6 _ rfl
     have r7 := hB33.c 7 _ rfl
     have r8 := hB33.c 8 _ rfl
     have r9 := hB33.c 9 _ rfl
     obtain ⟨hk3, hq1, hq2, hq4⟩ := HKQ2.out
     have hg := @grow_cell
     have hl0 := B9.lt
     have hl1 := B31.lt
     have hl2 := lt_of_cell g0
     have hl3 := hB33.lt
     simp only at hl2
     refine region_ext (by kernel_rfl) (by kernel_rfl) ?_
     repeat (go_big_quiet_step ((go_at_call 23; exact Calls.regrown_of (HCK.out _ _))))
     refine wpQuiet_nil ?_
     intro U7 hE
     clear c3 d0 g0 hg hl0 hl1 hl2 hl3 B9 hx9 HCK hB33 hS33 r0 r1 r2 r3 r4 r5 r6 r7 r8 r9
     replace B31 := B31.ext hE
     replace B32 := B32.ext hE
     replace HX3 := Lib.hid (HX3.out.trans hE)
     clear hE hk3 hq1 hq2 hq4
     have hj12 := HH12.out
     go_upto_region 28 with fail
     go_wp2_with fail
     have HB31 := Lib.hid B31
     have HB32 := Lib.hid B32
     clear B31 B32
     go_loopw [37] (fun mx wr => ∃ m : Nat, m ≤ hnq ∧ j < m ∧ mx = .int .i64 m ∧ Hid (Ext U7 wr)) (fun mx _ => hnq - (intOf mx).toNat)
     case atStart => exact ⟨j + 1, by have := HJT.out.2; omega, by omega, by go_num, Lib.hid (Ext.refl U7)⟩
     case round => as_aux_lemma =>
      obtain ⟨m, hm, hjm, rfl, HX⟩ := hrel
      have hj12 := HH12.out
      have hx9 := (HXW.out.trans HX3.out).trans HX.out
      have B9 := HB14.out.ext (HX3.out.trans HX.out)
      have e2 := B9.c 2 _ rfl
      rw [HXB.out] at e2
      by_cases hmt : m < hnq
      ·have HMT := Lib.hid hmt
       have hml : m < t.hs.length := by rw [HPq.out.hlen]; exact hmt
       obtain ⟨k', q', hK'⟩ := HOQ.out.hdK HN24.out hml
       have hmono := HMN.out j m hjm hml
       rw [HJT.out.1] at hmono
       have hr := HC2.out wr hx9 m hmt
       clear hml
       generalize nthR t.hs m = h' at *
       obtain ⟨o', s', r', C', S'⟩ := h'
       have ho := hK'.o
       have hs := hK'.s
       simp only at ho hs
       subst ho hs
       simp only at hmono
       have HK' := Lib.hid hK'
       have hq2' := hK'.le
       clear hK'
       obtain ⟨f0, f1, f2, f3, f4⟩ := cells_hd hr
       simp only at f0 f1 f2 f3 f4
       clear hr f3 f4
       have B8 := HB31.out.ext HX.out
       have d0 := B8.c 0 _ rfl
       by_cases hkk : k' = k
       ·have hkk2 : k = k' := hkk.symm
        subst hkk2
        clear hkk
        have HQQ : Hid (q ≤ q' ∧ q' ≤ 4096) := Lib.hid ⟨by have := hmono rfl; omega, by have := (HOQ.out.len k).2; have := HN24.out; omega⟩
        have HQL : Hid (q' ≤ ln) := Lib.hid (by rw [← HOA.out.2.1]; exact hq2')
        clear hmono hq2'
        go_upto_region 31 with fail
        have hg := @grow_cell
        have hl0 := B9.lt
        have hl1 := B8.lt
        have hl2 := lt_of_cell f0
        simp only at hl2
        refine region_ext (by kernel_rfl) (by kernel_rfl) ?_
        repeat (go_big_quiet_step (fail))
        refine wpQuiet_nil ?_
        intro U8 hE
        clear d0 f0 hg hl0 hl1 hl2 e2 B9 B8 hx9
        go_upto_region 32 with fail
        replace HX := Lib.hid (HX.out.trans hE)
        have f1' := hE.cell f1
        have f2' := hE.cell f2
        clear f1 f2 hE
        have hx9 := (HXW.out.trans HX3.out).trans HX.out
        have B9 := HB14.out.ext (HX3.out.trans HX.out)
        have e2 := B9.c 2 _ rfl
        rw [HXB.out] at e2
        have B8 := HB31.out.ext HX.out
        have d1 := B8.c 1 _ rfl
        have B7 := HB32.out.ext HX.out
        have v1 := B7.c 1 _ rfl
        obtain ⟨hqq, hq4⟩ := HQQ.out
        have hql := HQL.out
        have z1 : ¬ ((q' : Int) < (q : Int)) := by omega
        have z2 : decide ((q' : Int) < (q : Int)) = false := decide_eq_false z1
        have z3 : ¬ ((ln : Int) < (q' : Int)) := by omega
        have z4 : decide ((ln : Int) < (q' : Int)) = false := decide_eq_false z3
        have z5 : ¬ (q' < q) := by omega
        have z6 : ¬ (ln < q') := by omega
        have hg := @grow_cell
        have hl0 := B9.lt
        have hl1 := B8.lt
        have hl2 := lt_of_cell f1'
        have hl3 := B7.lt
        simp only at hl2
        refine region_ext (by kernel_rfl) (by kernel_rfl) ?_
        repeat (go_big_quiet_step (fail))
        refine wpQuiet_nil ?_
        intro U9 hE
        clear z1 z2 z3 z4 z5 z6 hqq hq4 hql v1 d1 e2 hg hl0 hl1 hl2 hl3 B9 B8 B7 hx9
        go_upto_region 34 with fail
        replace HX := Lib.hid (HX.out.trans hE)
        have HF1 := Lib.hid (hE.cell f1')
        have HF2 := Lib.hid (hE.cell f2')
        clear f1' f2' hE
        have HB14u := Lib.hid (HB14.out.ext (HX3.out.trans HX.out))
        have HB31u := Lib.hid (HB31.out.ext HX.out)
        have HB32u := Lib.hid (HB32.out.ext HX.out)
        have HTU := Lib.hid (HTV.out.ext ((HXW.out.trans HX3.out).trans HX.out))
        have HVL := Lib.hid (fun (W : World) (hx : Ext U9 W) => values_past ((HPq.out.ext ((HXW.out.trans HX3.out).trans HX.out)).ext hx) HOQ.out HN24.out HK'.out)
        rw [HOA.out.1, HOA.out.2.1, HOA.out.2.2] at HVL
        refine region_relyE (fun _ W => Ext U9 W) [some 280, some 281, some 282, some 283, some 284, some 285, some 286, some 287, some 288, some 289, some 290, some 279, some 291, some 292, some 38, some 39] [[], [], [1], [], [1, 2, 3], [1, 2, 3, 4], [1, 2, 3, 4, 5], [0, 1, 2, 3, 4, 5, 6], [], [8], [0, 1, 2, 3, 4, 5, 6, 7, 8, 9], [0, 1, 2, 3, 4, 5, 6, 7, 8, 9, 10], [0, 1, 2, 3, 4, 5, 6, 7, 8, 9, 10, 11], [0, 1, 2, 3, 4, 5, 6, 7, 8, 9, 10, 11], [0, 1, 2, 3, 4, 5, 6, 7, 8, 9, 10, 11, 12], [0, 1, 2, 3, 4, 5, 6, 7, 8, 9, 10, 11, 12, 13, 14]] [[], [], [1], [], [2, 3], [4], [5], [0, 6], [], [8], [7, 9], [10], [11], [11], [12], [13]] [none, none, none, none, none, none, none, none, none, none, none, none, none, none, none, none] [false, false, false, false, false, false, false, false, false, false, false, false, false, false, false, false] [.one ((.agg #[.int .i64 ((k : Int) + 1), .slice OA ln oc3])), .one ((.pointer (some ⟨b14, 2, none⟩))), .one ((.slice (some ⟨qb2, qo2, none⟩) hnq hcq)), .one ((.int .i64 (m : Nat))), .one ((.pointer (some ⟨qb2, qo2 + m * 5, none⟩))), .one ((.pointer (some ⟨qb2, qo2 + m * 5 + 1, none⟩))), .one ((.int .i64 (q' : Nat))), RVl q' (vals ((t.lg k).take q')), .one ((.pointer (some ⟨b31, 1, none⟩))), .one ((.int .i64 (q : Nat))), RXt (extT (vals ((t.lg k).take q')) q), RXt (extT (vals ((t.lg k).take q')) q), RXs (extT (vals ((t.lg k).take q')) q), .one ((.int .i64 0)), RXs (extT (vals ((t.lg k).take q')) q), .one ((.int .i64 0))] (by kernel_rfl) (by kernel_rfl) rfl (Ext.refl U9).drew ?_ ?_
        ·refine stepsE_cons ?_ ?_
         ·as_aux_lemma =>
          intro listed vs W' hl hI hd hs hn hu hz
          refine hold ?_
          obtain ⟨x0, x1, x2, x3, x4, x5, x6, x7, x8, x9, x10, x11, x12, x13, x14, x15, rfl⟩ := lenlit16p hl; clear hl
          refine held ?_
          simp only [putAll, Act.put, List.setIfInBounds_toArray, List.set_cons_succ, List.set_cons_zero]
          have hB9 := HB32u.out.ext hI
          have s0 := hB9.c 0 _ rfl
          have s1 := hB9.c 1 _ rfl
          go_wp2_with fail
          exact relyE_done _ rfl rfl (Ext.refl _) hI
         refine stepsE_cons ?_ ?_
         ·as_aux_lemma =>
          intro listed vs W' hl hI hd hs hn hu hz
          refine hold ?_
          obtain ⟨x0, x1, x2, x3, x4, x5, x6, x7, x8, x9, x10, x11, x12, x13, x14, x15, rfl⟩ := lenlit16p hl; clear hl
          refine held ?_
          simp only [putAll, Act.put, List.setIfInBounds_toArray, List.set_cons_succ, List.set_cons_zero]
          go_wp2_with fail
          exact relyE_done _ rfl rfl (Ext.refl _) hI
         refine stepsE_cons ?_ ?_
         ·as_aux_lemma =>
          intro listed vs W' hl hI hd hs hn hu hz
          refine hold ?_
          obtain ⟨x0, x1, x2, x3, x4, x5, x6, x7, x8, x9, x10, x11, x12, x13, x14, x15, rfl⟩ := lenlit16p hl; clear hl
          simp only [factsL, atL, refV, List.getElem?_cons_succ, List.getElem?_cons_zero, List.getD_cons_succ, List.getD_cons_zero, RelL.one, RelL.any, RelL.blk, RelL.law, RVl, RXt, RXs] at hd
          obtain ⟨rfl, -⟩ := hd
          refine held ?_
          simp only [putAll, Act.put, List.setIfInBounds_toArray, List.set_cons_succ, List.set_cons_zero]
          have hB9 := HB14u.out.ext hI
          have s0 := hB9.c 0 _ rfl
          have s1 := hB9.c 1 _ rfl
          have s2 := hB9.c 2 _ rfl
          have s3 := hB9.c 3 _ rfl
          rw [HXB.out] at s2
          go_wp2_with fail
          exact relyE_done _ rfl rfl (Ext.refl _) hI
         refine stepsE_cons ?_ ?_
         ·as_aux_lemma =>
          intro listed vs W' hl hI hd hs hn hu hz
          refine hold ?_
          obtain ⟨x0, x1, x2, x3, x4, x5, x6, x7, x8, x9, x10, x11, x12, x13, x14, x15, rfl⟩ := lenlit16p hl; clear hl
          refine held ?_
          simp only [putAll, Act.put, List.setIfInBounds_toArray, List.set_cons_succ, List.set_cons_zero]
          go_wp2_with fail
          exact relyE_done _ rfl rfl (Ext.refl _) hI
         refine stepsE_cons ?_ ?_
         ·as_aux_lemma =>
          intro listed vs W' hl hI hd hs hn hu hz
          refine hold ?_
          obtain ⟨x0, x1, x2, x3, x4, x5, x6, x7, x8, x9, x10, x11, x12, x13, x14, x15, rfl⟩ := lenlit16p hl; clear hl
          simp only [factsL, atL, refV, List.getElem?_cons_succ, List.getElem?_cons_zero, List.getD_cons_succ, List.getD_cons_zero, RelL.one, RelL.any, RelL.blk, RelL.law, RVl, RXt, RXs] at hd
          obtain ⟨rfl, rfl, -⟩ := hd
          refine held ?_
          simp only [putAll, Act.put, List.setIfInBounds_toArray, List.set_cons_succ, List.set_cons_zero]
          have hm9 := HMT.out
          go_wp2_with fail
          exact relyE_done _ rfl rfl (Ext.refl _) hI
         refine stepsE_cons ?_ ?_
         ·as_aux_lemma =>
          intro listed vs W' hl hI hd hs hn hu hz
          refine hold ?_
          obtain ⟨x0, x1, x2, x3, x4, x5, x6, x7, x8, x9, x10, x11, x12, x13, x14, x15, rfl⟩ := lenlit16p hl; clear hl
          simp only [factsL, atL, refV, List.getElem?_cons_succ, List.getElem?_cons_zero, List.getD_cons_succ, List.getD_cons_zero, RelL.one, RelL.any, RelL.blk, RelL.law, RVl, RXt, RXs] at hd
          obtain ⟨rfl, -⟩ := hd
          refine held ?_
          simp only [putAll, Act.put, List.setIfInBounds_toArray, List.set_cons_succ, List.set_cons_zero]
          go_wp2_with fail
          exact relyE_done _ rfl rfl (Ext.refl _) hI
         refine stepsE_cons ?_ ?_
         ·as_aux_lemma =>
          intro listed vs W' hl hI hd hs hn hu hz
          refine hold ?_
          obtain ⟨x0, x1, x2, x3, x4, x5, x6, x7, x8, x9, x10, x11, x12, x13, x14, x15, rfl⟩ := lenlit16p hl; clear hl
          simp only [factsL, atL, refV, List.getElem?_cons_succ, List.getElem?_cons_zero, List.getD_cons_succ, List.getD_cons_zero, RelL.one, RelL.any, RelL.blk, RelL.law, RVl, RXt, RXs] at hd
          obtain ⟨rfl, -⟩ := hd
          refine held ?_
          simp only [putAll, Act.put, List.setIfInBounds_toArray, List.set_cons_succ, List.set_cons_zero]
          have s1 := hI.cell HF1.out
          go_wp2_with fail
          exact relyE_done _ rfl rfl (Ext.refl _) hI
         refine stepsE_cons ?_ ?_
         ·as_aux_lemma =>
          intro listed vs W' hl hI hd hs hn hu hz
          refine hold ?_
          obtain ⟨x0, x1, x2, x3, x4, x5, x6, x7, x8, x9, x10, x11, x12, x13, x14, x15, rfl⟩ := lenlit16p hl; clear hl
          simp only [factsL, atL, refV, List.getElem?_cons_succ, List.getElem?_cons_zero, List.getD_cons_succ, List.getD_cons_zero, RelL.one, RelL.any, RelL.blk, RelL.law, RVl, RXt, RXs] at hd
          obtain ⟨rfl, rfl, -⟩ := hd
          refine held ?_
          simp only [putAll, Act.put, List.setIfInBounds_toArray, List.set_cons_succ, List.set_cons_zero]
          go_wp2_with (go_at_call 16; refine (HVL.out _ hI).mono ?_; rintro e9 w9 ⟨vb, vo, vc, rfl, hs9, hx9⟩)
          exact relyE_done _ rfl ⟨vb, vo, vc, rfl, hs9⟩ hx9 (hI.trans hx9)
         refine stepsE_cons ?_ ?_
         ·as_aux_lemma =>
          intro listed vs W' hl hI hd hs hn hu hz
          refine hold ?_
          obtain ⟨x0, x1, x2, x3, x4, x5, x6, x7, x8, x9, x10, x11, x12, x13, x14, x15, rfl⟩ := lenlit16p hl; clear hl
          refine held ?_
          simp only [putAll, Act.put, List.setIfInBounds_toArray, List.set_cons_succ, List.set_cons_zero]
          go_wp2_with fail
          exact relyE_done _ rfl rfl (Ext.refl _) hI
         refine stepsE_cons ?_ ?_
         ·as_aux_lemma =>
          intro listed vs W' hl hI hd hs hn hu hz
          refine hold ?_
          obtain ⟨x0, x1, x2, x3, x4, x5, x6, x7, x8, x9, x10, x11, x12, x13, x14, x15, rfl⟩ := lenlit16p hl; clear hl
          simp only [factsL, atL, refV, List.getElem?_cons_succ, List.getElem?_cons_zero, List.getD_cons_succ, List.getD_cons_zero, RelL.one, RelL.any, RelL.blk, RelL.law, RVl, RXt, RXs] at hd
          obtain ⟨rfl, -⟩ := hd
          refine held ?_
          simp only [putAll, Act.put, List.setIfInBounds_toArray, List.set_cons_succ, List.set_cons_zero]
          have hB9 := HB31u.out.ext hI
          have s0 := hB9.c 0 _ rfl
          have s1 := hB9.c 1 _ rfl
          go_wp2_with fail
          exact relyE_done _ rfl rfl (Ext.refl _) hI
         refine stepsE_cons ?_ ?_
         ·as_aux_lemma =>
          intro listed vs W' hl hI hd hs hn hu hz
          refine hold ?_
          obtain ⟨x0, x1, x2, x3, x4, x5, x6, x7, x8, x9, x10, x11, x12, x13, x14, x15, rfl⟩ := lenlit16p hl; clear hl
          simp only [factsL, atL, refV, List.getElem?_cons_succ, List.getElem?_cons_zero, List.getD_cons_succ, List.getD_cons_zero, RelL.one, RelL.any, RelL.blk, RelL.law, RVl, RXt, RXs] at hd
          obtain ⟨⟨vb, vo, vc, rfl, hs7⟩, rfl, -⟩ := hd
          refine held ?_
          simp only [putAll, Act.put, List.setIfInBounds_toArray, List.set_cons_succ, List.set_cons_zero]
          go_wp2_with (go_at_call 17; refine (extend_past HKQ2.out.2.1 HQQ.out.1 HQQ.out.2 hs7 (HTU.out.ext hI)).mono ?_; rintro e9 w9 ⟨xa9, xc9, rfl, hs9, hx9⟩)
          exact relyE_done _ rfl ⟨xa9, xc9, rfl, hs9⟩ hx9 (hI.trans hx9)
         refine stepsE_cons ?_ ?_
         ·as_aux_lemma =>
          intro listed vs W' hl hI hd hs hn hu hz
          refine hold ?_
          obtain ⟨x0, x1, x2, x3, x4, x5, x6, x7, x8, x9, x10, x11, x12, x13, x14, x15, rfl⟩ := lenlit16p hl; clear hl
          simp only [factsL, atL, refV, List.getElem?_cons_succ, List.getElem?_cons_zero, List.getD_cons_succ, List.getD_cons_zero, RelL.one, RelL.any, RelL.blk, RelL.law, RVl, RXt, RXs] at hd
          obtain ⟨⟨xa0, xc0, rfl, hs10⟩, -⟩ := hd
          refine held ?_
          simp only [putAll, Act.put, List.setIfInBounds_toArray, List.set_cons_succ, List.set_cons_zero]
          go_wp2_with fail
          exact relyE_done _ rfl ⟨xa0, xc0, rfl, hs10⟩ (Ext.refl _) hI
         refine stepsE_cons ?_ ?_
         ·as_aux_lemma =>
          intro listed vs W' hl hI hd hs hn hu hz
          refine hold ?_
          obtain ⟨x0, x1, x2, x3, x4, x5, x6, x7, x8, x9, x10, x11, x12, x13, x14, x15, rfl⟩ := lenlit16p hl; clear hl
          simp only [factsL, atL, refV, List.getElem?_cons_succ, List.getElem?_cons_zero, List.getD_cons_succ, List.getD_cons_zero, RelL.one, RelL.any, RelL.blk, RelL.law, RVl, RXt, RXs] at hd
          obtain ⟨⟨xa1, xc1, rfl, hs11⟩, -⟩ := hd
          refine held ?_
          simp only [putAll, Act.put, List.setIfInBounds_toArray, List.set_cons_succ, List.set_cons_zero]
          go_wp2_with fail
          exact relyE_done _ rfl ⟨xa1, xc1, rfl, hs11⟩ (Ext.refl _) hI
         refine stepsE_cons ?_ ?_
         ·as_aux_lemma =>
          intro listed vs W' hl hI hd hs hn hu hz
          refine hold ?_
          obtain ⟨x0, x1, x2, x3, x4, x5, x6, x7, x8, x9, x10, x11, x12, x13, x14, x15, rfl⟩ := lenlit16p hl; clear hl
          simp only [factsL, atL, refV, List.getElem?_cons_succ, List.getElem?_cons_zero, List.getD_cons_succ, List.getD_cons_zero, RelL.one, RelL.any, RelL.blk, RelL.law, RVl, RXt, RXs] at hd
          obtain ⟨⟨xa1, xc1, rfl, hs11⟩, -⟩ := hd
          refine held ?_
          simp only [putAll, Act.put, List.setIfInBounds_toArray, List.set_cons_succ, List.set_cons_zero]
          go_wp2_with fail
          exact relyE_done _ rfl rfl (Ext.refl _) hI
         refine stepsE_cons ?_ ?_
         ·as_aux_lemma =>
          intro listed vs W' hl hI hd hs hn hu hz
          refine hold ?_
          obtain ⟨x0, x1, x2, x3, x4, x5, x6, x7, x8, x9, x10, x11, x12, x13, x14, x15, rfl⟩ := lenlit16p hl; clear hl
          simp only [factsL, atL, refV, List.getElem?_cons_succ, List.getElem?_cons_zero, List.getD_cons_succ, List.getD_cons_zero, RelL.one, RelL.any, RelL.blk, RelL.law, RVl, RXt, RXs] at hd
          obtain ⟨⟨xa2, xc2, rfl, hs12⟩, -⟩ := hd
          refine held ?_
          simp only [putAll, Act.put, List.setIfInBounds_toArray, List.set_cons_succ, List.set_cons_zero]
          go_wp2_with fail
          exact relyE_done _ rfl ⟨xa2, xc2, rfl, hs12⟩ (Ext.refl _) hI
         refine stepsE_cons ?_ ?_
         ·as_aux_lemma =>
          intro listed vs W' hl hI hd hs hn hu hz
          refine hold ?_
          obtain ⟨x0, x1, x2, x3, x4, x5, x6, x7, x8, x9, x10, x11, x12, x13, x14, x15, rfl⟩ := lenlit16p hl; clear hl
          simp only [factsL, atL, refV, List.getElem?_cons_succ, List.getElem?_cons_zero, List.getD_cons_succ, List.getD_cons_zero, RelL.one, RelL.any, RelL.blk, RelL.law, RVl, RXt, RXs] at hd
          obtain ⟨rfl, -⟩ := hd
          refine held ?_
          simp only [putAll, Act.put, List.setIfInBounds_toArray, List.set_cons_succ, List.set_cons_zero]
          go_wp2_with fail
          exact relyE_done _ rfl rfl (Ext.refl _) hI
         exact trivial
        ·intro listed vs W' hl hall hI hd hn
         obtain ⟨x0, x1, x2, x3, x4, x5, x6, x7, x8, x9, x10, x11, x12, x13, x14, x15, rfl⟩ := lenlit16p hl; clear hl
         simp only [List.length_cons, List.length_nil, List.range, List.range.loop, Nat.zero_add, Nat.reduceAdd, factsL, atL, refV, List.getElem?_cons_succ, List.getElem?_cons_zero, List.getD_cons_succ, List.getD_cons_zero, RelL.one, RelL.any, RelL.blk, RelL.law, RVl, RXt, RXs] at hd
         obtain ⟨rfl, rfl, rfl, rfl, rfl, rfl, rfl, ⟨vb, vo, vc, rfl, hs7⟩, rfl, rfl, ⟨xa0, xc0, rfl, hs10⟩, ⟨xa1, xc1, rfl, hs11⟩, ⟨xa2, xc2, rfl, hs12⟩, rfl, ⟨xa4, xc4, rfl, hs14⟩, rfl, -⟩ := hd
         simp only [putAll, Act.put, List.setIfInBounds_toArray, List.set_cons_succ, List.set_cons_zero]
         replace HX := Lib.hid (HX.out.trans hI)
         have f1 := hI.cell HF1.out
         have f2 := hI.cell HF2.out
         clear hn hall HVL HF1 HF2 HB14u HB31u HB32u HTU hI
         go_upto_region 35 with fail
         have hx9 := (HXW.out.trans HX3.out).trans HX.out
         have HXD := Lib.hid (fun (d : Nat) (os : Array Obj) => extended_past (W := grow (redrawn W' d) os) HOQ.out HN24.out HK.out HK'.out HQQ.out.1 (hs14.ext (ext_grow _ _ _)) (HTV.out.ext (hx9.trans (ext_grow _ _ _))))
         simp only at HXD
         generalize extT (vals ((t.lg k).take q')) q = XP at *
         have B9 := HB14.out.ext (HX3.out.trans HX.out)
         have e2 := B9.c 2 _ rfl
         rw [HXB.out] at e2
         have B8 := HB31.out.ext HX.out
         have d1 := B8.c 1 _ rfl
         have d2 := B8.c 2 _ rfl
         have hg := @grow_cell
         have hl0 := B9.lt
         have hl1 := B8.lt
         have hl2 := lt_of_cell f1
         simp only at hl2
         refine region_ext (by kernel_rfl) (by kernel_rfl) ?_
         repeat (go_big_quiet_step ((go_at_call 24; exact Calls.regrown_of (HXD.out _ _))))
         refine wpQuiet_nil ?_
         intro U10 hE
         replace HX := Lib.hid (HX.out.trans hE)
         clear d1 d2 e2 f1 f2 hg hl0 hl1 hl2 hE B9 B8 hx9 HXD hs14
         go_wp2_with fail
         exact ⟨⟨m + 1, by omega, by omega, by go_num, HX⟩, by simp only [intOf]; omega⟩
       ·as_aux_lemma =>
        have z1 : ¬ ((k' : Int) + 1 = (k : Int) + 1) := by omega
        have z2 : ((k' : Int) + 1 == (k : Int) + 1) = false := by simp; omega
        have z3 : ¬ ((k' : Int) = (k : Int)) := by omega
        have z4 : ((k' : Int) == (k : Int)) = false := by simp; omega
        clear hmono hq2'
        go_upto_region 31 with fail
        have hg := @grow_cell
        have hl0 := B9.lt
        have hl1 := B8.lt
        have hl2 := lt_of_cell f0
        simp only at hl2
        refine region_ext (by kernel_rfl) (by kernel_rfl) ?_
        repeat (go_big_quiet_step (fail))
        refine wpQuiet_nil ?_
        intro U8 hE
        replace HX := Lib.hid (HX.out.trans hE)
        clear d0 f0 hg hl0 hl1 hl2 e2 B9 B8 hx9 hE
        go_wp2_with fail
        exact ⟨⟨m + 1, by omega, by omega, by go_num, HX⟩, by simp only [intOf]; omega⟩
      ·obtain rfl : m = hnq := by omega
       have HXE := Lib.hid (HX3.out.trans HX.out)
       clear B9 hx9
       go_wp2_with fail
       exact ⟨⟨j + 1, by omega, by go_num, HXE⟩, by simp only [intOf]; omega⟩
   ·obtain rfl : j = hnp := by omega
    have B9 := HB12.out.ext HX.out
    have c2 := B9.c 2 _ rfl
    have HFE := Lib.hid (HV.out.trans (HXW.out.trans HX.out))
    clear B9
    go_wp2_with fail
    go_ret
    exact ⟨rfl, HFE.out⟩
end Go.Proofs.YtacicanjmleikaaGreatDoor
