
import Derived.Test.YtacicanjmleikaaGreatDoorS20
import Derived.Test.YtacicanjmleikaaGreatDoorS27
import Derived.Test.YtacicanjmleikaaGreatDoorS23
/- A part of the proof. -/
namespace Go.Proofs.YtacicanjmleikaaGreatDoor
open Go.RowKit Go.Sort Go.Shelf Go.Maps
set_option linter.unusedSimpArgs false
set_option linter.unusedVariables false
set_option maxRecDepth 100000
def EntV (os : List OfR) (n : Nat) : Value := if (nthR os (n % 3)).n = 0 then .tuple #[.int .i64 0, .int .i64 0, .bool false] else .tuple #[.int .i64 ((n % 3 : Nat) : Int), .int .i64 ((n / 3 % (nthR os (n % 3)).n : Nat) : Int), .bool true]
set_option maxHeartbeats 4000000 in
theorem r7entry_any {oa ta ha ka : Option Addr} {oc tn tc hn hc kn kc : Nat} {os : List OfR} {n : Nat} {w : World} (h : Rw w oa 3 oc os) (hn6 : n < 65536) (hbd : ∀ k, k < 3 → (nthR os k).n ≤ 4096) :
  Calls Tryz.prog 20 #[.agg #[.slice oa 3 oc, .slice ta tn tc, .slice ha hn hc, .slice ka kn kc], .int .u16 n] w fun e w' =>
   e = .returned (EntV os n) ∧ Ext w w' := by
 have hB := Bk.new w 67 #[.slice oa 3 oc, .slice ta tn tc, .slice ha hn hc, .slice ka kn kc]
 have hx : Ext w (w.alloc (.cells #[.slice oa 3 oc, .slice ta tn tc, .slice ha hn hc, .slice ka kn kc] 67)) := (Ext.refl w).alloc _
 have hk3 : n % 3 < 3 := Nat.mod_lt _ (by omega)
 obtain ⟨x1, o1, rfl, hc1⟩ := h.at (by omega)
 have hr := rangeAt_ext (hc1 (n % 3) hk3) hx
 rw [sz_of] at hr
 have HB4 := Lib.hid (hbd (n % 3) hk3)
 obtain ⟨d0, d1⟩ := cells_of hr
 clear hr hc1 hbd
 obtain ⟨q, hq⟩ : ∃ q, nthR os (n % 3) = q := ⟨_, rfl⟩
 rw [hq] at HB4 d0 d1
 have HQE := Lib.hid hq
 clear hq
 go_enter Tryz.func20, Tryz.ntmps20
 go_upto_region 1 with fail
 generalize w.alloc (.cells #[.slice (some ⟨x1, o1, none⟩) 3 oc, .slice ta tn tc, .slice ha hn hc, .slice ka kn kc] 67) = V at *
 obtain ⟨b2, hb2⟩ : ∃ b, w.heap.size = b := ⟨_, rfl⟩
 rw [hb2] at hB ⊢
 clear hb2
 have c0 := hB.c 0 _ rfl
 go_upto_region 2 with fail
 rw [show ((n : Int) % 3) = ((n % 3 : Nat) : Int) by omega]
 have HN3 : Hid (n % 3 < 3) := Lib.hid hk3
 obtain ⟨k, hk⟩ : ∃ k, n % 3 = k := ⟨_, rfl⟩
 have HK := Lib.hid hk
 rw [hk] at d0 d1 hk3 ⊢
 clear hk
 by_cases hz : q.n = 0
 ·have hz2 : ((q.n : Int) == 0) = true := by simp [hz]
  have HZ := Lib.hid hz
  clear hz
  go_wp2_with fail
  all_goals
   go_ret3
   exact ⟨congrArg Ending.returned (show _ = EntV os n by unfold EntV; rw [HQE.out, if_pos HZ.out]; rfl), hx⟩
 ·have hz2 : ((q.n : Int) == 0) = false := by simp; exact hz
  have HZ := Lib.hid hz
  have hz3 : ¬ ((q.n : Int) = 0) := by omega
  go_upto_region 4 with fail
  have hg := @grow_cell
  have hl1 := hB.lt
  have hl2 := lt_of_cell d1
  simp only at hl2
  refine region_ext (by kernel_rfl) (by kernel_rfl) ?_
  repeat (go_big_quiet_step (fail))
  refine wpQuiet_nil ?_
  intro U hE2
  go_wp2_with fail
  go_ret3
  refine ⟨?_, hx.trans hE2⟩
  refine congrArg Ending.returned (show _ = EntV os n from ?_)
  unfold EntV
  rw [HQE.out, if_neg HZ.out, HK.out]
  have e : ((n : Int) / 3 % (q.n : Int)) = ((n / 3 % q.n : Nat) : Int) := by simp
  rw [← e]
  rfl
open Go.RowKit Go.Sort Go.Shelf Go.Maps
set_option maxHeartbeats 16000000 in
theorem topstamped_from (HORD : ∀ W, TB W → Calls Tryz.prog 6 #[] W fun e w' => e = .returned (.bool true) ∧ Ext W w') {a : Option Addr} {n c : Nat} {l : List LgR} {key one two heads others : Nat} {w : World}
  (HLGS : ∀ W, n ≤ 24 → Rw W a n c l → TB W → Calls Tryz.prog 19 #[.slice a n c, .int .u64 key] W (LgsP W key (lgL l) n))
  (H : Rw w a n c l) (h1 : one < 65536) (h2 : two < 65536) (h3 : heads < 65536) (h4 : others < 65536) (ht : TB w) :
  Calls Tryz.prog 4 #[.slice a n c, .int .u64 key, .int .u16 one, .int .u16 two, .int .u16 heads, .int .u16 others] w fun e w' => e = .returned (.bool true) ∧ Ext w w' := by
 have bd := H.bd
 have HTB := Lib.hid ht
 have HL := Lib.hid H
 have HO := Lib.hid HORD
 have HLG := Lib.hid (fun (hn : n ≤ 24) (W : World) (hx : Ext w W) => HLGS W hn (H.ext hx) (ht.ext hx))
 have HB1 := Lib.hid h1
 have HB2 := Lib.hid h2
 have HB3 := Lib.hid h3
 have HB4 := Lib.hid h4
 clear H ht HORD HLGS h1 h2 h3 h4
 go_enter Tryz.func4, Tryz.ntmps4
 go_wp2_with (go_at_call 6; refine (HO.out _ HTB.out).mono ?_; rintro e9 w1 ⟨rfl, hx0⟩; refine hold ?_)
 refine held ?_
 clear HO
 by_cases g : n ≤ 24
 case neg =>
  have g1 : (24 : Int) < (n : Int) := by omega
  go_wp2_with fail
  go_ret
  exact ⟨rfl, hx0⟩
 have g1 : ¬ ((24 : Int) < (n : Int)) := by omega
 go_upto_region 4 with fail
 clear g1
 have hl := HLG.out g _ hx0
 unfold LgsP at hl
 have HN24 := Lib.hid g
 clear g HLG
 have HOK := Lib.hid (run_ok key (lgL l) (lgL_ok HL.out) n)
 generalize runP key (lgL l) n = s at *
 go_wp2_with (go_at_call 19; refine hl.mono ?_; rintro e9 w2 ⟨base, b6, ob, oc, tb, ha, hn, hc, ka, kc, os, ts, rfl, hP, hx1⟩; refine hold ?_)
 refine held ?_
 clear hl
 have B14 := Bk.new w2 RPs #[.slice (some ⟨ob, 0, none⟩) 3 oc, .slice (some ⟨tb, 0, none⟩) 3 3, .slice ha hn hc, .slice ka 3 kc]
 have hxa : Ext w2 (w2.alloc (.cells #[.slice (some ⟨ob, 0, none⟩) 3 oc, .slice (some ⟨tb, 0, none⟩) 3 3, .slice ha hn hc, .slice ka 3 kc] RPs)) := (Ext.refl w2).alloc _
 go_upto_region 5 with fail
 replace hP := hP.ext hxa
 have HV := Lib.hid ((hx0.trans hx1).trans hxa)
 clear hx0 hx1 hxa
 generalize w2.alloc (.cells #[.slice (some ⟨ob, 0, none⟩) 3 oc, .slice (some ⟨tb, 0, none⟩) 3 3, .slice ha hn hc, .slice ka 3 kc] RPs) = V at *
 obtain ⟨b14, hb14⟩ : ∃ b, w2.heap.size = b := ⟨_, rfl⟩
 rw [hb14] at B14 ⊢
 clear hb14
 have HP := Lib.hid hP
 have HEN := Lib.hid (fun (m : Nat) (hm : m < 65536) (W : World) (hx : Ext V W) => r7entry_any (ta := some ⟨tb, 0, none⟩) (tn := 3) (tc := 3) (ha := ha) (hn := hn) (hc := hc) (ka := ka) (kn := 3) (kc := kc) (HP.out.ext hx).offRw hm (fun k hk => by rw [(HP.out.ids k hk).2.1]; have := (HOK.out.len k).2; have := HN24.out; omega))
 have HTV := Lib.hid (HTB.out.ext HV.out)
 have hx := Ext.refl V
 clear hP HTB bd
 have HE1 := Lib.hid (fun (W : World) (hx : Ext V W) => HEN.out one HB1.out W hx)
 have HE2 := Lib.hid (fun (W : World) (hx : Ext V W) => HEN.out two HB2.out W hx)
 unfold EntV at HE1 HE2
 have HA3 : Hid (one % 3 < 3) := Lib.hid (Nat.mod_lt _ (by omega))
 have HB3' : Hid (two % 3 < 3) := Lib.hid (Nat.mod_lt _ (by omega))
 obtain ⟨A, hA⟩ : ∃ x, one % 3 = x := ⟨_, rfl⟩
 obtain ⟨B, hB⟩ : ∃ x, two % 3 = x := ⟨_, rfl⟩
 rw [hA] at HE1 HA3
 rw [hB] at HE2 HB3'
 have HNA : Hid ((nthR os A).n = (s.lg A).length) := Lib.hid (HP.out.ids A HA3.out).2.1
 have HNB : Hid ((nthR os B).n = (s.lg B).length) := Lib.hid (HP.out.ids B HB3'.out).2.1
 rw [HNA.out] at HE1
 rw [HNB.out] at HE2
 clear hA hB HNA HNB HEN
 by_cases z1 : (s.lg A).length = 0
 case pos =>
  simp only [if_pos z1] at HE1
  clear z1
  have c0 := B14.c 0 _ rfl
  have c1 := B14.c 1 _ rfl
  have c2 := B14.c 2 _ rfl
  have c3 := B14.c 3 _ rfl
  go_wp2_with (go_at_call 20; refine (HE1.out _ hx).mono ?_; rintro e9 w3 ⟨rfl, hx1⟩; refine hold ?_)
  refine held ?_
  clear c0 c1 c2 c3
  go_upto_region 6 with fail
  replace B14 := B14.ext hx1
  replace hx := hx.trans hx1
  clear hx1
  by_cases z2 : (s.lg B).length = 0
  case pos =>
   simp only [if_pos z2] at HE2
   clear z2
   have c0 := B14.c 0 _ rfl
   have c1 := B14.c 1 _ rfl
   have c2 := B14.c 2 _ rfl
   have c3 := B14.c 3 _ rfl
   go_wp2_with (go_at_call 20; refine (HE2.out _ hx).mono ?_; rintro e9 w4 ⟨rfl, hx1⟩; refine hold ?_)
   refine held ?_
   clear c0 c1 c2 c3
   replace hx := hx.trans hx1
   clear hx1
   go_wp2_with fail
   go_ret
   exact ⟨rfl, HV.out.trans hx⟩
  case neg =>
   simp only [if_neg z2] at HE2
   clear z2
   have c0 := B14.c 0 _ rfl
   have c1 := B14.c 1 _ rfl
   have c2 := B14.c 2 _ rfl
   have c3 := B14.c 3 _ rfl
   go_wp2_with (go_at_call 20; refine (HE2.out _ hx).mono ?_; rintro e9 w4 ⟨rfl, hx1⟩; refine hold ?_)
   refine held ?_
   clear c0 c1 c2 c3
   replace hx := hx.trans hx1
   clear hx1
   go_wp2_with fail
   go_ret
   exact ⟨rfl, HV.out.trans hx⟩
 simp only [if_neg z1] at HE1
 have HIA : Hid (one / 3 % (s.lg A).length < (s.lg A).length) := Lib.hid (Nat.mod_lt _ (by omega))
 clear z1
 obtain ⟨I, hI⟩ : ∃ x, one / 3 % (s.lg A).length = x := ⟨_, rfl⟩
 rw [hI] at HE1 HIA
 clear hI
 have c0 := B14.c 0 _ rfl
 have c1 := B14.c 1 _ rfl
 have c2 := B14.c 2 _ rfl
 have c3 := B14.c 3 _ rfl
 go_wp2_with (go_at_call 20; refine (HE1.out _ hx).mono ?_; rintro e9 w3 ⟨rfl, hx1⟩; refine hold ?_)
 refine held ?_
 clear c0 c1 c2 c3
 go_upto_region 6 with fail
 replace B14 := B14.ext hx1
 replace hx := hx.trans hx1
 clear hx1 HE1
 by_cases z2 : (s.lg B).length = 0
 case pos =>
  simp only [if_pos z2] at HE2
  clear z2
  have c0 := B14.c 0 _ rfl
  have c1 := B14.c 1 _ rfl
  have c2 := B14.c 2 _ rfl
  have c3 := B14.c 3 _ rfl
  go_wp2_with (go_at_call 20; refine (HE2.out _ hx).mono ?_; rintro e9 w4 ⟨rfl, hx1⟩; refine hold ?_)
  refine held ?_
  clear c0 c1 c2 c3
  replace hx := hx.trans hx1
  clear hx1
  go_wp2_with fail
  go_ret
  exact ⟨rfl, HV.out.trans hx⟩
 simp only [if_neg z2] at HE2
 have HIB : Hid (two / 3 % (s.lg B).length < (s.lg B).length) := Lib.hid (Nat.mod_lt _ (by omega))
 clear z2
 obtain ⟨K, hK⟩ : ∃ x, two / 3 % (s.lg B).length = x := ⟨_, rfl⟩
 rw [hK] at HE2 HIB
 clear hK
 have c0 := B14.c 0 _ rfl
 have c1 := B14.c 1 _ rfl
 have c2 := B14.c 2 _ rfl
 have c3 := B14.c 3 _ rfl
 go_wp2_with (go_at_call 20; refine (HE2.out _ hx).mono ?_; rintro e9 w4 ⟨rfl, hx1⟩; refine hold ?_)
 refine held ?_
 clear c0 c1 c2 c3
 go_upto_region 7 with fail
 replace B14 := B14.ext hx1
 replace hx := hx.trans hx1
 clear hx1 HE2
 have HDI := Lib.hid (fun (W : World) (hx : Ext V W) => r7distinct_any ((HP.out.ext hx).hRw HOK.out HN24.out))
 have c2 := B14.c 2 _ rfl
 go_wp2_with (go_at_call 21; refine (HDI.out _ hx).mono ?_; rintro e9 w5 ⟨dist, rfl, hD, hx1⟩; refine hold ?_)
 refine held ?_
 clear c2 HDI
 replace B14 := B14.ext hx1
 replace hx := hx.trans hx1
 clear hx1
 cases dist
 case false =>
  clear hD
  go_wp2_with fail
  go_ret
  exact ⟨rfl, HV.out.trans hx⟩
 have HD := Lib.hid (hD rfl)
 clear hD
 go_upto_region 9 with fail
 have HSA := Lib.hid (HP.out.tsSl HOK.out HN24.out HA3.out)
 have HSB := Lib.hid (HP.out.tsSl HOK.out HN24.out HB3'.out)
 have hTA := (HP.out.ext hx).tim.cellsAt HA3.out
 have hTB := (HP.out.ext hx).tim.cellsAt HB3'.out
 have hlA := HP.out.tsLen HOK.out HA3.out
 have hlB := HP.out.tsLen HOK.out HB3'.out
 rw [sz_ts, Nat.mul_one] at hTA hTB
 obtain ⟨ta, htA⟩ : ∃ x, nthR ts A = x := ⟨_, rfl⟩
 obtain ⟨tb2, htB⟩ : ∃ x, nthR ts B = x := ⟨_, rfl⟩
 rw [htA] at HSA hTA hlA
 rw [htB] at HSB hTB hlB
 clear htA htB
 obtain ⟨xa, na, xc⟩ := ta
 obtain ⟨ya, nb, yc⟩ := tb2
 simp only at HSA HSB hlA hlB
 have tA : w5.cell? ⟨tb, A, none⟩ = some (.slice xa na xc) := hTA 0 _ rfl
 have tB : w5.cell? ⟨tb, B, none⟩ = some (.slice ya nb yc) := hTB 0 _ rfl
 clear hTA hTB
 have HIN : Hid (I < na ∧ K < nb) := Lib.hid ⟨by have := HIA.out; omega, by have := HIB.out; omega⟩
 clear hlA hlB
 have hin := HIN.out
 have q1 : ¬ ((na : Int) ≤ (I : Int)) := by omega
 have q2 : ¬ ((nb : Int) ≤ (K : Int)) := by omega
 have q3 : decide ((na : Int) ≤ (I : Int)) = false := decide_eq_false q1
 have q4 : decide ((nb : Int) ≤ (K : Int)) = false := decide_eq_false q2
 have q5 : ¬ (na ≤ I) := by omega
 have q6 : ¬ (nb ≤ K) := by omega
 have a3 := HA3.out
 have b3 := HB3'.out
 have c1 := B14.c 1 _ rfl
 go_upto_region 11 with fail
 clear q1 q2 q3 q4 q5 q6 a3 b3 hin c1
 have HTT : Hid (∀ W, Ext w5 W → W.cell? ⟨tb, A, none⟩ = some (.slice xa na xc) ∧ W.cell? ⟨tb, B, none⟩ = some (.slice ya nb yc)) := Lib.hid (fun W h => ⟨h.cell tA, h.cell tB⟩)
 clear tA tB
 have HX5 := Lib.hid hx
 have HB14 := Lib.hid B14
 go_wp2_with fail
 have HRW := Lib.hid ((HP.out.ext HX5.out).hRw HOK.out HN24.out)
 have HH12 : Hid (hn ≤ 12) := Lib.hid (by have := HOK.out.hlen.1; have := HRW.out.hlen; omega)
 go_loopw [22, 23, 24] (fun cx dx jx wr => ∃ (j : Nat) (ca : Option Addr) (cn cc : Nat) (cs : List Hd) (da : Option Addr) (dn dc : Nat) (ds : List Hd), j ≤ hn ∧ jx = .int .i64 j ∧ cx = .slice ca cn cc ∧ dx = .slice da dn dc ∧ CdIn w5.heap.size wr s.hs j j ca cn cc cs da dn dc ds ∧ Hid (Ext w5 wr)) (fun _ _ jx _ => hn - (intOf jx).toNat)
 case atStart => exact ⟨0, none, 0, 0, [], none, 0, 0, [], by omega, rfl, rfl, rfl, CdIn.nil _ _ _, Lib.hid (Ext.refl w5)⟩
 case round =>
  clear hx
  obtain ⟨j, ca, cn, cc, cs, da, dn, dc, ds, hj, rfl, rfl, rfl, hCD, HX⟩ := hrel
  have B9 := HB14.out.ext HX.out
  have c2 := B9.c 2 _ rfl
  by_cases hlt : j < hn
  ·obtain ⟨x1, o1, hxa, hc1⟩ := HRW.out.at (by omega)
   have HXA := Lib.hid hxa
   rw [hxa] at c2
   have HCE : Hid (∀ W, Ext w5 W → W.rangeAt x1 (o1 + j * 5) (Cel.enc (nthR s.hs j))) := Lib.hid (fun W hW => rangeAt_ext (hc1 j hlt) hW)
   have HME : Hid (nthR s.hs j ∈ s.hs) := Lib.hid (by have hl := HRW.out.hlen; rw [nthR_get (by omega)]; exact List.getElem_mem _)
   obtain ⟨h, hh⟩ : ∃ h, nthR s.hs j = h := ⟨_, rfl⟩
   rw [hh] at HCE HME
   clear hh hc1 hxa
   have HLT := Lib.hid hlt
   have hj12 := HH12.out
   have hcl := hCD.cl
   have hdl := hCD.dl
   go_upto_region 15 with fail
   go_upto_if 109 with fail
   clear c2 B9
   obtain ⟨D1, hD1⟩ : ∃ D, (bits BinOp.and IntKind.u16 ((heads : Int) / 2 ^ j) 1 == 1) = D := ⟨_, rfl⟩
   rw [hD1]
   clear hD1
   go_cut [22] (fun sx wx => ∃ ca cn cc cs, sx = .slice ca cn cc ∧ CdIn w5.heap.size wx s.hs (j + 1) j ca cn cc cs da dn dc ds ∧ Hid (Ext w5 wx))
   case first =>
    cases D1
    ·go_wp2_with fail
     go_meet
     exact ⟨ca, cn, cc, cs, rfl, hCD.mono (by omega) (Nat.le_refl _), HX⟩
    ·have B9 := HB14.out.ext HX.out
     have c2 := B9.c 2 _ rfl
     rw [HXA.out] at c2
     obtain ⟨d0, d1, d2, d3, d4⟩ := cells_hd (HCE.out wr HX.out)
     have hxo : Ext wr (wr.alloc (.cells #[.int .i64 h.o, .int .i64 h.s, .int .u64 h.r, .int .i64 h.C, .int .i64 h.S] RH)) := (Ext.refl wr).alloc _
     have hC2 := hCD.ext hxo
     have hbs : w5.heap.size ≤ (wr.alloc (.cells #[.int .i64 h.o, .int .i64 h.s, .int .u64 h.r, .int .i64 h.C, .int .i64 h.S] RH)).heap.size := Nat.le_trans HX.out.sz hxo.sz
     have hNH := (Bk.new wr RH #[.int .i64 h.o, .int .i64 h.s, .int .u64 h.r, .int .i64 h.C, .int .i64 h.S]).row (cs := [.int .i64 h.o, .int .i64 h.s, .int .u64 h.r, .int .i64 h.C, .int .i64 h.S])
     have hlt := HLT.out
     go_wp2_with (at_builtin; refine appC el_hd rfl _ _ rfl _ w5.heap.size _ _ _ _ rfl hC2.c.2 wr.heap.size 0 1 1 [.int .i64 h.o, .int .i64 h.s, .int .u64 h.r, .int .i64 h.C, .int .i64 h.S] rfl rfl hNH (by intro v hv; simp only [List.mem_cons, List.not_mem_nil, or_false] at hv; rcases hv with rfl | rfl | rfl | rfl | rfl <;> rfl) (by omega) hbs (by unfold maxLen; omega) (by omega) ?_; intro g5 c5 w6 h5 hB5 hG5 hn5; refine hold ?_)
     have ho5 : OwR RH w5.heap.size w6 (some ⟨g5, 0, none⟩) (cn + 1) c5 (cs ++ [h]) := ⟨by rw [List.length_append, hC2.c.1]; rfl, by rw [List.flatMap_append]; exact h5⟩
     have hC6 := hC2.addC HME.out hG5 ho5 hn5
     have hX6 : Ext w5 w6 := Below.trans (HX.out.trans hxo) hB5
     clear c2 d0 d1 d2 d3 d4 hxo hC2 hbs hNH h5 hB5 hG5 hn5 ho5 B9
     refine held ?_
     go_wp2_with fail
     go_meet
     exact ⟨_, _, _, _, rfl, hC6, Lib.hid hX6⟩
   case rest =>
    obtain ⟨ca, cn, cc, cs, rfl, hCD, HX⟩ := hcut
    have hcl := hCD.cl
    have hdl := hCD.dl
    go_upto_if 122 with fail
    obtain ⟨D1, hD1⟩ : ∃ D, (bits BinOp.and IntKind.u16 ((others : Int) / 2 ^ j) 1 == 1) = D := ⟨_, rfl⟩
    rw [hD1]
    clear hD1
    cases D1
    ·have hlt := HLT.out
     go_wp2_with fail
     exact ⟨⟨j + 1, ca, cn, cc, cs, da, dn, dc, ds, by omega, by go_num, rfl, rfl, hCD.mono (Nat.le_refl _) (by omega), HX⟩, by simp only [intOf]; omega⟩
    ·have B9 := HB14.out.ext HX.out
     have c2 := B9.c 2 _ rfl
     rw [HXA.out] at c2
     obtain ⟨d0, d1, d2, d3, d4⟩ := cells_hd (HCE.out wc HX.out)
     have hxo : Ext wc (wc.alloc (.cells #[.int .i64 h.o, .int .i64 h.s, .int .u64 h.r, .int .i64 h.C, .int .i64 h.S] RH)) := (Ext.refl wc).alloc _
     have hC2 := hCD.ext hxo
     have hbs : w5.heap.size ≤ (wc.alloc (.cells #[.int .i64 h.o, .int .i64 h.s, .int .u64 h.r, .int .i64 h.C, .int .i64 h.S] RH)).heap.size := Nat.le_trans HX.out.sz hxo.sz
     have hNH := (Bk.new wc RH #[.int .i64 h.o, .int .i64 h.s, .int .u64 h.r, .int .i64 h.C, .int .i64 h.S]).row (cs := [.int .i64 h.o, .int .i64 h.s, .int .u64 h.r, .int .i64 h.C, .int .i64 h.S])
     have hlt := HLT.out
     go_wp2_with (at_builtin; refine appC el_hd rfl _ _ rfl _ w5.heap.size _ _ _ _ rfl hC2.d.2 wc.heap.size 0 1 1 [.int .i64 h.o, .int .i64 h.s, .int .u64 h.r, .int .i64 h.C, .int .i64 h.S] rfl rfl hNH (by intro v hv; simp only [List.mem_cons, List.not_mem_nil, or_false] at hv; rcases hv with rfl | rfl | rfl | rfl | rfl <;> rfl) (by omega) hbs (by unfold maxLen; omega) (by omega) ?_; intro g5 c5 w6 h5 hB5 hG5 hn5; refine hold ?_)
     have ho5 : OwR RH w5.heap.size w6 (some ⟨g5, 0, none⟩) (dn + 1) c5 (ds ++ [h]) := ⟨by rw [List.length_append, hC2.d.1]; rfl, by rw [List.flatMap_append]; exact h5⟩
     have hC6 := hC2.addD HME.out hG5 ho5 hn5
     have hX6 : Ext w5 w6 := Below.trans (HX.out.trans hxo) hB5
     clear c2 d0 d1 d2 d3 d4 hxo hC2 hbs hNH h5 hB5 hG5 hn5 ho5 B9
     refine held ?_
     go_wp2_with fail
     exact ⟨⟨j + 1, ca, cn, cc, cs, _, _, _, _, by omega, by go_num, rfl, rfl, hC6, Lib.hid hX6⟩, by simp only [intOf]; omega⟩
  ·obtain rfl : j = hn := by omega
   have B9 := HB14.out.ext HX.out
   have c2 := B9.c 2 _ rfl
   go_upto_region 19 with fail
   clear c2 B9
   have hrc := hCD.c.rw (by have := hCD.cl; have := HH12.out; omega) (fun x hx => (HOK.out.logOk HN24.out (hCD.cm x hx)).sg.ok)
   have hrd := hCD.d.rw (by have := hCD.dl; have := HH12.out; omega) (fun x hx => (HOK.out.logOk HN24.out (hCD.dm x hx)).sg.ok)
   have HCM := Lib.hid hCD.cm
   have HDM := Lib.hid hCD.dm
   have HC12 : Hid (cn ≤ 12 ∧ dn ≤ 12) := Lib.hid ⟨by have := hCD.cl; have := HH12.out; omega, by have := hCD.dl; have := HH12.out; omega⟩
   clear hCD
   have HFC := Lib.hid (fun (W : World) (hx : Ext wr W) => find_any ((HP.out.ext HX5.out).ext (HX.out.trans hx)) HOK.out HN24.out (hrc.ext hx) HC12.out.1 HCM.out HA3.out HIA.out HB3'.out HIB.out (HTV.out.ext (HX5.out.trans (HX.out.trans hx))))
   have HFD := Lib.hid (fun (W : World) (hx : Ext wr W) => find_any ((HP.out.ext HX5.out).ext (HX.out.trans hx)) HOK.out HN24.out (hrd.ext hx) HC12.out.2 HDM.out HB3'.out HIB.out HA3.out HIA.out (HTV.out.ext (HX5.out.trans (HX.out.trans hx))))
   unfold FdX at HFC HFD
   clear hrc hrd HC12
   have HY := Lib.hid (Ext.refl wr)
   have B9 := HB14.out.ext (HX.out.trans HY.out)
   have c0 := B9.c 0 _ rfl
   have a3 := HA3.out
   have b3 := HB3'.out
   go_wp2_with (go_at_call 12; refine (HFC.out _ HY.out).mono ?_; rintro e9 w8 ⟨CL1, r1, rfl, hF1, hx1⟩; refine hold ?_)
   refine held ?_
   clear c0 B9 a3 b3 HFC
   replace HY := Lib.hid (HY.out.trans hx1)
   clear hx1
   have HFL1 : Hid (CL1.length = 22 ∧ ∀ v ∈ CL1, v.oneCell' = true) := Lib.hid ⟨hF1.len, hF1.one⟩
   have Gz := Bk.new w8 47 #[.int .i64 0, .int .i64 0, .int .u64 0, .int .i64 0, .int .i64 0, .int .i64 0, .int .u64 0, .int .i64 0, .int .i64 0, .slice none 0 0, .slice none 0 0, .slice none 0 0, .int .i64 0, .int .i64 0, .int .u64 0, .int .i64 0, .int .i64 0, .int .i64 0, .int .u64 0, .int .i64 0, .int .i64 0, .slice none 0 0]
   have hx1 : Ext w8 (w8.alloc (.cells #[.int .i64 0, .int .i64 0, .int .u64 0, .int .i64 0, .int .i64 0, .int .i64 0, .int .u64 0, .int .i64 0, .int .i64 0, .slice none 0 0, .slice none 0 0, .slice none 0 0, .int .i64 0, .int .i64 0, .int .u64 0, .int .i64 0, .int .i64 0, .int .i64 0, .int .u64 0, .int .i64 0, .int .i64 0, .slice none 0 0] 47)) := (Ext.refl _).alloc _
   go_wp2_with (refine storeBk rfl 47 _ _ rfl w8.heap.size CL1 Gz (by rw [HFL1.out.1]; rfl) rfl rfl (by rw [HFL1.out.1]; kernel_rfl) HFL1.out.2 ?_; refine hold ?_)
   have G1 := Gz.allCells CL1 (by rw [HFL1.out.1]; rfl)
   replace hx1 := Ext.cells (b := w8.heap.size) (Nat.le_refl _) CL1 0 hx1
   clear Gz
   replace HY := Lib.hid (HY.out.trans hx1)
   replace hF1 := hF1.ext hx1
   clear hx1
   generalize (w8.alloc (.cells #[.int .i64 0, .int .i64 0, .int .u64 0, .int .i64 0, .int .i64 0, .int .i64 0, .int .u64 0, .int .i64 0, .int .i64 0, .slice none 0 0, .slice none 0 0, .slice none 0 0, .int .i64 0, .int .i64 0, .int .u64 0, .int .i64 0, .int .i64 0, .int .i64 0, .int .u64 0, .int .i64 0, .int .i64 0, .slice none 0 0] 47)).setCells w8.heap.size 0 CL1 = U1 at *
   obtain ⟨b25, hb25⟩ : ∃ b, w8.heap.size = b := ⟨_, rfl⟩
   rw [hb25] at G1 ⊢
   clear hb25
   refine held ?_
   go_upto_region 20 with fail
   have B9 := HB14.out.ext (HX.out.trans HY.out)
   have c0 := B9.c 0 _ rfl
   have a3 := HA3.out
   have b3 := HB3'.out
   go_wp2_with (go_at_call 12; refine (HFD.out _ HY.out).mono ?_; rintro e9 w9 ⟨CL2, r2, rfl, hF2, hx1⟩; refine hold ?_)
   refine held ?_
   clear c0 B9 a3 b3 HFD
   replace HY := Lib.hid (HY.out.trans hx1)
   replace G1 := G1.ext hx1
   replace hF1 := hF1.ext hx1
   clear hx1
   have HFL2 : Hid (CL2.length = 22 ∧ ∀ v ∈ CL2, v.oneCell' = true) := Lib.hid ⟨hF2.len, hF2.one⟩
   have Gz := Bk.new w9 47 #[.int .i64 0, .int .i64 0, .int .u64 0, .int .i64 0, .int .i64 0, .int .i64 0, .int .u64 0, .int .i64 0, .int .i64 0, .slice none 0 0, .slice none 0 0, .slice none 0 0, .int .i64 0, .int .i64 0, .int .u64 0, .int .i64 0, .int .i64 0, .int .i64 0, .int .u64 0, .int .i64 0, .int .i64 0, .slice none 0 0]
   have hx1 : Ext w9 (w9.alloc (.cells #[.int .i64 0, .int .i64 0, .int .u64 0, .int .i64 0, .int .i64 0, .int .i64 0, .int .u64 0, .int .i64 0, .int .i64 0, .slice none 0 0, .slice none 0 0, .slice none 0 0, .int .i64 0, .int .i64 0, .int .u64 0, .int .i64 0, .int .i64 0, .int .i64 0, .int .u64 0, .int .i64 0, .int .i64 0, .slice none 0 0] 47)) := (Ext.refl _).alloc _
   go_wp2_with (refine storeBk rfl 47 _ _ rfl w9.heap.size CL2 Gz (by rw [HFL2.out.1]; rfl) rfl rfl (by rw [HFL2.out.1]; kernel_rfl) HFL2.out.2 ?_; refine hold ?_)
   have G2 := Gz.allCells CL2 (by rw [HFL2.out.1]; rfl)
   replace hx1 := Ext.cells (b := w9.heap.size) (Nat.le_refl _) CL2 0 hx1
   clear Gz
   replace HY := Lib.hid (HY.out.trans hx1)
   replace G1 := G1.ext hx1
   replace hF1 := hF1.ext hx1
   replace hF2 := hF2.ext hx1
   clear hx1
   generalize (w9.alloc (.cells #[.int .i64 0, .int .i64 0, .int .u64 0, .int .i64 0, .int .i64 0, .int .i64 0, .int .u64 0, .int .i64 0, .int .i64 0, .slice none 0 0, .slice none 0 0, .slice none 0 0, .int .i64 0, .int .i64 0, .int .u64 0, .int .i64 0, .int .i64 0, .int .i64 0, .int .u64 0, .int .i64 0, .int .i64 0, .slice none 0 0] 47)).setCells w9.heap.size 0 CL2 = U2 at *
   obtain ⟨b28, hb25⟩ : ∃ b, w9.heap.size = b := ⟨_, rfl⟩
   rw [hb25] at G2 ⊢
   clear hb25
   refine held ?_
   go_upto_region 21 with fail
   have HFX1 : Hid (r1 = true → ∃ lo hi, CL1[7]? = some (.int .i64 lo) ∧ CL1[20]? = some (.int .i64 hi) ∧ lo ≤ hi ∧ nth (s.tm A) I < nth (s.tm B) K) := Lib.hid (fun e => by subst e; exact hF1.fact HOK.out HD.out HCM.out HA3.out HIA.out HB3'.out HIB.out)
   have HFX2 : Hid (r2 = true → ∃ lo hi, CL2[7]? = some (.int .i64 lo) ∧ CL2[20]? = some (.int .i64 hi) ∧ lo ≤ hi ∧ nth (s.tm B) K < nth (s.tm A) I) := Lib.hid (fun e => by subst e; exact hF2.fact HOK.out HD.out HDM.out HB3'.out HIB.out HA3.out HIA.out)
   have HNO : Hid (r1 = true → r2 = false) := Lib.hid (fun e => by
    cases hr : r2 with
    | false => rfl
    | true =>
     obtain ⟨_, _, _, _, _, h1⟩ := HFX1.out e
     obtain ⟨_, _, _, _, _, h2⟩ := HFX2.out hr
     omega)
   cases r1
   case false =>
    cases r2
    case false =>
     go_wp2_with fail
     go_ret
     exact ⟨rfl, HV.out.trans (HX5.out.trans (HX.out.trans HY.out))⟩
    case true =>
     clear hF1 G1 HFX1 HFL1 HNO
     obtain ⟨lo, hi, hc7, hc20, hlh, htt⟩ := HFX2.out rfl
     have HLH := Lib.hid hlh
     have HTT' := Lib.hid htt
     clear hlh htt HFX2
     go_upto_region 27 with fail
     have B9 := HB14.out.ext (HX.out.trans HY.out)
     have c3 := B9.c 3 _ rfl
     have hK := (HP.out.ext (HX5.out.trans (HX.out.trans HY.out))).keys
     have HCK := Lib.hid (hF2.check HOK.out HN24.out HDM.out hK (HTV.out.ext (HX5.out.trans (HX.out.trans HY.out))))
     go_wp2_with (refine loadBk rfl 47 _ rfl b28 rfl CL2 G2 _ Tryz.underlying47 rfl (by rw [HFL2.out.1]; kernel_rfl) ?_; refine hold ?_)
     refine held ?_
     go_wp2_with (go_at_call 14; refine HCK.out.mono ?_; rintro e9 w10 ⟨rfl, hx1⟩; refine hold ?_)
     refine held ?_
     clear c3 B9 hK HCK hF2
     replace HY := Lib.hid (HY.out.trans hx1)
     replace G2 := G2.ext hx1
     clear hx1
     go_upto_region 28 with fail
     have B9 := HB14.out.ext (HX.out.trans HY.out)
     have c1 := B9.c 1 _ rfl
     have g7 := G2.c 7 _ (by simpa using hc7)
     have g20 := G2.c 20 _ (by simpa using hc20)
     obtain ⟨tA, tB⟩ := HTT.out _ (HX.out.trans HY.out)
     obtain ⟨ab, ao, hxa, hca⟩ := (HSA.out.ext (HX5.out.trans (HX.out.trans HY.out))).at (by have := HIN.out; omega)
     obtain ⟨bb, bo, hxb, hcb⟩ := (HSB.out.ext (HX5.out.trans (HX.out.trans HY.out))).at (by have := HIN.out; omega)
     have ta := hca I (by have := HIN.out; omega)
     have tb' := hcb K (by have := HIN.out; omega)
     rw [hxa] at tA
     rw [hxb] at tB
     have hlh := HLH.out
     have htt := HTT'.out
     have a3 := HA3.out
     have b3 := HB3'.out
     obtain ⟨hin1, hin2⟩ := HIN.out
     generalize nth (s.tm A) I = TA at *
     generalize nth (s.tm B) K = TB' at *
     have hg := @grow_cell
     have hl0 := B9.lt
     have hl1 := G2.lt
     have hl2 := lt_of_cell tA
     have hl3 := lt_of_cell ta
     have hl4 := lt_of_cell tb'
     simp only at hl2 hl3 hl4
     clear hca hcb hxa hxb hc7 hc20
     refine region_tail 40 (by kernel_rfl) (by kernel_rfl) ?_
     simp only [List.take_succ_cons, List.take_zero, List.drop_succ_cons, List.drop_zero]
     repeat (go_big_quiet_step (fail))
     refine wpQuiet_nil ?_
     intro W9 hE9
     have HFN := Lib.hid (HV.out.trans (HX5.out.trans (HX.out.trans (HY.out.trans hE9))))
     clear c1 g7 g20 tA tB ta tb' hg hl0 hl1 hl2 hl3 hl4 hE9 B9 G2
     go_wp2_with fail
     go_ret
     exact ⟨rfl, HFN.out⟩
   case true =>
    have hr2 := HNO.out rfl
    subst hr2
    clear hF2 G2 HFX2 HFL2 HNO
    obtain ⟨lo, hi, hc7, hc20, hlh, htt⟩ := HFX1.out rfl
    have HLH := Lib.hid hlh
    have HTT' := Lib.hid htt
    clear hlh htt HFX1
    go_upto_region 24 with fail
    have B9 := HB14.out.ext (HX.out.trans HY.out)
    have c3 := B9.c 3 _ rfl
    have hK := (HP.out.ext (HX5.out.trans (HX.out.trans HY.out))).keys
    have HCK := Lib.hid (hF1.check HOK.out HN24.out HCM.out hK (HTV.out.ext (HX5.out.trans (HX.out.trans HY.out))))
    go_wp2_with (refine loadBk rfl 47 _ rfl b25 rfl CL1 G1 _ Tryz.underlying47 rfl (by rw [HFL1.out.1]; kernel_rfl) ?_; refine hold ?_)
    refine held ?_
    go_wp2_with (go_at_call 14; refine HCK.out.mono ?_; rintro e9 w10 ⟨rfl, hx1⟩; refine hold ?_)
    refine held ?_
    clear c3 B9 hK HCK hF1
    replace HY := Lib.hid (HY.out.trans hx1)
    replace G1 := G1.ext hx1
    clear hx1
    go_upto_region 25 with fail
    have B9 := HB14.out.ext (HX.out.trans HY.out)
    have c1 := B9.c 1 _ rfl
    have g7 := G1.c 7 _ (by simpa using hc7)
    have g20 := G1.c 20 _ (by simpa using hc20)
    obtain ⟨tA, tB⟩ := HTT.out _ (HX.out.trans HY.out)
    obtain ⟨ab, ao, hxa, hca⟩ := (HSA.out.ext (HX5.out.trans (HX.out.trans HY.out))).at (by have := HIN.out; omega)
    obtain ⟨bb, bo, hxb, hcb⟩ := (HSB.out.ext (HX5.out.trans (HX.out.trans HY.out))).at (by have := HIN.out; omega)
    have ta := hca I (by have := HIN.out; omega)
    have tb' := hcb K (by have := HIN.out; omega)
    rw [hxa] at tA
    rw [hxb] at tB
    have hlh := HLH.out
    have htt := HTT'.out
    have a3 := HA3.out
    have b3 := HB3'.out
    obtain ⟨hin1, hin2⟩ := HIN.out
    generalize nth (s.tm A) I = TA at *
    generalize nth (s.tm B) K = TB' at *
    have hg := @grow_cell
    have hl0 := B9.lt
    have hl1 := G1.lt
    have hl2 := lt_of_cell tA
    have hl3 := lt_of_cell ta
    have hl4 := lt_of_cell tb'
    simp only at hl2 hl3 hl4
    clear hca hcb hxa hxb hc7 hc20
    refine region_tail 40 (by kernel_rfl) (by kernel_rfl) ?_
    simp only [List.take_succ_cons, List.take_zero, List.drop_succ_cons, List.drop_zero]
    repeat (go_big_quiet_step (fail))
    refine wpQuiet_nil ?_
    intro W9 hE9
    have HFN := Lib.hid (HV.out.trans (HX5.out.trans (HX.out.trans (HY.out.trans hE9))))
    clear c1 g7 g20 tA tB ta tb' hg hl0 hl1 hl2 hl3 hl4 hE9 B9 G1
    go_wp2_with fail
    go_ret
    exact ⟨rfl, HFN.out⟩
open Go.RowKit Go.Sort Go.Shelf Go.Maps
def RNw (B : Nat) (T : TypeId) (C : Array Value) : RelL Ext := ⟨none, fun _ v W => ∃ b, v = .pointer (some ⟨b, 0, none⟩) ∧ B ≤ b ∧ Bk W b T C, fun _ _ _ _ ⟨b, h1, h2, h3⟩ hE => ⟨b, h1, h2, h3.ext hE⟩⟩
def RAt (j B : Nat) (T : TypeId) (C : Array Value) : RelL Ext := ⟨some j, fun u _ W => ∃ b, u = .pointer (some ⟨b, 0, none⟩) ∧ B ≤ b ∧ Bk W b T C, fun _ _ _ _ ⟨b, h1, h2, h3⟩ hE => ⟨b, h1, h2, h3.ext hE⟩⟩
def ROa (B : Nat) (id : Int) (n : Nat) (es : List En) : RelL Ext := ⟨none, fun _ v W => ∃ a c, v = .tuple #[.agg #[.int .i64 id, .slice a n c], .int .i64 0] ∧ OwR RE B W a n c es, fun _ _ _ _ ⟨a, c, h1, h2⟩ hE => ⟨a, c, h1, h2.ext hE⟩⟩
def ROb (B : Nat) (id : Int) (n : Nat) (es : List En) : RelL Ext := ⟨none, fun _ v W => ∃ a c, v = .agg #[.int .i64 id, .slice a n c] ∧ OwR RE B W a n c es, fun _ _ _ _ ⟨a, c, h1, h2⟩ hE => ⟨a, c, h1, h2.ext hE⟩⟩
def RAo (j B : Nat) (id : Int) (n : Nat) (es : List En) : RelL Ext := ⟨some j, fun u _ W => ∃ b a c, u = .pointer (some ⟨b, 0, none⟩) ∧ B ≤ b ∧ Bk W b RO #[.int .i64 id, .slice a n c] ∧ OwR RE B W a n c es, fun _ _ _ _ ⟨b, a, c, h1, h2, h3, h4⟩ hE => ⟨b, a, c, h1, h2, h3.ext hE, h4.ext hE⟩⟩
theorem rao_store {B b : Nat} {id : Int} {n : Nat} {es : List En} {W : World} {a : Option Addr} {c : Nat} (hge : B ≤ b) (hb : Bk W b RO #[.int .i64 0, .slice none 0 0]) (ho : OwR RE B W a n c es) :
  ∃ b' a' c', (Value.pointer (some ⟨b, 0, none⟩)) = .pointer (some ⟨b', 0, none⟩) ∧ B ≤ b' ∧ Bk ((W.setCell ⟨b, 0, none⟩ (.int .i64 id)).setCell ⟨b, 1, none⟩ (.slice a n c)) b' RO #[.int .i64 id, .slice a' n c'] ∧ OwR RE B ((W.setCell ⟨b, 0, none⟩ (.int .i64 id)).setCell ⟨b, 1, none⟩ (.slice a n c)) a' n c' es :=
 ⟨b, a, c, rfl, hge, hb.set2 _ _, (ho.setTag hb.tag (by decide) 0 _).setTag ((hb.set 0 _).tag) (by decide) 1 _⟩
theorem own_free {α : Type} [Cel α] {E : TypeId} {base : Nat} {W : World} {g n c : Nat} {xs : List α} (h : OwR E base W (some ⟨g, 0, none⟩) n c xs) (i : Nat) : W.frozen? ⟨g, i, none⟩ = false := by
 obtain ⟨_, _, h2⟩ := h
 rcases h2 with ⟨e, _⟩ | ⟨g', cap, cur, hv, _, hh, _⟩
 ·cases e
 ·simp only [Value.slice.injEq, Option.some.injEq, Addr.mk.injEq, and_true, true_and] at hv
  obtain ⟨rfl, _⟩ := hv
  exact free_of_block hh i
theorem own_or {k : IntKind} {T : TypeId} {base : Nat} {W : World} {a : Option Addr} {n c g : Nat} {xs : List Int} (ho : OwI k T base W a n c xs) (h : (Value.slice a n c).ownBlock = some g ∨ g = W.heap.size) : a = some ⟨g, 0, none⟩ ∨ W.heap.size ≤ g := by
 rcases h with h | h
 ·rcases ho.head0I with ⟨e, _⟩ | ⟨q, e⟩
  ·subst e; cases h
  ·subst e
   have h9 : q = g := Option.some.inj h
   rw [h9]; exact .inl rfl
 ·exact .inr (by omega)
theorem roa_keep {B b : Nat} {id x : Int} {n m c' : Nat} {es : List En} {W : World} {a' : Option Addr} {v : Value} (hb : Bk W b RO #[.int .i64 0, .slice none 0 0]) (h : ∃ a c, v = .tuple #[.agg #[.int .i64 id, .slice a n c], .int .i64 0] ∧ OwR RE B W a n c es) :
  ∃ a c, v = .tuple #[.agg #[.int .i64 id, .slice a n c], .int .i64 0] ∧ OwR RE B ((W.setCell ⟨b, 0, none⟩ (.int .i64 x)).setCell ⟨b, 1, none⟩ (.slice a' m c')) a n c es := by
 obtain ⟨p, q, h1, h2⟩ := h
 exact ⟨p, q, h1, (h2.setTag hb.tag (by decide) 0 _).setTag ((hb.set 0 _).tag) (by decide) 1 _⟩
def GrT (U W : World) (tb : Nat) (x : TsR) (tm : List Int) (T : Int) (g c : Nat) : Prop :=
 ∃ W0, Ext U W0 ∧ W0.grownBy W (Value.slice x.a x.n x.c).ownBlock ∧ OwI .i64 RI tb W (some ⟨g, 0, none⟩) (x.n + 1) c (tm ++ [T]) ∧ (x.a = some ⟨g, 0, none⟩ ∨ W0.heap.size ≤ g) ∧ Below tb W0 W
structure R30 (U : World) (tb b6 ob oc b16 k : Nat) (C6 : Array Value) (ov : OfR) (os : List OfR) (ts : List TsR) (tm : List Int) (T : Int) (listed : Nat → Bool) (vs : List Value) (W : World) : Prop where
 sz : tb ≤ W.heap.size
 p6 : Bk W b6 RPs C6
 p16 : listed 16 = false → Bk W b16 RO #[.int .i64 ov.id, .slice ov.a ov.n ov.c]
 row : listed 16 = false → OwR RO tb W (some ⟨ob, 0, none⟩) 3 oc os
 tim : listed 18 = false → OwR RIS tb W (some ⟨tb, 0, none⟩) 3 3 ts
 q0 : listed 14 = false → Ext U W
 q1 : listed 14 = true → listed 16 = false → ∃ g c, vs.getD 14 undef = .slice (some ⟨g, 0, none⟩) ((nthR ts k).n + 1) c ∧ GrT U W tb (nthR ts k) tm T g c
 q2 : listed 16 = true → listed 18 = false → ∃ g c W1, vs.getD 14 undef = .slice (some ⟨g, 0, none⟩) ((nthR ts k).n + 1) c ∧ GrT U W1 tb (nthR ts k) tm T g c ∧ W = W1.setCells ob (k * 2) [.int .i64 ov.id, .slice ov.a ov.n ov.c]
 q3 : listed 18 = true → ∃ g c W1, GrT U W1 tb (nthR ts k) tm T g c ∧ W = (W1.setCells ob (k * 2) [.int .i64 ov.id, .slice ov.a ov.n ov.c]).setCells tb k [.slice (some ⟨g, 0, none⟩) ((nthR ts k).n + 1) c]
section
variable {U : World} {tb b6 ob oc b16 k : Nat} {C6 : Array Value} {ov : OfR} {os : List OfR} {ts : List TsR} {tm : List Int} {T : Int} {listed : Nat → Bool} {vs : List Value} {W W' : World}
theorem getD_setNe {vs : List Value} {j k : Nat} {v : Value} (h : j ≠ k) : (vs.set j v).getD k undef = vs.getD k undef := by
 simp [List.getD_eq_getElem?_getD, List.getElem?_set_ne h]
theorem R30.same (h : R30 U tb b6 ob oc b16 k C6 ov os ts tm T listed vs W) {j : Nat} (h14 : j ≠ 14) (h16 : j ≠ 16) (h18 : j ≠ 18) (v : Value) : R30 U tb b6 ob oc b16 k C6 ov os ts tm T (updE listed j) (vs.set j v) W := by
 have e14 : updE listed j 14 = listed 14 := by simp [updE, h14.symm]
 have e16 : updE listed j 16 = listed 16 := by simp [updE, h16.symm]
 have e18 : updE listed j 18 = listed 18 := by simp [updE, h18.symm]
 have eg : (vs.set j v).getD 14 undef = vs.getD 14 undef := getD_setNe h14
 refine ⟨h.sz, h.p6, ?_, ?_, ?_, ?_, ?_, ?_, ?_⟩
 ·rw [e16]; exact h.p16
 ·rw [e16]; exact h.row
 ·rw [e18]; exact h.tim
 ·rw [e14]; exact h.q0
 ·rw [e14, e16, eg]; exact h.q1
 ·rw [e16, e18, eg]; exact h.q2
 ·rw [e18]; exact h.q3
theorem R30.lay (h : R30 U tb b6 ob oc b16 k C6 ov os ts tm T listed vs W) (n14 : listed 14 = false) (n16 : listed 16 = false) (n18 : listed 18 = false) (hx : Ext W W') (v : Value) : R30 U tb b6 ob oc b16 k C6 ov os ts tm T (updE listed 13) (vs.set 13 v) W' := by
 have e14 : updE listed 13 14 = listed 14 := by simp [updE]
 have e16 : updE listed 13 16 = listed 16 := by simp [updE]
 have e18 : updE listed 13 18 = listed 18 := by simp [updE]
 refine ⟨Nat.le_trans h.sz hx.sz, h.p6.ext hx, ?_, ?_, ?_, ?_, ?_, ?_, ?_⟩
 ·rw [e16]; exact fun e => (h.p16 e).ext hx
 ·rw [e16]; exact fun e => (h.row e).ext hx
 ·rw [e18]; exact fun e => (h.tim e).ext hx
 ·rw [e14]; exact fun e => (h.q0 e).trans hx
 ·rw [e14, n14]; exact fun e => by cases e
 ·rw [e16, n16]; exact fun e => by cases e
 ·rw [e18, n18]; exact fun e => by cases e
theorem R30.grow (h : R30 U tb b6 ob oc b16 k C6 ov os ts tm T listed vs W) (hl : vs.length = 19) (n14 : listed 14 = false) (n16 : listed 16 = false) (n18 : listed 18 = false) (ho : OwI .i64 RI tb W (nthR ts k).a (nthR ts k).n (nthR ts k).c tm) {g c : Nat}
  (hown : OwI .i64 RI tb W' (some ⟨g, 0, none⟩) ((nthR ts k).n + 1) c (tm ++ [T])) (hB : Below tb W W') (hG : W.grownBy W' (Value.slice (nthR ts k).a (nthR ts k).n (nthR ts k).c).ownBlock) (hn : (nthR ts k).a = some ⟨g, 0, none⟩ ∨ W.heap.size ≤ g) :
  R30 U tb b6 ob oc b16 k C6 ov os ts tm T (updE listed 14) (vs.set 14 (.slice (some ⟨g, 0, none⟩) ((nthR ts k).n + 1) c)) W' := by
 have hc := own_casesI ho hG
 refine ⟨Nat.le_trans h.sz hG.size, h.p6.growOwn hc (by decide), fun _ => (h.p16 n16).growOwn hc (by decide), fun _ => (h.row n16).growOwn hc (by decide), fun _ => (h.tim n18).growOwn hc (by decide), fun e => by simp [updE] at e, fun _ _ => ⟨g, c, ?_, W, h.q0 n14, hG, hown, hn, hB⟩, fun e => by simp [updE, n16] at e, fun e => by simp [updE, n18] at e⟩
 simp [List.getD_eq_getElem?_getD, hl]
theorem R30.put (h : R30 U tb b6 ob oc b16 k C6 ov os ts tm T listed vs W) (i14 : listed 14 = true) (n16 : listed 16 = false) (n18 : listed 18 = false) (v : Value) :
  R30 U tb b6 ob oc b16 k C6 ov os ts tm T (updE listed 16) (vs.set 16 v) (W.setCells ob (k * 2) [.int .i64 ov.id, .slice ov.a ov.n ov.c]) := by
 obtain ⟨g, c, e1, h1⟩ := h.q1 i14 n16
 have ht := (h.row n16).tag
 refine ⟨by rw [size_setCells]; exact h.sz, h.p6.cellsTag ht (by decide) _ _, fun e => by simp [updE] at e, fun e => by simp [updE] at e, fun _ => (h.tim n18).cellsTag ht (by decide) _ _, fun e => by simp [updE, i14] at e, fun _ e => by simp [updE] at e, fun _ _ => ⟨g, c, W, ?_, h1, rfl⟩, fun e => by simp [updE, n18] at e⟩
 rw [getD_setNe (by decide)]; exact e1
theorem R30.fin (h : R30 U tb b6 ob oc b16 k C6 ov os ts tm T listed vs W) (i14 : listed 14 = true) (i16 : listed 16 = true) (n18 : listed 18 = false) (v : Value) :
  ∃ g c, vs.getD 14 undef = .slice (some ⟨g, 0, none⟩) ((nthR ts k).n + 1) c ∧ R30 U tb b6 ob oc b16 k C6 ov os ts tm T (updE listed 18) (vs.set 18 v) (W.setCells tb k [.slice (some ⟨g, 0, none⟩) ((nthR ts k).n + 1) c]) := by
 obtain ⟨g, c, W1, e1, h1, e2⟩ := h.q2 i16 n18
 have ht := (h.tim n18).tag
 refine ⟨g, c, e1, by rw [size_setCells]; exact h.sz, h.p6.cellsTag ht (by decide) _ _, fun e => by simp [updE, i16] at e, fun e => by simp [updE, i16] at e, fun e => by simp [updE] at e, fun e => by simp [updE, i14] at e, fun _ e => by simp [updE, i16] at e, fun _ e => by simp [updE] at e, fun _ => ⟨g, c, W1, h1, ?_⟩⟩
 rw [e2]
end
theorem set4_block {W : World} {b g : Nat} (hne : g ≠ b) (v0 v1 v2 v3 : Value) : ((((W.setCell ⟨b, 0, none⟩ v0).setCell ⟨b, 1, none⟩ v1).setCell ⟨b, 2, none⟩ v2).setCell ⟨b, 3, none⟩ v3).heap[g]? = W.heap[g]? := by
 rw [heap_setCell_other _ ⟨b, 3, none⟩ g v3 hne, heap_setCell_other _ ⟨b, 2, none⟩ g v2 hne, heap_setCell_other _ ⟨b, 1, none⟩ g v1 hne, heap_setCell_other _ ⟨b, 0, none⟩ g v0 hne]
theorem R30.done {U V : World} {tb b6 ob oc b16 k : Nat} {key : Nat} {s : Ps} {ha : Option Addr} {hn hc : Nat} {ka : Option Addr} {kc : Nat} {C6 : Array Value} {a' : Option Addr} {c' : Nat} {os : List OfR} {ts : List TsR} {e : En} {T : Int} {listed : Nat → Bool} {vs : List Value} {W : World}
  (h : R30 U tb b6 ob oc b16 k C6 ⟨(k : Int) + 1, a', (s.lg k).length + 1, c'⟩ os ts (s.tm k) T listed vs W) (i18 : listed 18 = true) (hP : PRep tb U b6 key s (some ⟨ob, 0, none⟩) oc (some ⟨tb, 0, none⟩) 3 ha hn hc ka kc os ts) (hk : k < 3)
  (hlog : OwR RE tb U a' ((s.lg k).length + 1) c' (s.lg k ++ [e])) (hV : Ext V U) (hvt : V.heap.size = tb) :
  ∃ oc' os' ts', PRep tb W b6 key ⟨T, updN s.lg k (s.lg k ++ [e]), updN s.tm k (s.tm k ++ [T]), s.hs, s.st⟩ (some ⟨ob, 0, none⟩) oc' (some ⟨tb, 0, none⟩) 3 ha hn hc ka kc os' ts' ∧ Ext V W := by
 obtain ⟨g, c, W1, ⟨W0, hx, hG, hown, hnew, hB⟩, e2⟩ := h.q3 i18
 have hob : tb ≤ ob := by
  rcases hP.off.headAt with ⟨e9, _⟩ | ⟨q, e9, hq, _⟩
  ·cases e9
  ·simp only [Option.some.injEq, Addr.mk.injEq, and_true] at e9; omega
 have h1 := (hP.ext hx).log hk rfl rfl (hlog.ext hx) hG hown (fun g9 e9 => by
  simp only [Option.some.injEq, Addr.mk.injEq, and_true] at e9
  subst e9
  exact hnew)
 refine ⟨_, _, _, e2 ▸ h1, ?_⟩
 rw [e2]
 have h2 : Ext V W1 := Below.trans (hV.trans hx) (hB.mono (by omega))
 exact Ext.cells (by omega) _ _ (Ext.cells (by omega) _ _ h2)
end Go.Proofs.YtacicanjmleikaaGreatDoor
