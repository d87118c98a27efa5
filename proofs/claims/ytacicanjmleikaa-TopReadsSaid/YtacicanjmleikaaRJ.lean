/-
  The law TopReads, walked. Written by wip/gen_rj.py.
-/
import Derived.Test.YtacicanjmleikaaRN
namespace Go.Proofs.Ytacicanjmleikaa
open Go.RowKit Go.Sort Go.Shelf
set_option linter.unusedSimpArgs false
set_option linter.unusedVariables false
set_option maxRecDepth 100000

theorem lenlit24 {vs : List Value} (h : vs.length = 24) : ∃ x0 x1 x2 x3 x4 x5 x6 x7 x8 x9 x10 x11 x12 x13 x14 x15 x16 x17 x18 x19 x20 x21 x22 x23 : Value, vs = [x0, x1, x2, x3, x4, x5, x6, x7, x8, x9, x10, x11, x12, x13, x14, x15, x16, x17, x18, x19, x20, x21, x22, x23] := by
  obtain ⟨x0, v0, rfl, h0⟩ := len_cons h
  obtain ⟨x1, v1, rfl, h1⟩ := len_cons h0
  obtain ⟨x2, v2, rfl, h2⟩ := len_cons h1
  obtain ⟨x3, v3, rfl, h3⟩ := len_cons h2
  obtain ⟨x4, v4, rfl, h4⟩ := len_cons h3
  obtain ⟨x5, v5, rfl, h5⟩ := len_cons h4
  obtain ⟨x6, v6, rfl, h6⟩ := len_cons h5
  obtain ⟨x7, v7, rfl, h7⟩ := len_cons h6
  obtain ⟨x8, v8, rfl, h8⟩ := len_cons h7
  obtain ⟨x9, v9, rfl, h9⟩ := len_cons h8
  obtain ⟨x10, v10, rfl, h10⟩ := len_cons h9
  obtain ⟨x11, v11, rfl, h11⟩ := len_cons h10
  obtain ⟨x12, v12, rfl, h12⟩ := len_cons h11
  obtain ⟨x13, v13, rfl, h13⟩ := len_cons h12
  obtain ⟨x14, v14, rfl, h14⟩ := len_cons h13
  obtain ⟨x15, v15, rfl, h15⟩ := len_cons h14
  obtain ⟨x16, v16, rfl, h16⟩ := len_cons h15
  obtain ⟨x17, v17, rfl, h17⟩ := len_cons h16
  obtain ⟨x18, v18, rfl, h18⟩ := len_cons h17
  obtain ⟨x19, v19, rfl, h19⟩ := len_cons h18
  obtain ⟨x20, v20, rfl, h20⟩ := len_cons h19
  obtain ⟨x21, v21, rfl, h21⟩ := len_cons h20
  obtain ⟨x22, v22, rfl, h22⟩ := len_cons h21
  obtain ⟨x23, v23, rfl, h23⟩ := len_cons h22
  obtain rfl := len_nil h23
  exact ⟨x0, x1, x2, x3, x4, x5, x6, x7, x8, x9, x10, x11, x12, x13, x14, x15, x16, x17, x18, x19, x20, x21, x22, x23, rfl⟩

def LoIs (now left lo : Int) : Prop := loA now left = lo
def Yes (w : World) : Ending → World → Prop := fun e w' => e = .returned (.bool true) ∧ Ext w w'
/-- A transaction that is stamped after a read that does not wait does not matter to it. -/
theorem later_ts {l : Ld} {ts now left af ri : Int} (hr : rdE l ts (loA now left) = true) (hn : 0 ≤ now ∧ now ≤ 1000000000000) (hl : 0 ≤ left) (ha : 0 ≤ af ∧ af ≤ 4294967295) (hi : 0 ≤ ri) (ht : ts ≤ 3000000000000000) (hv : l.last + 1 ≤ 3000000000000001) :
    (∀ t ∈ l.op, ts < t.ts) ∧ ts < max (l.last + 1) (hiA (now + af) ri) := by
  simp only [rdE, Bool.and_eq_true, decide_eq_true_iff, Bool.not_eq_true', Bool.and_eq_false_iff, decide_eq_false_iff_not] at hr
  refine ⟨fun t ht => by have := pastN_zero hr.1 t ht; omega, ?_⟩
  unfold loA at hr
  unfold hiA
  omega

theorem rdp_v {l : Ld} {ts lo : Int} {v1 v2 : Value} {w w' : World} {e : Ending} (h : (rdE l ts lo = true ∧ e = .returned v1 ∧ Ext w w') ∨ (rdE l ts lo = false ∧ e = .returned v2 ∧ Ext w w')) : ∃ v, e = .returned v ∧ ((rdE l ts lo = true ∧ v = v1 ∧ Ext w w') ∨ (rdE l ts lo = false ∧ v = v2 ∧ Ext w w')) := by
  rcases h with ⟨h1, h2, h3⟩ | ⟨h1, h2, h3⟩
  · exact ⟨_, h2, .inl ⟨h1, rfl, h3⟩⟩
  · exact ⟨_, h2, .inr ⟨h1, rfl, h3⟩⟩
set_option maxHeartbeats 64000000 in
theorem topreads_any (a : Option Addr) (n c : Nat) (ds : List Dd) (q : DdR) (dq : Dd) (key ts left right hor : Int) (w : World) (h : Dds w a n c ds) (hq : DdL w q dq) (hqo : q.Ok)
    (hle : 0 ≤ left ∧ left ≤ 65535) (hri : 0 ≤ right ∧ right ≤ 65535) (hho : 0 ≤ hor ∧ hor ≤ 4294967295) :
    Calls Try.prog 3 #[.slice a n c, .agg #[.int .i64 q.t.id, .int .i64 q.t.ts, .slice q.t.ra q.t.rn q.t.rc, .slice q.t.wa q.t.wn q.t.wc, .int .u32 q.after, .int .u16 q.left, .int .u16 q.right, .bool q.look], .int .i64 key, .int .i64 ts, .int .u16 left, .int .u16 right, .int .u32 hor] w (Yes w) := by
  have bd := h.bd
  have HDS := Lib.hid h
  have HLD := Lib.hid h.hlen
  have HQT := Lib.hid (fun (W : World) (hx : Ext w W) => hq.t.ext hx)
  have HQO := Lib.hid hqo.t
  have haf := hqo.after
  have hql := hqo.left
  have hqr := hqo.right
  have bq1 := hq.t.rd.bd
  have bq2 := hq.t.wr.bd
  clear h hq hqo
  obtain ⟨⟨qid, qts, qra, qrn, qrc, qwa, qwn, qwc⟩, qaf, qle, qri, qlo⟩ := q
  simp only at HQT HQO haf hql hqr bq1 bq2
  have HS14 := Lib.hid (fun W => store14_any W)
  have hB := Bk.new w 30 #[.int .i64 qid, .int .i64 qts, .slice qra qrn qrc, .slice qwa qwn qwc, .int .u32 qaf, .int .u16 qle, .int .u16 qri, .bool qlo]
  have hE : Ext w (w.alloc (.cells #[.int .i64 qid, .int .i64 qts, .slice qra qrn qrc, .slice qwa qwn qwc, .int .u32 qaf, .int .u16 qle, .int .u16 qri, .bool qlo] 30)) := (Ext.refl w).alloc _
  go_enter Try.func3, Try.ntmps3
  go_upto_region 1 with fail
  generalize w.alloc (.cells #[.int .i64 qid, .int .i64 qts, .slice qra qrn qrc, .slice qwa qwn qwc, .int .u32 qaf, .int .u16 qle, .int .u16 qri, .bool qlo] 30) = V at *
  obtain ⟨tb, htb⟩ : ∃ tb, w.heap.size = tb := ⟨_, rfl⟩
  rw [htb] at hB ⊢
  clear htb
  go_wp2_with (go_at_call 4; refine (HS14.out _).mono ?_; rintro e V1 ⟨rfl, hx⟩; refine hold ?_)
  refine held ?_
  replace hB := hB.ext hx
  replace hE := hE.trans hx
  clear hx HS14
  have q2 := hB.c 2 _ rfl
  have q3 := hB.c 3 _ rfl
  have hky := fun W => r33key_any key W
  have hsp := fun W => r33stamp_any ts W
  have key2 : ∀ {P : Prop}, P → P := fun h => h
  by_cases hn12 : n ≤ 12
  · have n1 : ¬ ((12 : Int) < (n : Int)) := by omega
    have n2 : decide ((12 : Int) < (n : Int)) = false := decide_eq_false n1
    have n3 : ¬ (12 < n) := by omega
    cases hk9 : inT key 1 1000 with
    | false =>
      rw [hk9] at hky
      have HKY := Lib.hid hky
      clear hky hk9 hsp
      go_wp2_with (go_at_call 5; refine (HKY.out _).mono ?_; rintro _ _ ⟨rfl, rfl⟩)
      go_ret
      exact ⟨rfl, hE⟩
    | true =>
      rw [hk9] at hky
      have HKY := Lib.hid hky
      have HK9 := Lib.hid hk9
      clear hky hk9
      cases hs9 : inT ts 1 3000000000000000 with
      | false =>
        rw [hs9] at hsp
        have HSP := Lib.hid hsp
        clear hsp hs9
        go_wp2_with ((first | (go_at_call 5; refine (HKY.out _).mono ?_) | (go_at_call 6; refine (HSP.out _).mono ?_)); rintro _ _ ⟨rfl, rfl⟩)
        go_ret
        exact ⟨rfl, hE⟩
      | true =>
        rw [hs9] at hsp
        have HSP := Lib.hid hsp
        have HS9 := Lib.hid hs9
        clear hsp hs9
        by_cases hr20 : qrn ≤ 20
        · have r1 : ¬ ((20 : Int) < (qrn : Int)) := by omega
          have r2 : decide ((20 : Int) < (qrn : Int)) = false := decide_eq_false r1
          have r3 : ¬ (20 < qrn) := by omega
          by_cases hw20 : qwn ≤ 20
          · have u1 : ¬ ((20 : Int) < (qwn : Int)) := by omega
            have u2 : decide ((20 : Int) < (qwn : Int)) = false := decide_eq_false u1
            have u3 : ¬ (20 < qwn) := by omega
            go_wp2_with ((first | (go_at_call 5; refine (HKY.out _).mono ?_) | (go_at_call 6; refine (HSP.out _).mono ?_)); rintro _ _ ⟨rfl, rfl⟩)
            go_loopw [73] (fun i wr => ∃ (k : Nat), k ≤ n ∧ i = .int .i64 k ∧ Hid (∀ i, i < k → (nthD ds i).t.rd.length ≤ 20 ∧ (nthD ds i).t.wr.length ≤ 20) ∧ Ext V1 wr) (fun i _ => n - (intOf i).toNat)
            case atStart => exact ⟨0, by omega, rfl, Lib.hid (fun i hi => by omega), Ext.refl _⟩
            case round =>
              obtain ⟨k, hk, rfl, HV, hx1⟩ := hrel
              by_cases hlt : k < n
              · obtain ⟨x1, o1, rfl, hc1⟩ := HDS.out.at (by omega)
                obtain ⟨q, hr0, hdl, hok⟩ := hc1 k hlt
                have hr := rangeAt_ext hr0 (hE.trans hx1)
                have HRL := Lib.hid hdl.t.rd.hlen
                have HWL := Lib.hid hdl.t.wr.hlen
                have bd1 := hdl.t.rd.bd
                have bd2 := hdl.t.wr.bd
                clear hr0 hc1 hdl hok
                obtain ⟨⟨id, ts9, ra, rn, rc, wa, wn, wc⟩, after, left9, right9, look⟩ := q
                obtain ⟨d0, d1, d2, d3, d4, d5, d6, d7⟩ := cells_dr hr
                simp only at d0 d1 d2 d3 d4 d5 d6 d7 HRL HWL bd1 bd2
                clear hr
                have hD := Bk.new wr 30 #[.int .i64 id, .int .i64 ts9, .slice ra rn rc, .slice wa wn wc, .int .u32 after, .int .u16 left9, .int .u16 right9, .bool look]
                have hx : Ext wr (wr.alloc (.cells #[.int .i64 id, .int .i64 ts9, .slice ra rn rc, .slice wa wn wc, .int .u32 after, .int .u16 left9, .int .u16 right9, .bool look] 30)) := (Ext.refl wr).alloc _
                go_upto_region 7 with fail
                clear d0 d1 d2 d3 d4 d5 d6 d7
                replace hx1 := hx1.trans hx
                clear hx
                generalize wr.alloc (.cells #[.int .i64 id, .int .i64 ts9, .slice ra rn rc, .slice wa wn wc, .int .u32 after, .int .u16 left9, .int .u16 right9, .bool look] 30) = V2 at *
                have y2 := hD.c 2 _ rfl
                have y3 := hD.c 3 _ rfl
                by_cases hr8 : rn ≤ 20
                · have r1 : ¬ ((20 : Int) < (rn : Int)) := by omega
                  have r2 : decide ((20 : Int) < (rn : Int)) = false := decide_eq_false r1
                  have r3 : ¬ (20 < rn) := by omega
                  by_cases hw8 : wn ≤ 20
                  · have u1 : ¬ ((20 : Int) < (wn : Int)) := by omega
                    have u2 : decide ((20 : Int) < (wn : Int)) = false := decide_eq_false u1
                    have u3 : ¬ (20 < wn) := by omega
                    go_wp2_with fail
                    refine ⟨⟨k + 1, by omega, by go_num, Lib.hid (fun i hi => ?_), hx1⟩, by simp only [intOf]; omega⟩
                    rcases Nat.lt_or_ge i k with h2 | h2
                    · exact HV.out i h2
                    · obtain rfl : i = k := by omega
                      rw [HRL.out, HWL.out]
                      exact ⟨hr8, hw8⟩
                  · have u1 : (20 : Int) < (wn : Int) := by omega
                    have u2 : decide ((20 : Int) < (wn : Int)) = true := decide_eq_true u1
                    go_wp2_with fail
                    go_ret
                    exact ⟨rfl, hE.trans hx1⟩
                · have r1 : (20 : Int) < (rn : Int) := by omega
                  have r2 : decide ((20 : Int) < (rn : Int)) = true := decide_eq_true r1
                  go_wp2_with fail
                  go_ret
                  exact ⟨rfl, hE.trans hx1⟩
              · obtain rfl : n = k := by omega
                have HBD : Hid (∀ d ∈ ds, d.t.rd.length ≤ 1000000 ∧ d.t.wr.length ≤ 1000000) := Lib.hid (fun d hd => by
                  obtain ⟨i, hi, rfl⟩ := List.mem_iff_getElem.1 hd
                  have := HV.out i (by rw [← HLD.out]; exact hi)
                  rw [nthD_get hi] at this
                  omega)
                clear HV
                replace hB := hB.ext hx1
                replace hE := hE.trans hx1
                clear hx1 q2 q3
                have HRUN := Lib.hid (crun_any a n c ds wr (HDS.out.ext hE) hn12 HBD.out)
                clear HBD HDS HLD
                go_upto_region 10 with fail
                go_wp2_with (go_at_call 7; refine HRUN.out.mono ?_; rintro e V3 ⟨r0, l0, d, da, dn, dc, now, rfl, hL0, hO, hCI0, hn0, hn1, hdn, hx⟩; refine hold ?_)
                refine held ?_
                have HCI0 := Lib.hid hCI0
                have HNW : Hid (0 ≤ now ∧ now ≤ 60000000000) := Lib.hid (by omega)
                have HDN := Lib.hid hdn
                clear HRUN hCI0 hn0 hn1 hdn
                replace hB := hB.ext hx
                replace hE := hE.trans hx
                clear hx
                obtain ⟨last0, sa0, sn0, sc0, oa0, on0, oc0⟩ := r0
                simp only
                have hC := Bk.new V3 38 #[.int .i64 last0, .slice sa0 sn0 sc0, .slice oa0 on0 oc0, .slice da dn dc, .int .i64 now, .bool true]
                have hx : Ext V3 (V3.alloc (.cells #[.int .i64 last0, .slice sa0 sn0 sc0, .slice oa0 on0 oc0, .slice da dn dc, .int .i64 now, .bool true] 38)) := (Ext.refl V3).alloc _
                go_upto_region 11 with fail
                replace hB := hB.ext hx
                replace hL0 := hL0.ext hx
                replace hO := hO.ext hx
                replace hE := hE.trans hx
                clear hx
                generalize V3.alloc (.cells #[.int .i64 last0, .slice sa0 sn0 sc0, .slice oa0 on0 oc0, .slice da dn dc, .int .i64 now, .bool true] 38) = V4 at *
                obtain ⟨cb, hcb⟩ : ∃ cb, V3.heap.size = cb := ⟨_, rfl⟩
                rw [hcb] at hC ⊢
                clear hcb
                have k4 := hC.c 4 _ rfl
                have HAR := Lib.hid (around_any now left right V4 (by have := HNW.out; omega) hle hri)
                have HIV := Lib.hid (around_ok (at_ := now) (l := left) (r := right) (by have := HNW.out; omega) hle hri)
                obtain ⟨lo, hlo⟩ : ∃ x, loA now left = x := ⟨_, rfl⟩
                obtain ⟨hi, hhi⟩ : ∃ x, hiA now right = x := ⟨_, rfl⟩
                rw [hlo, hhi] at HAR HIV
                have HLO : Hid (LoIs now left lo) := Lib.hid hlo
                clear hlo hhi
                go_wp2_with (go_at_call 8; refine HAR.out.mono ?_; rintro e V5 ⟨rfl, hx⟩; refine hold ?_)
                refine held ?_
                clear k4 HAR
                replace hB := hB.ext hx
                replace hC := hC.ext hx
                replace hL0 := hL0.ext hx
                replace hO := hO.ext hx
                replace hE := hE.trans hx
                clear hx
                have hI := Bk.new V5 41 #[.int .i64 lo, .int .i64 hi]
                have hx : Ext V5 (V5.alloc (.cells #[.int .i64 lo, .int .i64 hi] 41)) := (Ext.refl V5).alloc _
                go_upto_region 12 with fail
                replace hB := hB.ext hx
                replace hC := hC.ext hx
                replace hL0 := hL0.ext hx
                replace hO := hO.ext hx
                replace hE := hE.trans hx
                clear hx
                generalize V5.alloc (.cells #[.int .i64 lo, .int .i64 hi] 41) = V6 at *
                obtain ⟨ib, hib⟩ : ∃ ib, V5.heap.size = ib := ⟨_, rfl⟩
                rw [hib] at hI ⊢
                clear hib
                have k0 := hC.c 0 _ rfl
                have k1 := hC.c 1 _ rfl
                have k2 := hC.c 2 _ rfl
                have i0 := hI.c 0 _ rfl
                have i1 := hI.c 1 _ rfl
                have HSH := Lib.hid (cshow_any ⟨last0, sa0, sn0, sc0, oa0, on0, oc0⟩ l0 lo hi V6 hL0 HCI0.out.val HIV.out)
                unfold valL at HSH
                go_wp2_with (go_at_call 9; refine HSH.out.mono ?_; rintro e V7 ⟨r1, a7, c7, rfl, hL, hx⟩; refine hold ?_)
                refine held ?_
                clear k0 k1 k2 i0 i1 HSH hL0
                replace hB := hB.ext hx
                replace hC := hC.ext hx
                replace hI := hI.ext hx
                replace hO := hO.ext hx
                replace hE := hE.trans hx
                clear hx
                have HCI := Lib.hid (HCI0.out.show_ lo)
                generalize shownL l0 lo = l at *
                clear HCI0
                obtain ⟨last, sa, sn, sc, oa, on, oc⟩ := r1
                simp only
                have hS := Bk.new V7 36 #[.int .i64 last, .slice sa sn sc, .slice oa on oc]
                have HWS := Lib.hid hE.sz
                have hx : Ext V7 (V7.alloc (.cells #[.int .i64 last, .slice sa sn sc, .slice oa on oc] 36)) := (Ext.refl V7).alloc _
                go_upto_region 13 with fail
                replace hB := hB.ext hx
                replace hC := hC.ext hx
                replace hI := hI.ext hx
                replace hO := hO.ext hx
                replace hL := hL.ext hx
                replace hE := hE.trans hx
                clear hx
                generalize V7.alloc (.cells #[.int .i64 last, .slice sa sn sc, .slice oa on oc] 36) = V8 at *
                obtain ⟨sb, hsb⟩ : ∃ sb, V7.heap.size = sb := ⟨_, rfl⟩
                rw [hsb] at hS HWS ⊢
                clear hsb
                have k5 := hC.c 5 _ rfl
                have s0 := hS.c 0 _ rfl
                have s1 := hS.c 1 _ rfl
                have s2 := hS.c 2 _ rfl
                have i0 := hI.c 0 _ rfl
                have i1 := hI.c 1 _ rfl
                have HRD := Lib.hid (cread_any ⟨last, sa, sn, sc, oa, on, oc⟩ l key ts lo hi V8 hL HCI.out.val HIV.out HK9.out HS9.out)
                unfold valL at HRD
                go_wp2_with (go_at_call 10; refine HRD.out.mono ?_; intro e V9 hq0; obtain ⟨v9, rfl, hq⟩ := rdp_v hq0; refine hold ?_)
                refine held ?_
                clear k5 s0 s1 s2 i0 i1 HRD
                rcases hq with ⟨hrd, rfl, hx⟩ | ⟨hrd, rfl, hx⟩
                · unfold valV
                  have HLT := Lib.hid (later_ts (l := l) (ts := ts) (left := left) (now := now) (af := qaf) (ri := qri) (by rw [show loA now left = lo from HLO.out]; exact hrd) (by have := HNW.out; omega) hle.1 haf hqr.1 (inT_iff.1 HS9.out).2 (by have := HCI.out.val.last; omega))
                  have HPK := Lib.hid (HCI.out.read (k := key) HLT.out.1)
                  obtain ⟨vx, hvx⟩ : ∃ x, ansV (lastV l.st key ts) = x := ⟨_, rfl⟩
                  obtain ⟨b0, hb0⟩ : ∃ x, ansB (lastV l.st key ts) = x := ⟨_, rfl⟩
                  rw [hvx, hb0]
                  have HX0 := Lib.hid hvx
                  have HB0 := Lib.hid hb0
                  clear hvx hb0
                  replace hB := hB.ext hx
                  replace hC := hC.ext hx
                  replace hL := hL.ext hx
                  replace hS := hS.ext hx
                  replace hO := hO.ext hx
                  replace hE := hE.trans hx
                  clear hx
                  clear hrd
                  have HSY := Lib.hid hS.lt
                  have hY := Bk.new V9 47 #[.int .i64 vx.k, .int .i64 vx.t, .int .i64 vx.v, .bool vx.g]
                  have hx : Ext V9 (V9.alloc (.cells #[.int .i64 vx.k, .int .i64 vx.t, .int .i64 vx.v, .bool vx.g] 47)) := (Ext.refl V9).alloc _
                  go_upto_region 18 with fail
                  replace hB := hB.ext hx
                  replace hC := hC.ext hx
                  replace hL := hL.ext hx
                  replace hS := hS.ext hx
                  replace hO := hO.ext hx
                  replace hE := hE.trans hx
                  clear hx
                  generalize V9.alloc (.cells #[.int .i64 vx.k, .int .i64 vx.t, .int .i64 vx.v, .bool vx.g] 47) = V10 at *
                  obtain ⟨yb, hyb⟩ : ∃ yb, V9.heap.size = yb := ⟨_, rfl⟩
                  rw [hyb] at hY HSY ⊢
                  clear hyb
                  have HAR2 := Lib.hid (fun W => around_any (now + qaf) qle qri W (by have := HNW.out; omega) hql hqr)
                  have HIV2 := Lib.hid (around_ok (at_ := now + qaf) (l := qle) (r := qri) (by have := HNW.out; omega) hql hqr)
                  obtain ⟨lo2, hlo2⟩ : ∃ x, loA (now + qaf) qle = x := ⟨_, rfl⟩
                  obtain ⟨hi2, hhi2⟩ : ∃ x, hiA (now + qaf) qri = x := ⟨_, rfl⟩
                  rw [hlo2, hhi2] at HAR2 HIV2
                  rw [hhi2] at HLT
                  clear hlo2 hhi2
                  have HST2 := Lib.hid (fun (W : World) (hx : Ext V10 W) => cstamp_any ⟨last, sa, sn, sc, oa, on, oc⟩ l ⟨qid, qts, qra, qrn, qrc, qwa, qwn, qwc⟩ dq.t lo2 hi2 W (hL.ext hx) HCI.out.val (HQT.out W (hE.trans hx)) HIV2.out (show qrn ≤ 1000000 by omega) (show qwn ≤ 1000000 by omega))
                  unfold valL valT at HST2
                  have e1 : IntKind.i64.wrap qaf = qaf := by rw [IntKind.wrap_i64]; omega
                  have e2 : IntKind.i64.wrap (now + qaf) = now + qaf := by have := HNW.out; rw [IntKind.wrap_i64]; omega
                  have HII := I18.zero (Ext.refl V10).drew l dq.t qid hi2 qrn qwn
                  refine region_relyH (I18 V10 l dq.t qid hi2 qrn qwn) [some 130, some 131, some 132, some 133, some 134, some 135, some 136, some 137, some 138, some 139, some 140, some 141, some 142, some 143, some 144, some 129, some 145, some 146, some 147, some 26, some 27, none, none, some 28] [[], [], [1], [], [3], [], [5], [5, 6], [3, 4, 5, 6, 7], [], [9], [], [11], [3, 4, 5, 6, 7, 8, 9, 10, 11, 12], [0, 1, 2, 3, 4, 5, 6, 7, 8, 9, 10, 11, 12, 13], [0, 1, 2, 3, 4, 5, 6, 7, 8, 9, 10, 11, 12, 13, 14], [0, 1, 2, 3, 4, 5, 6, 7, 8, 9, 10, 11, 12, 13, 14, 15], [0, 1, 2, 3, 4, 5, 6, 7, 8, 9, 10, 11, 12, 13, 14, 15], [0, 1, 2, 3, 4, 5, 6, 7, 8, 9, 10, 11, 12, 13, 14, 15], [], [], [0, 1, 2, 3, 4, 5, 6, 7, 8, 9, 10, 11, 12, 13, 14, 15, 16, 19, 20], [0, 1, 2, 3, 4, 5, 6, 7, 8, 9, 10, 11, 12, 13, 14, 15, 16, 17, 19, 20, 21], [0, 1, 2, 3, 4, 5, 6, 7, 8, 9, 10, 11, 12, 13, 14, 15, 16, 17, 18, 19, 20, 21, 22]] [[], [], [1], [], [3], [], [5], [6], [4, 7], [], [9], [], [11], [8, 10, 12], [0, 2, 13], [14], [15], [15], [15], [], [], [16, 19], [17, 20], [18]] [none, none, none, none, none, none, none, none, none, none, none, none, none, none, none, none, none, none, none, none, none, none, none, none] [false, false, false, false, false, false, false, false, false, false, false, false, false, false, false, false, false, false, false, false, false, false, false, false] [[], [], [], [], [], [], [], [], [], [], [], [], [], [], [], [], [], [], [], [], [], [], [], []] [] [.one ((.agg #[.int .i64 last, .slice sa sn sc, .slice oa on oc])), .one ((.pointer (some ⟨tb, 0, none⟩))), .one ((.agg #[.int .i64 qid, .int .i64 qts, .slice qra qrn qrc, .slice qwa qwn qwc])), .one ((.pointer (some ⟨cb, 4, none⟩))), .one ((.int .i64 now)), .one ((.pointer (some ⟨tb, 4, none⟩))), .one ((.int .u32 qaf)), .one ((.int .i64 qaf)), .one ((.int .i64 (now + qaf))), .one ((.pointer (some ⟨tb, 5, none⟩))), .one ((.int .u16 qle)), .one ((.pointer (some ⟨tb, 6, none⟩))), .one ((.int .u16 qri)), .one ((.agg #[.int .i64 lo2, .int .i64 hi2])), .any, .any, .any, .any, .any, .any, .any, .any, .any, .any] (by kernel_rfl) (by kernel_rfl) (by kernel_rfl) rfl (HII _) ?_ ?_
                  · refine stepsH_cons ?_ ?_
                    · intro listed vs W' hl hI hd hs hn hu hz ho9
                      refine hold ?_
                      obtain ⟨x0, x1, x2, x3, x4, x5, x6, x7, x8, x9, x10, x11, x12, x13, x14, x15, x16, x17, x18, x19, x20, x21, x22, x23, rfl⟩ := lenlit24 hl; clear hl
                      refine held ?_
                      simp only [putAll, Act.put, List.setIfInBounds_toArray, List.set_cons_succ, List.set_cons_zero]
                      have s0 := (hS.ext hI.e).c 0 _ rfl
                      have s1 := (hS.ext hI.e).c 1 _ rfl
                      have s2 := (hS.ext hI.e).c 2 _ rfl
                      go_wp2_with fail
                      exact relyH_done _ rfl rfl (Ext.refl _) (hI.other (by decide) (by decide) (by decide) (by decide) (by decide) (by simp) (Ext.refl _) (fun h => absurd h (by decide)))
                    refine stepsH_cons ?_ ?_
                    · intro listed vs W' hl hI hd hs hn hu hz ho9
                      refine hold ?_
                      obtain ⟨x0, x1, x2, x3, x4, x5, x6, x7, x8, x9, x10, x11, x12, x13, x14, x15, x16, x17, x18, x19, x20, x21, x22, x23, rfl⟩ := lenlit24 hl; clear hl
                      refine held ?_
                      simp only [putAll, Act.put, List.setIfInBounds_toArray, List.set_cons_succ, List.set_cons_zero]
                      go_wp2_with fail
                      exact relyH_done _ rfl rfl (Ext.refl _) (hI.other (by decide) (by decide) (by decide) (by decide) (by decide) (by simp) (Ext.refl _) (fun h => absurd h (by decide)))
                    refine stepsH_cons ?_ ?_
                    · intro listed vs W' hl hI hd hs hn hu hz ho9
                      refine hold ?_
                      obtain ⟨x0, x1, x2, x3, x4, x5, x6, x7, x8, x9, x10, x11, x12, x13, x14, x15, x16, x17, x18, x19, x20, x21, x22, x23, rfl⟩ := lenlit24 hl; clear hl
                      simp only [factsL, atL, refV, List.getElem?_cons_succ, List.getElem?_cons_zero, List.getD_cons_succ, List.getD_cons_zero, RelL.one, RelL.any, RelL.blk, RelL.law] at hd
                      obtain ⟨rfl, -⟩ := hd
                      refine held ?_
                      simp only [putAll, Act.put, List.setIfInBounds_toArray, List.set_cons_succ, List.set_cons_zero]
                      have q0 := (hB.ext hI.e).c 0 _ rfl
                      have q1 := (hB.ext hI.e).c 1 _ rfl
                      have q2 := (hB.ext hI.e).c 2 _ rfl
                      have q3 := (hB.ext hI.e).c 3 _ rfl
                      go_wp2_with fail
                      exact relyH_done _ rfl rfl (Ext.refl _) (hI.other (by decide) (by decide) (by decide) (by decide) (by decide) (by simp) (Ext.refl _) (fun h => absurd h (by decide)))
                    refine stepsH_cons ?_ ?_
                    · intro listed vs W' hl hI hd hs hn hu hz ho9
                      refine hold ?_
                      obtain ⟨x0, x1, x2, x3, x4, x5, x6, x7, x8, x9, x10, x11, x12, x13, x14, x15, x16, x17, x18, x19, x20, x21, x22, x23, rfl⟩ := lenlit24 hl; clear hl
                      refine held ?_
                      simp only [putAll, Act.put, List.setIfInBounds_toArray, List.set_cons_succ, List.set_cons_zero]
                      go_wp2_with fail
                      exact relyH_done _ rfl rfl (Ext.refl _) (hI.other (by decide) (by decide) (by decide) (by decide) (by decide) (by simp) (Ext.refl _) (fun h => absurd h (by decide)))
                    refine stepsH_cons ?_ ?_
                    · intro listed vs W' hl hI hd hs hn hu hz ho9
                      refine hold ?_
                      obtain ⟨x0, x1, x2, x3, x4, x5, x6, x7, x8, x9, x10, x11, x12, x13, x14, x15, x16, x17, x18, x19, x20, x21, x22, x23, rfl⟩ := lenlit24 hl; clear hl
                      simp only [factsL, atL, refV, List.getElem?_cons_succ, List.getElem?_cons_zero, List.getD_cons_succ, List.getD_cons_zero, RelL.one, RelL.any, RelL.blk, RelL.law] at hd
                      obtain ⟨rfl, -⟩ := hd
                      refine held ?_
                      simp only [putAll, Act.put, List.setIfInBounds_toArray, List.set_cons_succ, List.set_cons_zero]
                      have k4 := (hC.ext hI.e).c 4 _ rfl
                      go_wp2_with fail
                      exact relyH_done _ rfl rfl (Ext.refl _) (hI.other (by decide) (by decide) (by decide) (by decide) (by decide) (by simp) (Ext.refl _) (fun h => absurd h (by decide)))
                    refine stepsH_cons ?_ ?_
                    · intro listed vs W' hl hI hd hs hn hu hz ho9
                      refine hold ?_
                      obtain ⟨x0, x1, x2, x3, x4, x5, x6, x7, x8, x9, x10, x11, x12, x13, x14, x15, x16, x17, x18, x19, x20, x21, x22, x23, rfl⟩ := lenlit24 hl; clear hl
                      refine held ?_
                      simp only [putAll, Act.put, List.setIfInBounds_toArray, List.set_cons_succ, List.set_cons_zero]
                      go_wp2_with fail
                      exact relyH_done _ rfl rfl (Ext.refl _) (hI.other (by decide) (by decide) (by decide) (by decide) (by decide) (by simp) (Ext.refl _) (fun h => absurd h (by decide)))
                    refine stepsH_cons ?_ ?_
                    · intro listed vs W' hl hI hd hs hn hu hz ho9
                      refine hold ?_
                      obtain ⟨x0, x1, x2, x3, x4, x5, x6, x7, x8, x9, x10, x11, x12, x13, x14, x15, x16, x17, x18, x19, x20, x21, x22, x23, rfl⟩ := lenlit24 hl; clear hl
                      simp only [factsL, atL, refV, List.getElem?_cons_succ, List.getElem?_cons_zero, List.getD_cons_succ, List.getD_cons_zero, RelL.one, RelL.any, RelL.blk, RelL.law] at hd
                      obtain ⟨rfl, -⟩ := hd
                      refine held ?_
                      simp only [putAll, Act.put, List.setIfInBounds_toArray, List.set_cons_succ, List.set_cons_zero]
                      have q4 := (hB.ext hI.e).c 4 _ rfl
                      go_wp2_with fail
                      exact relyH_done _ rfl rfl (Ext.refl _) (hI.other (by decide) (by decide) (by decide) (by decide) (by decide) (by simp) (Ext.refl _) (fun h => absurd h (by decide)))
                    refine stepsH_cons ?_ ?_
                    · intro listed vs W' hl hI hd hs hn hu hz ho9
                      refine hold ?_
                      obtain ⟨x0, x1, x2, x3, x4, x5, x6, x7, x8, x9, x10, x11, x12, x13, x14, x15, x16, x17, x18, x19, x20, x21, x22, x23, rfl⟩ := lenlit24 hl; clear hl
                      simp only [factsL, atL, refV, List.getElem?_cons_succ, List.getElem?_cons_zero, List.getD_cons_succ, List.getD_cons_zero, RelL.one, RelL.any, RelL.blk, RelL.law] at hd
                      obtain ⟨rfl, -⟩ := hd
                      refine held ?_
                      simp only [putAll, Act.put, List.setIfInBounds_toArray, List.set_cons_succ, List.set_cons_zero]
                      go_wp2_with fail
                      exact relyH_done _ rfl rfl (Ext.refl _) (hI.other (by decide) (by decide) (by decide) (by decide) (by decide) (by simp) (Ext.refl _) (fun h => absurd h (by decide)))
                    refine stepsH_cons ?_ ?_
                    · intro listed vs W' hl hI hd hs hn hu hz ho9
                      refine hold ?_
                      obtain ⟨x0, x1, x2, x3, x4, x5, x6, x7, x8, x9, x10, x11, x12, x13, x14, x15, x16, x17, x18, x19, x20, x21, x22, x23, rfl⟩ := lenlit24 hl; clear hl
                      simp only [factsL, atL, refV, List.getElem?_cons_succ, List.getElem?_cons_zero, List.getD_cons_succ, List.getD_cons_zero, RelL.one, RelL.any, RelL.blk, RelL.law] at hd
                      obtain ⟨rfl, rfl, -⟩ := hd
                      refine held ?_
                      simp only [putAll, Act.put, List.setIfInBounds_toArray, List.set_cons_succ, List.set_cons_zero]
                      go_wp2_with fail
                      exact relyH_done _ rfl rfl (Ext.refl _) (hI.other (by decide) (by decide) (by decide) (by decide) (by decide) (by simp) (Ext.refl _) (fun h => absurd h (by decide)))
                    refine stepsH_cons ?_ ?_
                    · intro listed vs W' hl hI hd hs hn hu hz ho9
                      refine hold ?_
                      obtain ⟨x0, x1, x2, x3, x4, x5, x6, x7, x8, x9, x10, x11, x12, x13, x14, x15, x16, x17, x18, x19, x20, x21, x22, x23, rfl⟩ := lenlit24 hl; clear hl
                      refine held ?_
                      simp only [putAll, Act.put, List.setIfInBounds_toArray, List.set_cons_succ, List.set_cons_zero]
                      go_wp2_with fail
                      exact relyH_done _ rfl rfl (Ext.refl _) (hI.other (by decide) (by decide) (by decide) (by decide) (by decide) (by simp) (Ext.refl _) (fun h => absurd h (by decide)))
                    refine stepsH_cons ?_ ?_
                    · intro listed vs W' hl hI hd hs hn hu hz ho9
                      refine hold ?_
                      obtain ⟨x0, x1, x2, x3, x4, x5, x6, x7, x8, x9, x10, x11, x12, x13, x14, x15, x16, x17, x18, x19, x20, x21, x22, x23, rfl⟩ := lenlit24 hl; clear hl
                      simp only [factsL, atL, refV, List.getElem?_cons_succ, List.getElem?_cons_zero, List.getD_cons_succ, List.getD_cons_zero, RelL.one, RelL.any, RelL.blk, RelL.law] at hd
                      obtain ⟨rfl, -⟩ := hd
                      refine held ?_
                      simp only [putAll, Act.put, List.setIfInBounds_toArray, List.set_cons_succ, List.set_cons_zero]
                      have q5 := (hB.ext hI.e).c 5 _ rfl
                      go_wp2_with fail
                      exact relyH_done _ rfl rfl (Ext.refl _) (hI.other (by decide) (by decide) (by decide) (by decide) (by decide) (by simp) (Ext.refl _) (fun h => absurd h (by decide)))
                    refine stepsH_cons ?_ ?_
                    · intro listed vs W' hl hI hd hs hn hu hz ho9
                      refine hold ?_
                      obtain ⟨x0, x1, x2, x3, x4, x5, x6, x7, x8, x9, x10, x11, x12, x13, x14, x15, x16, x17, x18, x19, x20, x21, x22, x23, rfl⟩ := lenlit24 hl; clear hl
                      refine held ?_
                      simp only [putAll, Act.put, List.setIfInBounds_toArray, List.set_cons_succ, List.set_cons_zero]
                      go_wp2_with fail
                      exact relyH_done _ rfl rfl (Ext.refl _) (hI.other (by decide) (by decide) (by decide) (by decide) (by decide) (by simp) (Ext.refl _) (fun h => absurd h (by decide)))
                    refine stepsH_cons ?_ ?_
                    · intro listed vs W' hl hI hd hs hn hu hz ho9
                      refine hold ?_
                      obtain ⟨x0, x1, x2, x3, x4, x5, x6, x7, x8, x9, x10, x11, x12, x13, x14, x15, x16, x17, x18, x19, x20, x21, x22, x23, rfl⟩ := lenlit24 hl; clear hl
                      simp only [factsL, atL, refV, List.getElem?_cons_succ, List.getElem?_cons_zero, List.getD_cons_succ, List.getD_cons_zero, RelL.one, RelL.any, RelL.blk, RelL.law] at hd
                      obtain ⟨rfl, -⟩ := hd
                      refine held ?_
                      simp only [putAll, Act.put, List.setIfInBounds_toArray, List.set_cons_succ, List.set_cons_zero]
                      have q6 := (hB.ext hI.e).c 6 _ rfl
                      go_wp2_with fail
                      exact relyH_done _ rfl rfl (Ext.refl _) (hI.other (by decide) (by decide) (by decide) (by decide) (by decide) (by simp) (Ext.refl _) (fun h => absurd h (by decide)))
                    refine stepsH_cons ?_ ?_
                    · intro listed vs W' hl hI hd hs hn hu hz ho9
                      refine hold ?_
                      obtain ⟨x0, x1, x2, x3, x4, x5, x6, x7, x8, x9, x10, x11, x12, x13, x14, x15, x16, x17, x18, x19, x20, x21, x22, x23, rfl⟩ := lenlit24 hl; clear hl
                      simp only [factsL, atL, refV, List.getElem?_cons_succ, List.getElem?_cons_zero, List.getD_cons_succ, List.getD_cons_zero, RelL.one, RelL.any, RelL.blk, RelL.law] at hd
                      obtain ⟨rfl, rfl, rfl, -⟩ := hd
                      refine held ?_
                      simp only [putAll, Act.put, List.setIfInBounds_toArray, List.set_cons_succ, List.set_cons_zero]
                      go_wp2_with (go_at_call 8; refine (HAR2.out _).mono ?_; rintro e V13 ⟨rfl, hx⟩; refine hold ?_)
                      refine held ?_
                      go_wp2_with fail
                      exact relyH_done _ rfl rfl hx (hI.other (by decide) (by decide) (by decide) (by decide) (by decide) (by simp) hx (fun h => absurd h (by decide)))
                    refine stepsH_cons ?_ ?_
                    · intro listed vs W' hl hI hd hs hn hu hz ho9
                      refine hold ?_
                      obtain ⟨x0, x1, x2, x3, x4, x5, x6, x7, x8, x9, x10, x11, x12, x13, x14, x15, x16, x17, x18, x19, x20, x21, x22, x23, rfl⟩ := lenlit24 hl; clear hl
                      simp only [factsL, atL, refV, List.getElem?_cons_succ, List.getElem?_cons_zero, List.getD_cons_succ, List.getD_cons_zero, RelL.one, RelL.any, RelL.blk, RelL.law] at hd
                      obtain ⟨rfl, rfl, rfl, -⟩ := hd
                      refine held ?_
                      simp only [putAll, Act.put, List.setIfInBounds_toArray, List.set_cons_succ, List.set_cons_zero]
                      go_wp2_with (go_at_call 11; refine (HST2.out _ hI.e).mono ?_; intro e V14 hsp; obtain ⟨r9, q9, E9, rfl, hg, hx⟩ := stp_gd hsp; refine hold ?_)
                      refine held ?_
                      go_wp2_with fail
                      exact relyH_done (v14 r9 q9 E9) rfl trivial hx (hI.call (by simp) hx hg (fun i hi => by rcases isPart_of hi with rfl | rfl | rfl | rfl | rfl <;> exact notL hu _ (by decide)) (notL hu 21 (by decide)) (notL hu 22 (by decide)))
                    refine stepsH_cons ?_ ?_
                    · intro listed vs W' hl hI hd hs hn hu hz ho9
                      refine hold ?_
                      obtain ⟨x0, x1, x2, x3, x4, x5, x6, x7, x8, x9, x10, x11, x12, x13, x14, x15, x16, x17, x18, x19, x20, x21, x22, x23, rfl⟩ := lenlit24 hl; clear hl
                      simp only [factsL, atL, refV, List.getElem?_cons_succ, List.getElem?_cons_zero, List.getD_cons_succ, List.getD_cons_zero, RelL.one, RelL.any, RelL.blk, RelL.law] at hd
                      obtain ⟨-, -⟩ := hd
                      refine held ?_
                      simp only [putAll, Act.put, List.setIfInBounds_toArray, List.set_cons_succ, List.set_cons_zero]
                      obtain ⟨S8, X8, r9, q9, E9, c9⟩ := hI.c (hs 14 (by decide))
                      have e14 : x14 = .tuple #[.agg #[.int .i64 r9.last, .slice r9.sa r9.sn r9.sc, .slice r9.oa r9.on r9.oc], .agg #[.int .i64 q9.id, .int .i64 q9.ts, .slice q9.ra q9.rn q9.rc, .slice q9.wa q9.wn q9.wc], .int .i64 E9] := c9.v
                      subst e14
                      go_wp2_with fail
                      exact relyH_done (v14 r9 q9 E9) rfl trivial (Ext.refl _) (hI.other (by decide) (by decide) (by decide) (by decide) (by decide) (by simp) (Ext.refl _) (fun _ r8 q8 E8 h14 _ => c9.v.symm.trans h14))
                    refine stepsH_cons ?_ ?_
                    · intro listed vs W' hl hI hd hs hn hu hz ho9
                      refine hold ?_
                      obtain ⟨x0, x1, x2, x3, x4, x5, x6, x7, x8, x9, x10, x11, x12, x13, x14, x15, x16, x17, x18, x19, x20, x21, x22, x23, rfl⟩ := lenlit24 hl; clear hl
                      simp only [factsL, atL, refV, List.getElem?_cons_succ, List.getElem?_cons_zero, List.getD_cons_succ, List.getD_cons_zero, RelL.one, RelL.any, RelL.blk, RelL.law] at hd
                      obtain ⟨-, -⟩ := hd
                      refine held ?_
                      simp only [putAll, Act.put, List.setIfInBounds_toArray, List.set_cons_succ, List.set_cons_zero]
                      obtain ⟨S8, X8, r9, q9, E9, c9⟩ := hI.c (hs 14 (by decide))
                      have e15 : x15 = .tuple #[.agg #[.int .i64 r9.last, .slice r9.sa r9.sn r9.sc, .slice r9.oa r9.on r9.oc], .agg #[.int .i64 q9.id, .int .i64 q9.ts, .slice q9.ra q9.rn q9.rc, .slice q9.wa q9.wn q9.wc], .int .i64 E9] := c9.p 15 rfl (hs 15 (by decide))
                      subst e15
                      go_wp2_with fail
                      exact relyH_done (.agg (cL r9)) rfl trivial (Ext.refl _) (hI.other (by decide) (by decide) (by decide) (by decide) (by decide) (by simp) (Ext.refl _) (fun _ r8 q8 E8 h14 _ => (v14_inj (c9.v.symm.trans h14)).1))
                    refine stepsH_cons ?_ ?_
                    · intro listed vs W' hl hI hd hs hn hu hz ho9
                      refine hold ?_
                      obtain ⟨x0, x1, x2, x3, x4, x5, x6, x7, x8, x9, x10, x11, x12, x13, x14, x15, x16, x17, x18, x19, x20, x21, x22, x23, rfl⟩ := lenlit24 hl; clear hl
                      simp only [factsL, atL, refV, List.getElem?_cons_succ, List.getElem?_cons_zero, List.getD_cons_succ, List.getD_cons_zero, RelL.one, RelL.any, RelL.blk, RelL.law] at hd
                      obtain ⟨-, -⟩ := hd
                      refine held ?_
                      simp only [putAll, Act.put, List.setIfInBounds_toArray, List.set_cons_succ, List.set_cons_zero]
                      obtain ⟨S8, X8, r9, q9, E9, c9⟩ := hI.c (hs 14 (by decide))
                      have e15 : x15 = .tuple #[.agg #[.int .i64 r9.last, .slice r9.sa r9.sn r9.sc, .slice r9.oa r9.on r9.oc], .agg #[.int .i64 q9.id, .int .i64 q9.ts, .slice q9.ra q9.rn q9.rc, .slice q9.wa q9.wn q9.wc], .int .i64 E9] := c9.p 15 rfl (hs 15 (by decide))
                      subst e15
                      go_wp2_with fail
                      exact relyH_done (.agg (cT q9)) rfl trivial (Ext.refl _) (hI.other (by decide) (by decide) (by decide) (by decide) (by decide) (by simp) (Ext.refl _) (fun _ r8 q8 E8 h14 _ => (v14_inj (c9.v.symm.trans h14)).2.1))
                    refine stepsH_cons ?_ ?_
                    · intro listed vs W' hl hI hd hs hn hu hz ho9
                      refine hold ?_
                      obtain ⟨x0, x1, x2, x3, x4, x5, x6, x7, x8, x9, x10, x11, x12, x13, x14, x15, x16, x17, x18, x19, x20, x21, x22, x23, rfl⟩ := lenlit24 hl; clear hl
                      simp only [factsL, atL, refV, List.getElem?_cons_succ, List.getElem?_cons_zero, List.getD_cons_succ, List.getD_cons_zero, RelL.one, RelL.any, RelL.blk, RelL.law] at hd
                      obtain ⟨-, -⟩ := hd
                      refine held ?_
                      simp only [putAll, Act.put, List.setIfInBounds_toArray, List.set_cons_succ, List.set_cons_zero]
                      obtain ⟨S8, X8, r9, q9, E9, c9⟩ := hI.c (hs 14 (by decide))
                      have e15 : x15 = .tuple #[.agg #[.int .i64 r9.last, .slice r9.sa r9.sn r9.sc, .slice r9.oa r9.on r9.oc], .agg #[.int .i64 q9.id, .int .i64 q9.ts, .slice q9.ra q9.rn q9.rc, .slice q9.wa q9.wn q9.wc], .int .i64 E9] := c9.p 15 rfl (hs 15 (by decide))
                      subst e15
                      go_wp2_with fail
                      exact relyH_done (.int .i64 E9) rfl trivial (Ext.refl _) (hI.other (by decide) (by decide) (by decide) (by decide) (by decide) (by simp) (Ext.refl _) (fun _ r8 q8 E8 h14 _ => (v14_inj (c9.v.symm.trans h14)).2.2))
                    refine stepsH_cons ?_ ?_
                    · intro listed vs W' hl hI hd hs hn hu hz ho9
                      refine hold ?_
                      obtain ⟨x0, x1, x2, x3, x4, x5, x6, x7, x8, x9, x10, x11, x12, x13, x14, x15, x16, x17, x18, x19, x20, x21, x22, x23, rfl⟩ := lenlit24 hl; clear hl
                      refine held ?_
                      simp only [putAll, Act.put, List.setIfInBounds_toArray, List.set_cons_succ, List.set_cons_zero]
                      go_wp2_with fail
                      exact relyH_done (ptr W'.heap.size) rfl trivial ((Ext.refl _).alloc _) (hI.al19 (by simp) (notL hu 21 (by decide)))
                    refine stepsH_cons ?_ ?_
                    · intro listed vs W' hl hI hd hs hn hu hz ho9
                      refine hold ?_
                      obtain ⟨x0, x1, x2, x3, x4, x5, x6, x7, x8, x9, x10, x11, x12, x13, x14, x15, x16, x17, x18, x19, x20, x21, x22, x23, rfl⟩ := lenlit24 hl; clear hl
                      refine held ?_
                      simp only [putAll, Act.put, List.setIfInBounds_toArray, List.set_cons_succ, List.set_cons_zero]
                      go_wp2_with fail
                      exact relyH_done (ptr W'.heap.size) rfl trivial ((Ext.refl _).alloc _) (hI.al20 (by simp) (notL hu 22 (by decide)))
                    refine stepsH_cons ?_ ?_
                    · intro listed vs W' hl hI hd hs hn hu hz ho9
                      refine hold ?_
                      obtain ⟨x0, x1, x2, x3, x4, x5, x6, x7, x8, x9, x10, x11, x12, x13, x14, x15, x16, x17, x18, x19, x20, x21, x22, x23, rfl⟩ := lenlit24 hl; clear hl
                      simp only [factsL, atL, refV, List.getElem?_cons_succ, List.getElem?_cons_zero, List.getD_cons_succ, List.getD_cons_zero, RelL.one, RelL.any, RelL.blk, RelL.law] at hd
                      obtain ⟨-, -, -⟩ := hd
                      refine held ?_
                      simp only [putAll, Act.put, List.setIfInBounds_toArray, List.set_cons_succ, List.set_cons_zero]
                      obtain ⟨b, r9, e19, e16, hb, hnx⟩ := hI.at21 (hs 14 (by decide)) (hs 16 (by decide)) (hs 19 (by decide)) hz
                      replace e19 : x19 = .pointer (some ⟨b, 0, none⟩) := e19
                      replace e16 : x16 = .agg #[.int .i64 r9.last, .slice r9.sa r9.sn r9.sc, .slice r9.oa r9.on r9.oc] := e16
                      subst e19 e16
                      have k0 := hb.c 0 _ rfl
                      have k1 := hb.c 1 _ rfl
                      have k2 := hb.c 2 _ rfl
                      have hf := hb.free
                      go_wp2_with fail
                      exact relyH_store undef rfl trivial (by simp [World.setCell]) ⟨(fun _ _ _ h => h), (fun _ _ _ h => h), (fun _ _ _ h => h), (fun _ _ _ h => h), (fun _ _ _ h => h), (fun _ _ _ h => h), (fun _ _ _ h => h), (fun _ _ _ h => h), (fun _ _ _ h => h), (fun _ _ _ h => h), (fun _ _ _ h => h), (fun _ _ _ h => h), (fun _ _ _ h => h), (fun _ _ _ h => h), (fun _ _ _ h => h), (fun _ _ _ h => h), (fun _ _ _ h => h), (fun _ _ _ h => h), (fun _ _ _ h => h), (fun _ _ _ h => h), (fun _ _ _ h => h), (fun _ _ _ h => h), (fun _ _ _ h => h), (fun _ _ _ h => h), trivial⟩ (hnx (by simp) (hs 20 (by decide)) (notL hu 22 (by decide)) _)
                    refine stepsH_cons ?_ ?_
                    · intro listed vs W' hl hI hd hs hn hu hz ho9
                      refine hold ?_
                      obtain ⟨x0, x1, x2, x3, x4, x5, x6, x7, x8, x9, x10, x11, x12, x13, x14, x15, x16, x17, x18, x19, x20, x21, x22, x23, rfl⟩ := lenlit24 hl; clear hl
                      simp only [factsL, atL, refV, List.getElem?_cons_succ, List.getElem?_cons_zero, List.getD_cons_succ, List.getD_cons_zero, RelL.one, RelL.any, RelL.blk, RelL.law] at hd
                      obtain ⟨-, -, -⟩ := hd
                      refine held ?_
                      simp only [putAll, Act.put, List.setIfInBounds_toArray, List.set_cons_succ, List.set_cons_zero]
                      obtain ⟨b, q9, e20, e17, hb, hnx⟩ := hI.at22 (hs 14 (by decide)) (hs 17 (by decide)) (hs 19 (by decide)) (hs 20 (by decide)) (hs 21 (by decide)) hz
                      replace e20 : x20 = .pointer (some ⟨b, 0, none⟩) := e20
                      replace e17 : x17 = .agg #[.int .i64 q9.id, .int .i64 q9.ts, .slice q9.ra q9.rn q9.rc, .slice q9.wa q9.wn q9.wc] := e17
                      subst e20 e17
                      have k0 := hb.c 0 _ rfl
                      have k1 := hb.c 1 _ rfl
                      have k2 := hb.c 2 _ rfl
                      have k3 := hb.c 3 _ rfl
                      have hf := hb.free
                      go_wp2_with fail
                      exact relyH_store undef rfl trivial (by simp [World.setCell]) ⟨(fun _ _ _ h => h), (fun _ _ _ h => h), (fun _ _ _ h => h), (fun _ _ _ h => h), (fun _ _ _ h => h), (fun _ _ _ h => h), (fun _ _ _ h => h), (fun _ _ _ h => h), (fun _ _ _ h => h), (fun _ _ _ h => h), (fun _ _ _ h => h), (fun _ _ _ h => h), (fun _ _ _ h => h), (fun _ _ _ h => h), (fun _ _ _ h => h), (fun _ _ _ h => h), (fun _ _ _ h => h), (fun _ _ _ h => h), (fun _ _ _ h => h), (fun _ _ _ h => h), (fun _ _ _ h => h), (fun _ _ _ h => h), (fun _ _ _ h => h), (fun _ _ _ h => h), trivial⟩ (hnx _)
                    refine stepsH_cons ?_ ?_
                    · intro listed vs W' hl hI hd hs hn hu hz ho9
                      refine hold ?_
                      obtain ⟨x0, x1, x2, x3, x4, x5, x6, x7, x8, x9, x10, x11, x12, x13, x14, x15, x16, x17, x18, x19, x20, x21, x22, x23, rfl⟩ := lenlit24 hl; clear hl
                      simp only [factsL, atL, refV, List.getElem?_cons_succ, List.getElem?_cons_zero, List.getD_cons_succ, List.getD_cons_zero, RelL.one, RelL.any, RelL.blk, RelL.law] at hd
                      obtain ⟨-, -⟩ := hd
                      refine held ?_
                      simp only [putAll, Act.put, List.setIfInBounds_toArray, List.set_cons_succ, List.set_cons_zero]
                      obtain ⟨S8, X8, r9, q9, E9, c9⟩ := hI.c (hs 14 (by decide))
                      have e18 : x18 = .int .i64 E9 := c9.p 18 rfl (hs 18 (by decide))
                      subst e18
                      go_wp2_with fail
                      exact relyH_done (.int .i64 E9) rfl trivial (Ext.refl _) (hI.other (by decide) (by decide) (by decide) (by decide) (by decide) (by simp) (Ext.refl _) (fun _ r8 q8 E8 h14 _ => (v14_inj (c9.v.symm.trans h14)).2.2))
                    exact trivial
                  · intro listed vs W' hl hall hI hd hn
                    obtain ⟨x0, x1, x2, x3, x4, x5, x6, x7, x8, x9, x10, x11, x12, x13, x14, x15, x16, x17, x18, x19, x20, x21, x22, x23, rfl⟩ := lenlit24 hl; clear hl
                    simp only [List.length_cons, List.length_nil, factsL, atL, refV, List.getElem?_cons_succ, List.getElem?_cons_zero, List.getD_cons_succ, List.getD_cons_zero, RelL.one, RelL.any, RelL.blk, RelL.law] at hd
                    obtain ⟨-⟩ := hd
                    simp only [putAll, Act.put, List.setIfInBounds_toArray, List.set_cons_succ, List.set_cons_zero]
                    obtain ⟨S8, r9, q9, E9, mb, nb, hx, hg, e19, e20, e23, hM, hN⟩ := hI.fin (fun i hi => hall i (by simpa using hi))
                    replace e19 : x19 = .pointer (some ⟨mb, 0, none⟩) := e19
                    replace e20 : x20 = .pointer (some ⟨nb, 0, none⟩) := e20
                    replace e23 : x23 = .int .i64 E9 := e23
                    subst e19 e20 e23
                    replace hM : Bk W' mb 36 #[.int .i64 r9.last, .slice r9.sa r9.sn r9.sc, .slice r9.oa r9.on r9.oc] := hM
                    replace hN : Bk W' nb 26 #[.int .i64 q9.id, .int .i64 q9.ts, .slice q9.ra q9.rn q9.rc, .slice q9.wa q9.wn q9.wc] := hN
                    clear hI hall hn HII HAR2 HST2 e1 e2 hB
                    replace hC := hC.ext hx
                    replace hL := hL.ext hx
                    replace hS := hS.ext hx
                    replace hO := hO.ext hx
                    replace hY := hY.ext hx
                    replace hE := hE.trans hx
                    clear hx
                    have k3 := (hC.ext ((Ext.refl W').alloc (.cells #[] 26))).c 3 _ rfl
                    go_wp2_with (at_builtin; refine appAll el_tx rfl _ _ rfl W' rfl _ _ _ _ rfl hO (by have := HDN.out; unfold maxLen; omega) (by have := HDN.out; omega) ?_; intro a5 c5 W5 ho5 hx5; refine hold ?_)
                    refine held ?_
                    clear k3 hC
                    by_cases hE0 : E9 = 0
                    · subst hE0
                      rcases hg with hg | ⟨-, ⟨Bb, hst⟩, hid, hts, hrn, hwn, hD9, p1, p2⟩
                      · exact absurd rfl hg
                      obtain ⟨z1, z2, z3, z4, z5⟩ := stE_zero hst
                      have HM9 : Hid (max (l.last + 1) hi2 ≤ 3000000000000000) := Lib.hid z5
                      have hq9 := HQT.out W' hE
                      have HTO : Hid (TxO a5 W5 q9 (stampT l dq.t hi2)) := Lib.hid ⟨⟨hid.trans hq9.id, hts, (p1.rw (by omega) hq9.rd.wf).ext hx5, (p2.rw (by omega) hq9.wr.wf).ext hx5⟩, ⟨by rw [hid]; exact HQO.out.id, by rw [hts]; have := HCI.out.val.last; simp [Lit.wf, IntKind.min, IntKind.max, IntKind.bits, IntKind.signed]; omega⟩, apt_old p1 ho5, apt_old p2 ho5⟩
                      clear z1 z2 z3 z4 z5 hst p1 p2 hid hts hrn hwn hq9
                      have n0 := (hN.ext hx5).c 0 _ rfl
                      have n1' := (hN.ext hx5).c 1 _ rfl
                      have n2' := (hN.ext hx5).c 2 _ rfl
                      have n3' := (hN.ext hx5).c 3 _ rfl
                      go_upto_region 22 with (at_builtin; refine appT1 el_tx rfl _ _ rfl W5 W'.heap.size _ _ _ _ q9 (stampT l dq.t hi2) _ rfl rfl ho5 HTO.out rfl hx5.sz (by have := HDN.out; unfold maxLen; omega) (by have := HDN.out; omega) ?_; intro g6 c6 W6 ho6 hB6; refine hold ?_)
                      refine held ?_
                      clear n0 n1' n2' n3' hN HTO ho5
                      have hx6 : Ext W' W6 := Below.trans hx5 hB6
                      have m0 := (hM.ext hx6).c 0 _ rfl
                      have m1 := (hM.ext hx6).c 1 _ rfl
                      have m2 := (hM.ext hx6).c 2 _ rfl
                      have s0 := (hS.ext hx6).c 0 _ rfl
                      have s1 := (hS.ext hx6).c 1 _ rfl
                      have s2 := (hS.ext hx6).c 2 _ rfl
                      have hf := (hS.ext hx6).free
                      go_upto_region 23 with fail
                      clear m0 m1 m2 s0 s1 s2 hf hx5 hB6 hM
                      have HPD : Hid (pickT (d ++ [stampT l dq.t hi2]) key ts = lastV l.st key ts) := Lib.hid ((pickT_later HLT.out.2).trans HPK.out.symm)
                      have HV : Hid (validV l.st = true) := Lib.hid HCI.out.val.st
                      have HVL : Hid (l.st.length ≤ 4000) := Lib.hid (validV_iff.1 HV.out).2.2
                      have hST : Rw W' r9.sa r9.sn r9.sc l.st := OwR.rw (xs := l.st) hD9.st (by have := HVL.out; have h9 : l.st.length = r9.sn := hD9.st.1; omega) hL.st.wf
                      replace hST := Rw.set3V (i' := r9.last) (a1' := r9.sa) (n1' := r9.sn) (c1' := r9.sc) (a2' := r9.oa) (n2' := r9.on) (c2' := r9.oc) (hS.ext hx6) (hST.ext hx6)
                      have hT := (OwT.set3 (i' := r9.last) (a1' := r9.sa) (n1' := r9.sn) (c1' := r9.sc) (a2' := r9.oa) (n2' := r9.on) (c2' := r9.oc) (hS.ext hx6) hS.lt ho6).txs (by have := HDN.out; omega)
                      replace hY := (hY.ext hx6).other3 (p := sb) (by have := HSY.out; omega) (.int .i64 r9.last) (.slice r9.sa r9.sn r9.sc) (.slice r9.oa r9.on r9.oc)
                      replace hE := (hE.trans hx6).set3 HWS.out (.int .i64 r9.last) (.slice r9.sa r9.sn r9.sc) (.slice r9.oa r9.on r9.oc)
                      replace hS := (hS.ext hx6).set3 (.int .i64 r9.last) (.slice r9.sa r9.sn r9.sc) (.slice r9.oa r9.on r9.oc)
                      clear hL ho6 hx6 hD9 hO
                      generalize ((W6.setCell ⟨sb, 0, none⟩ (.int .i64 r9.last)).setCell ⟨sb, 1, none⟩ (.slice r9.sa r9.sn r9.sc)).setCell ⟨sb, 2, none⟩ (.slice r9.oa r9.on r9.oc) = W7 at *
                      generalize r9.sa = sta at *
                      generalize r9.sn = stn at *
                      generalize r9.sc = stc at *
                      generalize (some ⟨g6, 0, none⟩ : Option Addr) = ad at *
                      generalize dn + 1 = nd at *
                      generalize c6 = cd at *
                      generalize d ++ [stampT l dq.t hi2] = dd at *
                      have HLA := Lib.hid (last14_any ad nd cd dd key ts W7 hT)
                      rw [HPD.out, HX0.out, HB0.out] at HLA
                      unfold valV at HLA
                      clear hT
                      go_wp2_with (go_at_call 12; refine HLA.out.mono ?_; rintro e W8 ⟨rfl, hx⟩; refine hold ?_)
                      refine held ?_
                      clear HLA
                      replace hS := hS.ext hx
                      replace hST := hST.ext hx
                      replace hY := hY.ext hx
                      replace hE := hE.trans hx
                      clear hx
                      have hZ := Bk.new W8 47 #[.int .i64 vx.k, .int .i64 vx.t, .int .i64 vx.v, .bool vx.g]
                      have hx : Ext W8 (W8.alloc (.cells #[.int .i64 vx.k, .int .i64 vx.t, .int .i64 vx.v, .bool vx.g] 47)) := (Ext.refl W8).alloc _
                      go_upto_region 24 with fail
                      replace hS := hS.ext hx
                      replace hST := hST.ext hx
                      replace hY := hY.ext hx
                      replace hE := hE.trans hx
                      clear hx
                      generalize W8.alloc (.cells #[.int .i64 vx.k, .int .i64 vx.t, .int .i64 vx.v, .bool vx.g] 47) = W9 at *
                      obtain ⟨zb, hzb⟩ : ∃ zb, W8.heap.size = zb := ⟨_, rfl⟩
                      rw [hzb] at hZ ⊢
                      clear hzb
                      have y0 := hY.c 0 _ rfl
                      have y1 := hY.c 1 _ rfl
                      have y2 := hY.c 2 _ rfl
                      have y3 := hY.c 3 _ rfl
                      have z0 := hZ.c 0 _ rfl
                      have z1 := hZ.c 1 _ rfl
                      have z2 := hZ.c 2 _ rfl
                      have z3 := hZ.c 3 _ rfl
                      have hq := fun W => eqVn vx.k vx.t vx.v vx.g vx.k vx.t vx.v vx.g W
                      simp only [decide_true] at hq
                      go_upto_region 26 with fail
                      have hTS := inT_iff.1 HS9.out
                      have hED : 0 ≤ hor % (ts + 1) ∧ hor % (ts + 1) ≤ ts := ⟨Int.emod_nonneg _ (by omega), by have := Int.emod_lt_of_pos hor (show (0 : Int) < ts + 1 by omega); omega⟩
                      have e3 : IntKind.i64.wrap hor = hor := by rw [IntKind.wrap_i64]; omega
                      have e4 : IntKind.i64.wrap (ts + 1) = ts + 1 := by rw [IntKind.wrap_i64]; omega
                      have e5 : IntKind.i64.wrap (hor % (ts + 1)) = hor % (ts + 1) := by rw [IntKind.wrap_i64]; omega
                      have e8 : hor.tmod (ts + 1) = hor % (ts + 1) := Int.tmod_eq_emod_of_nonneg hho.1
                      have e6 : ¬ (ts + 1 = 0) := by omega
                      have e7 : (ts + 1 == 0) = false := by simp; omega
                      have HED : Hid (0 ≤ hor % (ts + 1) ∧ hor % (ts + 1) ≤ ts) := Lib.hid hED
                      have HTS := Lib.hid hTS
                      clear hED hTS y0 y1 y2 y3 z0 z1 z2 z3 hq
                      go_upto_region 27 with fail
                      clear e3 e4 e5 e6 e7 e8
                      generalize hor % (ts + 1) = ed at *
                      have HEI : Hid (inT ed 0 3000000000000000 = true) := Lib.hid (inT_iff.2 (by have := HED.out; have := HTS.out; omega))
                      have HRC := Lib.hid (reclaim_any sta stn stc l.st ed W9 hST HV.out HEI.out)
                      have s1 := hS.c 1 _ rfl
                      go_wp2_with (go_at_call 13; refine HRC.out.mono ?_; rintro e W10 ⟨aK, nK, cK, rfl, hoK, hx⟩; refine hold ?_)
                      refine held ?_
                      clear HRC s1
                      replace hS := hS.ext hx
                      replace hST := hST.ext hx
                      replace hZ := hZ.ext hx
                      replace hE := hE.trans hx
                      clear hx
                      have HRR := Lib.hid (rread_any aK nK cK (recV l.st ed) ed ts W10 (rw_rec hoK HV.out hST.wf) (recV_valid HV.out ed) HEI.out HS9.out HED.out.2)
                      rw [read_rec HV.out HED.out.2] at HRR
                      clear hoK
                      go_wp2_with (go_at_call 14; refine HRR.out.mono ?_; rintro e W11 ⟨aA, nA, cA, rfl, hoA, hx⟩; refine hold ?_)
                      refine held ?_
                      have hA := rw_read hoA HV.out hST.wf
                      clear HRR hoA
                      replace hS := hS.ext hx
                      replace hST := hST.ext hx
                      replace hZ := hZ.ext hx
                      replace hE := hE.trans hx
                      clear hx
                      have HVR := Lib.hid (vread_any sta stn stc l.st ts W11 hST HV.out HS9.out)
                      have s1 := hS.c 1 _ rfl
                      go_wp2_with (go_at_call 15; refine HVR.out.mono ?_; rintro e W12 ⟨aP, nP, cP, rfl, hoP, hx⟩; refine hold ?_)
                      refine held ?_
                      have hP := rw_read hoP HV.out hST.wf
                      clear HVR hoP s1
                      replace hZ := hZ.ext hx
                      replace hA := hA.ext hx
                      replace hE := hE.trans hx
                      clear hx
                      obtain rfl : nA = nP := hA.hlen.symm.trans hP.hlen
                      have HSM := Lib.hid (same_any aA nA cA aP cP (readV l.st ts) W12 hA hP)
                      clear hP
                      have bdA := hA.bd
                      go_wp2_with (go_at_call 16; refine HSM.out.mono ?_; rintro e W13 ⟨rfl, hx⟩; refine hold ?_)
                      refine held ?_
                      clear HSM
                      replace hZ := hZ.ext hx
                      replace hA := hA.ext hx
                      replace hE := hE.trans hx
                      clear hx
                      have HKZ := (readV_key HV.out (ts := ts) (inT_iff.1 HK9.out).1).1
                      have HKP : Hid (∀ x ∈ readV l.st ts, x.k = key → x = vx) := Lib.hid (by have := HKZ; rw [HX0.out] at this; exact this)
                      have HFZ : Hid (foundB (readV l.st ts) key nA = b0) := Lib.hid (by rw [← hA.hlen, foundB_all HV.out (inT_iff.1 HK9.out).1, HB0.out])
                      have HLZ := Lib.hid hA.hlen
                      clear HKZ
                      generalize readV l.st ts = zs at *
                      have HAA := Lib.hid hA
                      have HZZ := Lib.hid hZ
                      clear hA hZ hS hST
                      go_wp2_with fail
                      go_loopw [15, 39, 218] (fun u f i wr => ∃ (k : Nat), k ≤ nA ∧ i = .int .i64 k ∧ u = .bool true ∧ f = .bool (foundB zs key k) ∧ Ext W13 wr) (fun _ _ i _ => nA - (intOf i).toNat)
                      case atStart => exact ⟨0, by omega, rfl, rfl, rfl, Ext.refl _⟩
                      case round =>
                        obtain ⟨k, hk, rfl, rfl, rfl, hx1⟩ := hrel
                        by_cases hlt : k < nA
                        · obtain ⟨x1, o1, rfl, hc1⟩ := HAA.out.at (by omega)
                          have hr := rangeAt_ext (hc1 k hlt) hx1
                          rw [sz_vn] at hr
                          have HMM := Lib.hid (HKP.out (nthR zs k) (nthR_mem (by rw [HLZ.out]; exact hlt)))
                          have HFS := Lib.hid (foundB_succ zs key k)
                          clear hc1
                          generalize nthR zs k = y at *
                          obtain ⟨yk, yt, yv, yg⟩ := y
                          obtain ⟨d0, d1, d2, d3⟩ := cells_vn hr
                          simp only at d0 d1 d2 d3
                          clear hr
                          have hX := Bk.new wr 47 #[.int .i64 yk, .int .i64 yt, .int .i64 yv, .bool yg]
                          have hx : Ext wr (wr.alloc (.cells #[.int .i64 yk, .int .i64 yt, .int .i64 yv, .bool yg] 47)) := (Ext.refl wr).alloc _
                          go_upto_region 36 with fail
                          clear d0 d1 d2 d3
                          replace hx1 := hx1.trans hx
                          clear hx
                          generalize wr.alloc (.cells #[.int .i64 yk, .int .i64 yt, .int .i64 yv, .bool yg] 47) = V21 at *
                          have hZ := HZZ.out.ext hx1
                          have y0 := hX.c 0 _ rfl
                          have y1 := hX.c 1 _ rfl
                          have y2 := hX.c 2 _ rfl
                          have y3 := hX.c 3 _ rfl
                          have z0 := hZ.c 0 _ rfl
                          have z1 := hZ.c 1 _ rfl
                          have z2 := hZ.c 2 _ rfl
                          have z3 := hZ.c 3 _ rfl
                          generalize foundB zs key k = fb at *
                          by_cases hkk : yk = key
                          · have h9 : (⟨yk, yt, yv, yg⟩ : Vn) = ⟨vx.k, vx.t, vx.v, vx.g⟩ := HMM.out hkk
                            have hq := fun W => eqVn yk yt yv yg vx.k vx.t vx.v vx.g W
                            simp only [decide_eq_true h9] at hq
                            clear h9 HMM
                            obtain rfl : key = yk := hkk.symm
                            clear hkk
                            go_wp2_with fail
                            refine ⟨⟨k + 1, by omega, by go_num, rfl, ?_, hx1⟩, by simp only [intOf]; omega⟩
                            rw [HFS.out]; simp
                          · have r1 : (yk == key) = false := by simp [hkk]
                            go_wp2_with fail
                            refine ⟨⟨k + 1, by omega, by go_num, rfl, ?_, hx1⟩, by simp only [intOf]; omega⟩
                            rw [HFS.out]; simp [hkk]
                        · obtain rfl : nA = k := by omega
                          rw [HFZ.out]
                          go_wp2_with fail
                          go_ret
                          exact ⟨rfl, hE.trans hx1⟩
                    · have hEb : (E9 == 0) = false := by simp [hE0]
                      have hT := ho5.txs (by have := HDN.out; omega)
                      have hx := hx5
                      have hST := hL.st
                      simp only at hST
                      clear hL ho5 hx5 hM hN hg hO
                      replace hS := hS.ext hx
                      replace hST := hST.ext hx
                      replace hY := hY.ext hx
                      replace hE := hE.trans hx
                      clear hx
                      have HPD : Hid (pickT d key ts = lastV l.st key ts) := Lib.hid HPK.out.symm
                      have HV : Hid (validV l.st = true) := Lib.hid HCI.out.val.st
                      generalize sa = sta at *
                      generalize sn = stn at *
                      generalize sc = stc at *
                      generalize a5 = ad at *
                      generalize dn = nd at *
                      generalize c5 = cd at *
                      generalize d = dd at *
                      generalize W5 = W7 at *
                      go_upto_region 23 with fail
                      have HLA := Lib.hid (last14_any ad nd cd dd key ts W7 hT)
                      rw [HPD.out, HX0.out, HB0.out] at HLA
                      unfold valV at HLA
                      clear hT
                      go_wp2_with (go_at_call 12; refine HLA.out.mono ?_; rintro e W8 ⟨rfl, hx⟩; refine hold ?_)
                      refine held ?_
                      clear HLA
                      replace hS := hS.ext hx
                      replace hST := hST.ext hx
                      replace hY := hY.ext hx
                      replace hE := hE.trans hx
                      clear hx
                      have hZ := Bk.new W8 47 #[.int .i64 vx.k, .int .i64 vx.t, .int .i64 vx.v, .bool vx.g]
                      have hx : Ext W8 (W8.alloc (.cells #[.int .i64 vx.k, .int .i64 vx.t, .int .i64 vx.v, .bool vx.g] 47)) := (Ext.refl W8).alloc _
                      go_upto_region 24 with fail
                      replace hS := hS.ext hx
                      replace hST := hST.ext hx
                      replace hY := hY.ext hx
                      replace hE := hE.trans hx
                      clear hx
                      generalize W8.alloc (.cells #[.int .i64 vx.k, .int .i64 vx.t, .int .i64 vx.v, .bool vx.g] 47) = W9 at *
                      obtain ⟨zb, hzb⟩ : ∃ zb, W8.heap.size = zb := ⟨_, rfl⟩
                      rw [hzb] at hZ ⊢
                      clear hzb
                      have y0 := hY.c 0 _ rfl
                      have y1 := hY.c 1 _ rfl
                      have y2 := hY.c 2 _ rfl
                      have y3 := hY.c 3 _ rfl
                      have z0 := hZ.c 0 _ rfl
                      have z1 := hZ.c 1 _ rfl
                      have z2 := hZ.c 2 _ rfl
                      have z3 := hZ.c 3 _ rfl
                      have hq := fun W => eqVn vx.k vx.t vx.v vx.g vx.k vx.t vx.v vx.g W
                      simp only [decide_true] at hq
                      go_upto_region 26 with fail
                      have hTS := inT_iff.1 HS9.out
                      have hED : 0 ≤ hor % (ts + 1) ∧ hor % (ts + 1) ≤ ts := ⟨Int.emod_nonneg _ (by omega), by have := Int.emod_lt_of_pos hor (show (0 : Int) < ts + 1 by omega); omega⟩
                      have e3 : IntKind.i64.wrap hor = hor := by rw [IntKind.wrap_i64]; omega
                      have e4 : IntKind.i64.wrap (ts + 1) = ts + 1 := by rw [IntKind.wrap_i64]; omega
                      have e5 : IntKind.i64.wrap (hor % (ts + 1)) = hor % (ts + 1) := by rw [IntKind.wrap_i64]; omega
                      have e8 : hor.tmod (ts + 1) = hor % (ts + 1) := Int.tmod_eq_emod_of_nonneg hho.1
                      have e6 : ¬ (ts + 1 = 0) := by omega
                      have e7 : (ts + 1 == 0) = false := by simp; omega
                      have HED : Hid (0 ≤ hor % (ts + 1) ∧ hor % (ts + 1) ≤ ts) := Lib.hid hED
                      have HTS := Lib.hid hTS
                      clear hED hTS y0 y1 y2 y3 z0 z1 z2 z3 hq
                      go_upto_region 27 with fail
                      clear e3 e4 e5 e6 e7 e8
                      generalize hor % (ts + 1) = ed at *
                      have HEI : Hid (inT ed 0 3000000000000000 = true) := Lib.hid (inT_iff.2 (by have := HED.out; have := HTS.out; omega))
                      have HRC := Lib.hid (reclaim_any sta stn stc l.st ed W9 hST HV.out HEI.out)
                      have s1 := hS.c 1 _ rfl
                      go_wp2_with (go_at_call 13; refine HRC.out.mono ?_; rintro e W10 ⟨aK, nK, cK, rfl, hoK, hx⟩; refine hold ?_)
                      refine held ?_
                      clear HRC s1
                      replace hS := hS.ext hx
                      replace hST := hST.ext hx
                      replace hZ := hZ.ext hx
                      replace hE := hE.trans hx
                      clear hx
                      have HRR := Lib.hid (rread_any aK nK cK (recV l.st ed) ed ts W10 (rw_rec hoK HV.out hST.wf) (recV_valid HV.out ed) HEI.out HS9.out HED.out.2)
                      rw [read_rec HV.out HED.out.2] at HRR
                      clear hoK
                      go_wp2_with (go_at_call 14; refine HRR.out.mono ?_; rintro e W11 ⟨aA, nA, cA, rfl, hoA, hx⟩; refine hold ?_)
                      refine held ?_
                      have hA := rw_read hoA HV.out hST.wf
                      clear HRR hoA
                      replace hS := hS.ext hx
                      replace hST := hST.ext hx
                      replace hZ := hZ.ext hx
                      replace hE := hE.trans hx
                      clear hx
                      have HVR := Lib.hid (vread_any sta stn stc l.st ts W11 hST HV.out HS9.out)
                      have s1 := hS.c 1 _ rfl
                      go_wp2_with (go_at_call 15; refine HVR.out.mono ?_; rintro e W12 ⟨aP, nP, cP, rfl, hoP, hx⟩; refine hold ?_)
                      refine held ?_
                      have hP := rw_read hoP HV.out hST.wf
                      clear HVR hoP s1
                      replace hZ := hZ.ext hx
                      replace hA := hA.ext hx
                      replace hE := hE.trans hx
                      clear hx
                      obtain rfl : nA = nP := hA.hlen.symm.trans hP.hlen
                      have HSM := Lib.hid (same_any aA nA cA aP cP (readV l.st ts) W12 hA hP)
                      clear hP
                      have bdA := hA.bd
                      go_wp2_with (go_at_call 16; refine HSM.out.mono ?_; rintro e W13 ⟨rfl, hx⟩; refine hold ?_)
                      refine held ?_
                      clear HSM
                      replace hZ := hZ.ext hx
                      replace hA := hA.ext hx
                      replace hE := hE.trans hx
                      clear hx
                      have HKZ := (readV_key HV.out (ts := ts) (inT_iff.1 HK9.out).1).1
                      have HKP : Hid (∀ x ∈ readV l.st ts, x.k = key → x = vx) := Lib.hid (by have := HKZ; rw [HX0.out] at this; exact this)
                      have HFZ : Hid (foundB (readV l.st ts) key nA = b0) := Lib.hid (by rw [← hA.hlen, foundB_all HV.out (inT_iff.1 HK9.out).1, HB0.out])
                      have HLZ := Lib.hid hA.hlen
                      clear HKZ
                      generalize readV l.st ts = zs at *
                      have HAA := Lib.hid hA
                      have HZZ := Lib.hid hZ
                      clear hA hZ hS hST
                      go_wp2_with fail
                      go_loopw [15, 39, 218] (fun u f i wr => ∃ (k : Nat), k ≤ nA ∧ i = .int .i64 k ∧ u = .bool true ∧ f = .bool (foundB zs key k) ∧ Ext W13 wr) (fun _ _ i _ => nA - (intOf i).toNat)
                      case atStart => exact ⟨0, by omega, rfl, rfl, rfl, Ext.refl _⟩
                      case round =>
                        obtain ⟨k, hk, rfl, rfl, rfl, hx1⟩ := hrel
                        by_cases hlt : k < nA
                        · obtain ⟨x1, o1, rfl, hc1⟩ := HAA.out.at (by omega)
                          have hr := rangeAt_ext (hc1 k hlt) hx1
                          rw [sz_vn] at hr
                          have HMM := Lib.hid (HKP.out (nthR zs k) (nthR_mem (by rw [HLZ.out]; exact hlt)))
                          have HFS := Lib.hid (foundB_succ zs key k)
                          clear hc1
                          generalize nthR zs k = y at *
                          obtain ⟨yk, yt, yv, yg⟩ := y
                          obtain ⟨d0, d1, d2, d3⟩ := cells_vn hr
                          simp only at d0 d1 d2 d3
                          clear hr
                          have hX := Bk.new wr 47 #[.int .i64 yk, .int .i64 yt, .int .i64 yv, .bool yg]
                          have hx : Ext wr (wr.alloc (.cells #[.int .i64 yk, .int .i64 yt, .int .i64 yv, .bool yg] 47)) := (Ext.refl wr).alloc _
                          go_upto_region 36 with fail
                          clear d0 d1 d2 d3
                          replace hx1 := hx1.trans hx
                          clear hx
                          generalize wr.alloc (.cells #[.int .i64 yk, .int .i64 yt, .int .i64 yv, .bool yg] 47) = V21 at *
                          have hZ := HZZ.out.ext hx1
                          have y0 := hX.c 0 _ rfl
                          have y1 := hX.c 1 _ rfl
                          have y2 := hX.c 2 _ rfl
                          have y3 := hX.c 3 _ rfl
                          have z0 := hZ.c 0 _ rfl
                          have z1 := hZ.c 1 _ rfl
                          have z2 := hZ.c 2 _ rfl
                          have z3 := hZ.c 3 _ rfl
                          generalize foundB zs key k = fb at *
                          by_cases hkk : yk = key
                          · have h9 : (⟨yk, yt, yv, yg⟩ : Vn) = ⟨vx.k, vx.t, vx.v, vx.g⟩ := HMM.out hkk
                            have hq := fun W => eqVn yk yt yv yg vx.k vx.t vx.v vx.g W
                            simp only [decide_eq_true h9] at hq
                            clear h9 HMM
                            obtain rfl : key = yk := hkk.symm
                            clear hkk
                            go_wp2_with fail
                            refine ⟨⟨k + 1, by omega, by go_num, rfl, ?_, hx1⟩, by simp only [intOf]; omega⟩
                            rw [HFS.out]; simp
                          · have r1 : (yk == key) = false := by simp [hkk]
                            go_wp2_with fail
                            refine ⟨⟨k + 1, by omega, by go_num, rfl, ?_, hx1⟩, by simp only [intOf]; omega⟩
                            rw [HFS.out]; simp [hkk]
                        · obtain rfl : nA = k := by omega
                          rw [HFZ.out]
                          go_wp2_with fail
                          go_ret
                          exact ⟨rfl, hE.trans hx1⟩
                · unfold valV
                  go_wp2_with fail
                  go_ret
                  exact ⟨rfl, (hE.trans hx).alloc _⟩
          · have u1 : (20 : Int) < (qwn : Int) := by omega
            have u2 : decide ((20 : Int) < (qwn : Int)) = true := decide_eq_true u1
            go_wp2_with ((first | (go_at_call 5; refine (HKY.out _).mono ?_) | (go_at_call 6; refine (HSP.out _).mono ?_)); rintro _ _ ⟨rfl, rfl⟩)
            go_ret
            exact ⟨rfl, hE⟩
        · have r1 : (20 : Int) < (qrn : Int) := by omega
          have r2 : decide ((20 : Int) < (qrn : Int)) = true := decide_eq_true r1
          go_wp2_with ((first | (go_at_call 5; refine (HKY.out _).mono ?_) | (go_at_call 6; refine (HSP.out _).mono ?_)); rintro _ _ ⟨rfl, rfl⟩)
          go_ret
          exact ⟨rfl, hE⟩
  · have n1 : (12 : Int) < (n : Int) := by omega
    have n2 : decide ((12 : Int) < (n : Int)) = true := decide_eq_true n1
    clear hky hsp
    go_wp2_with fail
    go_ret
    exact ⟨rfl, hE⟩
end Go.Proofs.Ytacicanjmleikaa
