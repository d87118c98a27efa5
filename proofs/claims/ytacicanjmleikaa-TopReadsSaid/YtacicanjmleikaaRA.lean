/-
  newest of package commit, walked. Written by wip/gen_ra.py.
-/
import Derived.Test.YtacicanjmleikaaQZ
import Derived.Maps.Own
import Derived.Maps.OwnOps
namespace Go.Proofs.Ytacicanjmleikaa
open Go.RowKit Go.Sort Go.Shelf Go.Maps
set_option linter.unusedSimpArgs false
set_option linter.unusedVariables false
set_option maxRecDepth 100000

theorem mlaw : Keyed Try.prog 3 := int_keyed Try.underlying3
theorem mzero (w : World) : (zeroValue 3).run Try.prog w = .ok (.int .i64 0) w := by kernel_rfl
/-- Block b is a map of integers, of at most n keys. -/
def IsM (W : World) (b n : Nat) : Prop := ∃ D, W.ownsMap (H := Unit) Try.prog 3 (plainElem Try.prog 3) b n D
theorem gby_ext {W W' : World} (h : Ext W W') : W.grownBy W' none := ⟨h.os, h.tape, h.output, h.size, fun k hk _ => h.block k hk⟩
theorem IsM.ext {W W' : World} {b n : Nat} (h : IsM W b n) (hx : Ext W W') : IsM W' b n := let ⟨D, hd⟩ := h; ⟨D, hd.kept (gby_ext hx) (by simp)⟩
theorem IsM.mono {W : World} {b n n' : Nat} (h : IsM W b n) (hn : n ≤ n') : IsM W b n' := let ⟨D, hd⟩ := h; ⟨D, hd.mono hn⟩
theorem ext_map {V W W' : World} {b : Nat} (h : Ext V W) (hg : W.grownBy W' (some b)) (hb : V.heap.size ≤ b) : Ext V W' := Below.grown h hg h.size (fun k e => by cases e; exact hb)

set_option maxHeartbeats 8000000 in
theorem cnewest_any (r : LdR) (l : Ld) (w : World) (h : LdL w r l) (hv : ValL l) :
    Calls Try.prog 28 #[valL r] w fun e w' => ∃ b, e = .returned (.map (some b)) ∧ IsM w' b 100000 ∧ Ext w w' := by
  have HN8 := Lib.hid (fun (k : Nat) (hk : k < l.op.length) => (formT (hv.good.form _ (nthT_mem hk))).nw)
  have hsn4 : r.sn ≤ 4000 := by rw [← h.st.hlen]; exact (validV_iff.1 hv.st).2.2
  have hon4 : r.on ≤ 2000 := by rw [← h.op.hlen]; exact hv.nop
  obtain ⟨last, sa, sn, sc, oa, on, oc⟩ := r
  obtain ⟨last2, st, op⟩ := l
  obtain ⟨e1, hst, hop⟩ := h
  simp only at e1 hst hop HN8 hsn4 hon4
  subst e1
  unfold valL
  have bds := hst.bd
  have bdo := hop.bd
  have HLO := Lib.hid hop.hlen
  clear hv
  have hmm := @run_makeMap Try.prog
  have hE : Ext w (w.alloc (.cells #[.int .i64 last, .slice sa sn sc, .slice oa on oc] 36)) := (Ext.refl w).alloc _
  have hB := Bk.new w 36 #[.int .i64 last, .slice sa sn sc, .slice oa on oc]
  go_enter Try.func28, Try.ntmps28
  go_upto_region 1 with fail
  generalize w.alloc (.cells #[.int .i64 last, .slice sa sn sc, .slice oa on oc] 36) = V at *
  have HM0 : Hid (IsM (V.alloc (.map #[] 0)) V.heap.size 0) := Lib.hid ⟨_, World.ownsMap_made _ _ _ _⟩
  have hxm : Ext V (V.alloc (.map #[] 0)) := (Ext.refl V).alloc _
  go_upto_region 2 with fail
  generalize V.alloc (.map #[] 0) = V2 at *
  have C2 := Lib.hid (hB.c 2 _ rfl)
  have c1 := (hB.ext hxm).c 1 _ rfl
  clear hB hmm
  go_wp2_with fail
  clear c1
  go_loopw [14] (fun i wr => ∃ (k : Nat), k ≤ sn ∧ i = .int .i64 k ∧ Hid (IsM wr V.heap.size k) ∧ Ext V wr) (fun i _ => sn - (intOf i).toNat)
  case atStart => exact ⟨0, by omega, rfl, HM0, hxm⟩
  case round =>
    obtain ⟨k, hk, rfl, HM, hx⟩ := hrel
    by_cases hlt : k < sn
    · obtain ⟨x1, o1, rfl, hc1⟩ := hst.at (by omega)
      have hr := rangeAt_ext (hc1 k hlt) (hE.trans hx)
      have HOKX := Lib.hid (hst.wfAt hlt)
      rw [sz_vn] at hr
      clear hc1
      generalize nthR st k = x at *
      have hkw : (Lit.int .i64 x.k).wf = true := HOKX.out.k
      have htw : (Lit.int .i64 x.t).wf = true := HOKX.out.t
      obtain ⟨d0, d1, d2, d3⟩ := cells_vn hr
      clear hr
      have hb := Bk.new wr 47 #[.int .i64 x.k, .int .i64 x.t, .int .i64 x.v, .bool x.g]
      have hE2 : Ext wr (wr.alloc (.cells #[.int .i64 x.k, .int .i64 x.t, .int .i64 x.v, .bool x.g] 47)) := (Ext.refl wr).alloc _
      have HM2 := Lib.hid (HM.out.ext hE2)
      go_upto_region 5 with fail
      replace hx := hx.trans hE2
      clear hE2 d0 d1 d2 d3
      generalize wr.alloc (.cells #[.int .i64 x.k, .int .i64 x.t, .int .i64 x.v, .bool x.g] 47) = V3 at *
      have b0 := hb.c 0 _ rfl
      have b1 := hb.c 1 _ rfl
      obtain ⟨D, hown⟩ := HM2.out
      have HOW := Lib.hid hown
      have hn9 : k < maxLen := by unfold maxLen; omega
      clear hown
      go_wp2_with (at_lookup; refine wpList_lookup_own_int _ rfl _ _ 73 rfl 3 3 .i64 mlaw Try.underlying73 Try.underlying3 (mzero _) V.heap.size _ _ rfl HOW.out _ _ rfl (keyOf_int_mk Try.underlying3 hkw) ?_; intro c hat hwc; clear hat)
      all_goals
        first
          | (obtain ⟨w1, hrun, hown1, hgrow1⟩ := HOW.out.update mlaw Try.underlying73 hn9 (keyOf_int_mk Try.underlying3 hkw) (plainElem_int Try.underlying3 htw); rw [hrun])
          | (obtain ⟨w1, hrun, hown1, hgrow1⟩ := HOW.out.update mlaw Try.underlying73 hn9 (keyOf_int_mk Try.underlying3 hkw) (plainElem_int Try.underlying3 hwc); rw [hrun])
        clear hrun
        go_wp2_with fail
        exact ⟨⟨k + 1, by omega, by go_num, Lib.hid ⟨_, hown1⟩, ext_map hx hgrow1 (Nat.le_refl _)⟩, by simp only [intOf]; omega⟩
    · obtain rfl : sn = k := by omega
      have c2 := hx.cell C2.out
      have hx9 := hx
      have HM9 := Lib.hid (HM.out)
      clear hx HM
      go_wp2_with fail
      clear c2
      go_loopw [32] (fun i wr => ∃ (k : Nat), k ≤ on ∧ i = .int .i64 k ∧ Hid (IsM wr V.heap.size (sn + 8 * k)) ∧ Ext V wr) (fun i _ => on - (intOf i).toNat)
      case atStart => exact ⟨0, by omega, rfl, HM9, hx9⟩
      case round =>
        clear hx9 HM9
        obtain ⟨k, hk, rfl, HM, hx⟩ := hrel
        by_cases hlt : k < on
        · obtain ⟨x1, o1, rfl, hc1⟩ := hop.at (by omega)
          obtain ⟨r, hr0, htx, hok⟩ := hc1 k hlt
          have hr := rangeAt_ext hr0 (hE.trans hx)
          have h8 := HN8.out k (by rw [HLO.out]; exact hlt)
          rw [htx.wr.hlen] at h8
          have htw : (Lit.int .i64 r.ts).wf = true := hok.ts
          have HW := Lib.hid htx.wr
          clear hr0 hc1 htx hok
          generalize (nthT op k).wr = xw at *
          obtain ⟨ri, rt, ra, rn, rc, wa, wn, wc⟩ := r
          obtain ⟨d0, d1, d2, d3⟩ := cells_tr hr
          simp only at d0 d1 d2 d3 h8 htw HW
          clear hr
          have hb := Bk.new wr 26 #[.int .i64 ri, .int .i64 rt, .slice ra rn rc, .slice wa wn wc]
          have hE2 : Ext wr (wr.alloc (.cells #[.int .i64 ri, .int .i64 rt, .slice ra rn rc, .slice wa wn wc] 26)) := (Ext.refl wr).alloc _
          have HM2 := Lib.hid (HM.out.ext hE2)
          go_upto_region 10 with fail
          replace hx := hx.trans hE2
          clear hE2 d0 d1 d2 d3 HM
          generalize wr.alloc (.cells #[.int .i64 ri, .int .i64 rt, .slice ra rn rc, .slice wa wn wc] 26) = V3 at *
          have B1 := Lib.hid (hb.c 1 _ rfl)
          have HMB := Lib.hid hb
          have b3 := hb.c 3 _ rfl
          have hx7 := hx
          have hw7 := hE.trans hx
          clear hb
          generalize wr.heap.size = zb at *
          go_wp2_with fail
          clear b3 hx
          go_loopw [39] (fun i wr => ∃ (j : Nat), j ≤ wn ∧ i = .int .i64 j ∧ Hid (IsM wr V.heap.size (sn + 8 * k + j)) ∧ Ext V wr ∧ wr.cell? ⟨zb, 1, none⟩ = some (.int .i64 rt) ∧ zb < wr.heap.size ∧ Hid (Rw wr wa wn wc xw)) (fun i _ => wn - (intOf i).toNat)
          case atStart => exact ⟨0, by omega, rfl, HM2, hx7, B1.out, HMB.out.lt, Lib.hid (HW.out.ext hw7)⟩
          case round =>
            clear hx7 hw7 HM2
            obtain ⟨j, hj, rfl, HMJ, hx, b1, hzb, HRW⟩ := hrel
            by_cases hlt2 : j < wn
            · have HWJ := Lib.hid (HRW.out.wfAt hlt2)
              obtain ⟨x6, o6, rfl, hc6⟩ := HRW.out.at (by omega)
              have hr6 := hc6 j hlt2
              rw [sz_wr] at hr6
              clear hc6
              generalize nthR xw j = u at *
              obtain ⟨d0, d1, d2⟩ := cells_wr hr6
              have hkw : (Lit.int .i64 u.k).wf = true := HWJ.out.k
              clear hr6
              have hb := Bk.new wr 60 #[.int .i64 u.k, .int .i64 u.v, .bool u.g]
              have hE2 : Ext wr (wr.alloc (.cells #[.int .i64 u.k, .int .i64 u.v, .bool u.g] 60)) := (Ext.refl wr).alloc _
              have HM3 := Lib.hid (HMJ.out.ext hE2)
              have HRW3 := Lib.hid (HRW.out.ext hE2)
              go_upto_region 13 with fail
              replace hx := hx.trans hE2
              replace b1 := hE2.cell b1
              have hzb3 : zb < (wr.alloc (.cells #[.int .i64 u.k, .int .i64 u.v, .bool u.g] 60)).heap.size := by simp; omega
              clear hE2 d0 d1 d2 hzb
              generalize wr.alloc (.cells #[.int .i64 u.k, .int .i64 u.v, .bool u.g] 60) = V4 at *
              have u0 := hb.c 0 _ rfl
              obtain ⟨D, hown⟩ := HM3.out
              have HOW := Lib.hid hown
              have hn9 : sn + 8 * k + j < maxLen := by unfold maxLen; omega
              obtain ⟨w1, hrun, hown1, hgrow1⟩ := HOW.out.update mlaw Try.underlying73 hn9 (keyOf_int_mk Try.underlying3 hkw) (plainElem_int Try.underlying3 htw)
              have HG := Lib.hid hgrow1
              have HO1 := Lib.hid hown1
              clear hown hown1 hgrow1
              go_wp2_with fail
              have hne : zb ≠ V.heap.size := fun e => by
                obtain ⟨es, cl, hm, _⟩ := HOW.out
                subst e
                simp [World.cell?, hm] at b1
              refine ⟨⟨j + 1, by omega, by go_num, Lib.hid ⟨_, HO1.out⟩, ext_map hx HG.out (Nat.le_refl _), ?_, Nat.lt_of_lt_of_le hzb3 HG.out.size, Lib.hid ?_⟩, by simp only [intOf]; omega⟩
              · have hbk := HG.out.block zb hzb3 (by simp; exact hne)
                unfold World.cell? at b1 ⊢
                rw [hbk]; exact b1
              · refine HRW3.out.below (fun b off ha h0 => HG.out.block b (HRW3.out.lt ha h0) ?_)
                intro e
                replace e := Option.some.inj e
                obtain ⟨es, cl, hm, _⟩ := HOW.out
                obtain ⟨b', off', he, hc⟩ := HRW3.out.cells 0 h0
                rw [ha] at he
                simp only [Option.some.injEq, Addr.mk.injEq, and_true] at he
                obtain ⟨rfl, rfl⟩ := he
                have d0 := (cells_wr hc).1
                subst e
                simp [World.cell?, hm] at d0
            · obtain rfl : wn = j := by omega
              go_wp2_with fail
              exact ⟨⟨k + 1, by omega, by go_num, Lib.hid (HMJ.out.mono (by omega)), hx⟩, by simp only [intOf]; omega⟩
        · obtain rfl : on = k := by omega
          go_wp2_with fail
          go_ret
          exact ⟨_, rfl, HM.out.mono (by omega), hE.trans hx⟩
end Go.Proofs.Ytacicanjmleikaa
