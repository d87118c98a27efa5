/-
  Package commit, walked: versions, size. Written by wip/gen_qt.py.
-/
import Derived.Test.YtacicanjmleikaaQS
namespace Go.Proofs.Ytacicanjmleikaa
open Go.RowKit Go.Sort Go.Shelf
set_option linter.unusedSimpArgs false
set_option linter.unusedVariables false
set_option maxRecDepth 100000

theorem verT_len (t : Tx) : (verT t).length = t.wr.length := by simp [verT]
theorem verT_take (t : Tx) {k : Nat} (hk : k < t.wr.length) : (t.wr.take (k + 1)).map (verW t.ts) = (t.wr.take k).map (verW t.ts) ++ [verW t.ts (nthR t.wr k)] := by
  rw [take_nthR_succ hk, List.map_append]; rfl

set_option maxHeartbeats 4000000 in
theorem cversions_any (r : TxR) (t : Tx) (w : World) (h : TxL w r t) (h8 : r.wn ≤ 1000000) :
    Calls Try.prog 21 #[valT r] w fun e w' => ∃ a' c', e = .returned (.slice a' r.wn c') ∧ OwR 47 w.heap.size w' a' r.wn c' (verT t) ∧ Ext w w' := by
  obtain ⟨id, ts, ra, rn, rc, wa, wn, wc⟩ := r
  obtain ⟨id2, ts2, xr, xw⟩ := t
  obtain ⟨e1, e2, hrd, hwr⟩ := h
  simp only at e1 e2 hrd hwr h8
  subst e1 e2
  unfold valT
  have bdw := hwr.bd
  have HL := Lib.hid hwr.hlen
  have HT := Lib.hid (fun k hk => verT_take ⟨id, ts, xr, xw⟩ (k := k) hk)
  simp only at HT
  have HV : Hid (verT ⟨id, ts, xr, xw⟩ = xw.map (verW ts)) := Lib.hid rfl
  have hB := Bk.new w 66 #[.int .i64 id, .int .i64 ts, .slice ra rn rc, .slice wa wn wc]
  have hE : Ext w (w.alloc (.cells #[.int .i64 id, .int .i64 ts, .slice ra rn rc, .slice wa wn wc] 66)) := (Ext.refl w).alloc _
  go_enter Try.func21, Try.ntmps21
  go_upto_region 1 with fail
  generalize w.alloc (.cells #[.int .i64 id, .int .i64 ts, .slice ra rn rc, .slice wa wn wc] 66) = V at *
  have C1 := Lib.hid (hB.c 1 _ rfl)
  have c3 := hB.c 3 _ rfl
  clear hB
  have HSZ := Lib.hid hE.sz
  obtain ⟨tb, htb⟩ : ∃ tb, w.heap.size = tb := ⟨_, rfl⟩
  rw [htb] at C1 c3 HSZ ⊢
  go_wp2_with fail
  clear c3
  go_loopw [3, 10] (fun o i wr => ∃ (k : Nat) (a' : Option Addr) (c' : Nat), k ≤ wn ∧ o = .slice a' k c' ∧ i = .int .i64 k ∧ OwR 47 V.heap.size wr a' k c' ((xw.take k).map (verW ts)) ∧ Ext V wr) (fun _ i _ => wn - (intOf i).toNat)
  case atStart => exact ⟨0, none, 0, by omega, rfl, rfl, OwR.nil _ _ _, Ext.refl _⟩
  case round =>
    obtain ⟨k, a', c', hk, rfl, rfl, ho, hx⟩ := hrel
    by_cases hlt : k < wn
    · obtain ⟨x1, o1, rfl, hc1⟩ := hwr.at (by omega)
      have hr := rangeAt_ext (hc1 k hlt) (hE.trans hx)
      rw [sz_wr] at hr
      have HT2 := Lib.hid (HT.out k (by rw [HL.out]; exact hlt))
      clear hc1
      generalize nthR xw k = x at *
      obtain ⟨d0, d1, d2⟩ := cells_wr hr
      clear hr
      have hb := Bk.new wr 60 #[.int .i64 x.k, .int .i64 x.v, .bool x.g]
      have hE2 : Ext wr (wr.alloc (.cells #[.int .i64 x.k, .int .i64 x.v, .bool x.g] 60)) := (Ext.refl wr).alloc _
      go_upto_region 5 with fail
      replace ho := ho.ext hE2
      replace hx := hx.trans hE2
      clear hE2 d0 d1 d2
      generalize wr.alloc (.cells #[.int .i64 x.k, .int .i64 x.v, .bool x.g] 60) = V2 at *
      have c0 := hb.c 0 _ rfl
      have c1 := hb.c 1 _ rfl
      have c2 := hb.c 2 _ rfl
      have b1 := hx.cell C1.out
      have hbz := hx.sz
      go_wp2_with (at_builtin; refine appR1 (α := Vn) el_vn rfl _ _ rfl V2 V.heap.size _ _ _ _ (⟨x.k, ts, x.v, x.g⟩ : Vn) _ rfl rfl ho rfl hbz (by unfold maxLen; omega) (by omega) ?_; intro g3 c3 w4 ho3 hB3; refine hold ?_)
      refine held ?_
      go_wp2_with fail
      refine ⟨⟨k + 1, some ⟨g3, 0, none⟩, c3, by omega, rfl, by go_num, ?_, ?_⟩, by simp only [intOf]; omega⟩
      · rw [HT2.out]; exact ho3
      · exact Below.trans hx hB3
    · obtain rfl : wn = k := by omega
      go_wp2_with fail
      go_ret
      exact ⟨a', c', rfl, by rw [HV.out, ← List.take_of_length_le (l := xw) (i := wn) (by rw [HL.out]; exact Nat.le_refl _)]; exact ho.monoB (by rw [htb]; exact HSZ.out), hE.trans hx⟩

/-- A leader as it lies: three leaves, of which two are slices. -/
structure LdR where
  last : Int
  sa : Option Addr
  sn : Nat
  sc : Nat
  oa : Option Addr
  on : Nat
  oc : Nat
def valL (r : LdR) : Value := .agg #[.int .i64 r.last, .slice r.sa r.sn r.sc, .slice r.oa r.on r.oc]
structure LdL (W : World) (r : LdR) (l : Ld) : Prop where
  last : r.last = l.last
  st : Rw W r.sa r.sn r.sc l.st
  op : Txs W r.oa r.on r.oc l.op
theorem LdL.ext {W W' : World} {r : LdR} {l : Ld} (h : LdL W r l) (hx : Ext W W') : LdL W' r l := ⟨h.last, h.st.ext hx, h.op.ext hx⟩
theorem szO_take {op : List Tx} {k : Nat} (h : k < op.length) : szO (op.take (k + 1)) = szO (op.take k) + (nthT op k).wr.length := by
  rw [take_nthT_succ h, szO_app]; simp [szO]
theorem szO_le (op : List Tx) (k : Nat) : szO (op.take k) ≤ szO op := by
  conv => rhs; rw [← List.take_append_drop k op, szO_app]
  omega

set_option maxHeartbeats 4000000 in
theorem csize_any (r : LdR) (l : Ld) (w : World) (h : LdL w r l) (hz : sizeL l ≤ 1000000) :
    Calls Try.prog 31 #[valL r] w fun e w' => e = .returned (.int .i64 (sizeL l : Nat)) ∧ Ext w w' := by
  obtain ⟨last, sa, sn, sc, oa, on, oc⟩ := r
  obtain ⟨last2, st, op⟩ := l
  obtain ⟨e1, hst, hop⟩ := h
  simp only at e1 hst hop
  subst e1
  unfold valL
  have bds := hst.bd
  have bdo := hop.bd
  have HLS := Lib.hid hst.hlen
  have HLO := Lib.hid hop.hlen
  have HZ : Hid (sizeL ⟨last, st, op⟩ = sn + szO op) := Lib.hid (by unfold sizeL; rw [HLS.out])
  have HZL : Hid (sn + szO op ≤ 1000000) := Lib.hid (by rw [← HZ.out]; exact hz)
  clear hz
  have hE : Ext w (w.alloc (.cells #[.int .i64 last, .slice sa sn sc, .slice oa on oc] 36)) := (Ext.refl w).alloc _
  have hB := Bk.new w 36 #[.int .i64 last, .slice sa sn sc, .slice oa on oc]
  go_enter Try.func31, Try.ntmps31
  go_upto_region 1 with fail
  generalize w.alloc (.cells #[.int .i64 last, .slice sa sn sc, .slice oa on oc] 36) = V at *
  have c1 := hB.c 1 _ rfl
  have c2 := hB.c 2 _ rfl
  go_wp2_with fail
  clear c1 c2 hB
  go_loopw [3, 12] (fun o i wr => ∃ (k m : Nat), k ≤ on ∧ o = .int .i64 m ∧ i = .int .i64 k ∧ Hid (m = sn + szO (op.take k)) ∧ Ext V wr) (fun _ i _ => on - (intOf i).toNat)
  case atStart => exact ⟨0, sn, by omega, rfl, rfl, Lib.hid (by simp [szO]), Ext.refl _⟩
  case round =>
    obtain ⟨k, m, hk, rfl, rfl, HM, hx⟩ := hrel
    by_cases hlt : k < on
    · obtain ⟨x1, o1, rfl, hc1⟩ := hop.at (by omega)
      obtain ⟨r, hr0, htx, hok⟩ := hc1 k hlt
      have hr := rangeAt_ext hr0 (hE.trans hx)
      have HS := Lib.hid (szO_take (op := op) (k := k) (by rw [HLO.out]; exact hlt))
      have HWN := Lib.hid htx.wr.hlen
      have HB := Lib.hid (szO_le op (k + 1))
      obtain ⟨ri, rt, ra, rn, rc, wa, wn, wc⟩ := r
      obtain ⟨d0, d1, d2, d3⟩ := cells_tr hr
      simp only at d0 d1 d2 d3 HWN
      clear hr hr0 hc1 htx hok
      have hb := Bk.new wr 26 #[.int .i64 ri, .int .i64 rt, .slice ra rn rc, .slice wa wn wc]
      have hE2 : Ext wr (wr.alloc (.cells #[.int .i64 ri, .int .i64 rt, .slice ra rn rc, .slice wa wn wc] 26)) := (Ext.refl wr).alloc _
      go_upto_region 5 with fail
      replace hx := hx.trans hE2
      clear hE2 d0 d1 d2 d3
      generalize wr.alloc (.cells #[.int .i64 ri, .int .i64 rt, .slice ra rn rc, .slice wa wn wc] 26) = V2 at *
      have c3 := hb.c 3 _ rfl
      have hm : m + wn ≤ 1000000 := by have := HM.out; have := HS.out; have := HB.out; have := HZL.out; have := HWN.out; omega
      have e9 : IntKind.i64.wrap ((m : Int) + (wn : Int)) = ((m + wn : Nat) : Int) := by rw [IntKind.wrap_i64]; push_cast; omega
      go_wp2_with fail
      refine ⟨⟨k + 1, m + wn, by omega, by push_cast; rfl, by go_num, Lib.hid ?_, hx⟩, by simp only [intOf]; omega⟩
      have := HM.out; have := HS.out; have := HWN.out; omega
    · obtain rfl : on = k := by omega
      go_wp2_with fail
      go_ret
      refine ⟨?_, hE.trans hx⟩
      rw [HZ.out, HM.out, List.take_of_length_le (by rw [HLO.out]; exact Nat.le_refl _)]
      rfl
end Go.Proofs.Ytacicanjmleikaa
