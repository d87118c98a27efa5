/-
  The example of TopReads, walked. Written by wip/gen_ri.py.
-/
import Derived.Test.YtacicanjmleikaaRH
namespace Go.Proofs.Ytacicanjmleikaa
open Go.RowKit Go.Sort Go.Shelf
set_option linter.unusedSimpArgs false
set_option linter.unusedVariables false
set_option maxRecDepth 100000

theorem ex_e1 : stE (⟨0, [], []⟩ : Ld) ⟨1, 0, [], [⟨5, 7, false⟩]⟩ 10 false = 0 := by decide
theorem ex_l1 : stampL (⟨0, [], []⟩ : Ld) ⟨1, 0, [], [⟨5, 7, false⟩]⟩ 10 = (⟨10, [], [⟨1, 10, [], [⟨5, 7, false⟩]⟩]⟩ : Ld) := by rfl
theorem ex_e2 : stE (⟨10, [], [⟨1, 10, [], [⟨5, 7, false⟩]⟩]⟩ : Ld) ⟨2, 0, [], [⟨5, 8, false⟩]⟩ 20 false = 0 := by decide
theorem ex_l2 : stampL (⟨10, [], [⟨1, 10, [], [⟨5, 7, false⟩]⟩]⟩ : Ld) ⟨2, 0, [], [⟨5, 8, false⟩]⟩ 20 = (⟨20, [], [⟨1, 10, [], [⟨5, 7, false⟩]⟩, ⟨2, 20, [], [⟨5, 8, false⟩]⟩]⟩ : Ld) := by rfl
theorem ex_l3 : shownL (⟨20, [], [⟨1, 10, [], [⟨5, 7, false⟩]⟩, ⟨2, 20, [], [⟨5, 8, false⟩]⟩]⟩ : Ld) 21 = (⟨20, [⟨5, 10, 7, false⟩, ⟨5, 20, 8, false⟩], []⟩ : Ld) := by rfl
theorem ex_n : pastN (⟨20, [], [⟨1, 10, [], [⟨5, 7, false⟩]⟩, ⟨2, 20, [], [⟨5, 8, false⟩]⟩]⟩ : Ld).op 21 = 2 := by decide
theorem ex_rd : rdE (⟨20, [⟨5, 10, 7, false⟩, ⟨5, 20, 8, false⟩], []⟩ : Ld) 19 21 = true := by decide
theorem ex_v : ansV (lastV (⟨20, [⟨5, 10, 7, false⟩, ⟨5, 20, 8, false⟩], []⟩ : Ld).st 5 19) = ⟨5, 10, 7, false⟩ ∧ ansB (lastV (⟨20, [⟨5, 10, 7, false⟩, ⟨5, 20, 8, false⟩], []⟩ : Ld).st 5 19) = true := by decide
theorem ex_r : recV (⟨20, [⟨5, 10, 7, false⟩, ⟨5, 20, 8, false⟩], []⟩ : Ld).st 20 = [⟨5, 20, 8, false⟩] := by decide
theorem ex_v0 : ValL (⟨0, [], []⟩ : Ld) := validL_iff.1 (by decide)
theorem ex_v1 : ValL (⟨10, [], [⟨1, 10, [], [⟨5, 7, false⟩]⟩]⟩ : Ld) := validL_iff.1 (by decide)
theorem ex_v2 : ValL (⟨20, [], [⟨1, 10, [], [⟨5, 7, false⟩]⟩, ⟨2, 20, [], [⟨5, 8, false⟩]⟩]⟩ : Ld) := validL_iff.1 (by decide)
theorem ex_v3 : ValL (⟨20, [⟨5, 10, 7, false⟩, ⟨5, 20, 8, false⟩], []⟩ : Ld) := validL_iff.1 (by decide)
theorem rw_one {W : World} {b : Nat} {x : Wr} (h : Bk W b 60 #[.int .i64 x.k, .int .i64 x.v, .bool x.g]) (hx : x.Ok := by exact ⟨by decide, by decide⟩) : Rw W (some ⟨b, 0, none⟩) 1 1 [x] := by
  refine ⟨rfl, Nat.le_refl _, by unfold maxLen; omega, by omega, fun i hi => ⟨b, 0, rfl, ?_⟩, fun y hy => ?_⟩
  · obtain rfl : i = 0 := by omega
    intro j v hv
    rw [Nat.zero_mul]
    simp only [Nat.zero_add]
    exact h.c j v (by simpa [nthR, Cel.enc, Wr.enc] using hv)
  · rw [List.mem_singleton.1 hy]; exact hx
theorem stp_ok {l : Ld} {q : TxR} {t : Tx} {hi M : Int} {w w' : World} {e : Ending} (h : StP l q t hi w e w') (h0 : q.rn = 0) (h1 : stE l t hi false = 0) (hM : max (l.last + 1) hi = M) :
    ∃ r' a1 c1 a2 c2, e = .returned (.tuple #[.agg #[.int .i64 r'.last, .slice r'.sa r'.sn r'.sc, .slice r'.oa r'.on r'.oc], .agg #[.int .i64 q.id, .int .i64 M, .slice a1 q.rn c1, .slice a2 q.wn c2], .int .i64 0]) ∧ LdD w.heap.size w' r' (stampL l t hi) ∧ Ext w w' := by
  obtain ⟨B, hB, h⟩ := h
  rw [hB h0] at h
  rcases h with ⟨h2, _⟩ | ⟨_, r', a1, c1, a2, c2, h3, h4, _, _, h5⟩
  · exact absurd h1 h2
  · rw [hM] at h3
    exact ⟨r', a1, c1, a2, c2, h3, h4, h5⟩
theorem rd_ok {w w' : World} {e : Ending} {v1 v2 : Value} (h : (true = true ∧ e = .returned v1 ∧ Ext w w') ∨ (true = false ∧ e = .returned v2 ∧ Ext w w')) : e = .returned v1 ∧ Ext w w' := by
  rcases h with ⟨_, h⟩ | ⟨h, _⟩
  · exact h
  · cases h
theorem keep_mix {V : World} {base lb : Nat} (hl : lb < base) (o : Obj) (v0 v1 v2 u0 u1 u2 u3 : Value) : ∀ k, base ≤ k → k < V.heap.size →
    ((((((((V.alloc o).setCell ⟨lb, 0, none⟩ v0).setCell ⟨lb, 1, none⟩ v1).setCell ⟨lb, 2, none⟩ v2).setCell ⟨V.heap.size, 0, none⟩ u0).setCell ⟨V.heap.size, 1, none⟩ u1).setCell ⟨V.heap.size, 2, none⟩ u2).setCell ⟨V.heap.size, 3, none⟩ u3).heap[k]? = V.heap[k]? := fun k hk hlt => by
  rw [heap_setCell_other _ ⟨V.heap.size, 3, none⟩ k u3 (by simp only; omega), heap_setCell_other _ ⟨V.heap.size, 2, none⟩ k u2 (by simp only; omega), heap_setCell_other _ ⟨V.heap.size, 1, none⟩ k u1 (by simp only; omega), heap_setCell_other _ ⟨V.heap.size, 0, none⟩ k u0 (by simp only; omega),
    heap_setCell_other _ ⟨lb, 2, none⟩ k v2 (by simp only; omega), heap_setCell_other _ ⟨lb, 1, none⟩ k v1 (by simp only; omega), heap_setCell_other _ ⟨lb, 0, none⟩ k v0 (by simp only; omega)]
  exact ((Ext.refl V).alloc o).block k hlt
theorem txs_none {W : World} {a : Option Addr} {n c : Nat} (h : Txs W a n c []) (W' : World) : Txs W' a n c [] := by
  have hb := h.bd
  have hl := h.hlen
  simp only [List.length_nil] at hl
  subst hl
  exact ⟨[], ⟨rfl, by omega, by unfold maxLen; omega, by omega, fun i hi => absurd hi (Nat.not_lt_zero _), by simp⟩, rfl, fun i hi => absurd hi (Nat.not_lt_zero _)⟩

set_option maxHeartbeats 8000000 in
theorem store14_any (w : World) : Calls Try.prog 4 #[] w fun e w' => e = .returned (.bool true) ∧ Ext w w' := by
  have HST1 := Lib.hid (fun (b : Nat) (W : World) (hb : Bk W b 60 #[.int .i64 5, .int .i64 7, .bool false]) => cstamp_any ⟨0, none, 0, 0, none, 0, 0⟩ (⟨0, [], []⟩ : Ld) ⟨1, 0, none, 0, 0, some ⟨b, 0, none⟩, 1, 1⟩ ⟨1, 0, [], [⟨5, 7, false⟩]⟩ 5 10 W ⟨rfl, Rw.nil _, Txs.nil _⟩ ex_v0 ⟨rfl, rfl, Rw.nil _, rw_one hb⟩ (by decide) (by show (0 : Nat) ≤ _; omega) (by show (1 : Nat) ≤ _; omega))
  have HST2 := Lib.hid (fun (b : Nat) (r : LdR) (W : World) (hb : Bk W b 60 #[.int .i64 5, .int .i64 8, .bool false]) (hL : LdL W r (⟨10, [], [⟨1, 10, [], [⟨5, 7, false⟩]⟩]⟩ : Ld)) => cstamp_any r (⟨10, [], [⟨1, 10, [], [⟨5, 7, false⟩]⟩]⟩ : Ld) ⟨2, 0, none, 0, 0, some ⟨b, 0, none⟩, 1, 1⟩ ⟨2, 0, [], [⟨5, 8, false⟩]⟩ 15 20 W hL ex_v1 ⟨rfl, rfl, Rw.nil _, rw_one hb⟩ (by decide) (by show (0 : Nat) ≤ _; omega) (by show (1 : Nat) ≤ _; omega))
  have HSH := Lib.hid (fun (r : LdR) (W : World) (hL : LdL W r (⟨20, [], [⟨1, 10, [], [⟨5, 7, false⟩]⟩, ⟨2, 20, [], [⟨5, 8, false⟩]⟩]⟩ : Ld)) => cshow_any r (⟨20, [], [⟨1, 10, [], [⟨5, 7, false⟩]⟩, ⟨2, 20, [], [⟨5, 8, false⟩]⟩]⟩ : Ld) 21 30 W hL ex_v2 (by decide))
  have HRD := Lib.hid (fun (r : LdR) (W : World) (hL : LdL W r (⟨20, [⟨5, 10, 7, false⟩, ⟨5, 20, 8, false⟩], []⟩ : Ld)) => cread_any r (⟨20, [⟨5, 10, 7, false⟩, ⟨5, 20, 8, false⟩], []⟩ : Ld) 5 19 21 30 W hL ex_v3 (by decide) (by decide) (by decide))
  have HRC := Lib.hid (fun (a : Option Addr) (n c : Nat) (W : World) (h : Rw W a n c (⟨20, [⟨5, 10, 7, false⟩, ⟨5, 20, 8, false⟩], []⟩ : Ld).st) => reclaim_any a n c (⟨20, [⟨5, 10, 7, false⟩, ⟨5, 20, 8, false⟩], []⟩ : Ld).st 20 W h ex_v3.st (by decide))
  go_enter Try.func4, Try.ntmps4
  go_upto_region 1 with fail
  have hb1 := Bk.new w 60 #[.int .i64 5, .int .i64 7, .bool false]
  have hE : Ext w (w.alloc (.cells #[.int .i64 5, .int .i64 7, .bool false] 60)) := (Ext.refl w).alloc _
  unfold valL valT at HST1
  go_wp2_with (go_at_call 11; refine (HST1.out _ _ hb1).mono ?_; intro e V1 hsp; obtain ⟨r1, a1, c1, a2, c2, rfl, hD1, hx⟩ := stp_ok (M := 10) hsp rfl ex_e1 rfl; refine hold ?_)
  refine held ?_
  rw [ex_l1] at hD1
  obtain ⟨last1, sa1, sn1, sc1, oa1, on1, oc1⟩ := r1
  replace hE := hE.trans hx
  have HE1 := Lib.hid hE.sz
  clear hx hb1 HST1
  have hM1 := (Bk.new V1 36 #[.int .i64 last1, .slice sa1 sn1 sc1, .slice oa1 on1 oc1]).ext ((Ext.refl _).alloc (.cells #[.int .i64 1, .int .i64 10, .slice a1 0 c1, .slice a2 1 c2] 26))
  have hT1 := Bk.new (V1.alloc (.cells #[.int .i64 last1, .slice sa1 sn1 sc1, .slice oa1 on1 oc1] 36)) 26 #[.int .i64 1, .int .i64 10, .slice a1 0 c1, .slice a2 1 c2]
  have hx : Ext V1 ((V1.alloc (.cells #[.int .i64 last1, .slice sa1 sn1 sc1, .slice oa1 on1 oc1] 36)).alloc (.cells #[.int .i64 1, .int .i64 10, .slice a1 0 c1, .slice a2 1 c2] 26)) := ((Ext.refl V1).alloc _).alloc _
  simp only [World.size_alloc] at hT1
  go_upto_region 2 with fail
  replace hE := hE.trans hx
  replace hD1 := hD1.ext hx
  clear hx
  generalize (V1.alloc (.cells #[.int .i64 last1, .slice sa1 sn1 sc1, .slice oa1 on1 oc1] 36)).alloc (.cells #[.int .i64 1, .int .i64 10, .slice a1 0 c1, .slice a2 1 c2] 26) = V2 at *
  have hlw : w.heap.size ≤ V1.heap.size := HE1.out
  obtain ⟨lb, hlb⟩ : ∃ lb, V1.heap.size = lb := ⟨_, rfl⟩
  obtain ⟨tb, htb⟩ : ∃ tb, V1.heap.size + 1 = tb := ⟨_, rfl⟩
  have hne : lb ≠ tb := by omega
  rw [htb] at hT1 ⊢
  rw [hlb] at hM1 hlw ⊢
  clear hlb htb
  have hb2 := Bk.new V2 60 #[.int .i64 5, .int .i64 8, .bool false]
  have hx : Ext V2 (V2.alloc (.cells #[.int .i64 5, .int .i64 8, .bool false] 60)) := (Ext.refl V2).alloc _
  have HS2 := Lib.hid (HST2.out _ _ _ hb2 ((hD1.ext hx).ldL ex_v1))
  have hE2 := hE.trans hx
  have hM2 := hM1.ext hx
  have hT2 := hT1.ext hx
  have k0 := hM1.c 0 _ rfl
  have k1 := hM1.c 1 _ rfl
  have k2 := hM1.c 2 _ rfl
  unfold valL valT at HS2
  go_wp2_with (go_at_call 11; refine HS2.out.mono ?_; intro e V3 hsp; obtain ⟨r2, b1, d1, b2, d2, rfl, hD2, hx3⟩ := stp_ok (M := 20) hsp rfl ex_e2 rfl; refine hold ?_)
  refine held ?_
  rw [ex_l2] at hD2
  obtain ⟨last2, sa2, sn2, sc2, oa2, on2, oc2⟩ := r2
  clear k0 k1 k2 HS2 hb2 HST2 hD1 hE hM1 hT1
  have hlB : lb < (V2.alloc (.cells #[.int .i64 5, .int .i64 8, .bool false] 60)).heap.size := hM2.lt
  have hM := hM2.ext hx3
  have hT := hT2.ext hx3
  have hE := hE2.trans hx3
  clear hM2 hT2 hE2 hx hx3
  have hxa : Ext V3 (V3.alloc (.cells #[.int .i64 0, .int .i64 0, .slice none 0 0, .slice none 0 0] 26)) := (Ext.refl V3).alloc _
  have hMa := hM.ext hxa
  have k0 := hMa.c 0 _ rfl
  have k1 := hMa.c 1 _ rfl
  have k2 := hMa.c 2 _ rfl
  have hf := hMa.free
  have hQ := Bk.new V3 26 #[.int .i64 0, .int .i64 0, .slice none 0 0, .slice none 0 0]
  have n0 := hQ.c 0 _ rfl
  have n1 := hQ.c 1 _ rfl
  have n2 := hQ.c 2 _ rfl
  have n3 := hQ.c 3 _ rfl
  have hfn := hQ.free
  have hn1 : ¬ (V3.heap.size = lb) := by have := hM.lt; omega
  have hn2 : ¬ (lb = V3.heap.size) := fun e => hn1 e.symm
  go_upto_region 3 with fail
  have hwn : w.heap.size ≤ V3.heap.size := hE.sz
  have hL2 := (hD2.keep (keep_mix hlB (.cells #[.int .i64 0, .int .i64 0, .slice none 0 0, .slice none 0 0] 26) (.int .i64 last2) (.slice sa2 sn2 sc2) (.slice oa2 on2 oc2) (.int .i64 2) (.int .i64 20) (.slice b1 0 d1) (.slice b2 1 d2))).ldL ex_v2
  replace hM := (hMa.set3 (.int .i64 last2) (.slice sa2 sn2 sc2) (.slice oa2 on2 oc2)).other4 hn1 (.int .i64 2) (.int .i64 20) (.slice b1 0 d1) (.slice b2 1 d2)
  have hnt : V3.heap.size ≠ tb := by have := hT.lt; omega
  replace hT := ((hT.ext hxa).other3 hne (.int .i64 last2) (.slice sa2 sn2 sc2) (.slice oa2 on2 oc2)).other4 hnt (.int .i64 2) (.int .i64 20) (.slice b1 0 d1) (.slice b2 1 d2)
  have hN := (hQ.other3 hn2 (.int .i64 last2) (.slice sa2 sn2 sc2) (.slice oa2 on2 oc2)).set4 (.int .i64 2) (.int .i64 20) (.slice b1 0 d1) (.slice b2 1 d2)
  replace hE := ((hE.trans hxa).set3 hlw (.int .i64 last2) (.slice sa2 sn2 sc2) (.slice oa2 on2 oc2)).set4 hwn (.int .i64 2) (.int .i64 20) (.slice b1 0 d1) (.slice b2 1 d2)
  generalize ((((((((V3.alloc (.cells #[.int .i64 0, .int .i64 0, .slice none 0 0, .slice none 0 0] 26)).setCell ⟨lb, 0, none⟩ (.int .i64 last2)).setCell ⟨lb, 1, none⟩ (.slice sa2 sn2 sc2)).setCell ⟨lb, 2, none⟩ (.slice oa2 on2 oc2)).setCell ⟨V3.heap.size, 0, none⟩ (.int .i64 2)).setCell ⟨V3.heap.size, 1, none⟩ (.int .i64 20)).setCell ⟨V3.heap.size, 2, none⟩ (.slice b1 0 d1)).setCell ⟨V3.heap.size, 3, none⟩ (.slice b2 1 d2)) = V4 at *
  clear k0 k1 k2 n0 n1 n2 n3 hf hfn hxa hMa hQ hD2 hlB hwn
  obtain ⟨nb, hnb⟩ : ∃ nb, V3.heap.size = nb := ⟨_, rfl⟩
  rw [hnb] at hN hn1 hn2 hnt ⊢
  clear hnb
  have k0 := hM.c 0 _ rfl
  have k1 := hM.c 1 _ rfl
  have k2 := hM.c 2 _ rfl
  have HS3 := Lib.hid (HSH.out _ _ hL2)
  rw [ex_l3, ex_n] at HS3
  unfold valL at HS3
  clear HSH hL2
  go_wp2_with (go_at_call 9; refine HS3.out.mono ?_; rintro e V5 ⟨r3, a3, c3, rfl, hL3, hx⟩; refine hold ?_)
  refine held ?_
  obtain ⟨last3, sa3, sn3, sc3, oa3, on3, oc3⟩ := r3
  clear k0 k1 k2 HS3
  replace hM := hM.ext hx
  replace hT := hT.ext hx
  replace hN := hN.ext hx
  replace hE := hE.trans hx
  clear hx
  have k0 := hM.c 0 _ rfl
  have k1 := hM.c 1 _ rfl
  have k2 := hM.c 2 _ rfl
  have hf := hM.free
  go_upto_region 4 with fail
  have hL4 : LdL (((V5.setCell ⟨lb, 0, none⟩ (.int .i64 last3)).setCell ⟨lb, 1, none⟩ (.slice sa3 sn3 sc3)).setCell ⟨lb, 2, none⟩ (.slice oa3 on3 oc3)) ⟨last3, sa3, sn3, sc3, oa3, on3, oc3⟩ (⟨20, [⟨5, 10, 7, false⟩, ⟨5, 20, 8, false⟩], []⟩ : Ld) := ⟨hL3.last, Rw.set3V hM hL3.st, txs_none hL3.op _⟩
  replace hM := hM.set3 (.int .i64 last3) (.slice sa3 sn3 sc3) (.slice oa3 on3 oc3)
  replace hT := hT.other3 hne (.int .i64 last3) (.slice sa3 sn3 sc3) (.slice oa3 on3 oc3)
  replace hN := hN.other3 hn2 (.int .i64 last3) (.slice sa3 sn3 sc3) (.slice oa3 on3 oc3)
  replace hE := hE.set3 hlw (.int .i64 last3) (.slice sa3 sn3 sc3) (.slice oa3 on3 oc3)
  generalize ((V5.setCell ⟨lb, 0, none⟩ (.int .i64 last3)).setCell ⟨lb, 1, none⟩ (.slice sa3 sn3 sc3)).setCell ⟨lb, 2, none⟩ (.slice oa3 on3 oc3) = V6 at *
  clear k0 k1 k2 hf hL3
  have k0 := hM.c 0 _ rfl
  have k1 := hM.c 1 _ rfl
  have k2 := hM.c 2 _ rfl
  have HR4 := Lib.hid (HRD.out _ _ hL4)
  rw [ex_rd, ex_v.1, ex_v.2] at HR4
  unfold valL valV at HR4
  clear HRD
  go_wp2_with (go_at_call 10; refine HR4.out.mono ?_; intro e V7 hq; obtain ⟨rfl, hx⟩ := rd_ok hq; refine hold ?_)
  refine held ?_
  clear k0 k1 k2 HR4
  replace hL4 := hL4.ext hx
  replace hM := hM.ext hx
  replace hT := hT.ext hx
  replace hN := hN.ext hx
  replace hE := hE.trans hx
  clear hx
  have hY := Bk.new V7 47 #[.int .i64 5, .int .i64 10, .int .i64 7, .bool false]
  have hx : Ext V7 (V7.alloc (.cells #[.int .i64 5, .int .i64 10, .int .i64 7, .bool false] 47)) := (Ext.refl V7).alloc _
  go_upto_region 5 with fail
  replace hL4 := hL4.ext hx
  replace hM := hM.ext hx
  replace hT := hT.ext hx
  replace hN := hN.ext hx
  replace hE := hE.trans hx
  clear hx
  generalize V7.alloc (.cells #[.int .i64 5, .int .i64 10, .int .i64 7, .bool false] 47) = V8 at *
  obtain ⟨yb, hyb⟩ : ∃ yb, V7.heap.size = yb := ⟨_, rfl⟩
  rw [hyb] at hY ⊢
  clear hyb
  have k1 := hM.c 1 _ rfl
  have HR5 := Lib.hid (HRC.out _ _ _ _ hL4.st)
  rw [ex_r] at HR5
  clear HRC
  simp only at HR5
  go_wp2_with (go_at_call 13; refine HR5.out.mono ?_; rintro e V9 ⟨a5, m5, c5, rfl, ho5, hx⟩; refine hold ?_)
  refine held ?_
  clear k1 HR5
  have hm5 := ho5.1
  simp only [List.length_cons, List.length_nil] at hm5
  subst hm5
  obtain ⟨g5, hg5⟩ : ∃ g, a5 = some ⟨g, 0, none⟩ := by
    rcases ho5.headAt with ⟨_, h, _⟩ | ⟨g, h, _⟩
    · omega
    · exact ⟨g, h⟩
  subst hg5
  obtain ⟨p0, p1, p2, p3⟩ := ho5.cells4 (i := 0) ⟨fun x hx => by rw [List.mem_singleton.1 hx]; exact ⟨by decide, by decide, by decide⟩, by omega⟩ (by omega)
  simp only [nthR, List.getD_cons_zero, Nat.zero_mul, Nat.zero_add] at p0 p1 p2 p3
  have t1 := (hT.ext hx).c 1 _ rfl
  have n1 := (hN.ext hx).c 1 _ rfl
  have y2 := (hY.ext hx).c 2 _ rfl
  replace hE := hE.trans hx
  clear hx ho5 hT hN hM hY hL4
  go_wp2_with fail
  go_ret
  exact ⟨rfl, hE⟩
end Go.Proofs.Ytacicanjmleikaa
