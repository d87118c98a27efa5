/-
  Package commit, walked: Valid. Written by wip/gen_qw.py.
-/
import Derived.Test.YtacicanjmleikaaQV
namespace Go.Proofs.Ytacicanjmleikaa
open Go.RowKit Go.Sort Go.Shelf
set_option linter.unusedSimpArgs false
set_option linter.unusedVariables false
set_option maxRecDepth 100000

theorem validL_facts {l : Ld} (h : ValL l) : validV l.st = true ∧ inT l.last 0 3000000000000000 = true ∧ l.op.length ≤ 2000 ∧ sizeL l ≤ 4000 ∧ (∀ i, i < l.op.length → formB (nthT l.op i) = true ∧ lastO (maxS l.st) l.op i < (nthT l.op i).ts) ∧ lastO (maxS l.st) l.op l.op.length ≤ l.last := by
  have h2 := validL_iff.2 h
  simp only [validL, Bool.and_eq_true, all_rangeQ, decide_eq_true_iff, stepO] at h2
  exact ⟨h2.1, h2.2.1, h2.2.2.1, h2.2.2.2.1, h2.2.2.2.2.1, h2.2.2.2.2.2⟩
theorem lastO_succ (m : Int) (op : List Tx) (k : Nat) : lastO m op (k + 1) = (nthT op k).ts := by unfold lastO; rw [if_neg (by omega), Nat.add_sub_cancel]
theorem maxS_take {l : List Vn} {k : Nat} (h : k < l.length) : maxS (l.take (k + 1)) = max (maxS (l.take k)) (nthR l k).t := by rw [take_nthR_succ h, maxS_snoc]

set_option maxHeartbeats 8000000 in
theorem cvalid_any (r : LdR) (l : Ld) (w : World) (h : LdL w r l) (hv : ValL l) :
    Calls Try.prog 17 #[valL r] w fun e w' => e = .returned (.bool true) ∧ Ext w w' := by
  obtain ⟨g1, g2, g3, g4, g5, g6⟩ := validL_facts hv
  have HSI := Lib.hid (fun (V : World) (hx : Ext w V) => csize_any r l V (h.ext hx) (by omega))
  obtain ⟨last, sa, sn, sc, oa, on, oc⟩ := r
  obtain ⟨last2, st, op⟩ := l
  obtain ⟨e1, hst, hop⟩ := h
  simp only at e1 hst hop g1 g2 g3 g5 g6
  subst e1
  unfold valL at *
  simp only at HSI
  have bds := hst.bd
  have bdo := hop.bd
  have HLS := Lib.hid hst.hlen
  have HLO := Lib.hid hop.hlen
  have hva := fun (V : World) (hx : Ext w V) => vvalid_any sa sn sc st V (hst.ext hx)
  rw [g1] at hva
  have HVA := Lib.hid hva
  have hbt := fun V => cbetween_any last 0 3000000000000000 V
  rw [g2] at hbt
  have HBT := Lib.hid hbt
  have hfo := fun (i : Nat) (hi : i < op.length) (r : TxR) (V : World) (ht : TxL V r (nthT op i)) => formed_any r (nthT op i) V ht
  have HFO := Lib.hid hfo
  have HG5 := Lib.hid g5
  have HG6 := Lib.hid g6
  have hon : decide ((2000 : Int) < (on : Int)) = false := by have := HLO.out; simp; omega
  have hon2 : ¬ ((2000 : Int) < (on : Int)) := by have := HLO.out; omega
  generalize sizeL ⟨last, st, op⟩ = Z at *
  have hz1 : decide ((4000 : Int) < (Z : Int)) = false := by simp; omega
  have hz2 : ¬ ((4000 : Int) < (Z : Int)) := by omega
  have hz3 : ¬ (4000 < Z) := by omega
  have hon3 : ¬ (2000 < on) := by have := HLO.out; omega
  clear hva hbt hfo g1 g2 g5 g6 hv g3 g4
  have hE : Ext w (w.alloc (.cells #[.int .i64 last, .slice sa sn sc, .slice oa on oc] 36)) := (Ext.refl w).alloc _
  have hB := Bk.new w 36 #[.int .i64 last, .slice sa sn sc, .slice oa on oc]
  go_enter Try.func17, Try.ntmps17
  go_upto_region 1 with fail
  generalize w.alloc (.cells #[.int .i64 last, .slice sa sn sc, .slice oa on oc] 36) = V at *
  obtain ⟨tb, htb⟩ : ∃ tb, w.heap.size = tb := ⟨_, rfl⟩
  rw [htb] at hB ⊢
  have c0 := hB.c 0 _ rfl
  have c1 := hB.c 1 _ rfl
  have c2 := hB.c 2 _ rfl
  go_wp2_with (go_at_call 33; refine (HVA.out V hE).mono ?_; rintro e V1 ⟨rfl, hx⟩; refine hold ?_)
  refine held ?_
  replace hB := hB.ext hx
  replace hE := hE.trans hx
  clear hx c0 c1 c2
  have c0 := hB.c 0 _ rfl
  have c1 := hB.c 1 _ rfl
  have c2 := hB.c 2 _ rfl
  go_wp2_with ((first | (go_at_call 24; refine (HBT.out _).mono ?_; rintro _ _ ⟨rfl, rfl⟩) | (go_at_call 31; refine (HSI.out _ hE).mono ?_; rintro e V2 ⟨rfl, hx⟩; refine hold ?_)))
  refine held ?_
  replace hB := hB.ext hx
  replace hE := hE.trans hx
  clear hx c0 c1 c2
  have C0 := Lib.hid (hB.c 0 _ rfl)
  have C2 := Lib.hid (hB.c 2 _ rfl)
  have c1 := hB.c 1 _ rfl
  clear hB
  go_wp2_with fail
  clear c1 hz1 hz2 hz3 hon hon2 hon3
  go_loopw [3, 32] (fun o i wr => ∃ (k : Nat) (m : Int), k ≤ sn ∧ o = .int .i64 m ∧ i = .int .i64 k ∧ Hid (m = maxS (st.take k)) ∧ Ext V2 wr) (fun _ i _ => sn - (intOf i).toNat)
  case atStart => exact ⟨0, 0, by omega, rfl, rfl, Lib.hid (by simp [maxS]), Ext.refl _⟩
  case round =>
    obtain ⟨k, m, hk, rfl, rfl, HM, hx⟩ := hrel
    by_cases hlt : k < sn
    · obtain ⟨x1, o1, rfl, hc1⟩ := hst.at (by omega)
      have hr := rangeAt_ext (hc1 k hlt) (hE.trans hx)
      rw [sz_vn] at hr
      have HS := Lib.hid (maxS_take (l := st) (k := k) (by rw [HLS.out]; exact hlt))
      clear hc1
      generalize nthR st k = x at *
      obtain ⟨d0, d1, d2, d3⟩ := cells_vn hr
      clear hr
      have hb := Bk.new wr 47 #[.int .i64 x.k, .int .i64 x.t, .int .i64 x.v, .bool x.g]
      have hE2 : Ext wr (wr.alloc (.cells #[.int .i64 x.k, .int .i64 x.t, .int .i64 x.v, .bool x.g] 47)) := (Ext.refl wr).alloc _
      go_upto_region 7 with fail
      replace hx := hx.trans hE2
      clear hE2 d0 d1 d2 d3
      generalize wr.alloc (.cells #[.int .i64 x.k, .int .i64 x.t, .int .i64 x.v, .bool x.g] 47) = V3 at *
      have b1 := hb.c 1 _ rfl
      go_wp2_with fail
      all_goals
        refine ⟨⟨k + 1, _, by omega, rfl, by go_num, Lib.hid (by rw [HS.out, ← HM.out]; omega), hx⟩, by simp only [intOf]; omega⟩
    · obtain rfl : sn = k := by omega
      have HMX : Hid (m = maxS st) := Lib.hid (by rw [HM.out, List.take_of_length_le (by rw [HLS.out]; exact Nat.le_refl _)])
      have c2 := hx.cell C2.out
      have hx9 := hx
      clear hx HM
      go_wp2_with fail
      clear c2
      go_loopw [3, 44] (fun o i wr => ∃ (k : Nat) (q : Int), k ≤ on ∧ o = .int .i64 q ∧ i = .int .i64 k ∧ Hid (q = lastO (maxS st) op k) ∧ Ext V2 wr) (fun _ i _ => on - (intOf i).toNat)
      case atStart => exact ⟨0, m, by omega, rfl, rfl, Lib.hid HMX.out, hx9⟩
      case round =>
        clear hx9
        obtain ⟨k, q, hk, rfl, rfl, HQ, hx⟩ := hrel
        by_cases hlt : k < on
        · obtain ⟨x1, o1, rfl, hc1⟩ := hop.at (by omega)
          obtain ⟨r, hr0, htx, hok⟩ := hc1 k hlt
          have hr := rangeAt_ext hr0 (hE.trans hx)
          have HKO : Hid (k < op.length) := Lib.hid (by rw [HLO.out]; exact hlt)
          have HF := Lib.hid (fun (V : World) (hv : Ext w V) => HFO.out k HKO.out r V (htx.ext hv))
          have HG := Lib.hid (HG5.out k HKO.out)
          have HLT : Hid (q < r.ts) := Lib.hid (by have := HG.out.2; rw [HQ.out, htx.ts]; exact this)
          have HTS : Hid (r.ts = lastO (maxS st) op (k + 1)) := Lib.hid (by rw [lastO_succ, htx.ts])
          have hff := fun (V : World) (hv : Ext w V) => HF.out V hv
          rw [HG.out.1] at hff
          have HFF := Lib.hid hff
          clear hff hr0 hc1 htx hok
          obtain ⟨ri, rt, ra, rn, rc, wa, wn, wc⟩ := r
          obtain ⟨d0, d1, d2, d3⟩ := cells_tr hr
          unfold valT at HFF
          simp only at d0 d1 d2 d3 HFF HLT HTS
          clear hr
          have hb := Bk.new wr 26 #[.int .i64 ri, .int .i64 rt, .slice ra rn rc, .slice wa wn wc]
          have hE2 : Ext wr (wr.alloc (.cells #[.int .i64 ri, .int .i64 rt, .slice ra rn rc, .slice wa wn wc] 26)) := (Ext.refl wr).alloc _
          go_upto_region 12 with fail
          replace hx := hx.trans hE2
          clear hE2 d0 d1 d2 d3
          generalize wr.alloc (.cells #[.int .i64 ri, .int .i64 rt, .slice ra rn rc, .slice wa wn wc] 26) = V3 at *
          have b0 := hb.c 0 _ rfl
          have b1 := hb.c 1 _ rfl
          have b2 := hb.c 2 _ rfl
          have b3 := hb.c 3 _ rfl
          have hq1 : ¬ (rt ≤ q) := by have := HLT.out; omega
          have hq2 : decide (rt ≤ q) = false := decide_eq_false hq1
          go_wp2_with (go_at_call 27; refine (HFF.out V3 (hE.trans hx)).mono ?_; rintro e V4 ⟨rfl, hx4⟩; refine hold ?_)
          refine held ?_
          replace hb := hb.ext hx4
          replace hx := hx.trans hx4
          clear b0 b1 b2 b3 hx4
          have b1 := hb.c 1 _ rfl
          go_wp2_with fail
          refine ⟨⟨k + 1, rt, by omega, rfl, by go_num, HTS, hx⟩, by simp only [intOf]; omega⟩
        · obtain rfl : on = k := by omega
          have c0 := hx.cell C0.out
          have hle : q ≤ last := by rw [HQ.out]; have := HG6.out; rw [HLO.out] at this; exact this
          have hd : decide (q ≤ last) = true := decide_eq_true hle
          go_wp2_with fail
          go_ret
          exact ⟨rfl, hE.trans hx⟩
end Go.Proofs.Ytacicanjmleikaa
