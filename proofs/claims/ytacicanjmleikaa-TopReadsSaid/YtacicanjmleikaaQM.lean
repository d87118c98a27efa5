/-
  Read of package versions, walked. Written by wip/gen_qm.py.
-/
import Derived.Test.YtacicanjmleikaaQL
import Derived.WalkMore
namespace Go.Proofs.Ytacicanjmleikaa
open Go.RowKit Go.Sort Go.Shelf
set_option linter.unusedSimpArgs false
set_option linter.unusedVariables false
set_option maxRecDepth 100000

theorem outV_len (l : List Vn) (k ts : Int) : (outV l k ts).length ≤ 1 := by unfold outV; split <;> simp
theorem rdTo_len (l : List Vn) (ts : Int) : ∀ i, (rdTo l ts i).length ≤ i
  | 0 => by simp [rdTo]
  | i + 1 => by
    rw [rdTo_succ, List.length_append]
    have := rdTo_len l ts i
    have h2 : (oneV l ts i).length ≤ 1 := by
      unfold oneV
      split
      · exact outV_len ..
      · simp
    omega

set_option maxHeartbeats 4000000 in
theorem vread_any (a : Option Addr) (n c : Nat) (l : List Vn) (ts : Int) (w : World) (h1 : Rw w a n c l) (g1 : validV l = true) (g2 : inT ts 1 3000000000000000 = true) :
    Calls Try.prog 15 #[.slice a n c, .int .i64 ts] w fun e w' => ∃ a' m c', e = .returned (.tuple #[.slice a' m c', .int .i64 0]) ∧ OwR 47 w.heap.size w' a' m c' (readV l ts) ∧ Ext w w' := by
  have hV := validV_iff.1 g1
  have hs := hV.2.1
  have bd := h1.bd
  have HL := Lib.hid h1.hlen
  have hn4 : n ≤ 4000 := by rw [← HL.out]; exact hV.2.2
  have hva := vvalid_any a n c l w h1
  rw [g1] at hva
  have HVA := Lib.hid hva
  have hst := fun V => vstamp_any ts V
  rw [g2] at hst
  have HST := Lib.hid hst
  have HLA := Lib.hid (fun (k : Int) (V : World) (hx : Ext w V) => vlast_any a n c l k ts V (h1.ext hx) hs)
  have HUP := Lib.hid (fun (k : Int) (V : World) (hx : Ext w V) => vupto_any a n c l k 3000000000000000 V (h1.ext hx) hs)
  have HSTEP := Lib.hid (fun (i : Nat) (hi : i < l.length) (hh : headB l i = true) => rdTo_step hs hV.1 ts hi hh)
  have HZ := Lib.hid (fun (k : Int) (hk : 1 ≤ k) => lastV_zero hs (t := ts) hk)
  have HW := Lib.hid (fun (i : Nat) (hi : i < l.length) => hV.1 (nthR l i) (nthR_mem hi))
  have HRL := Lib.hid (rdTo_len l ts)
  have HR0 : Hid (rdTo l ts 0 = []) := Lib.hid rfl
  have HRN : Hid (readV l ts = rdTo l ts n) := Lib.hid (by rw [← HL.out]; rfl)
  have HCL := Lib.hid (fun k => cntV_le l k 3000000000000000)
  clear hV hs g1 g2 hva hst
  go_enter Try.func15, Try.ntmps15
  go_upto_region 1 with fail
  go_step3
  go_wp2_with (go_at_call 33; refine HVA.out.mono ?_; rintro e w1 ⟨rfl, hx1⟩; refine hold ?_)
  refine held ?_
  go_wp2_with (go_at_call 38; refine (HST.out _).mono ?_; rintro _ _ ⟨rfl, rfl⟩)
  go_step3
  go_wp2_with fail
  go_loopw [6, 7] (fun o i wr => ∃ (k m : Nat) (a' : Option Addr) (c' : Nat), k ≤ n ∧ o = .slice a' m c' ∧ i = .int .i64 k ∧ OwR 47 w.heap.size wr a' m c' (rdTo l ts k) ∧ Hid (k < n → headB l k = true) ∧ Ext w wr) (fun _ i _ => n - (intOf i).toNat)
  case atStart => exact ⟨0, 0, none, 0, by omega, rfl, rfl, by rw [HR0.out]; exact OwR.nil _ _ _, Lib.hid (fun _ => rfl), hx1⟩
  case round =>
    obtain ⟨k, m, a', c', hk, rfl, rfl, ho, HH, hx⟩ := hrel
    by_cases hlt : k < n
    · obtain ⟨x1, o1, rfl, hc1⟩ := h1.at (by omega)
      have hr := rangeAt_ext (hc1 k hlt) hx
      rw [sz_vn] at hr
      have HS := Lib.hid (HSTEP.out k (by rw [HL.out]; exact hlt) (HH.out hlt))
      have HWK := Lib.hid (HW.out k (by rw [HL.out]; exact hlt))
      have hm4 : m ≤ k := by rw [← ho.1]; exact HRL.out k
      generalize nthR l k = x at *
      have hla := HLA.out x.k
      have hup := HUP.out x.k
      have hjl : cntV l x.k 3000000000000000 ≤ n := by have := HCL.out x.k; rw [HL.out] at this; exact this
      have hk1 : 1 ≤ x.k := by
        have := HWK.out
        simp only [wfV, Bool.and_eq_true, inT_iff] at this
        exact this.1.1
      have HZ2 := Lib.hid (HZ.out x.k hk1)
      have HOV : Hid (outV l x.k ts = if lastV l x.k ts = v0 ∨ (lastV l x.k ts).g = true then [] else [lastV l x.k ts]) := Lib.hid rfl
      have HWO : Hid (∀ y ∈ outV l x.k ts, y = lastV l x.k ts) := Lib.hid (fun y hy => by unfold outV at hy; split at hy <;> simp at hy; exact hy)
      generalize cntV l x.k 3000000000000000 = j at *
      generalize outV l x.k ts = O at *
      generalize lastV l x.k ts = y at *
      have hjk : k < j := HS.out.1
      have HOL := Lib.hid HL.out
      have ho2 : OwR 47 w.heap.size wr a' m c' (rdTo l ts k) := ho
      have HLA2 := Lib.hid hla
      have HUP2 := Lib.hid hup
      obtain ⟨d0, d1, d2, d3⟩ := cells_vn hr
      clear hr hla hup hc1 ho2
      obtain ⟨xk, xt, xv, xg⟩ := x
      simp only at *
      go_upto_region 7 with fail
      obtain ⟨yk, yt, yv, yg⟩ := y
      unfold valV at HLA2
      go_wp2_with (go_at_call 39; refine (HLA2.out wr hx).mono ?_; rintro e w2 ⟨rfl, hx2⟩; refine hold ?_)
      refine held ?_
      replace ho := ho.ext hx2
      replace hx := hx.trans hx2
      clear hx2 d0 d1 d2 d3
      have hb := Bk.new w2 47 #[.int .i64 yk, .int .i64 yt, .int .i64 yv, .bool yg]
      have hE2 : Ext w2 (w2.alloc (.cells #[.int .i64 yk, .int .i64 yt, .int .i64 yv, .bool yg] 47)) := (Ext.refl w2).alloc _
      go_upto_region 8 with fail
      replace ho := ho.ext hE2
      replace hx := hx.trans hE2
      clear hE2
      generalize w2.alloc (.cells #[.int .i64 yk, .int .i64 yt, .int .i64 yv, .bool yg] 47) = V at *
      generalize w2.heap.size = yb at *
      go_wp2_with (go_at_call 40; refine (HUP2.out V hx).mono ?_; rintro e w3 ⟨rfl, hx3⟩; refine hold ?_)
      refine held ?_
      replace ho := ho.ext hx3
      replace hx := hx.trans hx3
      replace hb := hb.ext hx3
      clear hx3
      have c0 := hb.c 0 _ rfl
      have c1 := hb.c 1 _ rfl
      have c2 := hb.c 2 _ rfl
      have c3 := hb.c 3 _ rfl
      have hz := fun W => eqVn yk yt yv yg 0 0 0 false W
      rw [show (⟨0, 0, 0, false⟩ : Vn) = v0 from rfl, HZ2.out] at hz
      generalize hzd : decide (yk = 0) = ZD at hz
      have HZD := Lib.hid hzd
      clear hzd
      have HY : Hid (ZD = true ∨ yg = true → O = []) := Lib.hid (fun h => by
        rw [HOV.out, if_pos]
        rcases h with h | h
        · rw [h] at HZD
          exact .inl (of_decide_eq_true (HZ2.out.trans HZD.out))
        · exact .inr h)
      have HY2 : Hid (ZD = false → yg = false → O = [⟨yk, yt, yv, yg⟩]) := Lib.hid (fun h1 h2 => by
        rw [HOV.out, if_neg]
        rintro (h | h)
        · have := HZ2.out
          rw [HZD.out, h1] at this
          exact absurd h (of_decide_eq_false this)
        · rw [h2] at h; cases h)
      cases ZD with
      | true =>
        go_wp2_with fail
        refine ⟨⟨j, m, a', c', hjl, rfl, rfl, ?_, Lib.hid (fun h => HS.out.2.2 (by rw [HOL.out]; exact h)), hx⟩, ?_⟩
        · rw [HS.out.2.1, HY.out (.inl (by simp)), List.append_nil]; exact ho
        · simp only [intOf]; omega
      | false =>
        cases yg with
        | true =>
          go_wp2_with fail
          refine ⟨⟨j, m, a', c', hjl, rfl, rfl, ?_, Lib.hid (fun h => HS.out.2.2 (by rw [HOL.out]; exact h)), hx⟩, ?_⟩
          · rw [HS.out.2.1, HY.out (.inr (by simp)), List.append_nil]; exact ho
          · simp only [intOf]; omega
        | false =>
          have hbz := hx.sz
          go_wp2_with (at_builtin; refine appR1 (α := Vn) el_vn rfl _ _ rfl w3 w.heap.size _ _ _ _ (⟨yk, yt, yv, false⟩ : Vn) _ rfl rfl ho rfl hbz (by unfold maxLen; omega) (by omega) ?_; intro g3 c3 w4 ho3 hB3; refine hold ?_)
          refine held ?_
          go_wp2_with fail
          refine ⟨⟨j, m + 1, some ⟨g3, 0, none⟩, c3, hjl, rfl, rfl, ?_, Lib.hid (fun h => HS.out.2.2 (by rw [HOL.out]; exact h)), Below.trans hx hB3⟩, ?_⟩
          · rw [HS.out.2.1, HY2.out (by simp) (by simp)]; exact ho3
          · simp only [intOf]; omega
    · obtain rfl : k = n := by omega
      go_wp2_with fail
      rw [Exit.noGoto_ret]
      go_ret2
      exact ⟨a', m, c', rfl, by rw [HRN.out]; exact ho, hx⟩
end Go.Proofs.Ytacicanjmleikaa
