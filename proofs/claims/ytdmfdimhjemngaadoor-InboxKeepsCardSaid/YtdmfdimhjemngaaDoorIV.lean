/-
  The law InboxKeeps. Written by wip/gen_iv.py.
-/
import Derived.Test.YtdmfdimhjemngaaDoorIR
namespace Go.Proofs.YtdmfdimhjemngaaDoor
open Go.RowKit Go.Sort Go.Shelf
set_option linter.unusedSimpArgs false
set_option linter.unusedVariables false
set_option maxRecDepth 100000

/-- What the loop holds after k rounds: the replies without the first that is x, if one is to be left out. -/
def oldK (FR : Bool) (x : Rp) (L : List Rp) (k : Nat) : List Rp := if FR = true then (L.take k).erase x else L.take k
def fndK (FR : Bool) (x : Rp) (L : List Rp) (k : Nat) : Bool := FR && decide (x ∈ L.take k)
theorem old_keep {FR : Bool} {x : Rp} {L : List Rp} {k : Nat} (h : k < L.length) (hc : FR = true → fndK FR x L k = true ∨ nthR L k ≠ x) : oldK FR x L (k + 1) = oldK FR x L k ++ [nthR L k] ∧ fndK FR x L (k + 1) = fndK FR x L k := by
  unfold oldK fndK
  rw [take_nthR_succ h]
  rcases FR with _ | _
  · simp
  · simp only [if_true, Bool.true_and]
    rw [List.erase_append]
    rcases hc rfl with h1 | h1
    · have hm : x ∈ L.take k := by simpa [fndK] using h1
      rw [if_pos hm]
      refine ⟨rfl, ?_⟩
      rw [decide_eq_true hm]
      exact decide_eq_true (by simp [hm])
    · by_cases hm : x ∈ L.take k
      · rw [if_pos hm]
        refine ⟨rfl, ?_⟩
        rw [decide_eq_true hm]
        exact decide_eq_true (by simp [hm])
      · rw [if_neg hm, List.erase_of_not_mem hm, List.erase_of_not_mem (by simpa using fun e => h1 e.symm)]
        refine ⟨rfl, ?_⟩
        rw [decide_eq_false hm]
        exact decide_eq_false (by simp only [List.mem_append, List.mem_singleton]; rintro (h | h); exact hm h; exact h1 h.symm)
theorem old_skip {x : Rp} {L : List Rp} {k : Nat} (h : k < L.length) (hf : fndK true x L k = false) (he : nthR L k = x) : oldK true x L (k + 1) = oldK true x L k ∧ fndK true x L (k + 1) = true := by
  unfold oldK fndK at *
  rw [take_nthR_succ h, he]
  have hm : x ∉ L.take k := by simpa using hf
  simp only [if_true, Bool.true_and]
  rw [List.erase_append, if_neg hm, List.erase_of_not_mem hm]
  exact ⟨by simp, by simp⟩
theorem keeps_facts {b : Bx} {x : Rp} {t : Int} (h0 : tkE b t = 0) (hw : wfR x = true) :
    frmX (tkB b (some x) t) = true ∧ fndK (tkK b (some x) t == 1) x (tkB b (some x) t).got (tkB b (some x) t).got.length = (tkK b (some x) t == 1) ∧ oldK (tkK b (some x) t == 1) x (tkB b (some x) t).got (tkB b (some x) t).got.length = b.got := by
  have hf := (tkE_ok h0).1
  have hkd := tkK_kd (p := some x) h0
  by_cases hk : kdX b (some x) t = 1
  · have hb := (tkB_fresh h0 hk).1
    have hfr : frmX (tkB b (some x) t) = true := by
      have := tk_frm (t := t) hf (fun y hy => by rw [← Option.some.inj hy]; exact hw)
      rw [got_some, hk, if_pos rfl] at this
      rw [hb]
      exact this
    refine ⟨hfr, ?_, ?_⟩
    · rw [hkd, hk, hb]
      unfold fndK
      simp only [List.take_length]
      rw [decide_eq_true (mem_insR.2 (.inl rfl))]
      rfl
    · rw [hkd, hk, hb]
      unfold oldK
      simp only [List.take_length]
      rw [if_pos (by decide)]
      exact insR_erase (any_false (kd_fresh.1 hk).2.1)
  · have hb := tk_keep (p := some x) h0 (by rw [hkd]; exact hk)
    have he : (tkK b (some x) t == 1) = false := by rw [hkd]; simpa using hk
    rw [he, hb]
    exact ⟨hf, by simp [fndK], by simp [oldK]⟩

set_option maxHeartbeats 8000000 in
theorem ikeeps_law (b : Bx) (sa : Option Addr) (sn sc : Nat) (ga : Option Addr) (gn gc : Nat) (x : Rp) (hx0 : x.Ok) (t : Int) (w : World) (hb : BxF w b sa sn sc ga gn gc) (ht : TB w) :
    Calls Tryd.prog 6 #[.agg #[.int .i64 b.host, .int .i64 b.round, .int .u64 b.head, .int .i64 b.sent, .int .i64 b.wait, .slice sa sn sc, .slice ga gn gc], .agg #[.int .i64 x.a, .int .i64 x.h, .int .i64 x.r, .int .u64 x.n, .int .i64 x.lo, .int .i64 x.hi, .int .i64 x.k, .int .i64 x.t, .int .i64 x.c, .int .i64 x.s], .int .i64 t] w fun e w' => e = .returned (.bool true) ∧ Ext w w' := by
  have HT := Lib.hid ht
  have bs := hb.sl.bd
  have bg := hb.rw.bd
  clear ht
  have hP := (Bk.new w 33 #[.int .i64 b.host, .int .i64 b.round, .int .u64 b.head, .int .i64 b.sent, .int .i64 b.wait, .slice sa sn sc, .slice ga gn gc]).ext ((Ext.refl _).alloc (.cells #[.int .i64 x.a, .int .i64 x.h, .int .i64 x.r, .int .u64 x.n, .int .i64 x.lo, .int .i64 x.hi, .int .i64 x.k, .int .i64 x.t, .int .i64 x.c, .int .i64 x.s] 52))
  have hQ := Bk.new (w.alloc (.cells #[.int .i64 b.host, .int .i64 b.round, .int .u64 b.head, .int .i64 b.sent, .int .i64 b.wait, .slice sa sn sc, .slice ga gn gc] 33)) 52 #[.int .i64 x.a, .int .i64 x.h, .int .i64 x.r, .int .u64 x.n, .int .i64 x.lo, .int .i64 x.hi, .int .i64 x.k, .int .i64 x.t, .int .i64 x.c, .int .i64 x.s]
  rw [World.size_alloc] at hQ
  have hE : Ext w ((w.alloc (.cells #[.int .i64 b.host, .int .i64 b.round, .int .u64 b.head, .int .i64 b.sent, .int .i64 b.wait, .slice sa sn sc, .slice ga gn gc] 33)).alloc (.cells #[.int .i64 x.a, .int .i64 x.h, .int .i64 x.r, .int .u64 x.n, .int .i64 x.lo, .int .i64 x.hi, .int .i64 x.k, .int .i64 x.t, .int .i64 x.c, .int .i64 x.s] 52)) := ((Ext.refl w).alloc _).alloc _
  go_enter Tryd.func6, Tryd.ntmps6
  go_upto_region 1 with fail
  generalize (w.alloc (.cells #[.int .i64 b.host, .int .i64 b.round, .int .u64 b.head, .int .i64 b.sent, .int .i64 b.wait, .slice sa sn sc, .slice ga gn gc] 33)).alloc (.cells #[.int .i64 x.a, .int .i64 x.h, .int .i64 x.r, .int .u64 x.n, .int .i64 x.lo, .int .i64 x.hi, .int .i64 x.k, .int .i64 x.t, .int .i64 x.c, .int .i64 x.s] 52) = V at *
  generalize w.heap.size + 1 = qb at hQ ⊢
  generalize w.heap.size = pb at hP ⊢
  have p0 := hP.c 0 _ rfl
  have p1 := hP.c 1 _ rfl
  have p2 := hP.c 2 _ rfl
  have p3 := hP.c 3 _ rfl
  have p4 := hP.c 4 _ rfl
  have p5 := hP.c 5 _ rfl
  have p6 := hP.c 6 _ rfl
  have r0 := hQ.c 0 _ rfl
  have r1 := hQ.c 1 _ rfl
  have r2 := hQ.c 2 _ rfl
  have r3 := hQ.c 3 _ rfl
  have r4 := hQ.c 4 _ rfl
  have r5 := hQ.c 5 _ rfl
  have r6 := hQ.c 6 _ rfl
  have r7 := hQ.c 7 _ rfl
  have r8 := hQ.c 8 _ rfl
  have r9 := hQ.c 9 _ rfl
  go_wp2_with fail
  refine (ihead_any V (TB.ext HT.out hE)).mono ?_
  rintro _ w1 ⟨rfl, hx⟩
  clear p0 p1 p2 p3 p4 p5 p6 r0 r1 r2 r3 r4 r5 r6 r7 r8 r9
  replace hP := hP.ext hx
  replace hQ := hQ.ext hx
  replace hE := hE.trans hx
  clear hx
  have p0 := hP.c 0 _ rfl
  have p1 := hP.c 1 _ rfl
  have p2 := hP.c 2 _ rfl
  have p3 := hP.c 3 _ rfl
  have p4 := hP.c 4 _ rfl
  have p5 := hP.c 5 _ rfl
  have p6 := hP.c 6 _ rfl
  have r0 := hQ.c 0 _ rfl
  have r1 := hQ.c 1 _ rfl
  have r2 := hQ.c 2 _ rfl
  have r3 := hQ.c 3 _ rfl
  have r4 := hQ.c 4 _ rfl
  have r5 := hQ.c 5 _ rfl
  have r6 := hQ.c 6 _ rfl
  have r7 := hQ.c 7 _ rfl
  have r8 := hQ.c 8 _ rfl
  have r9 := hQ.c 9 _ rfl
  go_wp2_with fail
  refine (ifew_any b sa sn sc ga gn gc w1 (hb.ext hE)).mono ?_
  rintro _ w2 ⟨rfl, hx⟩
  clear p0 p1 p2 p3 p4 p5 p6 r0 r1 r2 r3 r4 r5 r6 r7 r8 r9
  replace hP := hP.ext hx
  replace hQ := hQ.ext hx
  replace hE := hE.trans hx
  clear hx
  have p0 := hP.c 0 _ rfl
  have p1 := hP.c 1 _ rfl
  have p2 := hP.c 2 _ rfl
  have p3 := hP.c 3 _ rfl
  have p4 := hP.c 4 _ rfl
  have p5 := hP.c 5 _ rfl
  have p6 := hP.c 6 _ rfl
  have r0 := hQ.c 0 _ rfl
  have r1 := hQ.c 1 _ rfl
  have r2 := hQ.c 2 _ rfl
  have r3 := hQ.c 3 _ rfl
  have r4 := hQ.c 4 _ rfl
  have r5 := hQ.c 5 _ rfl
  have r6 := hQ.c 6 _ rfl
  have r7 := hQ.c 7 _ rfl
  have r8 := hQ.c 8 _ rfl
  have r9 := hQ.c 9 _ rfl
  by_cases hf1 : sn ≤ 20
  rotate_left
  · have hd : (decide (sn ≤ 20) && decide (gn ≤ 20)) = false := by simp; omega
    rw [hd]
    go_wp2_with fail
    go_ret
    exact ⟨rfl, hE⟩
  by_cases hf2 : gn ≤ 20
  rotate_left
  · have hd : (decide (sn ≤ 20) && decide (gn ≤ 20)) = false := by simp; omega
    rw [hd]
    go_wp2_with fail
    go_ret
    exact ⟨rfl, hE⟩
  have hd : (decide (sn ≤ 20) && decide (gn ≤ 20)) = true := by simp; omega
  rw [hd]
  clear hd
  go_wp2_with fail
  refine (rreply_any x.a x.h x.r x.n x.lo x.hi x.k x.t x.c x.s w2).mono ?_
  rintro _ w3 ⟨rfl, hx⟩
  rw [wfR_rep]
  clear p0 p1 p2 p3 p4 p5 p6 r0 r1 r2 r3 r4 r5 r6 r7 r8 r9
  replace hP := hP.ext hx
  replace hQ := hQ.ext hx
  replace hE := hE.trans hx
  clear hx
  have p0 := hP.c 0 _ rfl
  have p1 := hP.c 1 _ rfl
  have p2 := hP.c 2 _ rfl
  have p3 := hP.c 3 _ rfl
  have p4 := hP.c 4 _ rfl
  have p5 := hP.c 5 _ rfl
  have p6 := hP.c 6 _ rfl
  have r0 := hQ.c 0 _ rfl
  have r1 := hQ.c 1 _ rfl
  have r2 := hQ.c 2 _ rfl
  have r3 := hQ.c 3 _ rfl
  have r4 := hQ.c 4 _ rfl
  have r5 := hQ.c 5 _ rfl
  have r6 := hQ.c 6 _ rfl
  have r7 := hQ.c 7 _ rfl
  have r8 := hQ.c 8 _ rfl
  have r9 := hQ.c 9 _ rfl
  rcases hw : wfR x with _ | _
  · clear hw
    go_wp2_with fail
    go_ret
    exact ⟨rfl, hE⟩
  go_wp2_with fail
  refine (iput_any x hx0 w3).mono ?_
  rintro _ w4 ⟨pa, pn, pc, rfl, hs, hx⟩
  rw [hw] at hs ⊢
  simp only [okE, if_true] at hs ⊢
  clear p0 p1 p2 p3 p4 p5 p6 r0 r1 r2 r3 r4 r5 r6 r7 r8 r9
  replace hP := hP.ext hx
  replace hQ := hQ.ext hx
  replace hE := hE.trans hx
  clear hx
  have p0 := hP.c 0 _ rfl
  have p1 := hP.c 1 _ rfl
  have p2 := hP.c 2 _ rfl
  have p3 := hP.c 3 _ rfl
  have p4 := hP.c 4 _ rfl
  have p5 := hP.c 5 _ rfl
  have p6 := hP.c 6 _ rfl
  have r0 := hQ.c 0 _ rfl
  have r1 := hQ.c 1 _ rfl
  have r2 := hQ.c 2 _ rfl
  have r3 := hQ.c 3 _ rfl
  have r4 := hQ.c 4 _ rfl
  have r5 := hQ.c 5 _ rfl
  have r6 := hQ.c 6 _ rfl
  have r7 := hQ.c 7 _ rfl
  have r8 := hQ.c 8 _ rfl
  have r9 := hQ.c 9 _ rfl
  have hpn : pn ≤ 1000000000 := by rw [← hs.hlen]; have := ppX_len hx0 hw; omega
  have T2 : Hid (∀ W, BxF W b sa sn sc ga gn gc → Sl .u8 W pa pn pc (ppX x) → TB W → Calls Tryd.prog 14 #[.agg #[.int .i64 b.host, .int .i64 b.round, .int .u64 b.head, .int .i64 b.sent, .int .i64 b.wait, .slice sa sn sc, .slice ga gn gc], .slice pa pn pc, .int .i64 t] W fun e w' => TkQ W w' e (tkB b (some x) t) (tkK b (some x) t) (tkE b t)) := Lib.hid (fun W h1 h2 h3 => by
    have := itake_any b sa sn sc ga gn gc pa pn pc (ppX x) t W h1 h2 hpn (by omega) (by omega) h3
    rw [gpX_pp hx0 hw] at this
    exact this)
  have KF : Hid (tkE b t = 0 → frmX (tkB b (some x) t) = true ∧ fndK (tkK b (some x) t == 1) x (tkB b (some x) t).got (tkB b (some x) t).got.length = (tkK b (some x) t == 1) ∧ oldK (tkK b (some x) t == 1) x (tkB b (some x) t).got (tkB b (some x) t).got.length = b.got) := Lib.hid (fun h => keeps_facts h hw)
  have TZ : Hid (tkE b t ≠ 0 → tkK b (some x) t = 0 ∧ (tkB b (some x) t).got.length = 0) := Lib.hid (fun h => ⟨(tk_zero h).1, by rw [(tk_zero (p := some x) h).2]; rfl⟩)
  clear hw
  obtain ⟨B1, hB1⟩ : ∃ z, tkB b (some x) t = z := ⟨_, rfl⟩
  obtain ⟨K1, hK1⟩ : ∃ z, tkK b (some x) t = z := ⟨_, rfl⟩
  obtain ⟨E1, hE1⟩ : ∃ z, tkE b t = z := ⟨_, rfl⟩
  rw [hB1, hK1, hE1] at T2 KF
  rw [hB1, hK1, hE1] at TZ
  have HGL : Hid (B1.got.length ≤ 21) := Lib.hid (by
    rw [← hB1]
    by_cases h0 : tkE b t = 0
    · unfold tkB
      rw [if_pos h0]
      show (gotX b (some x) t).length ≤ 21
      rw [got_some]
      have hgl := hb.rw.hlen
      split
      · rw [insR_len]; omega
      · omega
    · rw [(tk_zero (p := some x) h0).2]; simp [bx0])
  clear hB1 hK1 hE1
  go_wp2_with fail
  refine (T2.out w4 (hb.ext hE) hs (TB.ext HT.out hE)).mono ?_
  rintro _ w5 ⟨sa1, sn1, sc1, ga1, gn1, gc1, rfl, hF1, -, hx⟩
  go_upto_region 6 with fail
  have hX := Bk.new w5 33 #[.int .i64 B1.host, .int .i64 B1.round, .int .u64 B1.head, .int .i64 B1.sent, .int .i64 B1.wait, .slice sa1 sn1 sc1, .slice ga1 gn1 gc1]
  replace hx := hx.alloc (.cells #[.int .i64 B1.host, .int .i64 B1.round, .int .u64 B1.head, .int .i64 B1.sent, .int .i64 B1.wait, .slice sa1 sn1 sc1, .slice ga1 gn1 gc1] 33)
  have hx2 : Ext w5 (w5.alloc (.cells #[.int .i64 B1.host, .int .i64 B1.round, .int .u64 B1.head, .int .i64 B1.sent, .int .i64 B1.wait, .slice sa1 sn1 sc1, .slice ga1 gn1 gc1] 33)) := (Ext.refl w5).alloc _
  generalize w5.alloc (.cells #[.int .i64 B1.host, .int .i64 B1.round, .int .u64 B1.head, .int .i64 B1.sent, .int .i64 B1.wait, .slice sa1 sn1 sc1, .slice ga1 gn1 gc1] 33) = V5 at *
  generalize w5.heap.size = bhX at hX ⊢
  replace hF1 := hF1.ext hx2
  clear hx2
  clear p0 p1 p2 p3 p4 p5 p6 r0 r1 r2 r3 r4 r5 r6 r7 r8 r9
  replace hP := hP.ext hx
  replace hQ := hQ.ext hx
  replace hs := hs.ext hx
  replace hE := hE.trans hx
  clear hx
  have p0 := hP.c 0 _ rfl
  have p1 := hP.c 1 _ rfl
  have p2 := hP.c 2 _ rfl
  have p3 := hP.c 3 _ rfl
  have p4 := hP.c 4 _ rfl
  have p5 := hP.c 5 _ rfl
  have p6 := hP.c 6 _ rfl
  have r0 := hQ.c 0 _ rfl
  have r1 := hQ.c 1 _ rfl
  have r2 := hQ.c 2 _ rfl
  have r3 := hQ.c 3 _ rfl
  have r4 := hQ.c 4 _ rfl
  have r5 := hQ.c 5 _ rfl
  have r6 := hQ.c 6 _ rfl
  have r7 := hQ.c 7 _ rfl
  have r8 := hQ.c 8 _ rfl
  have r9 := hQ.c 9 _ rfl
  have x0 := hX.c 0 _ rfl
  have x1 := hX.c 1 _ rfl
  have x2 := hX.c 2 _ rfl
  have x3 := hX.c 3 _ rfl
  have x4 := hX.c 4 _ rfl
  have x5 := hX.c 5 _ rfl
  have x6 := hX.c 6 _ rfl
  clear T2 hs
  have HLX := Lib.hid hF1.rw.hlen
  have hg21 : gn1 ≤ 21 := by rw [← HLX.out]; exact HGL.out
  by_cases hz : E1 = 0
  rotate_left
  · have hq : (E1 != 0) = true := by simpa using hz
    obtain ⟨rfl, hl0⟩ := TZ.out hz
    obtain rfl : gn1 = 0 := by rw [← HLX.out]; exact hl0
    clear hl0
    go_wp2_with fail
    go_ret
    exact ⟨rfl, hE⟩
  subst hz
  obtain ⟨hfr, hfn, hol⟩ := KF.out rfl
  have HFR := Lib.hid hfr
  have HFN := Lib.hid hfn
  have HOL := Lib.hid hol
  clear hfr hfn hol KF TZ
  obtain ⟨FR, hFR⟩ : ∃ z, (K1 == 1) = z := ⟨_, rfl⟩
  rw [hFR] at HFN HOL
  go_wp2_with fail
  clear p0 p1 p2 p3 p4 p5 p6 r0 r1 r2 r3 r4 r5 r6 r7 r8 r9 x0 x1 x2 x3 x4 x5 x6
  go_loopw [13, 14, 58] (fun s f i wr => ∃ (k m cc : Nat) (aa : Option Addr), k ≤ gn1 ∧ m ≤ k ∧ i = .int .i64 (k : Int) ∧ s = .slice aa m cc ∧ f = .bool (fndK FR x B1.got k) ∧ OwR 52 V5.heap.size wr aa m cc (oldK FR x B1.got k) ∧ Ext V5 wr) (fun _ _ i _ => gn1 - (intOf i).toNat)
  case atStart => exact ⟨0, 0, 0, none, by omega, by omega, rfl, rfl, by simp [fndK], by unfold oldK; simp; exact OwR.nil _ _ _, Ext.refl V5⟩
  case round =>
    obtain ⟨k, m, cc, aa, hk, hmk, rfl, rfl, rfl, ho, hEr⟩ := hrel
    by_cases hlt : k < gn1
    · obtain ⟨xb, o1, rfl, hc1⟩ := hF1.rw.at (by omega)
      have hr := rangeAt_ext (hc1 k hlt) hEr
      have hyok := hF1.rw.wfAt hlt
      rw [sz_rp] at hr
      have HKP : Hid ((FR = true → fndK FR x B1.got k = true ∨ nthR B1.got k ≠ x) → oldK FR x B1.got (k + 1) = oldK FR x B1.got k ++ [nthR B1.got k] ∧ fndK FR x B1.got (k + 1) = fndK FR x B1.got k) := Lib.hid (fun h => old_keep (by rw [HLX.out]; exact hlt) h)
      have HSK : Hid (FR = true → fndK FR x B1.got k = false → nthR B1.got k = x → oldK FR x B1.got (k + 1) = oldK FR x B1.got k ∧ fndK FR x B1.got (k + 1) = true) := Lib.hid (fun h1 h2 h3 => by subst h1; exact old_skip (by rw [HLX.out]; exact hlt) h2 h3)
      clear hc1
      generalize nthR B1.got k = y at *
      obtain ⟨FK, hFK⟩ : ∃ z, fndK FR x B1.got k = z := ⟨_, rfl⟩
      obtain ⟨OK, hOK⟩ : ∃ z, oldK FR x B1.got k = z := ⟨_, rfl⟩
      rw [hFK, hOK] at HKP HSK
      rw [hOK] at ho
      rw [hFK]
      clear hFK hOK
      obtain ⟨d0, d1, d2, d3, d4, d5, d6, d7, d8, d9⟩ := cells_rp hr
      clear hr
      go_upto_region 15 with fail
      have hY := Bk.new wr 52 #[.int .i64 y.a, .int .i64 y.h, .int .i64 y.r, .int .u64 y.n, .int .i64 y.lo, .int .i64 y.hi, .int .i64 y.k, .int .i64 y.t, .int .i64 y.c, .int .i64 y.s]
      have hxr : Ext wr (wr.alloc (.cells #[.int .i64 y.a, .int .i64 y.h, .int .i64 y.r, .int .u64 y.n, .int .i64 y.lo, .int .i64 y.hi, .int .i64 y.k, .int .i64 y.t, .int .i64 y.c, .int .i64 y.s] 52)) := (Ext.refl wr).alloc _
      have hQ1 := (hQ.ext hEr).ext hxr
      have hEu := hEr.trans hxr
      have ho1 := ho.ext hxr
      generalize wr.alloc (.cells #[.int .i64 y.a, .int .i64 y.h, .int .i64 y.r, .int .u64 y.n, .int .i64 y.lo, .int .i64 y.hi, .int .i64 y.k, .int .i64 y.t, .int .i64 y.c, .int .i64 y.s] 52) = U at *
      generalize wr.heap.size = yb at hY ⊢
      clear d0 d1 d2 d3 d4 d5 d6 d7 d8 d9 ho
      have yy0 := hY.c 0 _ rfl
      have yy1 := hY.c 1 _ rfl
      have yy2 := hY.c 2 _ rfl
      have yy3 := hY.c 3 _ rfl
      have yy4 := hY.c 4 _ rfl
      have yy5 := hY.c 5 _ rfl
      have yy6 := hY.c 6 _ rfl
      have yy7 := hY.c 7 _ rfl
      have yy8 := hY.c 8 _ rfl
      have yy9 := hY.c 9 _ rfl
      have r0 := hQ1.c 0 _ rfl
      have r1 := hQ1.c 1 _ rfl
      have r2 := hQ1.c 2 _ rfl
      have r3 := hQ1.c 3 _ rfl
      have r4 := hQ1.c 4 _ rfl
      have r5 := hQ1.c 5 _ rfl
      have r6 := hQ1.c 6 _ rfl
      have r7 := hQ1.c 7 _ rfl
      have r8 := hQ1.c 8 _ rfl
      have r9 := hQ1.c 9 _ rfl
      have hq := fun W => eqRp y x W
      have hyx : decide (y = x) = true ↔ y = x := decide_eq_true_iff
      generalize decide (y = x) = D at hq hyx
      have HYX := Lib.hid hyx
      clear hyx
      have hbz := hEu.sz
      rcases hfr : FR with _ | _
      · have hK1 : (K1 == 1) = false := by rw [hFR, hfr]
        have HK := Lib.hid (HKP.out (fun h => by rw [hfr] at h; cases h))
        go_wp2_with (at_builtin; refine appR1 (α := Rp) el_rp rfl _ _ rfl U V5.heap.size _ _ _ _ y _ rfl rfl ho1 rfl hbz (by unfold maxLen; omega) (by omega) ?_; intro g3 c3 w3 ho3 hB3; refine hold ?_)
        refine held ?_
        have hx3 : Ext V5 w3 := Below.trans hEu hB3
        clear yy0 yy1 yy2 yy3 yy4 yy5 yy6 yy7 yy8 yy9 r0 r1 r2 r3 r4 r5 r6 r7 r8 r9 hq
        go_wp2_with fail
        exact ⟨⟨k + 1, m + 1, _, _, by omega, by omega, by go_num, rfl, by rw [HK.out.2], by rw [HK.out.1]; exact ho3, hx3⟩, by simp [intOf]; omega⟩
      have hK1 : (K1 == 1) = true := by rw [hFR, hfr]
      rcases D with _ | _
      · have HK := Lib.hid (HKP.out (fun _ => .inr (fun e => by have := HYX.out.2 e; cases this)))
        go_wp2_with (at_builtin; refine appR1 (α := Rp) el_rp rfl _ _ rfl U V5.heap.size _ _ _ _ y _ rfl rfl ho1 rfl hbz (by unfold maxLen; omega) (by omega) ?_; intro g3 c3 w3 ho3 hB3; refine hold ?_)
        refine held ?_
        have hx3 : Ext V5 w3 := Below.trans hEu hB3
        clear yy0 yy1 yy2 yy3 yy4 yy5 yy6 yy7 yy8 yy9 r0 r1 r2 r3 r4 r5 r6 r7 r8 r9 hq
        go_wp2_with fail
        exact ⟨⟨k + 1, m + 1, _, _, by omega, by omega, by go_num, rfl, by rw [HK.out.2], by rw [HK.out.1]; exact ho3, hx3⟩, by simp [intOf]; omega⟩
      rcases FK with _ | _
      · have HK := Lib.hid (HSK.out hfr rfl (HYX.out.1 rfl))
        go_wp2_with fail
        exact ⟨⟨k + 1, m, _, _, by omega, by omega, by go_num, rfl, by rw [HK.out.2], by rw [HK.out.1]; exact ho1, hEu⟩, by simp [intOf]; omega⟩
      · have HK := Lib.hid (HKP.out (fun _ => .inl rfl))
        go_wp2_with (at_builtin; refine appR1 (α := Rp) el_rp rfl _ _ rfl U V5.heap.size _ _ _ _ y _ rfl rfl ho1 rfl hbz (by unfold maxLen; omega) (by omega) ?_; intro g3 c3 w3 ho3 hB3; refine hold ?_)
        refine held ?_
        have hx3 : Ext V5 w3 := Below.trans hEu hB3
        clear yy0 yy1 yy2 yy3 yy4 yy5 yy6 yy7 yy8 yy9 r0 r1 r2 r3 r4 r5 r6 r7 r8 r9 hq
        go_wp2_with fail
        exact ⟨⟨k + 1, m + 1, _, _, by omega, by omega, by go_num, rfl, by rw [HK.out.2], by rw [HK.out.1]; exact ho3, hx3⟩, by simp [intOf]; omega⟩
    · obtain rfl : k = gn1 := by omega
      have hfn : fndK FR x B1.got k = FR := by have := HFN.out; rw [HLX.out] at this; exact this
      have hol : oldK FR x B1.got k = b.got := by have := HOL.out; rw [HLX.out] at this; exact this
      rw [hfn]
      rw [hol] at ho
      clear hfn hol
      have hX1 := hX.ext hEr
      have hP1 := hP.ext hEr
      have hEx := hE.trans hEr
      have hor := ho.rw (by omega) (hb.rw.wf)
      have x0 := hX1.c 0 _ rfl
      have x1 := hX1.c 1 _ rfl
      have x2 := hX1.c 2 _ rfl
      have x3 := hX1.c 3 _ rfl
      have x4 := hX1.c 4 _ rfl
      have x5 := hX1.c 5 _ rfl
      have x6 := hX1.c 6 _ rfl
      have p0 := hP1.c 0 _ rfl
      have p1 := hP1.c 1 _ rfl
      have p2 := hP1.c 2 _ rfl
      have p3 := hP1.c 3 _ rfl
      have p4 := hP1.c 4 _ rfl
      have p5 := hP1.c 5 _ rfl
      have p6 := hP1.c 6 _ rfl
      go_wp2_with fail
      refine (rForm_any B1 sa1 sn1 sc1 ga1 k gc1 wr (hF1.ext hEr)).mono ?_
      rintro _ w7 ⟨rfl, hx⟩
      rw [HFR.out]
      clear x0 x1 x2 x3 x4 x5 x6 p0 p1 p2 p3 p4 p5 p6
      have hP2 := hP1.ext hx
      replace hEx := hEx.trans hx
      replace hor := hor.ext hx
      have p0 := hP2.c 0 _ rfl
      have p1 := hP2.c 1 _ rfl
      have p2 := hP2.c 2 _ rfl
      have p3 := hP2.c 3 _ rfl
      have p4 := hP2.c 4 _ rfl
      have p5 := hP2.c 5 _ rfl
      have p6 := hP2.c 6 _ rfl
      rcases hfr : FR with _ | _
      · have hK1 : (K1 == 1) = false := by rw [hFR, hfr]
        go_wp2_with fail
        refine (sameRd_any aa m cc b.got ga gn gc b.got w7 hor (hb.rw.ext hEx)).mono ?_
        rintro _ w8 ⟨rfl, hx2⟩
        rw [decide_eq_true rfl]
        clear p0 p1 p2 p3 p4 p5 p6
        go_wp2_with fail
        go_ret
        exact ⟨rfl, hEx.trans hx2⟩
      · have hK1 : (K1 == 1) = true := by rw [hFR, hfr]
        go_wp2_with fail
        refine (sameRd_any aa m cc b.got ga gn gc b.got w7 hor (hb.rw.ext hEx)).mono ?_
        rintro _ w8 ⟨rfl, hx2⟩
        rw [decide_eq_true rfl]
        clear p0 p1 p2 p3 p4 p5 p6
        go_wp2_with fail
        go_ret
        exact ⟨rfl, hEx.trans hx2⟩
end Go.Proofs.YtdmfdimhjemngaaDoor
