/-
  Package versions, walked: upTo, last. Written by wip/gen_qg.py.
-/
import Derived.Test.YtacicanjmleikaaQF
import Derived.Test.YtacicanjmleikaaQK
namespace Go.Proofs.Ytacicanjmleikaa
open Go.RowKit Go.Sort Go.Shelf
set_option linter.unusedSimpArgs false
set_option linter.unusedVariables false
set_option maxRecDepth 100000

theorem cnt_of_search {l : List Vn} {k t : Int} {i n : Nat} {B : Bool} (h : AscV l) (hn : l.length = n) (hi : i ≤ n) (h1 : ∀ j, j < i → ordF (nthR l j) ⟨k, t, 0, false⟩ < 0) (h2 : ∀ j, i ≤ j → j < n → ¬ ordF (nthR l j) ⟨k, t, 0, false⟩ < 0) (hB : B = true ↔ i < n ∧ ordF (nthR l i) ⟨k, t, 0, false⟩ = 0) :
    cntV l k t = if B = true then i + 1 else i := by
  subst hn
  have le_of : ∀ j, ordF (nthR l j) ⟨k, t, 0, false⟩ < 0 → leV k t (nthR l j) = true := fun j hj => by
    rw [ordF_lt] at hj
    unfold ltV at hj
    rw [leV, decide_eq_true_iff]
    simp only at hj
    omega
  have nle : ∀ j, ¬ ordF (nthR l j) ⟨k, t, 0, false⟩ < 0 → ¬ ordF (nthR l j) ⟨k, t, 0, false⟩ = 0 → leV k t (nthR l j) = false := fun j hj hz => by
    rw [ordF_lt] at hj
    rw [ordF_zero] at hz
    unfold ltV at hj
    rw [leV, decide_eq_false_iff_not]
    simp only at hj hz
    omega
  cases hb : B with
  | true =>
    obtain ⟨q1, q2⟩ := hB.1 hb
    rw [if_pos rfl]
    rw [ordF_zero] at q2
    simp only at q2
    refine cntV_eq (by omega) (fun j hj => ?_) (fun j hj hjl => ?_)
    · rcases Nat.lt_or_ge j i with h3 | h3
      · exact le_of j (h1 j h3)
      · obtain rfl : j = i := by omega
        rw [leV, decide_eq_true_iff]; omega
    · refine nle j (h2 j (by omega) hjl) (fun e => ?_)
      have := h i j (by omega) hjl
      rw [ordF_zero] at e
      simp only at e
      unfold ltV at this
      omega
  | false =>
    rw [if_neg (by simp)]
    refine cntV_eq hi (fun j hj => le_of j (h1 j hj)) (fun j hj hjl => nle j (h2 j hj hjl) (fun e => ?_))
    rcases Nat.lt_or_ge i j with h3 | h3
    · have hij := h i j h3 hjl
      have h4 := h2 i (Nat.le_refl _) (by omega)
      rw [ordF_zero] at e
      rw [ordF_lt] at h4
      simp only at e
      unfold ltV at hij h4
      simp only at h4
      by_cases hk : (nthR l i).k = k
      · have : ordF (nthR l i) ⟨k, t, 0, false⟩ = 0 := by rw [ordF_zero]; simp only; omega
        have := hB.2 ⟨by omega, this⟩
        rw [hb] at this; cases this
      · omega
    · obtain rfl : i = j := by omega
      have := hB.2 ⟨hjl, e⟩
      rw [hb] at this; cases this

set_option maxHeartbeats 1000000 in
theorem vupto_any (a : Option Addr) (n c : Nat) (l : List Vn) (k t : Int) (w : World) (h1 : Rw w a n c l) (hs : AscV l) :
    Calls Try.prog 40 #[.slice a n c, .int .i64 k, .int .i64 t] w fun e w' => e = .returned (.int .i64 (cntV l k t : Nat)) ∧ Ext w w' := by
  have bd := h1.bd
  have HL := Lib.hid h1.hlen
  have HS := Lib.hid hs
  clear hs
  have hQ : ∀ (V W : World), Ext w V → Calls Try.prog 53 #[.slice a n c, .agg #[.int .i64 k, .int .i64 t, .int .i64 0, .bool false], .func (.func 54) #[] #[]] V fun e w' => SrV l ⟨k, t, 0, false⟩ n V w' e := fun V W hx => vsearch_any a n c l ⟨k, t, 0, false⟩ V (h1.ext hx) HS.out
  have HQ := Lib.hid hQ
  clear hQ
  have hE := (Ext.refl w).alloc (.cells #[.int .i64 0, .int .i64 0, .int .i64 0, .bool false] 47)
  have hE2 : Ext w (w.alloc (.cells #[.int .i64 k, .int .i64 t, .int .i64 0, .bool false] 47)) := (Ext.refl w).alloc _
  go_enter Try.func40, Try.ntmps40
  go_upto_region 2 with fail
  have hb := Bk.new w 47 #[.int .i64 k, .int .i64 t, .int .i64 0, .bool false]
  generalize w.alloc (.cells #[.int .i64 k, .int .i64 t, .int .i64 0, .bool false] 47) = V at *
  have c0 := hb.c 0 _ rfl
  have c1 := hb.c 1 _ rfl
  have c2 := hb.c 2 _ rfl
  have c3 := hb.c 3 _ rfl
  go_wp2_with fail
  refine (HQ.out V V hE2).mono ?_
  rintro e W1 ⟨i, B, rfl, hx, hi, p1, p2, p3⟩
  have HC := Lib.hid (cnt_of_search HS.out HL.out hi p1 p2 p3)
  clear p1 p2 p3 c0 c1 c2 c3
  cases B with
  | true =>
    have HC2 : Hid (cntV l k t = i + 1) := Lib.hid (HC.out.trans (if_pos rfl))
    go_wp2_with fail
    go_ret
    exact ⟨by rw [HC2.out]; rfl, hE2.trans hx⟩
  | false =>
    go_wp2_with fail
    go_ret
    exact ⟨by rw [HC.out, if_neg (by simp)]; rfl, hE2.trans hx⟩

theorem res_last (W : World) (b : Nat) (v0 v1 v2 v3  : Value) (tmps : Array Value) (hb : tmps[6]?.getD undef = .pointer (some ⟨b, 0, none⟩))  (h : Bk W b 47 #[v0, v1, v2, v3]) :
    (results Try.f39 tmps).run Try.prog W = .ok (.agg #[v0, v1, v2, v3]) W := by
  have c0 := h.c 0 _ rfl
  have c1 := h.c 1 _ rfl
  have c2 := h.c 2 _ rfl
  have c3 := h.c 3 _ rfl
  simp [results, Try.results39, go_sem, hb, c0, c1, c2, c3]

set_option maxHeartbeats 2000000 in
theorem vlast_any (a : Option Addr) (n c : Nat) (l : List Vn) (k t : Int) (w : World) (h1 : Rw w a n c l) (hs : AscV l) :
    Calls Try.prog 39 #[.slice a n c, .int .i64 k, .int .i64 t] w fun e w' => e = .returned (valV (lastV l k t)) ∧ Ext w w' := by
  have bd := h1.bd
  have HL := Lib.hid h1.hlen
  have HS := Lib.hid hs
  clear hs
  have hup := fun (V : World) (hx : Ext w V) => vupto_any a n c l k t V (h1.ext hx) HS.out
  have hcl : cntV l k t ≤ n := by have := cntV_le l k t; rw [HL.out] at this; exact this
  have HLV : Hid (lastV l k t = if 0 < cntV l k t ∧ (nthR l (cntV l k t - 1)).k = k then nthR l (cntV l k t - 1) else v0) := Lib.hid rfl
  have hR := Bk.new w 47 #[.int .i64 0, .int .i64 0, .int .i64 0, .bool false]
  have hE : Ext w (w.alloc (.cells #[.int .i64 0, .int .i64 0, .int .i64 0, .bool false] 47)) := (Ext.refl w).alloc _
  generalize cntV l k t = i at *
  have HUP := Lib.hid hup
  clear hup
  go_enter Try.func39, Try.ntmps39
  go_upto_region 1 with fail
  generalize w.alloc (.cells #[.int .i64 0, .int .i64 0, .int .i64 0, .bool false] 47) = V at *
  go_wp2_with (go_at_call 40; refine (HUP.out V hE).mono ?_; rintro e V1 ⟨rfl, hx⟩; refine hold ?_)
  refine held ?_
  replace hR := hR.ext hx
  replace hE := hE.trans hx
  clear hx
  have z0 := hR.c 0 _ rfl
  have z1 := hR.c 1 _ rfl
  have z2 := hR.c 2 _ rfl
  have z3 := hR.c 3 _ rfl
  have fz := hR.free
  obtain ⟨rb, hrb⟩ : ∃ rb, w.heap.size = rb := ⟨_, rfl⟩
  have hwr : w.heap.size ≤ rb := by omega
  rw [hrb] at hR z0 z1 z2 z3 fz ⊢
  clear hrb
  rcases Nat.eq_zero_or_pos i with h0 | h0
  · have HR : Hid (lastV l k t = v0) := Lib.hid (by rw [HLV.out, if_neg (by omega)])
    have hn1 : ¬ ((0 : Int) < (i : Int)) := by omega
    have hn2 : decide ((0 : Int) < (i : Int)) = false := decide_eq_false hn1
    have hn3 : ¬ (0 < i) := by omega
    clear h0
    go_wp2_with fail
    refine bodyPost_ret (res_last _ rb (.int .i64 0) (.int .i64 0) (.int .i64 0) (.bool false) _ (by rfl) (hR.set4 _ _ _ _)) rfl ?_
    exact ⟨by rw [HR.out]; rfl, hE.set4 hwr _ _ _ _⟩
  · obtain ⟨x1, o1, rfl, hc1⟩ := h1.at (by omega)
    have hr := rangeAt_ext (hc1 (i - 1) (by omega)) hE
    rw [sz_vn] at hr
    have hp1 : (0 : Int) < (i : Int) := by omega
    have e1 : (((i - 1 : Nat) : Int)) = (i : Int) - 1 := by omega
    have e2 : ((i : Int) - 1).toNat = i - 1 := by omega
    have e3 : (0 : Int) ≤ (i : Int) - 1 := by omega
    have e4 : (i : Int) - 1 < (n : Int) := by omega
    clear hc1
    generalize nthR l (i - 1) = y at *
    obtain ⟨d0, d1, d2, d3⟩ := cells_vn hr
    clear hr
    by_cases hk : y.k = k
    · have HR : Hid (lastV l k t = y) := Lib.hid (by rw [HLV.out, if_pos ⟨h0, hk⟩])
      have hk2 : (y.k == k) = true := by simp [hk]
      have HK := Lib.hid hk
      clear hk
      go_wp2_with fail
      refine bodyPost_ret (res_last _ rb (.int .i64 y.k) (.int .i64 y.t) (.int .i64 y.v) (.bool y.g) _ (by rfl) (hR.set4 _ _ _ _)) rfl ?_
      exact ⟨by rw [HR.out]; rfl, hE.set4 hwr _ _ _ _⟩
    · have HR : Hid (lastV l k t = v0) := Lib.hid (by rw [HLV.out, if_neg (fun h => hk h.2)])
      have hk2 : (y.k == k) = false := by simp [hk]
      go_wp2_with fail
      refine bodyPost_ret (res_last _ rb (.int .i64 0) (.int .i64 0) (.int .i64 0) (.bool false) _ (by rfl) (hR.set4 _ _ _ _)) rfl ?_
      exact ⟨by rw [HR.out]; rfl, hE.set4 hwr _ _ _ _⟩
end Go.Proofs.Ytacicanjmleikaa
