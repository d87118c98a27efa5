/-
  The law ChainMatchesReference, walked. Written by wip/gen_c24.py.
-/
import Derived.Test.YtfohekfhcolnfaaDoorC22
namespace Go.Proofs.YtfohekfhcolnfaaDoor
open Go.RowKit Go.Sort Go.Shelf
set_option linter.unusedSimpArgs false
set_option linter.unusedVariables false
set_option maxRecDepth 100000

set_option maxHeartbeats 40000000 in
theorem cmatch_law (host : Int) (a : Option Addr) (n c : Nat) (rs : List (List Rp)) (a2 : Option Addr) (n2 c2 : Nat) (r : List Rp) (start round auth later other : Int) (w : World) (hho : (Lit.int .i64 host).wf = true) (h1 : Rws w a n c rs) (h2 : Rw w a2 n2 c2 r) (hst : 0 ≤ start ∧ start ≤ 18446744073709551615)
    (hro : (Lit.int .i64 round).wf = true) (hau : (Lit.int .i64 auth).wf = true) (hla : (Lit.int .i64 later).wf = true) (hot : (Lit.int .i64 other).wf = true) (ht : TB w) :
    Calls Tryd.prog 3 #[.agg #[.int .i64 host, .slice a n c], .agg #[.slice a2 n2 c2], .int .u64 start, .int .i64 round, .int .i64 auth, .int .i64 later, .int .i64 other] w (Yes w) := by
  have bd := h1.bd
  have bd2 := h2.bd
  have HT := Lib.hid ht
  have HL := Lib.hid h1.hlen
  clear ht
  have hC : ChB ((w.alloc (.cells #[.int .i64 host, .slice a n c] 24)).alloc (.cells #[.slice a2 n2 c2] 27)) w.heap.size host a n c := (ChB.new w host a n c).ext ((Ext.refl _).alloc _)
  have hr : ((w.alloc (.cells #[.int .i64 host, .slice a n c] 24)).alloc (.cells #[.slice a2 n2 c2] 27)).cell? ⟨w.heap.size + 1, 0, none⟩ = some (.slice a2 n2 c2) := by
    have := (Boxed.new (w.alloc (.cells #[.int .i64 host, .slice a n c] 24)) 27 (.slice a2 n2 c2)).cell
    simp only [World.size_alloc] at this
    exact this
  have hrl : w.heap.size + 1 < ((w.alloc (.cells #[.int .i64 host, .slice a n c] 24)).alloc (.cells #[.slice a2 n2 c2] 27)).heap.size := by simp
  have hE : Ext w ((w.alloc (.cells #[.int .i64 host, .slice a n c] 24)).alloc (.cells #[.slice a2 n2 c2] 27)) := ((Ext.refl w).alloc _).alloc _
  rcases hf : fewB rs with _ | _
  · have HF := Lib.hid hf
    clear hf
    by_cases hn : n ≤ 200
    · have q : decide ((n : Int) ≤ 200) = true := by simp; omega
      go_enter Tryd.func3, Tryd.ntmps3
      go_upto_region 1 with fail
      generalize (w.alloc (.cells #[.int .i64 host, .slice a n c] 24)).alloc (.cells #[.slice a2 n2 c2] 27) = W at *
      generalize w.heap.size = bc at *
      go_wp2_with fail
      refine (chead_any W (TB.ext HT.out hE)).mono ?_
      rintro e w1 ⟨rfl, hx⟩
      replace hC := hC.ext hx
      replace hr := hx.cell hr
      replace hrl := Nat.lt_of_lt_of_le hrl hx.sz
      replace hE := hE.trans hx
      clear hx
      have c0 := hC.c0
      have c1 := hC.c1
      go_wp2_with fail
      refine (few12_any a n c rs w1 (h1.ext hE)).mono ?_
      rintro e wf ⟨rfl, rfl⟩
      rw [HF.out]
      go_wp2_with fail
      go_ret
      exact ⟨rfl, hE⟩
    have q : decide ((n : Int) ≤ 200) = false := by simp; omega
    have HS : Hid (Short2 n rs) := fun h => absurd h hn
    by_cases hn2 : 50 < n2
    · have q2 : decide ((50 : Int) < (n2 : Int)) = true := by simp; omega
      go_enter Tryd.func3, Tryd.ntmps3
      go_upto_region 1 with fail
      generalize (w.alloc (.cells #[.int .i64 host, .slice a n c] 24)).alloc (.cells #[.slice a2 n2 c2] 27) = W at *
      generalize w.heap.size = bc at *
      go_wp2_with fail
      refine (chead_any W (TB.ext HT.out hE)).mono ?_
      rintro e w1 ⟨rfl, hx⟩
      replace hC := hC.ext hx
      replace hr := hx.cell hr
      replace hrl := Nat.lt_of_lt_of_le hrl hx.sz
      replace hE := hE.trans hx
      clear hx
      have c0 := hC.c0
      have c1 := hC.c1
      go_wp2_with fail
      go_ret
      exact ⟨rfl, hE⟩
    have q2 : decide ((50 : Int) < (n2 : Int)) = false := by simp; omega
    by_cases hn3 : 0 < n2
    · have q3 : decide ((0 : Int) < (n2 : Int)) = true := by simp; omega
      have hra := Lib.hid (fun W (k1 : Rws W a n c rs) (k2 : Rw W a2 n2 c2 r) => rappend_any host hho a n c rs a2 n2 c2 r W k1 k2 HS.out (by omega))

      go_enter Tryd.func3, Tryd.ntmps3
      go_upto_region 1 with fail
      generalize (w.alloc (.cells #[.int .i64 host, .slice a n c] 24)).alloc (.cells #[.slice a2 n2 c2] 27) = W at *
      generalize w.heap.size = bc at *
      go_wp2_with fail
      refine (chead_any W (TB.ext HT.out hE)).mono ?_
      rintro e w1 ⟨rfl, hx⟩
      replace hC := hC.ext hx
      replace hr := hx.cell hr
      replace hrl := Nat.lt_of_lt_of_le hrl hx.sz
      replace hE := hE.trans hx
      clear hx
      have c0 := hC.c0
      have c1 := hC.c1

      go_upto_region 4 with fail
      have hn1 := Lib.hid (fun d os => nonce_any start host round auth hst hho hro hau (grow (redrawn w1 d) os) (TB.ext HT.out (hE.trans (ext_grow w1 d os))))
      have hn2 := Lib.hid (fun d os => rnonce_any start host round auth hst hho hro hau (grow (redrawn w1 d) os))
      have hv1 := Lib.hid (fun d os => valid_any host hho a n c rs (grow (redrawn w1 d) os) ((h1.ext hE).ext (ext_grow w1 d os)) HS.out (TB.ext HT.out (hE.trans (ext_grow w1 d os))))
      have hv2 := Lib.hid (fun d os => rvalid_any host hho a n c rs (grow (redrawn w1 d) os) ((h1.ext hE).ext (ext_grow w1 d os)) HS.out)
      generalize nonF start host round auth = N at hn1 hn2
      generalize validF host rs = V at hv1 hv2
      have hg := @grow_cell
      have cl := hC.lt
      refine region_ext (by kernel_rfl) (by kernel_rfl) ?_
      repeat (go_big_quiet_step (first | (go_at_call 11; exact Calls.regrown_of (hn1.out _ _)) | (go_at_call 12; exact Calls.regrown_of (hn2.out _ _)) | (go_at_call 13; exact Calls.regrown_of (hv1.out _ _)) | (go_at_call 14; exact Calls.regrown_of (hv2.out _ _))))
      refine wpQuiet_nil ?_
      intro w2 hx
      clear hg cl hn1 hn2 hv1 hv2 c0 c1
      replace hC := hC.ext hx
      replace hr := hx.cell hr
      replace hrl := Nat.lt_of_lt_of_le hrl hx.sz
      replace hE := hE.trans hx
      clear hx
      have c0 := hC.c0
      have c1 := hC.c1

      go_upto_region 6 with fail
      obtain ⟨x2, o2, rfl, hc2⟩ := h2.at (by omega)
      have hrg := rangeAt_ext (hc2 0 (by omega)) hE
      have hxok := h2.wfAt (i := 0) (by omega)
      rw [Nat.zero_mul, Nat.add_zero] at hrg
      generalize nthR r 0 = x at hrg hxok
      have hlx : x2 < w2.heap.size := lt_of_cell (hrg 0 _ rfl)
      obtain ⟨d0, d1, d2, d3, d4, d5, d6, d7, d8, d9⟩ := cells_rp hrg
      have hn1 := Lib.hid (fun d os => dig_any x hxok (grow (redrawn w2 d) os) (TB.ext HT.out (hE.trans (ext_grow w2 d os))))
      have hn2 := Lib.hid (fun d os => rdig_any x hxok (grow (redrawn w2 d) os))
      generalize digR x = N at hn1 hn2
      unfold Rp.val at hn1 hn2
      have hg := @grow_cell
      clear hrg hc2
      refine region_ext (by kernel_rfl) (by kernel_rfl) ?_
      repeat (go_big_quiet_step (first | (go_at_call 15; exact Calls.regrown_of (hn1.out _ _)) | (go_at_call 16; exact Calls.regrown_of (hn2.out _ _))))
      refine wpQuiet_nil ?_
      intro w3 hx
      clear hg hn1 hn2 c0 c1 d0 d1 d2 d3 d4 d5 d6 d7 d8 d9 hlx hxok
      replace hC := hC.ext hx
      replace hr := hx.cell hr
      replace hrl := Nat.lt_of_lt_of_le hrl hx.sz
      replace hE := hE.trans hx
      clear hx
      have c0 := hC.c0
      have c1 := hC.c1

      go_wp2_with fail
      refine (few12_any a n c rs w3 (h1.ext hE)).mono ?_
      rintro e wf ⟨rfl, rfl⟩
      rw [HF.out]

      go_wp2_with fail
      refine (before_any host hho a n c rs round auth later other (wf_i64 hro) (wf_i64 hla) w3 (h1.ext hE) HS.out (TB.ext HT.out hE)).mono ?_
      rintro e w5 ⟨rfl, hx⟩
      clear c0 c1
      replace hC := hC.ext hx
      replace hr := hx.cell hr
      replace hrl := Nat.lt_of_lt_of_le hrl hx.sz
      replace hE := hE.trans hx
      clear hx
      have c0 := hC.c0
      have c1 := hC.c1
      have hb2 := Lib.hid (rbefore_any host hho a n c rs round auth later other (wf_i64 hro) (wf_i64 hla) w5 (h1.ext hE) HS.out)
      generalize befB host rs round auth later other = B1 at *
      generalize befE host rs round auth later other = B2 at *
      go_wp2_with fail
      refine hb2.out.mono ?_
      rintro e w6 ⟨rfl, hx⟩
      clear c0 c1 hb2
      replace hC := hC.ext hx
      replace hr := hx.cell hr
      replace hrl := Nat.lt_of_lt_of_le hrl hx.sz
      replace hE := hE.trans hx
      clear hx
      have c0 := hC.c0
      have c1 := hC.c1
      go_wp2_with fail
      refine (append_any host hho a n c rs _ n2 c2 r w6 (h1.ext hE) (h2.ext hE) HS.out (by omega) (TB.ext HT.out hE)).mono ?_
      rintro e w7 ⟨a5, n5, c5, rfl, ho5, hn5, hx⟩
      generalize apdE host rs r = E1 at *
      generalize apdH host rs r = H1 at *
      generalize apdL host rs r = L1 at *
      clear c0 c1
      go_upto_region 13 with fail
      have hy : Ext w7 (w7.alloc (.cells #[.int .i64 H1, .slice a5 n5 c5] 24)) := (Ext.refl _).alloc _
      have hD5 := ChB.new w7 H1 a5 n5 c5
      have hs5 := (ho5.rws (by omega)).ext hy
      replace hx := hx.trans hy
      generalize w7.alloc (.cells #[.int .i64 H1, .slice a5 n5 c5] 24) = W7 at *
      generalize w7.heap.size = b7 at *
      clear hy ho5
      replace hC := hC.ext hx
      replace hr := hx.cell hr
      replace hrl := Nat.lt_of_lt_of_le hrl hx.sz
      replace hE := hE.trans hx
      clear hx
      have c0 := hC.c0
      have c1 := hC.c1
      go_wp2_with fail
      refine (hra.out W7 (h1.ext hE) (h2.ext hE)).mono ?_
      rintro e w8 ⟨a6, n6, c6, rfl, ho6, hn6, hx⟩
      clear hra c0 c1
      go_upto_region 14 with fail
      have hy : Ext w8 (w8.alloc (.cells #[.int .i64 H1, .slice a6 n6 c6] 24)) := (Ext.refl _).alloc _
      have hD6 := ChB.new w8 H1 a6 n6 c6
      have hs6 := (ho6.rws (by omega)).ext hy
      replace hx := hx.trans hy
      generalize w8.alloc (.cells #[.int .i64 H1, .slice a6 n6 c6] 24) = W8 at *
      generalize w8.heap.size = b8 at *
      have hs5' := hs5.ext hx
      have hD5' := hD5.ext hx
      clear hy ho6 hs5 hD5
      replace hC := hC.ext hx
      replace hr := hx.cell hr
      replace hrl := Nat.lt_of_lt_of_le hrl hx.sz
      replace hE := hE.trans hx
      clear hx
      have c0 := hC.c0
      have c1 := hC.c1
      clear c0 c1
      have e0 := hD5'.c0
      have e1 := hD5'.c1
      have f0 := hD6.c0
      have f1 := hD6.c1
      go_wp2_with fail
      refine (same12_any H1 H1 a5 n5 c5 L1 a6 n6 c6 L1 W8 hs5' hs6).mono ?_
      rintro e w9 ⟨rfl, hx⟩
      rw [sameC_refl]
      replace hE := hE.trans hx
      clear e0 e1 f0 f1
      go_wp2_with fail
      go_ret
      exact ⟨rfl, hE⟩
    · have q3 : decide ((0 : Int) < (n2 : Int)) = false := by simp; omega
      have hra := Lib.hid (fun W (k1 : Rws W a n c rs) (k2 : Rw W a2 n2 c2 r) => rappend_any host hho a n c rs a2 n2 c2 r W k1 k2 HS.out (by omega))

      go_enter Tryd.func3, Tryd.ntmps3
      go_upto_region 1 with fail
      generalize (w.alloc (.cells #[.int .i64 host, .slice a n c] 24)).alloc (.cells #[.slice a2 n2 c2] 27) = W at *
      generalize w.heap.size = bc at *
      go_wp2_with fail
      refine (chead_any W (TB.ext HT.out hE)).mono ?_
      rintro e w1 ⟨rfl, hx⟩
      replace hC := hC.ext hx
      replace hr := hx.cell hr
      replace hrl := Nat.lt_of_lt_of_le hrl hx.sz
      replace hE := hE.trans hx
      clear hx
      have c0 := hC.c0
      have c1 := hC.c1

      go_upto_region 4 with fail
      have hn1 := Lib.hid (fun d os => nonce_any start host round auth hst hho hro hau (grow (redrawn w1 d) os) (TB.ext HT.out (hE.trans (ext_grow w1 d os))))
      have hn2 := Lib.hid (fun d os => rnonce_any start host round auth hst hho hro hau (grow (redrawn w1 d) os))
      have hv1 := Lib.hid (fun d os => valid_any host hho a n c rs (grow (redrawn w1 d) os) ((h1.ext hE).ext (ext_grow w1 d os)) HS.out (TB.ext HT.out (hE.trans (ext_grow w1 d os))))
      have hv2 := Lib.hid (fun d os => rvalid_any host hho a n c rs (grow (redrawn w1 d) os) ((h1.ext hE).ext (ext_grow w1 d os)) HS.out)
      generalize nonF start host round auth = N at hn1 hn2
      generalize validF host rs = V at hv1 hv2
      have hg := @grow_cell
      have cl := hC.lt
      refine region_ext (by kernel_rfl) (by kernel_rfl) ?_
      repeat (go_big_quiet_step (first | (go_at_call 11; exact Calls.regrown_of (hn1.out _ _)) | (go_at_call 12; exact Calls.regrown_of (hn2.out _ _)) | (go_at_call 13; exact Calls.regrown_of (hv1.out _ _)) | (go_at_call 14; exact Calls.regrown_of (hv2.out _ _))))
      refine wpQuiet_nil ?_
      intro w2 hx
      clear hg cl hn1 hn2 hv1 hv2 c0 c1
      replace hC := hC.ext hx
      replace hr := hx.cell hr
      replace hrl := Nat.lt_of_lt_of_le hrl hx.sz
      replace hE := hE.trans hx
      clear hx
      have c0 := hC.c0
      have c1 := hC.c1

      go_wp2_with fail
      refine (few12_any a n c rs w2 (h1.ext hE)).mono ?_
      rintro e wf ⟨rfl, rfl⟩
      rw [HF.out]

      go_wp2_with fail
      refine (before_any host hho a n c rs round auth later other (wf_i64 hro) (wf_i64 hla) w2 (h1.ext hE) HS.out (TB.ext HT.out hE)).mono ?_
      rintro e w5 ⟨rfl, hx⟩
      clear c0 c1
      replace hC := hC.ext hx
      replace hr := hx.cell hr
      replace hrl := Nat.lt_of_lt_of_le hrl hx.sz
      replace hE := hE.trans hx
      clear hx
      have c0 := hC.c0
      have c1 := hC.c1
      have hb2 := Lib.hid (rbefore_any host hho a n c rs round auth later other (wf_i64 hro) (wf_i64 hla) w5 (h1.ext hE) HS.out)
      generalize befB host rs round auth later other = B1 at *
      generalize befE host rs round auth later other = B2 at *
      go_wp2_with fail
      refine hb2.out.mono ?_
      rintro e w6 ⟨rfl, hx⟩
      clear c0 c1 hb2
      replace hC := hC.ext hx
      replace hr := hx.cell hr
      replace hrl := Nat.lt_of_lt_of_le hrl hx.sz
      replace hE := hE.trans hx
      clear hx
      have c0 := hC.c0
      have c1 := hC.c1
      go_wp2_with fail
      refine (append_any host hho a n c rs _ n2 c2 r w6 (h1.ext hE) (h2.ext hE) HS.out (by omega) (TB.ext HT.out hE)).mono ?_
      rintro e w7 ⟨a5, n5, c5, rfl, ho5, hn5, hx⟩
      generalize apdE host rs r = E1 at *
      generalize apdH host rs r = H1 at *
      generalize apdL host rs r = L1 at *
      clear c0 c1
      go_upto_region 13 with fail
      have hy : Ext w7 (w7.alloc (.cells #[.int .i64 H1, .slice a5 n5 c5] 24)) := (Ext.refl _).alloc _
      have hD5 := ChB.new w7 H1 a5 n5 c5
      have hs5 := (ho5.rws (by omega)).ext hy
      replace hx := hx.trans hy
      generalize w7.alloc (.cells #[.int .i64 H1, .slice a5 n5 c5] 24) = W7 at *
      generalize w7.heap.size = b7 at *
      clear hy ho5
      replace hC := hC.ext hx
      replace hr := hx.cell hr
      replace hrl := Nat.lt_of_lt_of_le hrl hx.sz
      replace hE := hE.trans hx
      clear hx
      have c0 := hC.c0
      have c1 := hC.c1
      go_wp2_with fail
      refine (hra.out W7 (h1.ext hE) (h2.ext hE)).mono ?_
      rintro e w8 ⟨a6, n6, c6, rfl, ho6, hn6, hx⟩
      clear hra c0 c1
      go_upto_region 14 with fail
      have hy : Ext w8 (w8.alloc (.cells #[.int .i64 H1, .slice a6 n6 c6] 24)) := (Ext.refl _).alloc _
      have hD6 := ChB.new w8 H1 a6 n6 c6
      have hs6 := (ho6.rws (by omega)).ext hy
      replace hx := hx.trans hy
      generalize w8.alloc (.cells #[.int .i64 H1, .slice a6 n6 c6] 24) = W8 at *
      generalize w8.heap.size = b8 at *
      have hs5' := hs5.ext hx
      have hD5' := hD5.ext hx
      clear hy ho6 hs5 hD5
      replace hC := hC.ext hx
      replace hr := hx.cell hr
      replace hrl := Nat.lt_of_lt_of_le hrl hx.sz
      replace hE := hE.trans hx
      clear hx
      have c0 := hC.c0
      have c1 := hC.c1
      clear c0 c1
      have e0 := hD5'.c0
      have e1 := hD5'.c1
      have f0 := hD6.c0
      have f1 := hD6.c1
      go_wp2_with fail
      refine (same12_any H1 H1 a5 n5 c5 L1 a6 n6 c6 L1 W8 hs5' hs6).mono ?_
      rintro e w9 ⟨rfl, hx⟩
      rw [sameC_refl]
      replace hE := hE.trans hx
      clear e0 e1 f0 f1
      go_wp2_with fail
      go_ret
      exact ⟨rfl, hE⟩
  · have HF := Lib.hid hf
    obtain ⟨hsh, h60, -⟩ := fewB_short hf
    have HSS := Lib.hid hsh
    have hn : n ≤ 60 := by have := HL.out; omega
    have hn' : (n : Int) ≤ 200 := by omega
    have q : decide ((n : Int) ≤ 200) = true := by simp; omega
    have HS : Hid (Short2 n rs) := fun _ => hsh
    clear hf hsh h60
    by_cases hn2 : 50 < n2
    · have q2 : decide ((50 : Int) < (n2 : Int)) = true := by simp; omega
      go_enter Tryd.func3, Tryd.ntmps3
      go_upto_region 1 with fail
      generalize (w.alloc (.cells #[.int .i64 host, .slice a n c] 24)).alloc (.cells #[.slice a2 n2 c2] 27) = W at *
      generalize w.heap.size = bc at *
      go_wp2_with fail
      refine (chead_any W (TB.ext HT.out hE)).mono ?_
      rintro e w1 ⟨rfl, hx⟩
      replace hC := hC.ext hx
      replace hr := hx.cell hr
      replace hrl := Nat.lt_of_lt_of_le hrl hx.sz
      replace hE := hE.trans hx
      clear hx
      have c0 := hC.c0
      have c1 := hC.c1
      go_wp2_with fail
      refine (few12_any a n c rs w1 (h1.ext hE)).mono ?_
      rintro e wf ⟨rfl, rfl⟩
      rw [HF.out]
      go_wp2_with fail
      go_ret
      exact ⟨rfl, hE⟩
    have q2 : decide ((50 : Int) < (n2 : Int)) = false := by simp; omega
    by_cases hn3 : 0 < n2
    · have q3 : decide ((0 : Int) < (n2 : Int)) = true := by simp; omega
      have hra := Lib.hid (fun W (k1 : Rws W a n c rs) (k2 : Rw W a2 n2 c2 r) => rappend_any host hho a n c rs a2 n2 c2 r W k1 k2 HS.out (by omega))

      go_enter Tryd.func3, Tryd.ntmps3
      go_upto_region 1 with fail
      generalize (w.alloc (.cells #[.int .i64 host, .slice a n c] 24)).alloc (.cells #[.slice a2 n2 c2] 27) = W at *
      generalize w.heap.size = bc at *
      go_wp2_with fail
      refine (chead_any W (TB.ext HT.out hE)).mono ?_
      rintro e w1 ⟨rfl, hx⟩
      replace hC := hC.ext hx
      replace hr := hx.cell hr
      replace hrl := Nat.lt_of_lt_of_le hrl hx.sz
      replace hE := hE.trans hx
      clear hx
      have c0 := hC.c0
      have c1 := hC.c1

      go_wp2_with fail
      refine (few12_any a n c rs w1 (h1.ext hE)).mono ?_
      rintro e wf ⟨rfl, rfl⟩
      rw [HF.out]

      go_upto_region 4 with fail
      have hn1 := Lib.hid (fun d os => nonce_any start host round auth hst hho hro hau (grow (redrawn w1 d) os) (TB.ext HT.out (hE.trans (ext_grow w1 d os))))
      have hn2 := Lib.hid (fun d os => rnonce_any start host round auth hst hho hro hau (grow (redrawn w1 d) os))
      have hv1 := Lib.hid (fun d os => valid_any host hho a n c rs (grow (redrawn w1 d) os) ((h1.ext hE).ext (ext_grow w1 d os)) HS.out (TB.ext HT.out (hE.trans (ext_grow w1 d os))))
      have hv2 := Lib.hid (fun d os => rvalid_any host hho a n c rs (grow (redrawn w1 d) os) ((h1.ext hE).ext (ext_grow w1 d os)) HS.out)
      generalize nonF start host round auth = N at hn1 hn2
      generalize validF host rs = V at hv1 hv2
      have hg := @grow_cell
      have cl := hC.lt
      refine region_ext (by kernel_rfl) (by kernel_rfl) ?_
      repeat (go_big_quiet_step (first | (go_at_call 11; exact Calls.regrown_of (hn1.out _ _)) | (go_at_call 12; exact Calls.regrown_of (hn2.out _ _)) | (go_at_call 13; exact Calls.regrown_of (hv1.out _ _)) | (go_at_call 14; exact Calls.regrown_of (hv2.out _ _))))
      refine wpQuiet_nil ?_
      intro w2 hx
      clear hg cl hn1 hn2 hv1 hv2 c0 c1
      replace hC := hC.ext hx
      replace hr := hx.cell hr
      replace hrl := Nat.lt_of_lt_of_le hrl hx.sz
      replace hE := hE.trans hx
      clear hx
      have c0 := hC.c0
      have c1 := hC.c1

      go_upto_region 6 with fail
      obtain ⟨x2, o2, rfl, hc2⟩ := h2.at (by omega)
      have hrg := rangeAt_ext (hc2 0 (by omega)) hE
      have hxok := h2.wfAt (i := 0) (by omega)
      rw [Nat.zero_mul, Nat.add_zero] at hrg
      generalize nthR r 0 = x at hrg hxok
      have hlx : x2 < w2.heap.size := lt_of_cell (hrg 0 _ rfl)
      obtain ⟨d0, d1, d2, d3, d4, d5, d6, d7, d8, d9⟩ := cells_rp hrg
      have hn1 := Lib.hid (fun d os => dig_any x hxok (grow (redrawn w2 d) os) (TB.ext HT.out (hE.trans (ext_grow w2 d os))))
      have hn2 := Lib.hid (fun d os => rdig_any x hxok (grow (redrawn w2 d) os))
      generalize digR x = N at hn1 hn2
      unfold Rp.val at hn1 hn2
      have hg := @grow_cell
      clear hrg hc2
      refine region_ext (by kernel_rfl) (by kernel_rfl) ?_
      repeat (go_big_quiet_step (first | (go_at_call 15; exact Calls.regrown_of (hn1.out _ _)) | (go_at_call 16; exact Calls.regrown_of (hn2.out _ _))))
      refine wpQuiet_nil ?_
      intro w3 hx
      clear hg hn1 hn2 c0 c1 d0 d1 d2 d3 d4 d5 d6 d7 d8 d9 hlx hxok
      replace hC := hC.ext hx
      replace hr := hx.cell hr
      replace hrl := Nat.lt_of_lt_of_le hrl hx.sz
      replace hE := hE.trans hx
      clear hx
      have c0 := hC.c0
      have c1 := hC.c1

      go_wp2_with fail
      refine (few12_any a n c rs w3 (h1.ext hE)).mono ?_
      rintro e wf ⟨rfl, rfl⟩
      rw [HF.out]

      go_upto_region 8 with fail
      have hn1 := Lib.hid (fun d os => headf_any a n c rs (grow (redrawn w3 d) os) ((h1.ext hE).ext (ext_grow w3 d os)) HSS.out (TB.ext HT.out (hE.trans (ext_grow w3 d os))))
      have hn2 := Lib.hid (fun d os => rheadf_any a n c rs (grow (redrawn w3 d) os) ((h1.ext hE).ext (ext_grow w3 d os)) HSS.out)
      generalize headF rs = N at hn1 hn2
      have hg := @grow_cell
      have cl := hC.lt
      refine region_ext (by kernel_rfl) (by kernel_rfl) ?_
      repeat (go_big_quiet_step (first | (go_at_call 17; exact Calls.regrown_of (hn1.out _ _)) | (go_at_call 18; exact Calls.regrown_of (hn2.out _ _))))
      refine wpQuiet_nil ?_
      intro w4 hx
      clear hg hn1 hn2 c0 c1 cl
      replace hC := hC.ext hx
      replace hr := hx.cell hr
      replace hrl := Nat.lt_of_lt_of_le hrl hx.sz
      replace hE := hE.trans hx
      clear hx
      have c0 := hC.c0
      have c1 := hC.c1

      go_wp2_with fail
      refine (before_any host hho a n c rs round auth later other (wf_i64 hro) (wf_i64 hla) w4 (h1.ext hE) HS.out (TB.ext HT.out hE)).mono ?_
      rintro e w5 ⟨rfl, hx⟩
      clear c0 c1
      replace hC := hC.ext hx
      replace hr := hx.cell hr
      replace hrl := Nat.lt_of_lt_of_le hrl hx.sz
      replace hE := hE.trans hx
      clear hx
      have c0 := hC.c0
      have c1 := hC.c1
      have hb2 := Lib.hid (rbefore_any host hho a n c rs round auth later other (wf_i64 hro) (wf_i64 hla) w5 (h1.ext hE) HS.out)
      generalize befB host rs round auth later other = B1 at *
      generalize befE host rs round auth later other = B2 at *
      go_wp2_with fail
      refine hb2.out.mono ?_
      rintro e w6 ⟨rfl, hx⟩
      clear c0 c1 hb2
      replace hC := hC.ext hx
      replace hr := hx.cell hr
      replace hrl := Nat.lt_of_lt_of_le hrl hx.sz
      replace hE := hE.trans hx
      clear hx
      have c0 := hC.c0
      have c1 := hC.c1
      go_wp2_with fail
      refine (append_any host hho a n c rs _ n2 c2 r w6 (h1.ext hE) (h2.ext hE) HS.out (by omega) (TB.ext HT.out hE)).mono ?_
      rintro e w7 ⟨a5, n5, c5, rfl, ho5, hn5, hx⟩
      generalize apdE host rs r = E1 at *
      generalize apdH host rs r = H1 at *
      generalize apdL host rs r = L1 at *
      clear c0 c1
      go_upto_region 13 with fail
      have hy : Ext w7 (w7.alloc (.cells #[.int .i64 H1, .slice a5 n5 c5] 24)) := (Ext.refl _).alloc _
      have hD5 := ChB.new w7 H1 a5 n5 c5
      have hs5 := (ho5.rws (by omega)).ext hy
      replace hx := hx.trans hy
      generalize w7.alloc (.cells #[.int .i64 H1, .slice a5 n5 c5] 24) = W7 at *
      generalize w7.heap.size = b7 at *
      clear hy ho5
      replace hC := hC.ext hx
      replace hr := hx.cell hr
      replace hrl := Nat.lt_of_lt_of_le hrl hx.sz
      replace hE := hE.trans hx
      clear hx
      have c0 := hC.c0
      have c1 := hC.c1
      go_wp2_with fail
      refine (hra.out W7 (h1.ext hE) (h2.ext hE)).mono ?_
      rintro e w8 ⟨a6, n6, c6, rfl, ho6, hn6, hx⟩
      clear hra c0 c1
      go_upto_region 14 with fail
      have hy : Ext w8 (w8.alloc (.cells #[.int .i64 H1, .slice a6 n6 c6] 24)) := (Ext.refl _).alloc _
      have hD6 := ChB.new w8 H1 a6 n6 c6
      have hs6 := (ho6.rws (by omega)).ext hy
      replace hx := hx.trans hy
      generalize w8.alloc (.cells #[.int .i64 H1, .slice a6 n6 c6] 24) = W8 at *
      generalize w8.heap.size = b8 at *
      have hs5' := hs5.ext hx
      have hD5' := hD5.ext hx
      clear hy ho6 hs5 hD5
      replace hC := hC.ext hx
      replace hr := hx.cell hr
      replace hrl := Nat.lt_of_lt_of_le hrl hx.sz
      replace hE := hE.trans hx
      clear hx
      have c0 := hC.c0
      have c1 := hC.c1
      clear c0 c1
      have e0 := hD5'.c0
      have e1 := hD5'.c1
      have f0 := hD6.c0
      have f1 := hD6.c1
      go_wp2_with fail
      refine (same12_any H1 H1 a5 n5 c5 L1 a6 n6 c6 L1 W8 hs5' hs6).mono ?_
      rintro e w9 ⟨rfl, hx⟩
      rw [sameC_refl]
      replace hE := hE.trans hx
      clear e0 e1 f0 f1
      go_wp2_with fail
      go_ret
      exact ⟨rfl, hE⟩
    · have q3 : decide ((0 : Int) < (n2 : Int)) = false := by simp; omega
      have hra := Lib.hid (fun W (k1 : Rws W a n c rs) (k2 : Rw W a2 n2 c2 r) => rappend_any host hho a n c rs a2 n2 c2 r W k1 k2 HS.out (by omega))

      go_enter Tryd.func3, Tryd.ntmps3
      go_upto_region 1 with fail
      generalize (w.alloc (.cells #[.int .i64 host, .slice a n c] 24)).alloc (.cells #[.slice a2 n2 c2] 27) = W at *
      generalize w.heap.size = bc at *
      go_wp2_with fail
      refine (chead_any W (TB.ext HT.out hE)).mono ?_
      rintro e w1 ⟨rfl, hx⟩
      replace hC := hC.ext hx
      replace hr := hx.cell hr
      replace hrl := Nat.lt_of_lt_of_le hrl hx.sz
      replace hE := hE.trans hx
      clear hx
      have c0 := hC.c0
      have c1 := hC.c1

      go_wp2_with fail
      refine (few12_any a n c rs w1 (h1.ext hE)).mono ?_
      rintro e wf ⟨rfl, rfl⟩
      rw [HF.out]

      go_upto_region 4 with fail
      have hn1 := Lib.hid (fun d os => nonce_any start host round auth hst hho hro hau (grow (redrawn w1 d) os) (TB.ext HT.out (hE.trans (ext_grow w1 d os))))
      have hn2 := Lib.hid (fun d os => rnonce_any start host round auth hst hho hro hau (grow (redrawn w1 d) os))
      have hv1 := Lib.hid (fun d os => valid_any host hho a n c rs (grow (redrawn w1 d) os) ((h1.ext hE).ext (ext_grow w1 d os)) HS.out (TB.ext HT.out (hE.trans (ext_grow w1 d os))))
      have hv2 := Lib.hid (fun d os => rvalid_any host hho a n c rs (grow (redrawn w1 d) os) ((h1.ext hE).ext (ext_grow w1 d os)) HS.out)
      generalize nonF start host round auth = N at hn1 hn2
      generalize validF host rs = V at hv1 hv2
      have hg := @grow_cell
      have cl := hC.lt
      refine region_ext (by kernel_rfl) (by kernel_rfl) ?_
      repeat (go_big_quiet_step (first | (go_at_call 11; exact Calls.regrown_of (hn1.out _ _)) | (go_at_call 12; exact Calls.regrown_of (hn2.out _ _)) | (go_at_call 13; exact Calls.regrown_of (hv1.out _ _)) | (go_at_call 14; exact Calls.regrown_of (hv2.out _ _))))
      refine wpQuiet_nil ?_
      intro w2 hx
      clear hg cl hn1 hn2 hv1 hv2 c0 c1
      replace hC := hC.ext hx
      replace hr := hx.cell hr
      replace hrl := Nat.lt_of_lt_of_le hrl hx.sz
      replace hE := hE.trans hx
      clear hx
      have c0 := hC.c0
      have c1 := hC.c1

      go_wp2_with fail
      refine (few12_any a n c rs w2 (h1.ext hE)).mono ?_
      rintro e wf ⟨rfl, rfl⟩
      rw [HF.out]

      go_upto_region 8 with fail
      have hn1 := Lib.hid (fun d os => headf_any a n c rs (grow (redrawn w2 d) os) ((h1.ext hE).ext (ext_grow w2 d os)) HSS.out (TB.ext HT.out (hE.trans (ext_grow w2 d os))))
      have hn2 := Lib.hid (fun d os => rheadf_any a n c rs (grow (redrawn w2 d) os) ((h1.ext hE).ext (ext_grow w2 d os)) HSS.out)
      generalize headF rs = N at hn1 hn2
      have hg := @grow_cell
      have cl := hC.lt
      refine region_ext (by kernel_rfl) (by kernel_rfl) ?_
      repeat (go_big_quiet_step (first | (go_at_call 17; exact Calls.regrown_of (hn1.out _ _)) | (go_at_call 18; exact Calls.regrown_of (hn2.out _ _))))
      refine wpQuiet_nil ?_
      intro w4 hx
      clear hg hn1 hn2 c0 c1 cl
      replace hC := hC.ext hx
      replace hr := hx.cell hr
      replace hrl := Nat.lt_of_lt_of_le hrl hx.sz
      replace hE := hE.trans hx
      clear hx
      have c0 := hC.c0
      have c1 := hC.c1

      go_wp2_with fail
      refine (before_any host hho a n c rs round auth later other (wf_i64 hro) (wf_i64 hla) w4 (h1.ext hE) HS.out (TB.ext HT.out hE)).mono ?_
      rintro e w5 ⟨rfl, hx⟩
      clear c0 c1
      replace hC := hC.ext hx
      replace hr := hx.cell hr
      replace hrl := Nat.lt_of_lt_of_le hrl hx.sz
      replace hE := hE.trans hx
      clear hx
      have c0 := hC.c0
      have c1 := hC.c1
      have hb2 := Lib.hid (rbefore_any host hho a n c rs round auth later other (wf_i64 hro) (wf_i64 hla) w5 (h1.ext hE) HS.out)
      generalize befB host rs round auth later other = B1 at *
      generalize befE host rs round auth later other = B2 at *
      go_wp2_with fail
      refine hb2.out.mono ?_
      rintro e w6 ⟨rfl, hx⟩
      clear c0 c1 hb2
      replace hC := hC.ext hx
      replace hr := hx.cell hr
      replace hrl := Nat.lt_of_lt_of_le hrl hx.sz
      replace hE := hE.trans hx
      clear hx
      have c0 := hC.c0
      have c1 := hC.c1
      go_wp2_with fail
      refine (append_any host hho a n c rs _ n2 c2 r w6 (h1.ext hE) (h2.ext hE) HS.out (by omega) (TB.ext HT.out hE)).mono ?_
      rintro e w7 ⟨a5, n5, c5, rfl, ho5, hn5, hx⟩
      generalize apdE host rs r = E1 at *
      generalize apdH host rs r = H1 at *
      generalize apdL host rs r = L1 at *
      clear c0 c1
      go_upto_region 13 with fail
      have hy : Ext w7 (w7.alloc (.cells #[.int .i64 H1, .slice a5 n5 c5] 24)) := (Ext.refl _).alloc _
      have hD5 := ChB.new w7 H1 a5 n5 c5
      have hs5 := (ho5.rws (by omega)).ext hy
      replace hx := hx.trans hy
      generalize w7.alloc (.cells #[.int .i64 H1, .slice a5 n5 c5] 24) = W7 at *
      generalize w7.heap.size = b7 at *
      clear hy ho5
      replace hC := hC.ext hx
      replace hr := hx.cell hr
      replace hrl := Nat.lt_of_lt_of_le hrl hx.sz
      replace hE := hE.trans hx
      clear hx
      have c0 := hC.c0
      have c1 := hC.c1
      go_wp2_with fail
      refine (hra.out W7 (h1.ext hE) (h2.ext hE)).mono ?_
      rintro e w8 ⟨a6, n6, c6, rfl, ho6, hn6, hx⟩
      clear hra c0 c1
      go_upto_region 14 with fail
      have hy : Ext w8 (w8.alloc (.cells #[.int .i64 H1, .slice a6 n6 c6] 24)) := (Ext.refl _).alloc _
      have hD6 := ChB.new w8 H1 a6 n6 c6
      have hs6 := (ho6.rws (by omega)).ext hy
      replace hx := hx.trans hy
      generalize w8.alloc (.cells #[.int .i64 H1, .slice a6 n6 c6] 24) = W8 at *
      generalize w8.heap.size = b8 at *
      have hs5' := hs5.ext hx
      have hD5' := hD5.ext hx
      clear hy ho6 hs5 hD5
      replace hC := hC.ext hx
      replace hr := hx.cell hr
      replace hrl := Nat.lt_of_lt_of_le hrl hx.sz
      replace hE := hE.trans hx
      clear hx
      have c0 := hC.c0
      have c1 := hC.c1
      clear c0 c1
      have e0 := hD5'.c0
      have e1 := hD5'.c1
      have f0 := hD6.c0
      have f1 := hD6.c1
      go_wp2_with fail
      refine (same12_any H1 H1 a5 n5 c5 L1 a6 n6 c6 L1 W8 hs5' hs6).mono ?_
      rintro e w9 ⟨rfl, hx⟩
      rw [sameC_refl]
      replace hE := hE.trans hx
      clear e0 e1 f0 f1
      go_wp2_with fail
      go_ret
      exact ⟨rfl, hE⟩
end Go.Proofs.YtfohekfhcolnfaaDoor
