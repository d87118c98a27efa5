/-
  The law ChainCommits, walked. Written by wip/gen_c27.py.
-/
import Derived.Test.YtfohekfhcolnfaaDoorC26
namespace Go.Proofs.YtfohekfhcolnfaaDoor
open Go.RowKit Go.Sort Go.Shelf
set_option linter.unusedSimpArgs false
set_option linter.unusedVariables false
set_option maxRecDepth 100000

theorem lenlit9 {vs : List Value} (h : vs.length = 9) : ∃ x0 x1 x2 x3 x4 x5 x6 x7 x8 : Value, vs = [x0, x1, x2, x3, x4, x5, x6, x7, x8] := by
  obtain ⟨x0, v0, rfl, h0⟩ := len_cons h
  obtain ⟨x1, v1, rfl, h1⟩ := len_cons h0
  obtain ⟨x2, v2, rfl, h2⟩ := len_cons h1
  obtain ⟨x3, v3, rfl, h3⟩ := len_cons h2
  obtain ⟨x4, v4, rfl, h4⟩ := len_cons h3
  obtain ⟨x5, v5, rfl, h5⟩ := len_cons h4
  obtain ⟨x6, v6, rfl, h6⟩ := len_cons h5
  obtain ⟨x7, v7, rfl, h7⟩ := len_cons h6
  obtain ⟨x8, v8, rfl, h8⟩ := len_cons h7
  obtain rfl := len_nil h8
  exact ⟨x0, x1, x2, x3, x4, x5, x6, x7, x8, rfl⟩

theorem lenlit19 {vs : List Value} (h : vs.length = 19) : ∃ x0 x1 x2 x3 x4 x5 x6 x7 x8 x9 x10 x11 x12 x13 x14 x15 x16 x17 x18 : Value, vs = [x0, x1, x2, x3, x4, x5, x6, x7, x8, x9, x10, x11, x12, x13, x14, x15, x16, x17, x18] := by
  obtain ⟨x0, v0, rfl, h0⟩ := len_cons h
  obtain ⟨x1, v1, rfl, h1⟩ := len_cons h0
  obtain ⟨x2, v2, rfl, h2⟩ := len_cons h1
  obtain ⟨x3, v3, rfl, h3⟩ := len_cons h2
  obtain ⟨x4, v4, rfl, h4⟩ := len_cons h3
  obtain ⟨x5, v5, rfl, h5⟩ := len_cons h4
  obtain ⟨x6, v6, rfl, h6⟩ := len_cons h5
  obtain ⟨x7, v7, rfl, h7⟩ := len_cons h6
  obtain ⟨x8, v8, rfl, h8⟩ := len_cons h7
  obtain ⟨x9, v9, rfl, h9⟩ := len_cons h8
  obtain ⟨x10, v10, rfl, h10⟩ := len_cons h9
  obtain ⟨x11, v11, rfl, h11⟩ := len_cons h10
  obtain ⟨x12, v12, rfl, h12⟩ := len_cons h11
  obtain ⟨x13, v13, rfl, h13⟩ := len_cons h12
  obtain ⟨x14, v14, rfl, h14⟩ := len_cons h13
  obtain ⟨x15, v15, rfl, h15⟩ := len_cons h14
  obtain ⟨x16, v16, rfl, h16⟩ := len_cons h15
  obtain ⟨x17, v17, rfl, h17⟩ := len_cons h16
  obtain ⟨x18, v18, rfl, h18⟩ := len_cons h17
  obtain rfl := len_nil h18
  exact ⟨x0, x1, x2, x3, x4, x5, x6, x7, x8, x9, x10, x11, x12, x13, x14, x15, x16, x17, x18, rfl⟩


theorem OwB.parts {B : Nat} {W : World} {a : Option Addr} {n c m : Nat} {L : List (List Rp)} (h : OwB B W a n c L) (hL : L ≠ []) (hl : L.length = m) : ∃ g cur, a = some ⟨g, 0, none⟩ ∧ B ≤ g ∧ W.heap[g]? = some (.cells cur 27 (0, 0)) ∧ n = m := by
  obtain ⟨⟨h0, vs, h1, h2⟩, h9⟩ := h
  rcases h1.2 with ⟨hv, h⟩ | ⟨g, cap, cur, hv, hb, hgb, _⟩
  · exact absurd (List.eq_nil_of_length_eq_zero (h0.trans h)) hL
  · simp only [Value.slice.injEq] at hv; obtain ⟨rfl, _, _⟩ := hv
    exact ⟨g, cur, rfl, hb, hgb, h0.symm.trans hl⟩
set_option maxHeartbeats 40000000 in
theorem ccommit_law (host : Int) (a : Option Addr) (n c : Nat) (rs : List (List Rp)) (which : Int) (a2 : Option Addr) (n2 c2 : Nat) (r : List Rp) (w : World) (hho : (Lit.int .i64 host).wf = true) (h1 : Rws w a n c rs) (hwh : 0 ≤ which ∧ which ≤ 255) (h2 : Rw w a2 n2 c2 r) (ht : TB w) :
    Calls Tryd.prog 6 #[.agg #[.int .i64 host, .slice a n c], .int .u8 which, .agg #[.slice a2 n2 c2]] w (Yes w) := by
  have bd := h1.bd
  have bd2 := h2.bd
  have HT := Lib.hid ht
  have HL := Lib.hid h1.hlen
  clear ht
  have hC : ChB ((w.alloc (.cells #[.int .i64 host, .slice a n c] 24)).alloc (.cells #[.slice a2 n2 c2] 27)) w.heap.size host a n c := (ChB.new w host a n c).ext ((Ext.refl _).alloc _)
  have hr : ((w.alloc (.cells #[.int .i64 host, .slice a n c] 24)).alloc (.cells #[.slice a2 n2 c2] 27)).cell? ⟨w.heap.size + 1, 0, none⟩ = some (.slice a2 n2 c2) := by
    have := (Boxed.new (w.alloc (.cells #[.int .i64 host, .slice a n c] 24)) 27 (.slice a2 n2 c2)).cell
    simp only [World.size_alloc] at this
    exact this
  have hrl : w.heap.size + 1 < ((w.alloc (.cells #[.int .i64 host, .slice a n c] 24)).alloc (.cells #[.slice a2 n2 c2] 27)).heap.size := by simp
  have hE : Ext w ((w.alloc (.cells #[.int .i64 host, .slice a n c] 24)).alloc (.cells #[.slice a2 n2 c2] 27)) := ((Ext.refl w).alloc _).alloc _
  rcases hf : fewB rs with _ | _
  · have HF := Lib.hid hf
    clear hf
    go_enter Tryd.func6, Tryd.ntmps6
    go_upto_region 1 with fail
    generalize (w.alloc (.cells #[.int .i64 host, .slice a n c] 24)).alloc (.cells #[.slice a2 n2 c2] 27) = W at *
    generalize w.heap.size = bc at *
    go_wp2_with fail
    refine (chead_any W (TB.ext HT.out hE)).mono ?_
    rintro e w1 ⟨rfl, hx⟩
    replace hC := hC.ext hx
    replace hr := hx.cell hr
    replace hrl := Nat.lt_of_lt_of_le hrl hx.sz
    replace hE := hE.trans hx
    clear hx
    have c0 := hC.c0
    have c1 := hC.c1
    go_wp2_with fail
    refine (few12_any _ (n) c rs w1 (h1.ext hE)).mono ?_
    rintro e wf ⟨rfl, rfl⟩
    rw [HF.out]

    go_wp2_with fail
    go_ret
    exact ⟨rfl, hE⟩
  have HF := Lib.hid hf
  obtain ⟨hsh, h60, -⟩ := fewB_short hf
  have HSS := Lib.hid hsh
  have hn : n ≤ 60 := by have := HL.out; omega
  clear hf hsh h60
  by_cases hn2 : 50 < n2
  · have q2 : decide ((50 : Int) < (n2 : Int)) = true := by simp; omega
    go_enter Tryd.func6, Tryd.ntmps6
    go_upto_region 1 with fail
    generalize (w.alloc (.cells #[.int .i64 host, .slice a n c] 24)).alloc (.cells #[.slice a2 n2 c2] 27) = W at *
    generalize w.heap.size = bc at *
    go_wp2_with fail
    refine (chead_any W (TB.ext HT.out hE)).mono ?_
    rintro e w1 ⟨rfl, hx⟩
    replace hC := hC.ext hx
    replace hr := hx.cell hr
    replace hrl := Nat.lt_of_lt_of_le hrl hx.sz
    replace hE := hE.trans hx
    clear hx
    have c0 := hC.c0
    have c1 := hC.c1
    go_wp2_with fail
    refine (few12_any _ (n) c rs w1 (h1.ext hE)).mono ?_
    rintro e wf ⟨rfl, rfl⟩
    rw [HF.out]

    go_wp2_with fail
    go_ret
    exact ⟨rfl, hE⟩
  have q2 : decide ((50 : Int) < (n2 : Int)) = false := by simp; omega
  rcases hv : validF host rs with _ | _
  · have HV := Lib.hid hv
    clear hv
    go_enter Tryd.func6, Tryd.ntmps6
    go_upto_region 1 with fail
    generalize (w.alloc (.cells #[.int .i64 host, .slice a n c] 24)).alloc (.cells #[.slice a2 n2 c2] 27) = W at *
    generalize w.heap.size = bc at *
    go_wp2_with fail
    refine (chead_any W (TB.ext HT.out hE)).mono ?_
    rintro e w1 ⟨rfl, hx⟩
    replace hC := hC.ext hx
    replace hr := hx.cell hr
    replace hrl := Nat.lt_of_lt_of_le hrl hx.sz
    replace hE := hE.trans hx
    clear hx
    have c0 := hC.c0
    have c1 := hC.c1
    go_wp2_with fail
    refine (few12_any _ (n) c rs w1 (h1.ext hE)).mono ?_
    rintro e wf ⟨rfl, rfl⟩
    rw [HF.out]

    go_wp2_with fail
    refine (rvalid_any host hho _ n c rs w1 (h1.ext hE) (fun _ => HSS.out)).mono ?_
    rintro e w2 ⟨rfl, hx⟩
    rw [HV.out]
    clear c0 c1
    replace hC := hC.ext hx
    replace hr := hx.cell hr
    replace hrl := Nat.lt_of_lt_of_le hrl hx.sz
    replace hE := hE.trans hx
    clear hx
    have c0 := hC.c0
    have c1 := hC.c1

    go_wp2_with fail
    go_ret
    exact ⟨rfl, hE⟩
  have HV := Lib.hid hv
  clear hv
  rcases n with _ | N
  · go_enter Tryd.func6, Tryd.ntmps6
    go_upto_region 1 with fail
    generalize (w.alloc (.cells #[.int .i64 host, .slice a 0 c] 24)).alloc (.cells #[.slice a2 n2 c2] 27) = W at *
    generalize w.heap.size = bc at *
    go_wp2_with fail
    refine (chead_any W (TB.ext HT.out hE)).mono ?_
    rintro e w1 ⟨rfl, hx⟩
    replace hC := hC.ext hx
    replace hr := hx.cell hr
    replace hrl := Nat.lt_of_lt_of_le hrl hx.sz
    replace hE := hE.trans hx
    clear hx
    have c0 := hC.c0
    have c1 := hC.c1
    go_wp2_with fail
    refine (few12_any _ (0) c rs w1 (h1.ext hE)).mono ?_
    rintro e wf ⟨rfl, rfl⟩
    rw [HF.out]

    go_wp2_with fail
    refine (rvalid_any host hho _ 0 c rs w1 (h1.ext hE) (fun _ => HSS.out)).mono ?_
    rintro e w2 ⟨rfl, hx⟩
    rw [HV.out]
    clear c0 c1
    replace hC := hC.ext hx
    replace hr := hx.cell hr
    replace hrl := Nat.lt_of_lt_of_le hrl hx.sz
    replace hE := hE.trans hx
    clear hx
    have c0 := hC.c0
    have c1 := hC.c1

    go_wp2_with fail
    go_ret
    exact ⟨rfl, hE⟩
  have hn0 : (((N : Int) + 1) == 0) = false := by simp; omega
  obtain ⟨k, hk, hkN⟩ : ∃ k : Nat, which % ((N : Int) + 1) = (k : Int) ∧ k < N + 1 := by
    have g1 := Int.emod_nonneg which (show ((N : Int) + 1) ≠ 0 by omega)
    have g2 := Int.emod_lt_of_pos which (show (0 : Int) < (N : Int) + 1 by omega)
    exact ⟨(which % ((N : Int) + 1)).toNat, by omega, by omega⟩
  obtain ⟨p1, o1, rfl, hc1⟩ := h1.at (by omega)
  obtain ⟨a', m0, c', hcN, hrN⟩ := hc1 k (by omega)
  obtain ⟨vs0, hvl, hvr, hvi⟩ := h1.vals
  have HVL := Lib.hid hvl
  have HVR := Lib.hid hvr
  have HNE : Hid (rs ≠ []) := Lib.hid (fun e => by have := HL.out; rw [e] at this; simp at this)
  clear hvl hvr hc1
  go_enter Tryd.func6, Tryd.ntmps6
  go_upto_region 1 with fail
  generalize (w.alloc (.cells #[.int .i64 host, .slice (some ⟨p1, o1, none⟩) (N + 1) c] 24)).alloc (.cells #[.slice a2 n2 c2] 27) = W at *
  generalize w.heap.size = bc at *
  go_wp2_with fail
  refine (chead_any W (TB.ext HT.out hE)).mono ?_
  rintro e w1 ⟨rfl, hx⟩
  replace hC := hC.ext hx
  replace hr := hx.cell hr
  replace hrl := Nat.lt_of_lt_of_le hrl hx.sz
  replace hE := hE.trans hx
  clear hx
  have c0 := hC.c0
  have c1 := hC.c1
  go_wp2_with fail
  refine (few12_any _ ((N + 1)) c rs w1 (h1.ext hE)).mono ?_
  rintro e wf ⟨rfl, rfl⟩
  rw [HF.out]

  go_wp2_with fail
  refine (rvalid_any host hho _ (N + 1) c rs w1 (h1.ext hE) (fun _ => HSS.out)).mono ?_
  rintro e w2 ⟨rfl, hx⟩
  rw [HV.out]
  clear c0 c1
  replace hC := hC.ext hx
  replace hr := hx.cell hr
  replace hrl := Nat.lt_of_lt_of_le hrl hx.sz
  replace hE := hE.trans hx
  clear hx
  have c0 := hC.c0
  have c1 := hC.c1
  have eN := hE.cell hcN
  go_upto_region 5 with fail
  have hsm := fun d os => sameRd_any a' m0 c' (nthS rs k) a2 n2 c2 r (grow (redrawn w2 d) os) ((hrN.ext hE).ext (ext_grow w2 d os)) ((h2.ext hE).ext (ext_grow w2 d os))
  generalize decide (nthS rs k = r) = Dd at hsm
  have HSM := Lib.hid hsm
  have hg := @grow_cell
  have cl := hC.lt
  have hlx2 : p1 < w2.heap.size := lt_of_cell eN
  clear hsm
  refine region_ext (by kernel_rfl) (by kernel_rfl) ?_
  repeat (go_big_quiet_step ((go_at_call 25; exact Calls.regrown_of (HSM.out _ _))))
  refine wpQuiet_nil ?_
  intro V hx
  clear hg HSM cl hlx2 eN c0 c1
  replace hC := hC.ext hx
  replace hr := hx.cell hr
  replace hrl := Nat.lt_of_lt_of_le hrl hx.sz
  replace hE := hE.trans hx
  clear hx
  have c0 := hC.c0
  have c1 := hC.c1
  rcases Dd with _ | _
  case true =>
    go_wp2_with fail
    go_ret
    exact ⟨rfl, hE⟩
  have hEV := hE
  have HIN : Hid (∀ W', Ext V W' → ∀ b2, V.heap.size ≤ b2 → ∀ i, i < N + 1 → ∃ a' n' c', vs0[i]? = some (.slice a' n' c') ∧ Rw W' a' n' c' (nthS rs i) ∧ (∀ b off, a' = some ⟨b, off, none⟩ → 0 < n' → (some ⟨b2, 0, none⟩ : Option Addr) ≠ some ⟨b, 0, none⟩)) := by
    refine Lib.hid (fun W' hW b2 hb2 i hi => ?_)
    obtain ⟨a', n', c', g1, g2⟩ := hvi i hi
    refine ⟨a', n', c', g1, g2.ext (hEV.trans hW), fun b off ha hn e => ?_⟩
    simp only [Option.some.injEq, Addr.mk.injEq, and_true] at e
    have := g2.lt ha hn
    have := hEV.sz
    omega
  go_upto_region 7 with fail
  refine region_relyL (S := Ext) (fun W' => Ext V W') [some 52, some 53, some 54, some 55, some 56, some 57, some 58, some 9, none] [[], [0], [], [], [3], [2, 3, 4], [0, 1, 2, 3, 4, 5], [], [0, 1, 2, 3, 4, 5, 6, 7]] [[], [0], [], [], [3], [2, 4], [1, 5], [], [6, 7]] [none, none, none, none, none, none, none, none, some 7] [[], [], [], [], [], [2, 5], [], [], [2, 5, 6, 7, 8]] [8] [.one (.pointer (some ⟨bc, 0, none⟩)), .one (.int .i64 host), REm V.heap.size, .one (.pointer (some ⟨bc, 1, none⟩)), .one (.slice (some ⟨p1, o1, none⟩) (N + 1) c), ROw V.heap.size rs, RCn V.heap.size host rs, RVar V.heap.size, RSt 7 V.heap.size host rs] (by kernel_rfl) (by kernel_rfl) rfl (by kernel_rfl) (Ext.refl V).drew ?_ ?_
  · refine stepsL_cons ?_ ?_
    · intro vs W' hl hI hd
      refine hold ?_
      obtain ⟨x0, x1, x2, x3, x4, x5, x6, x7, x8, rfl⟩ := lenlit9 hl; clear hl
      refine held ?_
      simp only [putAll, Act.put, List.setIfInBounds_toArray, List.set_cons_succ, List.set_cons_zero]
      go_wp2_with fail
      exact relyL_done _ rfl rfl (Ext.refl _) hI
    refine stepsL_cons ?_ ?_
    · intro vs W' hl hI hd
      refine hold ?_
      obtain ⟨x0, x1, x2, x3, x4, x5, x6, x7, x8, rfl⟩ := lenlit9 hl; clear hl
      simp only [factsL, atL, refV, List.getElem?_cons_succ, List.getElem?_cons_zero, List.getD_cons_succ, List.getD_cons_zero, RelL.one, RelL.any, RelL.blk, RelL.law, REm, ROw, RCn, RVar, RSt] at hd
      obtain ⟨rfl, -⟩ := hd
      refine held ?_
      simp only [putAll, Act.put, List.setIfInBounds_toArray, List.set_cons_succ, List.set_cons_zero]
      have q0 := hI.cell c0
      go_wp2_with fail
      exact relyL_done _ rfl rfl (Ext.refl _) hI
    refine stepsL_cons ?_ ?_
    · intro vs W' hl hI hd
      refine hold ?_
      obtain ⟨x0, x1, x2, x3, x4, x5, x6, x7, x8, rfl⟩ := lenlit9 hl; clear hl
      refine held ?_
      simp only [putAll, Act.put, List.setIfInBounds_toArray, List.set_cons_succ, List.set_cons_zero]
      go_wp2_with fail
      exact relyL_done _ rfl ⟨_, rfl, hI.sz, World.alloc_heap_new _ _⟩ ((Ext.refl _).alloc _) (hI.alloc _)
    refine stepsL_cons ?_ ?_
    · intro vs W' hl hI hd
      refine hold ?_
      obtain ⟨x0, x1, x2, x3, x4, x5, x6, x7, x8, rfl⟩ := lenlit9 hl; clear hl
      refine held ?_
      simp only [putAll, Act.put, List.setIfInBounds_toArray, List.set_cons_succ, List.set_cons_zero]
      go_wp2_with fail
      exact relyL_done _ rfl rfl (Ext.refl _) hI
    refine stepsL_cons ?_ ?_
    · intro vs W' hl hI hd
      refine hold ?_
      obtain ⟨x0, x1, x2, x3, x4, x5, x6, x7, x8, rfl⟩ := lenlit9 hl; clear hl
      simp only [factsL, atL, refV, List.getElem?_cons_succ, List.getElem?_cons_zero, List.getD_cons_succ, List.getD_cons_zero, RelL.one, RelL.any, RelL.blk, RelL.law, REm, ROw, RCn, RVar, RSt] at hd
      obtain ⟨rfl, -⟩ := hd
      refine held ?_
      simp only [putAll, Act.put, List.setIfInBounds_toArray, List.set_cons_succ, List.set_cons_zero]
      have q1 := hI.cell c1
      go_wp2_with fail
      exact relyL_done _ rfl rfl (Ext.refl _) hI
    refine stepsL_cons ?_ ?_
    · intro vs W' hl hI hd
      refine hold ?_
      obtain ⟨x0, x1, x2, x3, x4, x5, x6, x7, x8, rfl⟩ := lenlit9 hl; clear hl
      simp only [factsL, atL, refV, List.getElem?_cons_succ, List.getElem?_cons_zero, List.getD_cons_succ, List.getD_cons_zero, RelL.one, RelL.any, RelL.blk, RelL.law, REm, ROw, RCn, RVar, RSt] at hd
      obtain ⟨⟨b2, rfl, hb2, hm2⟩, rfl, -⟩ := hd
      refine held ?_
      simp only [putAll, Act.put, List.setIfInBounds_toArray, List.set_cons_succ, List.set_cons_zero]
      have hown := OwRs.em hb2 hm2
      have hin := HIN.out W' hI b2 hb2
      go_wp2_with (at_builtin; refine appRssG el_rd rfl _ _ rfl _ V.heap.size _ _ _ _ rfl hown p1 o1 (N + 1) c rs vs0 rfl HVL.out HL.out (rangeAt_ext HVR.out (hEV.trans hI)) hin (by omega) hI.sz (by unfold maxLen; omega) (by omega) ?_; intro g cg wg ho hB hg; refine hold ?_)
      refine held ?_
      simp only [Nat.zero_add, List.nil_append] at ho
      exact wpList_nil (relyL_lose _ rfl ⟨_, _, _, rfl, ho, by omega⟩ (keepsL_of ⟨.inr (fun _ _ h => h), .inr (fun _ _ h => h), .inl (by decide), .inr (fun _ _ h => h), .inr (fun _ _ h => h), .inl (by decide), .inr (fun _ _ h => CnV.gr h HNE.out hm2 hg), .inr (fun _ _ h => VarV.gr h hm2 hg), .inr (fun _ _ h => StB.gr h HNE.out hm2 hg), trivial⟩) (Below.trans hI (Below.mono hB (Nat.le_refl _))))
    refine stepsL_cons ?_ ?_
    · intro vs W' hl hI hd
      refine hold ?_
      obtain ⟨x0, x1, x2, x3, x4, x5, x6, x7, x8, rfl⟩ := lenlit9 hl; clear hl
      simp only [factsL, atL, refV, List.getElem?_cons_succ, List.getElem?_cons_zero, List.getD_cons_succ, List.getD_cons_zero, RelL.one, RelL.any, RelL.blk, RelL.law, REm, ROw, RCn, RVar, RSt] at hd
      obtain ⟨rfl, ⟨a5, n5, c5, rfl, h5⟩, -⟩ := hd
      refine held ?_
      simp only [putAll, Act.put, List.setIfInBounds_toArray, List.set_cons_succ, List.set_cons_zero]
      go_wp2_with fail
      exact relyL_done _ rfl ⟨a5, n5, c5, rfl, h5⟩ (Ext.refl _) hI
    refine stepsL_cons ?_ ?_
    · intro vs W' hl hI hd
      refine hold ?_
      obtain ⟨x0, x1, x2, x3, x4, x5, x6, x7, x8, rfl⟩ := lenlit9 hl; clear hl
      refine held ?_
      simp only [putAll, Act.put, List.setIfInBounds_toArray, List.set_cons_succ, List.set_cons_zero]
      go_wp2_with fail
      exact relyL_done _ rfl ⟨_, 0, none, 0, 0, rfl, hI.sz, ChB.new _ 0 none 0 0⟩ ((Ext.refl _).alloc _) (hI.alloc _)
    refine stepsL_cons ?_ ?_
    · intro vs W' hl hI hd
      refine hold ?_
      obtain ⟨x0, x1, x2, x3, x4, x5, x6, x7, x8, rfl⟩ := lenlit9 hl; clear hl
      simp only [factsL, atL, refV, List.getElem?_cons_succ, List.getElem?_cons_zero, List.getD_cons_succ, List.getD_cons_zero, RelL.one, RelL.any, RelL.blk, RelL.law, REm, ROw, RCn, RVar, RSt] at hd
      obtain ⟨⟨a6, n6, c6, rfl, h6⟩, ⟨b7, y7, a7, n7, c7, rfl, hb7, hc7⟩, -⟩ := hd
      refine held ?_
      simp only [putAll, Act.put, List.setIfInBounds_toArray, List.set_cons_succ, List.set_cons_zero]
      have f0 := free_of_block hc7 0
      have f1 := free_of_block hc7 1
      have c70 := hc7.c0
      have c71 := hc7.c1
      have hs := hc7.stored host a6 n6 c6
      have hk := h6.set hc7 host a6 n6 c6
      have hI2 := (hI.setCell (p := ⟨b7, 0, none⟩) hb7 (.int .i64 host)).setCell (p := ⟨b7, 1, none⟩) hb7 (.slice a6 n6 c6)
      go_wp2_with fail
      exact relyL_lose undef rfl ⟨b7, a6, n6, c6, rfl, hb7, hs, hk⟩ (keepsL_of ⟨.inr (fun _ _ h => h), .inr (fun _ _ h => h), .inl (by decide), .inr (fun _ _ h => h), .inr (fun _ _ h => h), .inl (by decide), .inl (by decide), .inl (by decide), .inl (by decide), trivial⟩) hI2
    exact trivial
  · intro vs W' hl hI hd
    obtain ⟨x0, x1, x2, x3, x4, x5, x6, x7, x8, rfl⟩ := lenlit9 hl; clear hl
    simp only [factsL, atL, refV, List.getElem?_cons_succ, List.getElem?_cons_zero, List.getD_cons_succ, List.getD_cons_zero, RelL.one, RelL.any, RelL.blk, RelL.law, REm, ROw, RCn, RVar, RSt] at hd
    obtain ⟨h8, -⟩ := hd
    simp only [putAll, Act.put, List.setIfInBounds_toArray, List.set_cons_succ, List.set_cons_zero]
    obtain ⟨b9, a9, n9, c9, rfl, hb9, hC9, hO9⟩ := h8
    obtain ⟨g9, cur9, rfl, hg9, hgb9, rfl⟩ := hO9.parts (by intro e; exact HNE.out e) HL.out
    have hHV := hEV.trans hI
    have hr9 := h2.ext hHV
    have hne9 : ∀ b off, a2 = some ⟨b, off, none⟩ → 0 < n2 → b ≠ g9 := fun b off ha hn e => by have := h2.lt ha hn; have := hEV.sz; omega
    have hO10 := hO9.1.set k a2 n2 c2 r hr9 hne9
    have hbg : b9 ≠ g9 := by
      intro e
      subst e
      unfold ChB at hC9
      rw [hC9] at hgb9
      simp only [Option.some.injEq, Obj.cells.injEq] at hgb9
      exact absurd hgb9.2.1 (by decide)
    have hC10 : ChB (W'.setCell ⟨g9, k, none⟩ (.slice a2 n2 c2)) b9 host (some ⟨g9, 0, none⟩) (N + 1) c9 := (heap_setCell_other W' ⟨g9, k, none⟩ b9 (.slice a2 n2 c2) hbg).trans hC9
    have hI10 := hI.setCell (p := ⟨g9, k, none⟩) hg9 (.slice a2 n2 c2)
    obtain ⟨gg, oo, gv, gEq, gc, -⟩ := hO9.rws.cells k hkN
    simp only [Option.some.injEq, Addr.mk.injEq, and_true] at gEq
    obtain ⟨rfl, rfl⟩ := gEq
    rw [Nat.zero_add] at gc
    have fg := free_of_block hgb9 k
    have e0 := hC9.c0
    have e1 := hC9.c1
    have hr8 := hI.cell hr
    go_upto_region 9 with fail
    rw [hk]
    generalize hD : rs.set k r = D at hO10
    have hRd := hO10.rws (by omega)
    have hEw8 := hEV.trans hI10
    have hLD : D.length = N + 1 := hRd.hlen
    have hShD : Short D := by
      intro z hz
      rw [← hD] at hz
      rcases List.mem_or_eq_of_mem_set hz with h | h
      · exact HSS.out z h
      · rw [h, h2.hlen]; omega
    have HSD := Lib.hid hShD
    have HLD := Lib.hid hLD
    have hVD := fun hv => fun j hj => valid_fits (host := host) (rs := D) hv (k := j) hj
    have HVD := Lib.hid hVD
    have HRd := Lib.hid hRd
    have HI10 := Lib.hid hI10
    generalize W'.setCell ⟨g9, k, none⟩ (.slice a2 n2 c2) = W8 at *
    clear hD hShD hLD hVD hRd hO10 gc fg e0 e1 hr8 hI10 hI hC9 hO9 hgb9 hr9 hHV hr c0 c1
    go_wp2_with fail
    go_loopw [10, 11, 12] (fun L S i wr => ∃ (j : Nat) (lb sb : Bool), j ≤ N + 1 ∧ i = .int .i64 j ∧ L = .bool lb ∧ S = .bool sb ∧ (validF host D = true → sb = true) ∧ Ext W8 wr) (fun _ _ i _ => N + 1 - (intOf i).toNat)
    case atStart => exact ⟨k + 1, false, true, by omega, by go_num, rfl, rfl, fun _ => rfl, Ext.refl _⟩
    case round =>
      obtain ⟨j, lb, sb, hj, rfl, rfl, rfl, hS, hx⟩ := hrel
      have HS := Lib.hid hS
      clear hS
      have hEw := hEw8.trans hx
      have hCx := hC10.ext hx
      have e0 := hCx.c0
      have e1 := hCx.c1
      by_cases hlt : j < N + 1
      · have hltI : (j : Int) < (N : Int) + 1 := by omega
        obtain ⟨gg, oo, gv, gEq, gc, a3, m3, c3, rfl, hr3⟩ := HRd.out.cells j hlt
        simp only [Option.some.injEq, Addr.mk.injEq, and_true] at gEq
        obtain ⟨rfl, rfl⟩ := gEq
        rw [Nat.zero_add] at gc
        have gcx := hx.cell gc
        have b3 := hr3.bd
        go_wp2_with fail
        have hCb := (hC.ext HI10.out).ext hx
        have bdD := HRd.out.bd
        have hm3 : m3 ≤ 400 := by have := HSD.out _ (nthS_mem (by rw [HLD.out]; exact hlt) : nthS D j ∈ D); rw [hr3.hlen] at this; exact this
        have hfit := Lib.hid (fun hv => HVD.out hv j (by rw [HLD.out]; exact hlt))
        have hRt := Lib.hid ((HRd.out.ext hx).take (m := j) (by omega))
        have hST : Short (D.take j) := fun z hz => HSD.out z (List.mem_of_mem_take hz)
        have HST := Lib.hid hST
        have HL3 := Lib.hid hr3.hlen
        have HJR := Lib.hid (headF_rng (D.take j))
        clear hST gc gcx e0 e1
        generalize hHJ : headF (D.take j) = HJ at *
        generalize D.take j = DT at *
        have HHJ := Lib.hid hHJ
        clear hHJ
        generalize nthS D j = xs at *
        go_loopw [10, 11, 80] (fun L S i wq => ∃ (t : Nat) (lb sb : Bool), t ≤ m3 ∧ i = .int .i64 t ∧ L = .bool lb ∧ S = .bool sb ∧ (validF host D = true → sb = true) ∧ Ext wr wq) (fun _ _ i _ => m3 - (intOf i).toNat)
        case atStart => exact ⟨0, lb, sb, by omega, rfl, rfl, rfl, HS.out, Ext.refl _⟩
        case round =>
          clear HS
          obtain ⟨t, lb2, sb2, ht3, rfl, rfl, rfl, hS, hy⟩ := hrel
          have HS := Lib.hid hS
          clear hS
          have hEq := hEw.trans hy
          by_cases hlt2 : t < m3
          · obtain ⟨x2, o2, ha2, hc2⟩ := hr3.at (by omega)
            have hrr := rangeAt_ext (hc2 t hlt2) (hx.trans hy)
            have hx1 := hr3.wfAt hlt2
            have hnx := Lib.hid (fun hv => (right_parts (fits_right (hfit.out hv) (i := t) (by rw [HL3.out]; exact hlt2))).2.2.1)
            rw [sz_rp] at hrr
            clear hc2
            subst ha2
            generalize nthR xs t = x at *
            obtain ⟨d0, d1, d2, d3, d4, d5, d6, d7, d8, d9⟩ := cells_rp hrr
            clear hrr
            go_upto_region 17 with fail
            have hB := RpB.new wr x
            clear d0 d1 d2 d3 d4 d5 d6 d7 d8 d9
            have hE2 : Ext wr (wr.alloc (.cells #[.int .i64 x.a, .int .i64 x.h, .int .i64 x.r, .int .u64 x.n, .int .i64 x.lo, .int .i64 x.hi, .int .i64 x.k, .int .i64 x.t, .int .i64 x.c, .int .i64 x.s] 39)) := (Ext.refl wr).alloc _
            generalize wr.alloc (.cells #[.int .i64 x.a, .int .i64 x.h, .int .i64 x.r, .int .u64 x.n, .int .i64 x.lo, .int .i64 x.hi, .int .i64 x.k, .int .i64 x.t, .int .i64 x.c, .int .i64 x.s] 39) = Z at *
            generalize wr.heap.size = zb at *
            have hEZ := hEq.trans hE2
            have hyZ := hy.trans hE2
            have hCZ := hCb.ext hyZ
            have hC9Z := (hCx.ext hyZ)
            obtain ⟨d0, d1, d2, d3, d4, d5, d6, d7, d8, d9⟩ := hB.cells
            have c0 := hCZ.c0
            have e1 := hC9Z.c1
            have l1 := hCZ.lt
            have l2 := hC9Z.lt
            have l3 := lt_of_block hB
            have hg := @grow_cell
            rcases sb2 with _ | _
            · refine region_ext (by kernel_rfl) (by kernel_rfl) ?_
              repeat (go_big_quiet_step (fail))
              refine wpQuiet_nil ?_
              intro w6 hx6
              go_wp2_with fail
              exact ⟨⟨t + 1, true, false, by omega, by go_num, rfl, rfl, HS.out, hyZ.trans hx6⟩, by simp [intOf]; omega⟩
            · have hNR := nonF_rng HJ host ((j : Int) + 1) x.a
              generalize hNN : nonF HJ host ((j : Int) + 1) x.a = NN at *
              have HNN := Lib.hid hNN
              clear hNN
              refine region_rely (S := Ext) (fun W' => Ext Z W') [some 84, some 85, some 86, some 87, some 88, some 89, some 90, some 91, some 92, some 93, some 94, some 95, some 96, some 97, some 98, some 99, some 100, some 101, some 11] [[], [0], [1], [1, 2], [1], [1, 3, 4], [1, 5], [1], [1, 7], [1], [1, 9], [1], [1, 11], [1, 6, 8, 10, 12], [1], [1, 14], [1, 13, 15], [1, 16], [0, 17]] [[18], [], [], [], [], [], [], [], [], [], [], [], [], [], [], [], [], [], []] [.one (.bool true), .one (.bool true), .one (.pointer (some ⟨b9, 1, none⟩)), .one (.slice (some ⟨g9, 0, none⟩) (N + 1) c9), .one (.int .i64 (j : Int)), .one (.slice (some ⟨g9, 0, none⟩) j c9), .one (.int .u64 HJ), .one (.pointer (some ⟨bc, 0, none⟩)), .one (.int .i64 host), .one (.int .i64 (j : Int)), .one (.int .i64 ((j : Int) + 1)), .one (.pointer (some ⟨zb, 0, none⟩)), .one (.int .i64 x.a), .one (.int .u64 NN), .one (.pointer (some ⟨zb, 3, none⟩)), .one (.int .u64 x.n), .one (.bool (NN == x.n)), .one (.bool (NN == x.n)), .one (.bool (NN == x.n))] (by kernel_rfl) (by kernel_rfl) (Ext.refl Z).drew ?_ ?_
              · refine stepsR_cons ?_ ?_
                · intro vs W' hl hI hd ho
                  refine hold ?_
                  obtain ⟨x0, x1, x2, x3, x4, x5, x6, x7, x8, x9, x10, x11, x12, x13, x14, x15, x16, x17, x18, rfl⟩ := lenlit19 hl; clear hl
                  refine held ?_
                  simp only [putAll, Act.put, List.setIfInBounds_toArray, List.set_cons_succ, List.set_cons_zero]
                  obtain rfl : x18 = .bool true := ho.1
                  go_wp2_with fail
                  exact rely_done _ rfl rfl (Ext.refl _) hI
                refine stepsR_cons ?_ ?_
                · intro vs W' hl hI hd ho
                  refine hold ?_
                  obtain ⟨x0, x1, x2, x3, x4, x5, x6, x7, x8, x9, x10, x11, x12, x13, x14, x15, x16, x17, x18, rfl⟩ := lenlit19 hl; clear hl
                  simp only [factsR, atR, List.getElem?_cons_succ, List.getElem?_cons_zero, Rel.one, Rel.blk] at hd
                  obtain ⟨rfl, -⟩ := hd
                  refine held ?_
                  simp only [putAll, Act.put, List.setIfInBounds_toArray, List.set_cons_succ, List.set_cons_zero]
                  go_wp2_with fail
                  exact rely_done _ rfl rfl (Ext.refl _) hI
                refine stepsR_cons ?_ ?_
                · intro vs W' hl hI hd ho
                  refine hold ?_
                  obtain ⟨x0, x1, x2, x3, x4, x5, x6, x7, x8, x9, x10, x11, x12, x13, x14, x15, x16, x17, x18, rfl⟩ := lenlit19 hl; clear hl
                  simp only [factsR, atR, List.getElem?_cons_succ, List.getElem?_cons_zero, Rel.one, Rel.blk] at hd
                  obtain ⟨rfl, -⟩ := hd
                  refine held ?_
                  simp only [putAll, Act.put, List.setIfInBounds_toArray, List.set_cons_succ, List.set_cons_zero]
                  go_wp2_with fail
                  exact rely_done _ rfl rfl (Ext.refl _) hI
                refine stepsR_cons ?_ ?_
                · intro vs W' hl hI hd ho
                  refine hold ?_
                  obtain ⟨x0, x1, x2, x3, x4, x5, x6, x7, x8, x9, x10, x11, x12, x13, x14, x15, x16, x17, x18, rfl⟩ := lenlit19 hl; clear hl
                  simp only [factsR, atR, List.getElem?_cons_succ, List.getElem?_cons_zero, Rel.one, Rel.blk] at hd
                  obtain ⟨rfl, rfl, -⟩ := hd
                  refine held ?_
                  simp only [putAll, Act.put, List.setIfInBounds_toArray, List.set_cons_succ, List.set_cons_zero]
                  have q0 := hI.cell e1
                  go_wp2_with fail
                  exact rely_done _ rfl rfl (Ext.refl _) hI
                refine stepsR_cons ?_ ?_
                · intro vs W' hl hI hd ho
                  refine hold ?_
                  obtain ⟨x0, x1, x2, x3, x4, x5, x6, x7, x8, x9, x10, x11, x12, x13, x14, x15, x16, x17, x18, rfl⟩ := lenlit19 hl; clear hl
                  simp only [factsR, atR, List.getElem?_cons_succ, List.getElem?_cons_zero, Rel.one, Rel.blk] at hd
                  obtain ⟨rfl, -⟩ := hd
                  refine held ?_
                  simp only [putAll, Act.put, List.setIfInBounds_toArray, List.set_cons_succ, List.set_cons_zero]
                  go_wp2_with fail
                  exact rely_done _ rfl rfl (Ext.refl _) hI
                refine stepsR_cons ?_ ?_
                · intro vs W' hl hI hd ho
                  refine hold ?_
                  obtain ⟨x0, x1, x2, x3, x4, x5, x6, x7, x8, x9, x10, x11, x12, x13, x14, x15, x16, x17, x18, rfl⟩ := lenlit19 hl; clear hl
                  simp only [factsR, atR, List.getElem?_cons_succ, List.getElem?_cons_zero, Rel.one, Rel.blk] at hd
                  obtain ⟨rfl, rfl, rfl, -⟩ := hd
                  refine held ?_
                  simp only [putAll, Act.put, List.setIfInBounds_toArray, List.set_cons_succ, List.set_cons_zero]
                  go_wp2_with fail
                  exact rely_done _ rfl rfl (Ext.refl _) hI
                refine stepsR_cons ?_ ?_
                · intro vs W' hl hI hd ho
                  refine hold ?_
                  obtain ⟨x0, x1, x2, x3, x4, x5, x6, x7, x8, x9, x10, x11, x12, x13, x14, x15, x16, x17, x18, rfl⟩ := lenlit19 hl; clear hl
                  simp only [factsR, atR, List.getElem?_cons_succ, List.getElem?_cons_zero, Rel.one, Rel.blk] at hd
                  obtain ⟨rfl, rfl, -⟩ := hd
                  refine held ?_
                  simp only [putAll, Act.put, List.setIfInBounds_toArray, List.set_cons_succ, List.set_cons_zero]
                  go_wp2_with fail
                  refine (headf_any _ j c9 _ W' ((hRt.out.ext hyZ).ext hI) HST.out (TB.ext HT.out (hEZ.trans hI))).mono ?_
                  rintro e w1 ⟨rfl, hx1⟩
                  rw [HHJ.out]
                  go_wp2_with fail
                  exact rely_done _ rfl rfl hx1 (hI.trans hx1)
                refine stepsR_cons ?_ ?_
                · intro vs W' hl hI hd ho
                  refine hold ?_
                  obtain ⟨x0, x1, x2, x3, x4, x5, x6, x7, x8, x9, x10, x11, x12, x13, x14, x15, x16, x17, x18, rfl⟩ := lenlit19 hl; clear hl
                  simp only [factsR, atR, List.getElem?_cons_succ, List.getElem?_cons_zero, Rel.one, Rel.blk] at hd
                  obtain ⟨rfl, -⟩ := hd
                  refine held ?_
                  simp only [putAll, Act.put, List.setIfInBounds_toArray, List.set_cons_succ, List.set_cons_zero]
                  go_wp2_with fail
                  exact rely_done _ rfl rfl (Ext.refl _) hI
                refine stepsR_cons ?_ ?_
                · intro vs W' hl hI hd ho
                  refine hold ?_
                  obtain ⟨x0, x1, x2, x3, x4, x5, x6, x7, x8, x9, x10, x11, x12, x13, x14, x15, x16, x17, x18, rfl⟩ := lenlit19 hl; clear hl
                  simp only [factsR, atR, List.getElem?_cons_succ, List.getElem?_cons_zero, Rel.one, Rel.blk] at hd
                  obtain ⟨rfl, rfl, -⟩ := hd
                  refine held ?_
                  simp only [putAll, Act.put, List.setIfInBounds_toArray, List.set_cons_succ, List.set_cons_zero]
                  have q0 := hI.cell c0
                  go_wp2_with fail
                  exact rely_done _ rfl rfl (Ext.refl _) hI
                refine stepsR_cons ?_ ?_
                · intro vs W' hl hI hd ho
                  refine hold ?_
                  obtain ⟨x0, x1, x2, x3, x4, x5, x6, x7, x8, x9, x10, x11, x12, x13, x14, x15, x16, x17, x18, rfl⟩ := lenlit19 hl; clear hl
                  simp only [factsR, atR, List.getElem?_cons_succ, List.getElem?_cons_zero, Rel.one, Rel.blk] at hd
                  obtain ⟨rfl, -⟩ := hd
                  refine held ?_
                  simp only [putAll, Act.put, List.setIfInBounds_toArray, List.set_cons_succ, List.set_cons_zero]
                  go_wp2_with fail
                  exact rely_done _ rfl rfl (Ext.refl _) hI
                refine stepsR_cons ?_ ?_
                · intro vs W' hl hI hd ho
                  refine hold ?_
                  obtain ⟨x0, x1, x2, x3, x4, x5, x6, x7, x8, x9, x10, x11, x12, x13, x14, x15, x16, x17, x18, rfl⟩ := lenlit19 hl; clear hl
                  simp only [factsR, atR, List.getElem?_cons_succ, List.getElem?_cons_zero, Rel.one, Rel.blk] at hd
                  obtain ⟨rfl, rfl, -⟩ := hd
                  refine held ?_
                  simp only [putAll, Act.put, List.setIfInBounds_toArray, List.set_cons_succ, List.set_cons_zero]
                  go_wp2_with fail
                  exact rely_done _ rfl rfl (Ext.refl _) hI
                refine stepsR_cons ?_ ?_
                · intro vs W' hl hI hd ho
                  refine hold ?_
                  obtain ⟨x0, x1, x2, x3, x4, x5, x6, x7, x8, x9, x10, x11, x12, x13, x14, x15, x16, x17, x18, rfl⟩ := lenlit19 hl; clear hl
                  simp only [factsR, atR, List.getElem?_cons_succ, List.getElem?_cons_zero, Rel.one, Rel.blk] at hd
                  obtain ⟨rfl, -⟩ := hd
                  refine held ?_
                  simp only [putAll, Act.put, List.setIfInBounds_toArray, List.set_cons_succ, List.set_cons_zero]
                  go_wp2_with fail
                  exact rely_done _ rfl rfl (Ext.refl _) hI
                refine stepsR_cons ?_ ?_
                · intro vs W' hl hI hd ho
                  refine hold ?_
                  obtain ⟨x0, x1, x2, x3, x4, x5, x6, x7, x8, x9, x10, x11, x12, x13, x14, x15, x16, x17, x18, rfl⟩ := lenlit19 hl; clear hl
                  simp only [factsR, atR, List.getElem?_cons_succ, List.getElem?_cons_zero, Rel.one, Rel.blk] at hd
                  obtain ⟨rfl, rfl, -⟩ := hd
                  refine held ?_
                  simp only [putAll, Act.put, List.setIfInBounds_toArray, List.set_cons_succ, List.set_cons_zero]
                  have q0 := hI.cell d0
                  go_wp2_with fail
                  exact rely_done _ rfl rfl (Ext.refl _) hI
                refine stepsR_cons ?_ ?_
                · intro vs W' hl hI hd ho
                  refine hold ?_
                  obtain ⟨x0, x1, x2, x3, x4, x5, x6, x7, x8, x9, x10, x11, x12, x13, x14, x15, x16, x17, x18, rfl⟩ := lenlit19 hl; clear hl
                  simp only [factsR, atR, List.getElem?_cons_succ, List.getElem?_cons_zero, Rel.one, Rel.blk] at hd
                  obtain ⟨rfl, rfl, rfl, rfl, rfl, -⟩ := hd
                  refine held ?_
                  simp only [putAll, Act.put, List.setIfInBounds_toArray, List.set_cons_succ, List.set_cons_zero]
                  go_wp2_with fail
                  refine (nonce_any HJ host ((j : Int) + 1) x.a HJR.out hho (wfi (by omega) (by omega)) hx1.a W' (TB.ext HT.out (hEZ.trans hI))).mono ?_
                  rintro e w1 ⟨rfl, hx1⟩
                  rw [HNN.out]
                  go_wp2_with fail
                  exact rely_done _ rfl rfl hx1 (hI.trans hx1)
                refine stepsR_cons ?_ ?_
                · intro vs W' hl hI hd ho
                  refine hold ?_
                  obtain ⟨x0, x1, x2, x3, x4, x5, x6, x7, x8, x9, x10, x11, x12, x13, x14, x15, x16, x17, x18, rfl⟩ := lenlit19 hl; clear hl
                  simp only [factsR, atR, List.getElem?_cons_succ, List.getElem?_cons_zero, Rel.one, Rel.blk] at hd
                  obtain ⟨rfl, -⟩ := hd
                  refine held ?_
                  simp only [putAll, Act.put, List.setIfInBounds_toArray, List.set_cons_succ, List.set_cons_zero]
                  go_wp2_with fail
                  exact rely_done _ rfl rfl (Ext.refl _) hI
                refine stepsR_cons ?_ ?_
                · intro vs W' hl hI hd ho
                  refine hold ?_
                  obtain ⟨x0, x1, x2, x3, x4, x5, x6, x7, x8, x9, x10, x11, x12, x13, x14, x15, x16, x17, x18, rfl⟩ := lenlit19 hl; clear hl
                  simp only [factsR, atR, List.getElem?_cons_succ, List.getElem?_cons_zero, Rel.one, Rel.blk] at hd
                  obtain ⟨rfl, rfl, -⟩ := hd
                  refine held ?_
                  simp only [putAll, Act.put, List.setIfInBounds_toArray, List.set_cons_succ, List.set_cons_zero]
                  have q0 := hI.cell d3
                  go_wp2_with fail
                  exact rely_done _ rfl rfl (Ext.refl _) hI
                refine stepsR_cons ?_ ?_
                · intro vs W' hl hI hd ho
                  refine hold ?_
                  obtain ⟨x0, x1, x2, x3, x4, x5, x6, x7, x8, x9, x10, x11, x12, x13, x14, x15, x16, x17, x18, rfl⟩ := lenlit19 hl; clear hl
                  simp only [factsR, atR, List.getElem?_cons_succ, List.getElem?_cons_zero, Rel.one, Rel.blk] at hd
                  obtain ⟨rfl, rfl, rfl, -⟩ := hd
                  refine held ?_
                  simp only [putAll, Act.put, List.setIfInBounds_toArray, List.set_cons_succ, List.set_cons_zero]
                  go_wp2_with fail
                  exact rely_done _ rfl rfl (Ext.refl _) hI
                refine stepsR_cons ?_ ?_
                · intro vs W' hl hI hd ho
                  refine hold ?_
                  obtain ⟨x0, x1, x2, x3, x4, x5, x6, x7, x8, x9, x10, x11, x12, x13, x14, x15, x16, x17, x18, rfl⟩ := lenlit19 hl; clear hl
                  simp only [factsR, atR, List.getElem?_cons_succ, List.getElem?_cons_zero, Rel.one, Rel.blk] at hd
                  obtain ⟨rfl, rfl, -⟩ := hd
                  refine held ?_
                  simp only [putAll, Act.put, List.setIfInBounds_toArray, List.set_cons_succ, List.set_cons_zero]
                  go_wp2_with fail
                  exact rely_done _ rfl rfl (Ext.refl _) hI
                refine stepsR_cons ?_ ?_
                · intro vs W' hl hI hd ho
                  refine hold ?_
                  obtain ⟨x0, x1, x2, x3, x4, x5, x6, x7, x8, x9, x10, x11, x12, x13, x14, x15, x16, x17, x18, rfl⟩ := lenlit19 hl; clear hl
                  simp only [factsR, atR, List.getElem?_cons_succ, List.getElem?_cons_zero, Rel.one, Rel.blk] at hd
                  obtain ⟨rfl, rfl, -⟩ := hd
                  refine held ?_
                  simp only [putAll, Act.put, List.setIfInBounds_toArray, List.set_cons_succ, List.set_cons_zero]
                  go_wp2_with fail
                  exact rely_done _ rfl rfl (Ext.refl _) hI
                exact trivial
              · intro vs W' hl hI hd
                obtain ⟨x0, x1, x2, x3, x4, x5, x6, x7, x8, x9, x10, x11, x12, x13, x14, x15, x16, x17, x18, rfl⟩ := lenlit19 hl; clear hl
                simp only [List.length_cons, List.length_nil, List.range, List.range.loop, Nat.zero_add, Nat.reduceAdd, factsR, atR, List.getElem?_cons_succ, List.getElem?_cons_zero, Rel.one, Rel.blk] at hd
                obtain ⟨rfl, rfl, rfl, rfl, rfl, rfl, rfl, rfl, rfl, rfl, rfl, rfl, rfl, rfl, rfl, rfl, rfl, rfl, rfl, -⟩ := hd
                simp only [putAll, Act.put, List.setIfInBounds_toArray, List.set_cons_succ, List.set_cons_zero]
                go_wp2_with fail
                exact ⟨⟨t + 1, true, (NN == x.n), by omega, by go_num, rfl, rfl, fun hv => by rw [hnx.out hv]; simp, hyZ.trans hI⟩, by simp [intOf]; omega⟩
          · obtain rfl : t = m3 := by omega
            go_wp2_with fail
            exact ⟨⟨j + 1, lb2, sb2, by omega, by go_num, rfl, rfl, HS.out, hx.trans hy⟩, by simp [intOf]; omega⟩
      · obtain rfl : j = N + 1 := by omega
        rcases lb with _ | _
        · go_wp2_with fail
          go_ret
          exact ⟨rfl, hEw⟩
        rcases sb with _ | _
        · have hvf : validF host D = false := by
            cases h : validF host D with
            | false => rfl
            | true => exact absurd (HS.out h) (by decide)
          have HVF := Lib.hid hvf
          clear hvf
          go_wp2_with fail
          refine (valid_any host hho _ (N + 1) c9 D wr (HRd.out.ext hx) (fun _ => HSD.out) (TB.ext HT.out hEw)).mono ?_
          rintro e w7 ⟨rfl, hx7⟩
          rw [HVF.out]
          go_wp2_with fail
          go_ret
          exact ⟨rfl, hEw.trans hx7⟩
        · go_wp2_with fail
          go_ret
          exact ⟨rfl, hEw⟩
end Go.Proofs.YtfohekfhcolnfaaDoor
