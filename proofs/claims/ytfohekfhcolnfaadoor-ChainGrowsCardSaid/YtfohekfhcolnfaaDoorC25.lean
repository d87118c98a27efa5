/-
  The law ChainHeads, walked. Written by wip/gen_c25.py.
-/
import Derived.Test.YtfohekfhcolnfaaDoorC23
namespace Go.Proofs.YtfohekfhcolnfaaDoor
open Go.RowKit Go.Sort Go.Shelf
set_option linter.unusedSimpArgs false
set_option linter.unusedVariables false
set_option maxRecDepth 100000

theorem lenlit20 {vs : List Value} (h : vs.length = 20) : ∃ x0 x1 x2 x3 x4 x5 x6 x7 x8 x9 x10 x11 x12 x13 x14 x15 x16 x17 x18 x19 : Value, vs = [x0, x1, x2, x3, x4, x5, x6, x7, x8, x9, x10, x11, x12, x13, x14, x15, x16, x17, x18, x19] := by
  obtain ⟨x0, v0, rfl, h0⟩ := len_cons h
  obtain ⟨x1, v1, rfl, h1⟩ := len_cons h0
  obtain ⟨x2, v2, rfl, h2⟩ := len_cons h1
  obtain ⟨x3, v3, rfl, h3⟩ := len_cons h2
  obtain ⟨x4, v4, rfl, h4⟩ := len_cons h3
  obtain ⟨x5, v5, rfl, h5⟩ := len_cons h4
  obtain ⟨x6, v6, rfl, h6⟩ := len_cons h5
  obtain ⟨x7, v7, rfl, h7⟩ := len_cons h6
  obtain ⟨x8, v8, rfl, h8⟩ := len_cons h7
  obtain ⟨x9, v9, rfl, h9⟩ := len_cons h8
  obtain ⟨x10, v10, rfl, h10⟩ := len_cons h9
  obtain ⟨x11, v11, rfl, h11⟩ := len_cons h10
  obtain ⟨x12, v12, rfl, h12⟩ := len_cons h11
  obtain ⟨x13, v13, rfl, h13⟩ := len_cons h12
  obtain ⟨x14, v14, rfl, h14⟩ := len_cons h13
  obtain ⟨x15, v15, rfl, h15⟩ := len_cons h14
  obtain ⟨x16, v16, rfl, h16⟩ := len_cons h15
  obtain ⟨x17, v17, rfl, h17⟩ := len_cons h16
  obtain ⟨x18, v18, rfl, h18⟩ := len_cons h17
  obtain ⟨x19, v19, rfl, h19⟩ := len_cons h18
  obtain rfl := len_nil h19
  exact ⟨x0, x1, x2, x3, x4, x5, x6, x7, x8, x9, x10, x11, x12, x13, x14, x15, x16, x17, x18, x19, rfl⟩


theorem lit_of_block {W : World} {b : Nat} {T : TypeId} {x y z : Int} (h : W.heap[b]? = some (.cells #[.int .i64 x, .int .i64 y, .int .i64 z] T (0, 0))) (hw : ∀ u ∈ [x, y, z], (Lit.int .i64 u).wf = true) : Sl .i64 W (some ⟨b, 0, none⟩) 3 3 [x, y, z] := by
  refine ⟨rfl, Nat.le_refl _, by unfold maxLen; omega, fun i hi => ⟨b, 0, rfl, ?_⟩, hw⟩
  rcases i with _ | _ | _ | i
  · exact cell_of_block h 0 _ rfl
  · exact cell_of_block h 1 _ rfl
  · exact cell_of_block h 2 _ rfl
  · omega
theorem valid_fits {host : Int} {rs : List (List Rp)} (hv : validF host rs = true) {k : Nat} (hk : k < rs.length) : fitsF host ((k : Int) + 1) (headF (rs.take k)) (nthS rs k) = true := by
  unfold validF at hv
  simp only [Bool.and_eq_true] at hv
  exact all_range.1 hv.2.2 k hk
theorem fits_right {host nu he : Int} {xs : List Rp} (h : fitsF host nu he xs = true) {i : Nat} (hi : i < xs.length) : rightB host nu he (nthR xs i) = true := by
  have := all_range.1 h i hi
  unfold stepB' at this
  simp only [Bool.and_eq_true] at this
  exact this.2
theorem right_parts {host nu he : Int} {x : Rp} (h : rightB host nu he x = true) : x.h = host ∧ x.r = nu ∧ x.n = nonF he host nu x.a ∧ wfR x = true := by
  unfold rightB at h
  simp only [Bool.and_eq_true, beq_iff_eq] at h
  exact ⟨h.2.1, h.2.2.1, h.2.2.2, h.1⟩

set_option maxHeartbeats 40000000 in
theorem cheads_law (host : Int) (a : Option Addr) (n c : Nat) (rs : List (List Rp)) (w : World) (hho : (Lit.int .i64 host).wf = true) (h1 : Rws w a n c rs) (ht : TB w) :
    Calls Tryd.prog 4 #[.agg #[.int .i64 host, .slice a n c]] w (Yes w) := by
  have bd := h1.bd
  have HT := Lib.hid ht
  have HL := Lib.hid h1.hlen
  clear ht
  have hC : ChB (w.alloc (.cells #[.int .i64 host, .slice a n c] 24)) w.heap.size host a n c := ChB.new w host a n c
  have hE : Ext w (w.alloc (.cells #[.int .i64 host, .slice a n c] 24)) := (Ext.refl w).alloc _
  rcases hf : fewB rs with _ | _
  · have HF := Lib.hid hf
    clear hf
    go_enter Tryd.func4, Tryd.ntmps4
    go_upto_region 1 with fail
    generalize w.alloc (.cells #[.int .i64 host, .slice a n c] 24) = W at *
    generalize w.heap.size = bc at *
    go_wp2_with fail
    refine (chead_any W (TB.ext HT.out hE)).mono ?_
    rintro e w1 ⟨rfl, hx⟩
    replace hC := hC.ext hx
    replace hE := hE.trans hx
    clear hx
    have c0 := hC.c0
    have c1 := hC.c1
    go_wp2_with fail
    refine (few12_any a n c rs w1 (h1.ext hE)).mono ?_
    rintro e wf ⟨rfl, rfl⟩
    rw [HF.out]

    go_wp2_with fail
    go_ret
    exact ⟨rfl, hE⟩
  have HF := Lib.hid hf
  obtain ⟨hsh, h60, -⟩ := fewB_short hf
  have HSS := Lib.hid hsh
  have hn : n ≤ 60 := by have := HL.out; omega
  clear hf hsh h60
  rcases n with _ | N
  · go_enter Tryd.func4, Tryd.ntmps4
    go_upto_region 1 with fail
    generalize w.alloc (.cells #[.int .i64 host, .slice a 0 c] 24) = W at *
    generalize w.heap.size = bc at *
    go_wp2_with fail
    refine (chead_any W (TB.ext HT.out hE)).mono ?_
    rintro e w1 ⟨rfl, hx⟩
    replace hC := hC.ext hx
    replace hE := hE.trans hx
    clear hx
    have c0 := hC.c0
    have c1 := hC.c1
    go_wp2_with fail
    refine (few12_any a 0 c rs w1 (h1.ext hE)).mono ?_
    rintro e wf ⟨rfl, rfl⟩
    rw [HF.out]

    go_wp2_with fail
    go_ret
    exact ⟨rfl, hE⟩
  have hn0 : (((N : Int) + 1) == 0) = false := by simp; omega
  obtain ⟨x1, o1, rfl, hc1⟩ := h1.at (by omega)
  obtain ⟨a', m0, c', hcN, hrN⟩ := hc1 N (by omega)
  have b0 := hrN.bd
  have hm0 : m0 ≤ 400 := by have := HSS.out (nthS rs N) (nthS_mem (by rw [HL.out]; omega)); rw [hrN.hlen] at this; exact this
  have hhd := headF_take (rs := rs) (k := N) (by rw [HL.out]; omega)
  rw [List.take_of_length_le (by rw [HL.out]; exact Nat.le_refl _)] at hhd
  have hval := fun hv => valid_fits (host := host) (rs := rs) hv (k := N) (by rw [HL.out]; omega)
  have hRt0 := h1.take (m := N) (by omega)
  have hST0 : Short (rs.take N) := fun r hr => HSS.out r (List.mem_of_mem_take hr)
  have HRT := Lib.hid hRt0
  generalize nthS rs N = xs at *
  have hrN0 := Lib.hid hrN.hlen
  generalize hHN : headF (rs.take N) = HN at hhd hval
  have HRN : Hid (0 ≤ HN ∧ HN ≤ 18446744073709551615) := Lib.hid (hHN ▸ headF_rng _)
  have HHN := Lib.hid hHN
  have HHD := Lib.hid hhd
  have HVAL := Lib.hid hval
  have HST := Lib.hid hST0
  clear hHN hhd hval hST0 hc1 hRt0
  go_enter Tryd.func4, Tryd.ntmps4
  go_upto_region 1 with fail
  generalize w.alloc (.cells #[.int .i64 host, .slice (some ⟨x1, o1, none⟩) (N + 1) c] 24) = W at *
  generalize w.heap.size = bc at *
  go_wp2_with fail
  refine (chead_any W (TB.ext HT.out hE)).mono ?_
  rintro e w1 ⟨rfl, hx⟩
  replace hC := hC.ext hx
  replace hE := hE.trans hx
  clear hx
  have c0 := hC.c0
  have c1 := hC.c1
  go_wp2_with fail
  refine (few12_any _ (N + 1) c rs w1 (h1.ext hE)).mono ?_
  rintro e wf ⟨rfl, rfl⟩
  rw [HF.out]
  have cN := hE.cell hcN
  go_upto_region 6 with fail
  have ho0 := OwI.lit .i64 3 (base := w1.heap.size) w1 [(m0 : Int)] (Nat.le_refl _) (by unfold maxLen; simp) #[.int .i64 (m0 : Int)] rfl
  have hE1 : Ext w1 (w1.alloc (.cells #[.int .i64 (m0 : Int)] 3)) := (Ext.refl w1).alloc _
  simp only [List.length_cons, List.length_nil, Nat.zero_add, Nat.reduceAdd] at ho0
  have e1 := (hC.ext hE1).c1
  have eN := hE1.cell cN
  have hz1 := hE1.sz
  generalize w1.alloc (.cells #[.int .i64 (m0 : Int)] 3) = V1 at *
  have hEV := hE.trans hE1
  go_wp2_with fail
  go_loopw [5, 41] (fun l i wr => ∃ (k m cc : Nat) (aa : Option Addr), k ≤ m0 ∧ i = .int .i64 k ∧ l = .slice aa m cc ∧ m = 1 + 2 * k ∧ OwI .i64 3 w1.heap.size wr aa m cc ((m0 : Int) :: behM (xs.take k)) ∧ Ext w1 wr) (fun _ i _ => m0 - (intOf i).toNat)
  case atStart => exact ⟨0, 1, 1, _, by omega, rfl, rfl, by omega, by simpa [behM] using ho0, hE1⟩
  case round =>
    obtain ⟨k, m, cc, aa, hk, rfl, rfl, hm, ho, hx⟩ := hrel
    have HM := Lib.hid hm
    have hz := hx.sz
    have hEw := hE.trans hx
    clear hm ho0 e1 eN
    by_cases hlt : k < m0
    · obtain ⟨x2, o2, ha2, hc2⟩ := hrN.at (by omega)
      have hr := rangeAt_ext (hc2 k hlt) hEw
      have hx1 := hrN.wfAt hlt
      have hbm := behM_take (xs := xs) (k := k) (by rw [hrN0.out]; exact hlt)
      have HBM := Lib.hid hbm
      have hm2 : m ≤ 801 := by have := HM.out; omega
      rw [sz_rp] at hr
      clear hbm hc2
      subst ha2
      generalize nthR xs k = x at *
      obtain ⟨d0, d1, d2, d3, d4, d5, d6, d7, d8, d9⟩ := cells_rp hr
      clear hr
      go_upto_region 9 with fail
      have hB := RpB.new wr x
      clear d0 d1 d2 d3 d4 d5 d6 d7 d8 d9
      have hE2 : Ext wr (wr.alloc (.cells #[.int .i64 x.a, .int .i64 x.h, .int .i64 x.r, .int .u64 x.n, .int .i64 x.lo, .int .i64 x.hi, .int .i64 x.k, .int .i64 x.t, .int .i64 x.c, .int .i64 x.s] 39)) := (Ext.refl wr).alloc _
      generalize wr.alloc (.cells #[.int .i64 x.a, .int .i64 x.h, .int .i64 x.r, .int .u64 x.n, .int .i64 x.lo, .int .i64 x.hi, .int .i64 x.k, .int .i64 x.t, .int .i64 x.c, .int .i64 x.s] 39) = V at *
      obtain ⟨d0, d1, d2, d3, d4, d5, d6, d7, d8, d9⟩ := hB.cells
      go_wp2_with fail
      refine (dig_any x hx1 V (TB.ext HT.out (hEw.trans hE2))).mono ?_
      rintro e w2 ⟨rfl, hE3⟩
      replace hE3 := hE2.trans hE3
      clear hE2 d0 d1 d2 d3 d4 d5 d6 d7 d8 d9 hB
      have hdr := digR_rng x
      generalize digR x = D at *
      have hlit := litSl .i64 3 w2 _ 2 [D / 4294967296, D % 4294967296] #[.int .i64 (D / 4294967296), .int .i64 (D % 4294967296)] rfl rfl rfl (by simp [maxLen]) (hv_wf hdr)
      have hE4 : Ext wr (w2.alloc (.cells #[.int .i64 (D / 4294967296), .int .i64 (D % 4294967296)] 3)) := hE3.alloc _
      have ho4 := ho.ext hE4
      have hz4 := hE4.sz
      go_wp2_with (at_builtin; refine appS el_i64 rfl _ _ rfl _ w1.heap.size _ _ _ _ rfl ho4 _ _ _ _ rfl hlit (by omega) (by omega) (by unfold maxLen; omega) (by omega) ?_; intro g5 c5 w5 ho5 hB5; refine hold ?_)
      refine held ?_
      have hE5 : Ext w1 w5 := Below.trans (Ext.trans hx hE4) hB5
      clear hE3 hlit hE4 ho4 hz4 hB5
      go_wp2_with fail
      refine ⟨⟨k + 1, m + 2, c5, _, by omega, by go_num, rfl, by rw [HM.out]; omega, ?_, hE5⟩, by simp [intOf]; omega⟩
      rw [HBM.out]
      exact ho5
    · obtain rfl : k = m0 := by omega
      have hm2 : m ≤ 801 := by have := HM.out; omega
      rw [List.take_of_length_le (Nat.le_of_eq hrN0.out)] at ho
      have hwf := behL_wf (xs := xs) (by rw [hrN0.out]; omega)
      unfold behL at hwf
      rw [hrN0.out] at hwf
      have hso := ho.sl hwf
      clear hwf ho
      replace hC := hC.ext hx
      have eN := hEw.cell hcN
      have c0 := hC.c0
      have c1 := hC.c1
      have cl := hC.lt
      go_upto_region 12 with fail
      have hn1 := fun d os => headf_any _ (N + 1) c rs (grow (redrawn wr d) os) ((h1.ext hEw).ext (ext_grow wr d os)) HSS.out (TB.ext HT.out (hEw.trans (ext_grow wr d os)))
      have hn2 := fun d os => headf_any _ N c (rs.take N) (grow (redrawn wr d) os) ((HRT.out.ext hEw).ext (ext_grow wr d os)) HST.out (TB.ext HT.out (hEw.trans (ext_grow wr d os)))
      have hn3 := fun d os => dnext_any HN HRN.out aa m cc _ (grow (redrawn wr d) os) (hso.ext (ext_grow wr d os)) (by omega) (TB.ext HT.out (hEw.trans (ext_grow wr d os)))
      rw [HHD.out] at hn1
      rw [HHN.out] at hn2
      unfold beh behL at hn1
      rw [hrN0.out] at hn1
      generalize fnv (be8 HN.toNat ++ txt ((k : Int) :: behM xs)) = Fv at hn1 hn3
      have H1 := Lib.hid hn1
      have H2 := Lib.hid hn2
      have H3 := Lib.hid hn3
      have hg := @grow_cell
      clear hn1 hn2 hn3
      refine region_ext (by kernel_rfl) (by kernel_rfl) ?_
      repeat (go_big_quiet_step (first | (go_at_call 17; first | with_reducible exact Calls.regrown_of (H1.out _ _) | with_reducible exact Calls.regrown_of (H2.out _ _)) | (go_at_call 24; exact Calls.regrown_of (H3.out _ _))))
      refine wpQuiet_nil ?_
      intro w2 hy
      replace hC := hC.ext hy
      have hE := hEw.trans hy
      clear hg H1 H2 H3 c0 c1 cl eN hso
      have c0 := hC.c0
      have c1 := hC.c1
      go_wp2_with fail
      refine (rvalid_any host hho _ (N + 1) c rs w2 (h1.ext hE) (fun _ => HSS.out)).mono ?_
      rintro e w3 ⟨rfl, hv3⟩
      rcases hv : validF host rs with _ | _
      · replace hE := hE.trans hv3
        clear c0 c1
        go_wp2_with fail
        go_ret
        exact ⟨rfl, hE⟩
      · have hfit := Lib.hid (HVAL.out hv)
        have HV := Lib.hid hv
        replace hC := hC.ext hv3
        replace hE := hE.trans hv3
        clear c0 c1 hv hv3 hy hx hEw
        have c0 := hC.c0
        have c1 := hC.c1
        have eN := hE.cell hcN
        go_wp2_with fail
        go_loopw [3, 81] (fun u i wr => ∃ (j : Nat), j ≤ k ∧ i = .int .i64 j ∧ u = .bool true ∧ Ext w3 wr) (fun _ i _ => k - (intOf i).toNat)
        case atStart => exact ⟨0, by omega, rfl, rfl, Ext.refl _⟩
        case round =>
          obtain ⟨j, hj, rfl, rfl, hx⟩ := hrel
          have hEw := hE.trans hx
          clear c0 c1 eN
          by_cases hlt : j < k
          · obtain ⟨x2, o2, ha2, hc2⟩ := hrN.at (by omega)
            have hr := rangeAt_ext (hc2 j hlt) hEw
            have hx1 := hrN.wfAt hlt
            obtain ⟨-, -, hnx, -⟩ := right_parts (fits_right hfit.out (i := j) (by rw [hrN0.out]; exact hlt))
            have HN0 := Lib.hid hnx
            rw [sz_rp] at hr
            clear hc2 hnx
            subst ha2
            generalize nthR xs j = x at *
            obtain ⟨d0, d1, d2, d3, d4, d5, d6, d7, d8, d9⟩ := cells_rp hr
            clear hr
            go_upto_region 19 with fail
            have hB := RpB.new wr x
            clear d0 d1 d2 d3 d4 d5 d6 d7 d8 d9
            have hE2 : Ext wr (wr.alloc (.cells #[.int .i64 x.a, .int .i64 x.h, .int .i64 x.r, .int .u64 x.n, .int .i64 x.lo, .int .i64 x.hi, .int .i64 x.k, .int .i64 x.t, .int .i64 x.c, .int .i64 x.s] 39)) := (Ext.refl wr).alloc _
            generalize wr.alloc (.cells #[.int .i64 x.a, .int .i64 x.h, .int .i64 x.r, .int .u64 x.n, .int .i64 x.lo, .int .i64 x.hi, .int .i64 x.k, .int .i64 x.t, .int .i64 x.c, .int .i64 x.s] 39) = V at *
            generalize wr.heap.size = B at *
            have hEV := hEw.trans hE2
            have hCV := hC.ext (hx.trans hE2)
            obtain ⟨d0, d1, d2, d3, d4, d5, d6, d7, d8, d9⟩ := hB.cells
            have c0 := hCV.c0
            have c1 := hCV.c1
            have HNX : Hid (fnv (be8 HN.toNat ++ txt [host, (N : Int) + 1, x.a]) = x.n) := Lib.hid HN0.out.symm
            have HW := Lib.hid (three_wf hho (wfi (n := (N : Int) + 1) (by omega) (by omega)) hx1.a)
            have hRtV := Lib.hid (HRT.out.ext hEV)
            refine region_rely (S := Ext) (fun W' => Ext V W') [some 85, some 86, some 87, some 88, some 89, some 90, some 91, some 92, some 93, some 94, some 95, some 96, some 97, some 98, some 99, some 100, some 101, some 102, some 103, some 3] [[], [0], [1], [1, 2], [1], [1, 4], [1], [1, 6], [1, 5, 7], [1, 8], [1], [1, 10], [1], [1], [1, 13], [1, 11, 12, 14], [1, 9, 15], [1, 3, 16], [1, 17], [0, 18]] [[19], [], [], [], [], [], [], [], [], [], [], [], [], [], [], [], [], [], [], []] [.one (.bool true), .one (.bool true), .one (.pointer (some ⟨B, 3, none⟩)), .one (.int .u64 x.n), .one (.pointer (some ⟨bc, 1, none⟩)), .one (.slice (some ⟨x1, o1, none⟩) (N + 1) c), .one (.int .i64 ((N : Int) + 1)), .one (.int .i64 (N : Int)), .one (.slice (some ⟨x1, o1, none⟩) N c), .one (.int .u64 HN), .one (.pointer (some ⟨bc, 0, none⟩)), .one (.int .i64 host), .one (.int .i64 ((N : Int) + 1)), .one (.pointer (some ⟨B, 0, none⟩)), .one (.int .i64 x.a), .blk #[.int .i64 host, .int .i64 ((N : Int) + 1), .int .i64 x.a] 3 (fun b => .slice (some ⟨b, 0, none⟩) 3 3), .one (.int .u64 x.n), .one (.bool true), .one (.bool true), .one (.bool true)] (by kernel_rfl) (by kernel_rfl) (Ext.refl V).drew ?_ ?_
            · refine stepsR_cons ?_ ?_
              · intro vs W' hl hI hd ho
                refine hold ?_
                obtain ⟨x0, x1, x2, x3, x4, x5, x6, x7, x8, x9, x10, x11, x12, x13, x14, x15, x16, x17, x18, x19, rfl⟩ := lenlit20 hl; clear hl
                refine held ?_
                simp only [putAll, Act.put, List.setIfInBounds_toArray, List.set_cons_succ, List.set_cons_zero]
                obtain rfl : x19 = .bool true := ho.1
                go_wp2_with fail
                exact rely_done _ rfl rfl (Ext.refl _) hI
              refine stepsR_cons ?_ ?_
              · intro vs W' hl hI hd ho
                refine hold ?_
                obtain ⟨x0, x1, x2, x3, x4, x5, x6, x7, x8, x9, x10, x11, x12, x13, x14, x15, x16, x17, x18, x19, rfl⟩ := lenlit20 hl; clear hl
                simp only [factsR, atR, List.getElem?_cons_succ, List.getElem?_cons_zero, Rel.one, Rel.blk] at hd
                obtain ⟨rfl, -⟩ := hd
                refine held ?_
                simp only [putAll, Act.put, List.setIfInBounds_toArray, List.set_cons_succ, List.set_cons_zero]
                go_wp2_with fail
                exact rely_done _ rfl rfl (Ext.refl _) hI
              refine stepsR_cons ?_ ?_
              · intro vs W' hl hI hd ho
                refine hold ?_
                obtain ⟨x0, x1, x2, x3, x4, x5, x6, x7, x8, x9, x10, x11, x12, x13, x14, x15, x16, x17, x18, x19, rfl⟩ := lenlit20 hl; clear hl
                simp only [factsR, atR, List.getElem?_cons_succ, List.getElem?_cons_zero, Rel.one, Rel.blk] at hd
                obtain ⟨rfl, -⟩ := hd
                refine held ?_
                simp only [putAll, Act.put, List.setIfInBounds_toArray, List.set_cons_succ, List.set_cons_zero]
                go_wp2_with fail
                exact rely_done _ rfl rfl (Ext.refl _) hI
              refine stepsR_cons ?_ ?_
              · intro vs W' hl hI hd ho
                refine hold ?_
                obtain ⟨x0, x1, x2, x3, x4, x5, x6, x7, x8, x9, x10, x11, x12, x13, x14, x15, x16, x17, x18, x19, rfl⟩ := lenlit20 hl; clear hl
                simp only [factsR, atR, List.getElem?_cons_succ, List.getElem?_cons_zero, Rel.one, Rel.blk] at hd
                obtain ⟨rfl, rfl, -⟩ := hd
                refine held ?_
                simp only [putAll, Act.put, List.setIfInBounds_toArray, List.set_cons_succ, List.set_cons_zero]
                have q0 := hI.cell d3
                go_wp2_with fail
                exact rely_done _ rfl rfl (Ext.refl _) hI
              refine stepsR_cons ?_ ?_
              · intro vs W' hl hI hd ho
                refine hold ?_
                obtain ⟨x0, x1, x2, x3, x4, x5, x6, x7, x8, x9, x10, x11, x12, x13, x14, x15, x16, x17, x18, x19, rfl⟩ := lenlit20 hl; clear hl
                simp only [factsR, atR, List.getElem?_cons_succ, List.getElem?_cons_zero, Rel.one, Rel.blk] at hd
                obtain ⟨rfl, -⟩ := hd
                refine held ?_
                simp only [putAll, Act.put, List.setIfInBounds_toArray, List.set_cons_succ, List.set_cons_zero]
                go_wp2_with fail
                exact rely_done _ rfl rfl (Ext.refl _) hI
              refine stepsR_cons ?_ ?_
              · intro vs W' hl hI hd ho
                refine hold ?_
                obtain ⟨x0, x1, x2, x3, x4, x5, x6, x7, x8, x9, x10, x11, x12, x13, x14, x15, x16, x17, x18, x19, rfl⟩ := lenlit20 hl; clear hl
                simp only [factsR, atR, List.getElem?_cons_succ, List.getElem?_cons_zero, Rel.one, Rel.blk] at hd
                obtain ⟨rfl, rfl, -⟩ := hd
                refine held ?_
                simp only [putAll, Act.put, List.setIfInBounds_toArray, List.set_cons_succ, List.set_cons_zero]
                have q0 := hI.cell c1
                go_wp2_with fail
                exact rely_done _ rfl rfl (Ext.refl _) hI
              refine stepsR_cons ?_ ?_
              · intro vs W' hl hI hd ho
                refine hold ?_
                obtain ⟨x0, x1, x2, x3, x4, x5, x6, x7, x8, x9, x10, x11, x12, x13, x14, x15, x16, x17, x18, x19, rfl⟩ := lenlit20 hl; clear hl
                simp only [factsR, atR, List.getElem?_cons_succ, List.getElem?_cons_zero, Rel.one, Rel.blk] at hd
                obtain ⟨rfl, -⟩ := hd
                refine held ?_
                simp only [putAll, Act.put, List.setIfInBounds_toArray, List.set_cons_succ, List.set_cons_zero]
                go_wp2_with fail
                exact rely_done _ rfl rfl (Ext.refl _) hI
              refine stepsR_cons ?_ ?_
              · intro vs W' hl hI hd ho
                refine hold ?_
                obtain ⟨x0, x1, x2, x3, x4, x5, x6, x7, x8, x9, x10, x11, x12, x13, x14, x15, x16, x17, x18, x19, rfl⟩ := lenlit20 hl; clear hl
                simp only [factsR, atR, List.getElem?_cons_succ, List.getElem?_cons_zero, Rel.one, Rel.blk] at hd
                obtain ⟨rfl, rfl, -⟩ := hd
                refine held ?_
                simp only [putAll, Act.put, List.setIfInBounds_toArray, List.set_cons_succ, List.set_cons_zero]
                go_wp2_with fail
                exact rely_done _ rfl rfl (Ext.refl _) hI
              refine stepsR_cons ?_ ?_
              · intro vs W' hl hI hd ho
                refine hold ?_
                obtain ⟨x0, x1, x2, x3, x4, x5, x6, x7, x8, x9, x10, x11, x12, x13, x14, x15, x16, x17, x18, x19, rfl⟩ := lenlit20 hl; clear hl
                simp only [factsR, atR, List.getElem?_cons_succ, List.getElem?_cons_zero, Rel.one, Rel.blk] at hd
                obtain ⟨rfl, rfl, rfl, -⟩ := hd
                refine held ?_
                simp only [putAll, Act.put, List.setIfInBounds_toArray, List.set_cons_succ, List.set_cons_zero]
                go_wp2_with fail
                exact rely_done _ rfl rfl (Ext.refl _) hI
              refine stepsR_cons ?_ ?_
              · intro vs W' hl hI hd ho
                refine hold ?_
                obtain ⟨x0, x1, x2, x3, x4, x5, x6, x7, x8, x9, x10, x11, x12, x13, x14, x15, x16, x17, x18, x19, rfl⟩ := lenlit20 hl; clear hl
                simp only [factsR, atR, List.getElem?_cons_succ, List.getElem?_cons_zero, Rel.one, Rel.blk] at hd
                obtain ⟨rfl, rfl, -⟩ := hd
                refine held ?_
                simp only [putAll, Act.put, List.setIfInBounds_toArray, List.set_cons_succ, List.set_cons_zero]
                go_wp2_with fail
                refine (headf_any _ N c _ W' ((hRtV.out).ext hI) HST.out (TB.ext HT.out (hEV.trans hI))).mono ?_
                rintro e w1 ⟨rfl, hx⟩
                rw [HHN.out]
                go_wp2_with fail
                exact rely_done _ rfl rfl hx (hI.trans hx)
              refine stepsR_cons ?_ ?_
              · intro vs W' hl hI hd ho
                refine hold ?_
                obtain ⟨x0, x1, x2, x3, x4, x5, x6, x7, x8, x9, x10, x11, x12, x13, x14, x15, x16, x17, x18, x19, rfl⟩ := lenlit20 hl; clear hl
                simp only [factsR, atR, List.getElem?_cons_succ, List.getElem?_cons_zero, Rel.one, Rel.blk] at hd
                obtain ⟨rfl, -⟩ := hd
                refine held ?_
                simp only [putAll, Act.put, List.setIfInBounds_toArray, List.set_cons_succ, List.set_cons_zero]
                go_wp2_with fail
                exact rely_done _ rfl rfl (Ext.refl _) hI
              refine stepsR_cons ?_ ?_
              · intro vs W' hl hI hd ho
                refine hold ?_
                obtain ⟨x0, x1, x2, x3, x4, x5, x6, x7, x8, x9, x10, x11, x12, x13, x14, x15, x16, x17, x18, x19, rfl⟩ := lenlit20 hl; clear hl
                simp only [factsR, atR, List.getElem?_cons_succ, List.getElem?_cons_zero, Rel.one, Rel.blk] at hd
                obtain ⟨rfl, rfl, -⟩ := hd
                refine held ?_
                simp only [putAll, Act.put, List.setIfInBounds_toArray, List.set_cons_succ, List.set_cons_zero]
                have q0 := hI.cell c0
                go_wp2_with fail
                exact rely_done _ rfl rfl (Ext.refl _) hI
              refine stepsR_cons ?_ ?_
              · intro vs W' hl hI hd ho
                refine hold ?_
                obtain ⟨x0, x1, x2, x3, x4, x5, x6, x7, x8, x9, x10, x11, x12, x13, x14, x15, x16, x17, x18, x19, rfl⟩ := lenlit20 hl; clear hl
                simp only [factsR, atR, List.getElem?_cons_succ, List.getElem?_cons_zero, Rel.one, Rel.blk] at hd
                obtain ⟨rfl, -⟩ := hd
                refine held ?_
                simp only [putAll, Act.put, List.setIfInBounds_toArray, List.set_cons_succ, List.set_cons_zero]
                go_wp2_with fail
                exact rely_done _ rfl rfl (Ext.refl _) hI
              refine stepsR_cons ?_ ?_
              · intro vs W' hl hI hd ho
                refine hold ?_
                obtain ⟨x0, x1, x2, x3, x4, x5, x6, x7, x8, x9, x10, x11, x12, x13, x14, x15, x16, x17, x18, x19, rfl⟩ := lenlit20 hl; clear hl
                simp only [factsR, atR, List.getElem?_cons_succ, List.getElem?_cons_zero, Rel.one, Rel.blk] at hd
                obtain ⟨rfl, -⟩ := hd
                refine held ?_
                simp only [putAll, Act.put, List.setIfInBounds_toArray, List.set_cons_succ, List.set_cons_zero]
                go_wp2_with fail
                exact rely_done _ rfl rfl (Ext.refl _) hI
              refine stepsR_cons ?_ ?_
              · intro vs W' hl hI hd ho
                refine hold ?_
                obtain ⟨x0, x1, x2, x3, x4, x5, x6, x7, x8, x9, x10, x11, x12, x13, x14, x15, x16, x17, x18, x19, rfl⟩ := lenlit20 hl; clear hl
                simp only [factsR, atR, List.getElem?_cons_succ, List.getElem?_cons_zero, Rel.one, Rel.blk] at hd
                obtain ⟨rfl, rfl, -⟩ := hd
                refine held ?_
                simp only [putAll, Act.put, List.setIfInBounds_toArray, List.set_cons_succ, List.set_cons_zero]
                have q0 := hI.cell d0
                go_wp2_with fail
                exact rely_done _ rfl rfl (Ext.refl _) hI
              refine stepsR_cons ?_ ?_
              · intro vs W' hl hI hd ho
                refine hold ?_
                obtain ⟨x0, x1, x2, x3, x4, x5, x6, x7, x8, x9, x10, x11, x12, x13, x14, x15, x16, x17, x18, x19, rfl⟩ := lenlit20 hl; clear hl
                simp only [factsR, atR, List.getElem?_cons_succ, List.getElem?_cons_zero, Rel.one, Rel.blk] at hd
                obtain ⟨rfl, rfl, rfl, rfl, -⟩ := hd
                refine held ?_
                simp only [putAll, Act.put, List.setIfInBounds_toArray, List.set_cons_succ, List.set_cons_zero]
                go_wp2_with fail
                exact rely_done _ rfl ⟨_, rfl, World.alloc_heap_new _ _⟩ ((Ext.refl _).alloc _) (hI.alloc _)
              refine stepsR_cons ?_ ?_
              · intro vs W' hl hI hd ho
                refine hold ?_
                obtain ⟨x0, x1, x2, x3, x4, x5, x6, x7, x8, x9, x10, x11, x12, x13, x14, x15, x16, x17, x18, x19, rfl⟩ := lenlit20 hl; clear hl
                simp only [factsR, atR, List.getElem?_cons_succ, List.getElem?_cons_zero, Rel.one, Rel.blk] at hd
                obtain ⟨rfl, rfl, ⟨b15, rfl, hb15⟩, -⟩ := hd
                refine held ?_
                simp only [putAll, Act.put, List.setIfInBounds_toArray, List.set_cons_succ, List.set_cons_zero]
                go_wp2_with fail
                refine (dnext_any HN HRN.out _ 3 3 [host, (N : Int) + 1, x.a] W' (lit_of_block hb15 HW.out) (by omega) (TB.ext HT.out (hEV.trans hI))).mono ?_
                rintro e w1 ⟨rfl, hx⟩
                rw [HNX.out]
                go_wp2_with fail
                exact rely_done _ rfl rfl hx (hI.trans hx)
              refine stepsR_cons ?_ ?_
              · intro vs W' hl hI hd ho
                refine hold ?_
                obtain ⟨x0, x1, x2, x3, x4, x5, x6, x7, x8, x9, x10, x11, x12, x13, x14, x15, x16, x17, x18, x19, rfl⟩ := lenlit20 hl; clear hl
                simp only [factsR, atR, List.getElem?_cons_succ, List.getElem?_cons_zero, Rel.one, Rel.blk] at hd
                obtain ⟨rfl, rfl, rfl, -⟩ := hd
                refine held ?_
                simp only [putAll, Act.put, List.setIfInBounds_toArray, List.set_cons_succ, List.set_cons_zero]
                go_wp2_with fail
                exact rely_done _ rfl rfl (Ext.refl _) hI
              refine stepsR_cons ?_ ?_
              · intro vs W' hl hI hd ho
                refine hold ?_
                obtain ⟨x0, x1, x2, x3, x4, x5, x6, x7, x8, x9, x10, x11, x12, x13, x14, x15, x16, x17, x18, x19, rfl⟩ := lenlit20 hl; clear hl
                simp only [factsR, atR, List.getElem?_cons_succ, List.getElem?_cons_zero, Rel.one, Rel.blk] at hd
                obtain ⟨rfl, rfl, -⟩ := hd
                refine held ?_
                simp only [putAll, Act.put, List.setIfInBounds_toArray, List.set_cons_succ, List.set_cons_zero]
                go_wp2_with fail
                exact rely_done _ rfl rfl (Ext.refl _) hI
              refine stepsR_cons ?_ ?_
              · intro vs W' hl hI hd ho
                refine hold ?_
                obtain ⟨x0, x1, x2, x3, x4, x5, x6, x7, x8, x9, x10, x11, x12, x13, x14, x15, x16, x17, x18, x19, rfl⟩ := lenlit20 hl; clear hl
                simp only [factsR, atR, List.getElem?_cons_succ, List.getElem?_cons_zero, Rel.one, Rel.blk] at hd
                obtain ⟨rfl, rfl, -⟩ := hd
                refine held ?_
                simp only [putAll, Act.put, List.setIfInBounds_toArray, List.set_cons_succ, List.set_cons_zero]
                go_wp2_with fail
                exact rely_done _ rfl rfl (Ext.refl _) hI
              exact trivial
            · intro vs W' hl hI hd
              obtain ⟨x0, x1, x2, x3, x4, x5, x6, x7, x8, x9, x10, x11, x12, x13, x14, x15, x16, x17, x18, x19, rfl⟩ := lenlit20 hl; clear hl
              simp only [List.length_cons, List.length_nil, List.range, List.range.loop, Nat.zero_add, Nat.reduceAdd, factsR, atR, List.getElem?_cons_succ, List.getElem?_cons_zero, Rel.one, Rel.blk] at hd
              obtain ⟨rfl, rfl, rfl, rfl, rfl, rfl, rfl, rfl, rfl, rfl, rfl, rfl, rfl, rfl, rfl, ⟨b15, rfl, hb15⟩, rfl, rfl, rfl, rfl, -⟩ := hd
              simp only [putAll, Act.put, List.setIfInBounds_toArray, List.set_cons_succ, List.set_cons_zero]
              go_wp2_with fail
              exact ⟨⟨j + 1, by omega, by go_num, rfl, (hx.trans hE2).trans hI⟩, by simp [intOf]; omega⟩
          · obtain rfl : j = k := by omega
            have hCw := hC.ext hx
            have c0 := hCw.c0
            have c1 := hCw.c1
            go_wp2_with fail
            refine (valid_any host hho _ (N + 1) c rs wr (h1.ext hEw) (fun _ => HSS.out) (TB.ext HT.out hEw)).mono ?_
            rintro e w4 ⟨rfl, hx4⟩
            rw [HV.out]
            go_wp2_with fail
            go_ret
            exact ⟨rfl, hEw.trans hx4⟩
end Go.Proofs.YtfohekfhcolnfaaDoor
