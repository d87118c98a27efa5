/-
  The law ChainGrows, walked. Written by wip/gen_c29.py.
-/
import Derived.Test.YtfohekfhcolnfaaDoorC29
namespace Go.Proofs.YtfohekfhcolnfaaDoor
open Go.RowKit Go.Sort Go.Shelf
set_option linter.unusedSimpArgs false
set_option linter.unusedVariables false
set_option maxRecDepth 100000

theorem lenlit10 {vs : List Value} (h : vs.length = 10) : ∃ x0 x1 x2 x3 x4 x5 x6 x7 x8 x9 : Value, vs = [x0, x1, x2, x3, x4, x5, x6, x7, x8, x9] := by
  obtain ⟨x0, v0, rfl, h0⟩ := len_cons h
  obtain ⟨x1, v1, rfl, h1⟩ := len_cons h0
  obtain ⟨x2, v2, rfl, h2⟩ := len_cons h1
  obtain ⟨x3, v3, rfl, h3⟩ := len_cons h2
  obtain ⟨x4, v4, rfl, h4⟩ := len_cons h3
  obtain ⟨x5, v5, rfl, h5⟩ := len_cons h4
  obtain ⟨x6, v6, rfl, h6⟩ := len_cons h5
  obtain ⟨x7, v7, rfl, h7⟩ := len_cons h6
  obtain ⟨x8, v8, rfl, h8⟩ := len_cons h7
  obtain ⟨x9, v9, rfl, h9⟩ := len_cons h8
  obtain rfl := len_nil h9
  exact ⟨x0, x1, x2, x3, x4, x5, x6, x7, x8, x9, rfl⟩

theorem lenlit14 {vs : List Value} (h : vs.length = 14) : ∃ x0 x1 x2 x3 x4 x5 x6 x7 x8 x9 x10 x11 x12 x13 : Value, vs = [x0, x1, x2, x3, x4, x5, x6, x7, x8, x9, x10, x11, x12, x13] := by
  obtain ⟨x0, v0, rfl, h0⟩ := len_cons h
  obtain ⟨x1, v1, rfl, h1⟩ := len_cons h0
  obtain ⟨x2, v2, rfl, h2⟩ := len_cons h1
  obtain ⟨x3, v3, rfl, h3⟩ := len_cons h2
  obtain ⟨x4, v4, rfl, h4⟩ := len_cons h3
  obtain ⟨x5, v5, rfl, h5⟩ := len_cons h4
  obtain ⟨x6, v6, rfl, h6⟩ := len_cons h5
  obtain ⟨x7, v7, rfl, h7⟩ := len_cons h6
  obtain ⟨x8, v8, rfl, h8⟩ := len_cons h7
  obtain ⟨x9, v9, rfl, h9⟩ := len_cons h8
  obtain ⟨x10, v10, rfl, h10⟩ := len_cons h9
  obtain ⟨x11, v11, rfl, h11⟩ := len_cons h10
  obtain ⟨x12, v12, rfl, h12⟩ := len_cons h11
  obtain ⟨x13, v13, rfl, h13⟩ := len_cons h12
  obtain rfl := len_nil h13
  exact ⟨x0, x1, x2, x3, x4, x5, x6, x7, x8, x9, x10, x11, x12, x13, rfl⟩

theorem lenlit22 {vs : List Value} (h : vs.length = 22) : ∃ x0 x1 x2 x3 x4 x5 x6 x7 x8 x9 x10 x11 x12 x13 x14 x15 x16 x17 x18 x19 x20 x21 : Value, vs = [x0, x1, x2, x3, x4, x5, x6, x7, x8, x9, x10, x11, x12, x13, x14, x15, x16, x17, x18, x19, x20, x21] := by
  obtain ⟨x0, v0, rfl, h0⟩ := len_cons h
  obtain ⟨x1, v1, rfl, h1⟩ := len_cons h0
  obtain ⟨x2, v2, rfl, h2⟩ := len_cons h1
  obtain ⟨x3, v3, rfl, h3⟩ := len_cons h2
  obtain ⟨x4, v4, rfl, h4⟩ := len_cons h3
  obtain ⟨x5, v5, rfl, h5⟩ := len_cons h4
  obtain ⟨x6, v6, rfl, h6⟩ := len_cons h5
  obtain ⟨x7, v7, rfl, h7⟩ := len_cons h6
  obtain ⟨x8, v8, rfl, h8⟩ := len_cons h7
  obtain ⟨x9, v9, rfl, h9⟩ := len_cons h8
  obtain ⟨x10, v10, rfl, h10⟩ := len_cons h9
  obtain ⟨x11, v11, rfl, h11⟩ := len_cons h10
  obtain ⟨x12, v12, rfl, h12⟩ := len_cons h11
  obtain ⟨x13, v13, rfl, h13⟩ := len_cons h12
  obtain ⟨x14, v14, rfl, h14⟩ := len_cons h13
  obtain ⟨x15, v15, rfl, h15⟩ := len_cons h14
  obtain ⟨x16, v16, rfl, h16⟩ := len_cons h15
  obtain ⟨x17, v17, rfl, h17⟩ := len_cons h16
  obtain ⟨x18, v18, rfl, h18⟩ := len_cons h17
  obtain ⟨x19, v19, rfl, h19⟩ := len_cons h18
  obtain ⟨x20, v20, rfl, h20⟩ := len_cons h19
  obtain ⟨x21, v21, rfl, h21⟩ := len_cons h20
  obtain rfl := len_nil h21
  exact ⟨x0, x1, x2, x3, x4, x5, x6, x7, x8, x9, x10, x11, x12, x13, x14, x15, x16, x17, x18, x19, x20, x21, rfl⟩


/-- An interval in a block of its own. -/
def IvB (W : World) (b : Nat) (lo hi : Int) : Prop := W.heap[b]? = some (.cells #[.int .i64 lo, .int .i64 hi] 35 (0, 0))
theorem IvB.ext {W W' : World} {b : Nat} {lo hi : Int} (h : IvB W b lo hi) (he : Ext W W') : IvB W' b lo hi := (he.block b (Array.getElem?_eq_some_iff.1 h).1).trans h
theorem IvB.c0 {W : World} {b : Nat} {lo hi : Int} (h : IvB W b lo hi) : W.cell? ⟨b, 0, none⟩ = some (.int .i64 lo) := cell_of_block h 0 _ rfl
theorem IvB.c1 {W : World} {b : Nat} {lo hi : Int} (h : IvB W b lo hi) : W.cell? ⟨b, 1, none⟩ = some (.int .i64 hi) := cell_of_block h 1 _ rfl

set_option maxHeartbeats 40000000 in
theorem cgrows_law (host : Int) (a : Option Addr) (n c : Nat) (rs : List (List Rp)) (au : Int) (lo hi : Int) (w : World) (hho : (Lit.int .i64 host).wf = true) (h1 : Rws w a n c rs) (hau : 0 ≤ au ∧ au ≤ 65535) (hlo : (Lit.int .i64 lo).wf = true) (hhi : (Lit.int .i64 hi).wf = true) (ht : TB w) :
    Calls Tryd.prog 5 #[.agg #[.int .i64 host, .slice a n c], .int .u16 au, .agg #[.int .i64 lo, .int .i64 hi]] w (Yes w) := by
  have bd := h1.bd
  have HT := Lib.hid ht
  have HL := Lib.hid h1.hlen
  clear ht
  have hC : ChB ((w.alloc (.cells #[.int .i64 host, .slice a n c] 24)).alloc (.cells #[.int .i64 lo, .int .i64 hi] 35)) w.heap.size host a n c := (ChB.new w host a n c).ext ((Ext.refl _).alloc _)
  have hV : IvB ((w.alloc (.cells #[.int .i64 host, .slice a n c] 24)).alloc (.cells #[.int .i64 lo, .int .i64 hi] 35)) (w.heap.size + 1) lo hi := by
    have := World.alloc_heap_new (w.alloc (.cells #[.int .i64 host, .slice a n c] 24)) (.cells #[.int .i64 lo, .int .i64 hi] 35)
    simp only [World.size_alloc] at this
    exact this
  have hE : Ext w ((w.alloc (.cells #[.int .i64 host, .slice a n c] 24)).alloc (.cells #[.int .i64 lo, .int .i64 hi] 35)) := ((Ext.refl w).alloc _).alloc _
  rcases hf : fewB rs with _ | _
  · have HF := Lib.hid hf
    clear hf
    go_enter Tryd.func5, Tryd.ntmps5
    go_upto_region 1 with fail
    generalize (w.alloc (.cells #[.int .i64 host, .slice a n c] 24)).alloc (.cells #[.int .i64 lo, .int .i64 hi] 35) = W at *
    generalize w.heap.size = bc at *
    go_wp2_with fail
    refine (chead_any W (TB.ext HT.out hE)).mono ?_
    rintro e w1 ⟨rfl, hx⟩
    replace hC := hC.ext hx
    replace hV := hV.ext hx
    replace hE := hE.trans hx
    clear hx
    have c0 := hC.c0
    have c1 := hC.c1
    go_wp2_with fail
    refine (few12_any _ (n) c rs w1 (h1.ext hE)).mono ?_
    rintro e wf ⟨rfl, rfl⟩
    rw [HF.out]

    go_wp2_with fail
    go_ret
    exact ⟨rfl, hE⟩
  have HF := Lib.hid hf
  obtain ⟨hsh, h60, -⟩ := fewB_short hf
  have HSS := Lib.hid hsh
  have hn : n ≤ 60 := by have := HL.out; omega
  clear hf hsh h60
  rcases hv : validF host rs with _ | _
  · have HV := Lib.hid hv
    clear hv
    go_enter Tryd.func5, Tryd.ntmps5
    go_upto_region 1 with fail
    generalize (w.alloc (.cells #[.int .i64 host, .slice a n c] 24)).alloc (.cells #[.int .i64 lo, .int .i64 hi] 35) = W at *
    generalize w.heap.size = bc at *
    go_wp2_with fail
    refine (chead_any W (TB.ext HT.out hE)).mono ?_
    rintro e w1 ⟨rfl, hx⟩
    replace hC := hC.ext hx
    replace hV := hV.ext hx
    replace hE := hE.trans hx
    clear hx
    have c0 := hC.c0
    have c1 := hC.c1
    go_wp2_with fail
    refine (few12_any _ (n) c rs w1 (h1.ext hE)).mono ?_
    rintro e wf ⟨rfl, rfl⟩
    rw [HF.out]

    go_wp2_with fail
    refine (rvalid_any host hho _ (n) c rs w1 (h1.ext hE) (fun _ => HSS.out)).mono ?_
    rintro e w2 ⟨rfl, hx⟩
    rw [HV.out]
    clear c0 c1
    replace hC := hC.ext hx
    replace hV := hV.ext hx
    replace hE := hE.trans hx
    clear hx
    have c0 := hC.c0
    have c1 := hC.c1

    go_wp2_with fail
    go_ret
    exact ⟨rfl, hE⟩
  have HV := Lib.hid hv
  clear hv
  rcases n with _ | N
  · go_enter Tryd.func5, Tryd.ntmps5
    go_upto_region 1 with fail
    generalize (w.alloc (.cells #[.int .i64 host, .slice a 0 c] 24)).alloc (.cells #[.int .i64 lo, .int .i64 hi] 35) = W at *
    generalize w.heap.size = bc at *
    go_wp2_with fail
    refine (chead_any W (TB.ext HT.out hE)).mono ?_
    rintro e w1 ⟨rfl, hx⟩
    replace hC := hC.ext hx
    replace hV := hV.ext hx
    replace hE := hE.trans hx
    clear hx
    have c0 := hC.c0
    have c1 := hC.c1
    go_wp2_with fail
    refine (few12_any _ (0) c rs w1 (h1.ext hE)).mono ?_
    rintro e wf ⟨rfl, rfl⟩
    rw [HF.out]

    go_wp2_with fail
    refine (rvalid_any host hho _ (0) c rs w1 (h1.ext hE) (fun _ => HSS.out)).mono ?_
    rintro e w2 ⟨rfl, hx⟩
    rw [HV.out]
    clear c0 c1
    replace hC := hC.ext hx
    replace hV := hV.ext hx
    replace hE := hE.trans hx
    clear hx
    have c0 := hC.c0
    have c1 := hC.c1

    go_upto_region 11 with fail
    generalize w2 = V0 at *
    have hR0 : RdV (V0.alloc (.cells #[.slice none 0 0] 27)) V0.heap.size none 0 0 := World.alloc_heap_new V0 _
    have hE1 : Ext V0 (V0.alloc (.cells #[.slice none 0 0] 27)) := (Ext.refl V0).alloc _
    generalize V0.alloc (.cells #[.slice none 0 0] 27) = Y at *
    generalize hbre : V0.heap.size = br at *
    have hbr : V0.heap.size ≤ br := Nat.le_of_eq hbre
    have i0 := hV.c0
    have i1 := hV.c1
    generalize hHD : headF rs = HD at *
    have HHD := Lib.hid hHD
    have HDR : Hid (0 ≤ HD ∧ HD ≤ 18446744073709551615) := Lib.hid (hHD ▸ headF_rng rs)
    clear hbre hHD
    go_wp2_with fail
    go_loopw [13] (fun i wr => ∃ (k m cc : Nat) (sa : Option Addr) (L : List Rp), 1 ≤ k ∧ k ≤ 17 ∧ i = .int .i64 k ∧ RdV wr br sa m cc ∧ OwR 39 br wr sa m cc L ∧ Gro host 1 HD k L ∧ Ext V0 wr) (fun i _ => 17 - (intOf i).toNat)
    case atStart => exact ⟨1, 0, 0, none, [], by omega, by omega, rfl, hR0, OwR.nil _ _ _, Gro.nil _ _ _, hE1⟩
    case round =>
      obtain ⟨k, m, cc, sa, L, hk1, hk2, rfl, hR, hO, hG, hx⟩ := hrel
      have hm : m < k := by have := hG.1; have := hO.1; omega
      by_cases hk : k ≤ 16
      · by_cases hst : 0 ≤ lo ∧ lo ≤ hi ∧ hi ≤ 3000000000000000
        · have j0 := hx.cell i0
          have j1 := hx.cell i1
          obtain ⟨s1, s2, s3⟩ := hst
          have HNOR := nonF_rng HD host 1 (k : Int)
          have hrb := rightB_mk (hd := HD) (validF_host HV.out) (show 1 ≤ 1 ∧ 1 ≤ 200 by omega) ⟨s1, s2, s3⟩ (show 1 ≤ k ∧ k ≤ 16 by omega)
          generalize hNO : nonF HD host 1 (k : Int) = NO at *
          have HNO := Lib.hid hNO
          have HOK := Lib.hid (ok_mk hho (show 1 ≤ 1 ∧ 1 ≤ 200 by omega) HNOR hlo hhi hk)
          have HPUT := Lib.hid (hG.put HOK.out rfl hrb)
          clear hrb hNO HNOR
          have hEw := hE.trans hx
          go_upto_region 15 with fail
          · rename_i q1 K2 hK2 q2
            clear q1 q2
            have hEz := hx
            generalize wr = Vz at *
            have hbrz := lt_of_block hR
            refine region_relyE (fun listed W' => Ext V0 W' ∧ (listed 19 = false → Ext Vz W')) [some 93, some 94, some 95, some 96, some 97, some 98, some 99, some 100, some 101, some 102, some 103, some 104, some 105, some 106, some 107, some 108, some 109, some 110, some 111, some 112, some 113, none] [[], [0], [], [], [3], [], [5], [], [7], [7, 8], [], [10], [], [12], [], [7, 8, 9, 10, 11, 12, 13, 14], [], [2, 3, 4, 5, 6, 7, 8, 9, 10, 11, 12, 13, 14, 15, 16], [2, 3, 4, 5, 6, 7, 8, 9, 10, 11, 12, 13, 14, 15, 16, 17], [0, 1, 2, 3, 4, 5, 6, 7, 8, 9, 10, 11, 12, 13, 14, 15, 16, 17, 18], [0, 1, 2, 3, 4, 5, 6, 7, 8, 9, 10, 11, 12, 13, 14, 15, 16, 17, 18, 19], [0, 1, 2, 3, 4, 5, 6, 7, 8, 9, 10, 11, 12, 13, 14, 15, 16, 17, 18, 19, 20]] [[], [0], [], [], [3], [], [5], [], [7], [8], [], [10], [], [12], [], [9, 11, 13, 14], [], [2, 4, 6, 15, 16], [17], [1, 18], [], [19, 20]] [none, none, none, none, none, none, none, none, none, none, none, none, none, none, none, none, none, none, none, none, none, some 19] [false, false, false, false, false, false, false, false, false, false, false, false, false, false, false, false, false, false, false, false, false, false] [.one (.pointer (some ⟨br, 0, none⟩)), .one (.slice sa m cc), .one (.int .i64 (k : Int)), .one (.pointer (some ⟨bc, 0, none⟩)), .one (.int .i64 host), .one (.int .i64 0), .one (.int .i64 1), .one (.pointer (some ⟨bc, 1, none⟩)), .one (.slice a 0 c), .one (.int .u64 HD), .one (.pointer (some ⟨bc, 0, none⟩)), .one (.int .i64 host), .one (.int .i64 0), .one (.int .i64 1), .one (.int .i64 (k : Int)), .one (.int .u64 NO), .one (.agg #[.int .i64 lo, .int .i64 hi]), .one (.agg #[.int .i64 (k : Int), .int .i64 host, .int .i64 1, .int .u64 NO, .int .i64 lo, .int .i64 hi, .int .i64 0, .int .i64 0, .int .i64 0, .int .i64 0]), RLt Vz.heap.size #[.int .i64 (k : Int), .int .i64 host, .int .i64 1, .int .u64 NO, .int .i64 lo, .int .i64 hi, .int .i64 0, .int .i64 0, .int .i64 0, .int .i64 0], RNr br br (m + 1) (L ++ [⟨(k : Int), host, 1, NO, lo, hi, 0, 0, 0, 0⟩]), .one (.pointer (some ⟨br, 0, none⟩)), RFn 19 br br (m + 1) (L ++ [⟨(k : Int), host, 1, NO, lo, hi, 0, 0, 0, 0⟩])] (by kernel_rfl) (by kernel_rfl) rfl ⟨hEz.drew, fun _ => (Ext.refl Vz).drew⟩ ?_ ?_
            · refine stepsE_cons ?_ ?_
              · intro listed vs W' hl hI hd hs hn hu hz
                refine hold ?_
                obtain ⟨x0, x1, x2, x3, x4, x5, x6, x7, x8, x9, x10, x11, x12, x13, x14, x15, x16, x17, x18, x19, x20, x21, rfl⟩ := lenlit22 hl; clear hl
                refine held ?_
                simp only [putAll, Act.put, List.setIfInBounds_toArray, List.set_cons_succ, List.set_cons_zero]
                go_wp2_with fail
                exact relyE_done _ rfl rfl (Ext.refl _) ⟨hI.1, fun h => hI.2 (updE_false h)⟩
              refine stepsE_cons ?_ ?_
              · intro listed vs W' hl hI hd hs hn hu hz
                refine hold ?_
                obtain ⟨x0, x1, x2, x3, x4, x5, x6, x7, x8, x9, x10, x11, x12, x13, x14, x15, x16, x17, x18, x19, x20, x21, rfl⟩ := lenlit22 hl; clear hl
                simp only [factsL, atL, refV, List.getElem?_cons_succ, List.getElem?_cons_zero, List.getD_cons_succ, List.getD_cons_zero, RelL.one, RelL.any, RelL.blk, RelL.law, RNr, RFn, RLt] at hd
                obtain ⟨rfl, -⟩ := hd
                refine held ?_
                simp only [putAll, Act.put, List.setIfInBounds_toArray, List.set_cons_succ, List.set_cons_zero]
                have h19 : listed 19 = false := by cases h : listed 19 with | false => rfl | true => exact absurd (by decide) (hu 19 h)
                have hz2 := hI.2 h19
                have q0 := (hR.ext hz2).c0
                go_wp2_with fail
                exact relyE_done _ rfl rfl (Ext.refl _) ⟨hI.1, fun h => hI.2 (updE_false h)⟩
              refine stepsE_cons ?_ ?_
              · intro listed vs W' hl hI hd hs hn hu hz
                refine hold ?_
                obtain ⟨x0, x1, x2, x3, x4, x5, x6, x7, x8, x9, x10, x11, x12, x13, x14, x15, x16, x17, x18, x19, x20, x21, rfl⟩ := lenlit22 hl; clear hl
                refine held ?_
                simp only [putAll, Act.put, List.setIfInBounds_toArray, List.set_cons_succ, List.set_cons_zero]
                go_wp2_with fail
                exact relyE_done _ rfl rfl (Ext.refl _) ⟨hI.1, fun h => hI.2 (updE_false h)⟩
              refine stepsE_cons ?_ ?_
              · intro listed vs W' hl hI hd hs hn hu hz
                refine hold ?_
                obtain ⟨x0, x1, x2, x3, x4, x5, x6, x7, x8, x9, x10, x11, x12, x13, x14, x15, x16, x17, x18, x19, x20, x21, rfl⟩ := lenlit22 hl; clear hl
                refine held ?_
                simp only [putAll, Act.put, List.setIfInBounds_toArray, List.set_cons_succ, List.set_cons_zero]
                go_wp2_with fail
                exact relyE_done _ rfl rfl (Ext.refl _) ⟨hI.1, fun h => hI.2 (updE_false h)⟩
              refine stepsE_cons ?_ ?_
              · intro listed vs W' hl hI hd hs hn hu hz
                refine hold ?_
                obtain ⟨x0, x1, x2, x3, x4, x5, x6, x7, x8, x9, x10, x11, x12, x13, x14, x15, x16, x17, x18, x19, x20, x21, rfl⟩ := lenlit22 hl; clear hl
                simp only [factsL, atL, refV, List.getElem?_cons_succ, List.getElem?_cons_zero, List.getD_cons_succ, List.getD_cons_zero, RelL.one, RelL.any, RelL.blk, RelL.law, RNr, RFn, RLt] at hd
                obtain ⟨rfl, -⟩ := hd
                refine held ?_
                simp only [putAll, Act.put, List.setIfInBounds_toArray, List.set_cons_succ, List.set_cons_zero]
                have q0 := hI.1.cell c0
                go_wp2_with fail
                exact relyE_done _ rfl rfl (Ext.refl _) ⟨hI.1, fun h => hI.2 (updE_false h)⟩
              refine stepsE_cons ?_ ?_
              · intro listed vs W' hl hI hd hs hn hu hz
                refine hold ?_
                obtain ⟨x0, x1, x2, x3, x4, x5, x6, x7, x8, x9, x10, x11, x12, x13, x14, x15, x16, x17, x18, x19, x20, x21, rfl⟩ := lenlit22 hl; clear hl
                refine held ?_
                simp only [putAll, Act.put, List.setIfInBounds_toArray, List.set_cons_succ, List.set_cons_zero]
                go_wp2_with fail
                exact relyE_done _ rfl rfl (Ext.refl _) ⟨hI.1, fun h => hI.2 (updE_false h)⟩
              refine stepsE_cons ?_ ?_
              · intro listed vs W' hl hI hd hs hn hu hz
                refine hold ?_
                obtain ⟨x0, x1, x2, x3, x4, x5, x6, x7, x8, x9, x10, x11, x12, x13, x14, x15, x16, x17, x18, x19, x20, x21, rfl⟩ := lenlit22 hl; clear hl
                simp only [factsL, atL, refV, List.getElem?_cons_succ, List.getElem?_cons_zero, List.getD_cons_succ, List.getD_cons_zero, RelL.one, RelL.any, RelL.blk, RelL.law, RNr, RFn, RLt] at hd
                obtain ⟨rfl, -⟩ := hd
                refine held ?_
                simp only [putAll, Act.put, List.setIfInBounds_toArray, List.set_cons_succ, List.set_cons_zero]
                go_wp2_with fail
                exact relyE_done _ rfl rfl (Ext.refl _) ⟨hI.1, fun h => hI.2 (updE_false h)⟩
              refine stepsE_cons ?_ ?_
              · intro listed vs W' hl hI hd hs hn hu hz
                refine hold ?_
                obtain ⟨x0, x1, x2, x3, x4, x5, x6, x7, x8, x9, x10, x11, x12, x13, x14, x15, x16, x17, x18, x19, x20, x21, rfl⟩ := lenlit22 hl; clear hl
                refine held ?_
                simp only [putAll, Act.put, List.setIfInBounds_toArray, List.set_cons_succ, List.set_cons_zero]
                go_wp2_with fail
                exact relyE_done _ rfl rfl (Ext.refl _) ⟨hI.1, fun h => hI.2 (updE_false h)⟩
              refine stepsE_cons ?_ ?_
              · intro listed vs W' hl hI hd hs hn hu hz
                refine hold ?_
                obtain ⟨x0, x1, x2, x3, x4, x5, x6, x7, x8, x9, x10, x11, x12, x13, x14, x15, x16, x17, x18, x19, x20, x21, rfl⟩ := lenlit22 hl; clear hl
                simp only [factsL, atL, refV, List.getElem?_cons_succ, List.getElem?_cons_zero, List.getD_cons_succ, List.getD_cons_zero, RelL.one, RelL.any, RelL.blk, RelL.law, RNr, RFn, RLt] at hd
                obtain ⟨rfl, -⟩ := hd
                refine held ?_
                simp only [putAll, Act.put, List.setIfInBounds_toArray, List.set_cons_succ, List.set_cons_zero]
                have q0 := hI.1.cell c1
                go_wp2_with fail
                exact relyE_done _ rfl rfl (Ext.refl _) ⟨hI.1, fun h => hI.2 (updE_false h)⟩
              refine stepsE_cons ?_ ?_
              · intro listed vs W' hl hI hd hs hn hu hz
                refine hold ?_
                obtain ⟨x0, x1, x2, x3, x4, x5, x6, x7, x8, x9, x10, x11, x12, x13, x14, x15, x16, x17, x18, x19, x20, x21, rfl⟩ := lenlit22 hl; clear hl
                simp only [factsL, atL, refV, List.getElem?_cons_succ, List.getElem?_cons_zero, List.getD_cons_succ, List.getD_cons_zero, RelL.one, RelL.any, RelL.blk, RelL.law, RNr, RFn, RLt] at hd
                obtain ⟨rfl, -⟩ := hd
                refine held ?_
                simp only [putAll, Act.put, List.setIfInBounds_toArray, List.set_cons_succ, List.set_cons_zero]
                go_wp2_with fail
                refine (headf_any _ 0 c rs W' (h1.ext (hE.trans hI.1)) HSS.out (TB.ext HT.out (hE.trans hI.1))).mono ?_
                rintro e w1 ⟨rfl, hx⟩
                rw [HHD.out]
                go_wp2_with fail
                exact relyE_done _ rfl rfl hx ⟨hI.1.trans hx, fun h => (hI.2 (updE_false h)).trans hx⟩
              refine stepsE_cons ?_ ?_
              · intro listed vs W' hl hI hd hs hn hu hz
                refine hold ?_
                obtain ⟨x0, x1, x2, x3, x4, x5, x6, x7, x8, x9, x10, x11, x12, x13, x14, x15, x16, x17, x18, x19, x20, x21, rfl⟩ := lenlit22 hl; clear hl
                refine held ?_
                simp only [putAll, Act.put, List.setIfInBounds_toArray, List.set_cons_succ, List.set_cons_zero]
                go_wp2_with fail
                exact relyE_done _ rfl rfl (Ext.refl _) ⟨hI.1, fun h => hI.2 (updE_false h)⟩
              refine stepsE_cons ?_ ?_
              · intro listed vs W' hl hI hd hs hn hu hz
                refine hold ?_
                obtain ⟨x0, x1, x2, x3, x4, x5, x6, x7, x8, x9, x10, x11, x12, x13, x14, x15, x16, x17, x18, x19, x20, x21, rfl⟩ := lenlit22 hl; clear hl
                simp only [factsL, atL, refV, List.getElem?_cons_succ, List.getElem?_cons_zero, List.getD_cons_succ, List.getD_cons_zero, RelL.one, RelL.any, RelL.blk, RelL.law, RNr, RFn, RLt] at hd
                obtain ⟨rfl, -⟩ := hd
                refine held ?_
                simp only [putAll, Act.put, List.setIfInBounds_toArray, List.set_cons_succ, List.set_cons_zero]
                have q0 := hI.1.cell c0
                go_wp2_with fail
                exact relyE_done _ rfl rfl (Ext.refl _) ⟨hI.1, fun h => hI.2 (updE_false h)⟩
              refine stepsE_cons ?_ ?_
              · intro listed vs W' hl hI hd hs hn hu hz
                refine hold ?_
                obtain ⟨x0, x1, x2, x3, x4, x5, x6, x7, x8, x9, x10, x11, x12, x13, x14, x15, x16, x17, x18, x19, x20, x21, rfl⟩ := lenlit22 hl; clear hl
                refine held ?_
                simp only [putAll, Act.put, List.setIfInBounds_toArray, List.set_cons_succ, List.set_cons_zero]
                go_wp2_with fail
                exact relyE_done _ rfl rfl (Ext.refl _) ⟨hI.1, fun h => hI.2 (updE_false h)⟩
              refine stepsE_cons ?_ ?_
              · intro listed vs W' hl hI hd hs hn hu hz
                refine hold ?_
                obtain ⟨x0, x1, x2, x3, x4, x5, x6, x7, x8, x9, x10, x11, x12, x13, x14, x15, x16, x17, x18, x19, x20, x21, rfl⟩ := lenlit22 hl; clear hl
                simp only [factsL, atL, refV, List.getElem?_cons_succ, List.getElem?_cons_zero, List.getD_cons_succ, List.getD_cons_zero, RelL.one, RelL.any, RelL.blk, RelL.law, RNr, RFn, RLt] at hd
                obtain ⟨rfl, -⟩ := hd
                refine held ?_
                simp only [putAll, Act.put, List.setIfInBounds_toArray, List.set_cons_succ, List.set_cons_zero]
                go_wp2_with fail
                exact relyE_done _ rfl rfl (Ext.refl _) ⟨hI.1, fun h => hI.2 (updE_false h)⟩
              refine stepsE_cons ?_ ?_
              · intro listed vs W' hl hI hd hs hn hu hz
                refine hold ?_
                obtain ⟨x0, x1, x2, x3, x4, x5, x6, x7, x8, x9, x10, x11, x12, x13, x14, x15, x16, x17, x18, x19, x20, x21, rfl⟩ := lenlit22 hl; clear hl
                refine held ?_
                simp only [putAll, Act.put, List.setIfInBounds_toArray, List.set_cons_succ, List.set_cons_zero]
                go_wp2_with fail
                exact relyE_done _ rfl rfl (Ext.refl _) ⟨hI.1, fun h => hI.2 (updE_false h)⟩
              refine stepsE_cons ?_ ?_
              · intro listed vs W' hl hI hd hs hn hu hz
                refine hold ?_
                obtain ⟨x0, x1, x2, x3, x4, x5, x6, x7, x8, x9, x10, x11, x12, x13, x14, x15, x16, x17, x18, x19, x20, x21, rfl⟩ := lenlit22 hl; clear hl
                simp only [factsL, atL, refV, List.getElem?_cons_succ, List.getElem?_cons_zero, List.getD_cons_succ, List.getD_cons_zero, RelL.one, RelL.any, RelL.blk, RelL.law, RNr, RFn, RLt] at hd
                obtain ⟨rfl, rfl, rfl, rfl, -⟩ := hd
                refine held ?_
                simp only [putAll, Act.put, List.setIfInBounds_toArray, List.set_cons_succ, List.set_cons_zero]
                go_wp2_with fail
                refine (nonce_any HD host 1 (k : Int) HDR.out hho (wfi (by omega) (by omega)) (wfi (by omega) (by omega)) W' (TB.ext HT.out (hE.trans hI.1))).mono ?_
                rintro e w1 ⟨rfl, hx⟩
                rw [HNO.out]
                go_wp2_with fail
                exact relyE_done _ rfl rfl hx ⟨hI.1.trans hx, fun h => (hI.2 (updE_false h)).trans hx⟩
              refine stepsE_cons ?_ ?_
              · intro listed vs W' hl hI hd hs hn hu hz
                refine hold ?_
                obtain ⟨x0, x1, x2, x3, x4, x5, x6, x7, x8, x9, x10, x11, x12, x13, x14, x15, x16, x17, x18, x19, x20, x21, rfl⟩ := lenlit22 hl; clear hl
                refine held ?_
                simp only [putAll, Act.put, List.setIfInBounds_toArray, List.set_cons_succ, List.set_cons_zero]
                have q0 := hI.1.cell i0
                have q1 := hI.1.cell i1
                go_wp2_with fail
                exact relyE_done _ rfl rfl (Ext.refl _) ⟨hI.1, fun h => hI.2 (updE_false h)⟩
              refine stepsE_cons ?_ ?_
              · intro listed vs W' hl hI hd hs hn hu hz
                refine hold ?_
                obtain ⟨x0, x1, x2, x3, x4, x5, x6, x7, x8, x9, x10, x11, x12, x13, x14, x15, x16, x17, x18, x19, x20, x21, rfl⟩ := lenlit22 hl; clear hl
                simp only [factsL, atL, refV, List.getElem?_cons_succ, List.getElem?_cons_zero, List.getD_cons_succ, List.getD_cons_zero, RelL.one, RelL.any, RelL.blk, RelL.law, RNr, RFn, RLt] at hd
                obtain ⟨rfl, rfl, rfl, rfl, rfl, -⟩ := hd
                refine held ?_
                simp only [putAll, Act.put, List.setIfInBounds_toArray, List.set_cons_succ, List.set_cons_zero]
                go_wp2_with fail
                exact relyE_done _ rfl rfl (Ext.refl _) ⟨hI.1, fun h => hI.2 (updE_false h)⟩
              refine stepsE_cons ?_ ?_
              · intro listed vs W' hl hI hd hs hn hu hz
                refine hold ?_
                obtain ⟨x0, x1, x2, x3, x4, x5, x6, x7, x8, x9, x10, x11, x12, x13, x14, x15, x16, x17, x18, x19, x20, x21, rfl⟩ := lenlit22 hl; clear hl
                simp only [factsL, atL, refV, List.getElem?_cons_succ, List.getElem?_cons_zero, List.getD_cons_succ, List.getD_cons_zero, RelL.one, RelL.any, RelL.blk, RelL.law, RNr, RFn, RLt] at hd
                obtain ⟨rfl, -⟩ := hd
                refine held ?_
                simp only [putAll, Act.put, List.setIfInBounds_toArray, List.set_cons_succ, List.set_cons_zero]
                go_wp2_with fail
                have h19 : listed 19 = false := by cases h : listed 19 with | false => rfl | true => exact absurd (by decide) (hu 19 h)
                have hz2 := hI.2 h19
                exact relyE_done _ rfl ⟨_, rfl, hz2.sz, World.alloc_heap_new _ _⟩ ((Ext.refl _).alloc _) ⟨hI.1.alloc _, fun h => (hI.2 (updE_false h)).alloc _⟩
              refine stepsE_cons ?_ ?_
              · intro listed vs W' hl hI hd hs hn hu hz
                refine hold ?_
                obtain ⟨x0, x1, x2, x3, x4, x5, x6, x7, x8, x9, x10, x11, x12, x13, x14, x15, x16, x17, x18, x19, x20, x21, rfl⟩ := lenlit22 hl; clear hl
                simp only [factsL, atL, refV, List.getElem?_cons_succ, List.getElem?_cons_zero, List.getD_cons_succ, List.getD_cons_zero, RelL.one, RelL.any, RelL.blk, RelL.law, RNr, RFn, RLt] at hd
                obtain ⟨rfl, ⟨b18, rfl, hb17, hb18⟩, -⟩ := hd
                refine held ?_
                simp only [putAll, Act.put, List.setIfInBounds_toArray, List.set_cons_succ, List.set_cons_zero]
                have hz2 := hI.2 hz
                have hbz : br ≤ W'.heap.size := by have := hz2.sz; omega
                have ho2 := hO.ext hz2
                have hR2 := hR.ext hz2
                have hlit : Rw W' (some ⟨b18, 0, none⟩) 1 1 [(⟨(k : Int), host, 1, NO, lo, hi, 0, 0, 0, 0⟩ : Rp)] := Rw.lit1 hb18 HOK.out
                go_wp2_with (at_builtin; refine appRg el_rp rfl _ _ rfl _ br _ _ _ _ rfl ho2 b18 0 1 1 _ rfl hlit (by omega) hbz (by unfold maxLen; omega) (by omega) ?_; intro g19 c19 w19 hop hB hg; refine hold ?_)
                refine held ?_
                have hR3 := hR2.grown ho2 hg
                exact wpList_nil (relyE_store _ rfl ⟨_, _, rfl, hop, _, _, _, hR3⟩ hB.size ⟨fun _ _ h => h, fun _ _ h => h, fun _ _ h => h, fun _ _ h => h, fun _ _ h => h, fun _ _ h => h, fun _ _ h => h, fun _ _ h => h, fun _ _ h => h, fun _ _ h => h, fun _ _ h => h, fun _ _ h => h, fun _ _ h => h, fun _ _ h => h, fun _ _ h => h, fun _ _ h => h, fun _ _ h => h, fun _ _ h => h, fun _ _ ⟨b, e1, e2, e3⟩ => ⟨b, e1, e2, (hg.block b (Array.getElem?_eq_some_iff.1 e3).1 (fun e => Nat.lt_irrefl _ (Nat.lt_of_lt_of_le (World.ownsRow.lt hO.2 b e.symm).2 e2))).trans e3⟩, fun _ hk _ => absurd rfl hk, fun _ _ h => h, fun hk _ _ => absurd (hu 21 hk) (by decide), trivial⟩ ⟨Below.trans hI.1 (Below.mono hB hbr), fun h => by simp [updE] at h⟩)
              refine stepsE_cons ?_ ?_
              · intro listed vs W' hl hI hd hs hn hu hz
                refine hold ?_
                obtain ⟨x0, x1, x2, x3, x4, x5, x6, x7, x8, x9, x10, x11, x12, x13, x14, x15, x16, x17, x18, x19, x20, x21, rfl⟩ := lenlit22 hl; clear hl
                refine held ?_
                simp only [putAll, Act.put, List.setIfInBounds_toArray, List.set_cons_succ, List.set_cons_zero]
                go_wp2_with fail
                exact relyE_done _ rfl rfl (Ext.refl _) ⟨hI.1, fun h => by simp [updE, hs 19 (by decide)] at h⟩
              refine stepsE_cons ?_ ?_
              · intro listed vs W' hl hI hd hs hn hu hz
                refine hold ?_
                obtain ⟨x0, x1, x2, x3, x4, x5, x6, x7, x8, x9, x10, x11, x12, x13, x14, x15, x16, x17, x18, x19, x20, x21, rfl⟩ := lenlit22 hl; clear hl
                simp only [factsL, atL, refV, List.getElem?_cons_succ, List.getElem?_cons_zero, List.getD_cons_succ, List.getD_cons_zero, RelL.one, RelL.any, RelL.blk, RelL.law, RNr, RFn, RLt] at hd
                obtain ⟨⟨g19, c19, rfl, h19, ar, nr, cr, hR3⟩, rfl, -⟩ := hd
                refine held ?_
                simp only [putAll, Act.put, List.setIfInBounds_toArray, List.set_cons_succ, List.set_cons_zero]
                have f0 := free_of_block hR3 0
                have q0 := hR3.c0
                have hs2 := hR3.stored (some ⟨g19, 0, none⟩) (m + 1) c19
                have hk := h19.setRd hR3 (.slice (some ⟨g19, 0, none⟩) (m + 1) c19)
                have hI2 := hI.1.setCell (p := ⟨br, 0, none⟩) hbr (.slice (some ⟨g19, 0, none⟩) (m + 1) c19)
                go_wp2_with fail
                exact relyE_store undef rfl ⟨_, _, rfl, hs2, hk⟩ (by simp) ⟨fun _ _ h => h, fun _ _ h => h, fun _ _ h => h, fun _ _ h => h, fun _ _ h => h, fun _ _ h => h, fun _ _ h => h, fun _ _ h => h, fun _ _ h => h, fun _ _ h => h, fun _ _ h => h, fun _ _ h => h, fun _ _ h => h, fun _ _ h => h, fun _ _ h => h, fun _ _ h => h, fun _ _ h => h, fun _ _ h => h, fun _ _ ⟨b, e1, e2, e3⟩ => ⟨b, e1, e2, (heap_setCell_other _ ⟨br, 0, none⟩ b _ (fun e => absurd hbrz (Nat.not_lt.2 ((show b = br from e) ▸ e2)))).trans e3⟩, fun _ _ _ => ⟨g19, c19, rfl, hk, _, _, _, hs2⟩, fun _ _ h => h, fun _ hk _ => absurd rfl hk, trivial⟩ ⟨hI2, fun h => by simp [updE, hs 19 (by decide)] at h⟩
              exact trivial
            · intro listed vs W' hl hall hI hd hn
              obtain ⟨x0, x1, x2, x3, x4, x5, x6, x7, x8, x9, x10, x11, x12, x13, x14, x15, x16, x17, x18, x19, x20, x21, rfl⟩ := lenlit22 hl; clear hl
              simp only [List.length_cons, List.length_nil, List.range, List.range.loop, Nat.zero_add, Nat.reduceAdd, factsL, atL, refV, List.getElem?_cons_succ, List.getElem?_cons_zero, List.getD_cons_succ, List.getD_cons_zero, RelL.one, RelL.any, RelL.blk, RelL.law, RNr, RFn, RLt] at hd
              obtain ⟨rfl, rfl, rfl, rfl, rfl, rfl, rfl, rfl, rfl, rfl, rfl, rfl, rfl, rfl, rfl, rfl, rfl, rfl, -, -, rfl, h21, -⟩ := hd
              simp only [putAll, Act.put, List.setIfInBounds_toArray, List.set_cons_succ, List.set_cons_zero]
              obtain ⟨g19, c19, rfl, hR19, hO19⟩ := h21
              go_wp2_with fail
              exact ⟨⟨k + 1, m + 1, c19, _, _, by omega, by omega, by go_num, hR19, hO19, HPUT.out, hI.1⟩, by simp [intOf]; omega⟩
          · exact ⟨⟨k + 1, m, cc, sa, L, by omega, by omega, by go_num, hR, hO, hG.skip, hx⟩, by simp [intOf]; omega⟩
        · have j0 := hx.cell i0
          have j1 := hx.cell i1
          by_cases s1 : 0 ≤ lo
          · by_cases s2 : lo ≤ hi
            · have s3 : ¬ hi ≤ 3000000000000000 := fun h => hst ⟨s1, s2, h⟩
              clear hst
              go_wp2_with fail
              all_goals exact ⟨⟨k + 1, m, cc, sa, L, by omega, by omega, by go_num, hR, hO, hG.skip, hx⟩, by simp [intOf]; omega⟩
            · clear hst
              go_wp2_with fail
              all_goals exact ⟨⟨k + 1, m, cc, sa, L, by omega, by omega, by go_num, hR, hO, hG.skip, hx⟩, by simp [intOf]; omega⟩
          · clear hst
            go_wp2_with fail
            all_goals exact ⟨⟨k + 1, m, cc, sa, L, by omega, by omega, by go_num, hR, hO, hG.skip, hx⟩, by simp [intOf]; omega⟩
      · obtain rfl : k = 17 := by omega
        have hC := hC.ext hx
        have hE := hE.trans hx
        have hfit := hG.fits
        have HLL : Hid ((rs.length : Int) + 1 = 1) := Lib.hid (by have := HL.out; omega)
        rw [← HLL.out] at hfit
        have HAA := Lib.hid (apd_ok (r := []) HV.out (by rw [HL.out]; omega) rfl)
        have HAB := Lib.hid (apd_ok HV.out (by rw [HL.out]; omega) (HHD.out ▸ hfit))
        have HVA := Lib.hid (validF_app (r := []) HV.out (by rw [HL.out]; omega) rfl)
        have HVB := Lib.hid (validF_app HV.out (by rw [HL.out]; omega) (HHD.out ▸ hfit))
        have hRw := hO.rw (by omega) hG.2.1
        have HSA : Hid (Short (rs ++ [[]])) := Lib.hid (fun r hr => by
          rcases List.mem_append.1 hr with h | h
          · exact HSS.out r h
          · rw [List.mem_singleton.1 h]; simp)
        have HSB : Hid (Short (rs ++ [L])) := Lib.hid (fun r hr => by
          rcases List.mem_append.1 hr with h | h
          · exact HSS.out r h
          · rw [List.mem_singleton.1 h]; have := hG.1; omega)
        clear hO hG hfit i0 i1 hE1 hV c0 c1
        have c0 := hC.c0
        have c1 := hC.c1
        go_wp2_with fail
        refine (append_any host hho _ 0 c rs none 0 0 [] wr (h1.ext hE) (Rw.nil _) (fun _ => HSS.out) (by omega) (TB.ext HT.out hE)).mono ?_
        rintro e w5 ⟨aA, nA, cA, rfl, hoA, hnA, hx5⟩
        rw [HAA.out.1, HAA.out.2.2]
        rw [HAA.out.2.1] at hoA
        go_upto_region 17 with fail
        have hx6 : Ext w5 (w5.alloc (.cells #[.int .i64 host, .slice aA nA cA] 24)) := (Ext.refl _).alloc _
        have hPA := ChB.new w5 host aA nA cA
        have hwA := (hoA.ext hx6).rws (by omega)
        have hx7 := hx5.trans hx6
        generalize w5.alloc (.cells #[.int .i64 host, .slice aA nA cA] 24) = V6 at *
        generalize w5.heap.size = bA at *
        replace hC := hC.ext hx7
        replace hR := hR.ext hx7
        replace hRw := hRw.ext hx7
        replace hE := hE.trans hx7
        clear c0 c1 hx5 hx6 hx7 hoA hx
        have c0 := hC.c0
        have c1 := hC.c1
        have q0 := hR.c0
        go_wp2_with fail
        refine (append_any host hho _ 0 c rs _ m cc L V6 (h1.ext hE) hRw (fun _ => HSS.out) (by omega) (TB.ext HT.out hE)).mono ?_
        rintro e w7 ⟨aB, nB, cB, rfl, hoB, hnB, hx5⟩
        rw [HAB.out.1, HAB.out.2.2]
        rw [HAB.out.2.1] at hoB
        go_upto_region 18 with fail
        have hx6 : Ext w7 (w7.alloc (.cells #[.int .i64 host, .slice aB nB cB] 24)) := (Ext.refl _).alloc _
        have hPB := ChB.new w7 host aB nB cB
        have hwB := (hoB.ext hx6).rws (by omega)
        have hx7 := hx5.trans hx6
        generalize w7.alloc (.cells #[.int .i64 host, .slice aB nB cB] 24) = V8 at *
        generalize w7.heap.size = bB at *
        replace hPA := hPA.ext hx7
        replace hwA := hwA.ext hx7
        replace hE := hE.trans hx7
        have hlA : nA = 0 + 1 := by have := hwA.hlen; rw [List.length_append, HL.out] at this; simpa using this.symm
        have hlB : nB = 0 + 1 := by have := hwB.hlen; rw [List.length_append, HL.out] at this; simpa using this.symm
        subst hlA hlB
        clear c0 c1 q0 hx5 hx6 hx7 hoB hC hR hRw
        have c0 := hPA.c0
        have c1 := hPA.c1
        have d0 := hPB.c0
        have d1 := hPB.c1
        go_wp2_with fail
        refine (valid_any host hho _ _ cA _ V8 hwA (fun _ => HSA.out) (TB.ext HT.out hE)).mono ?_
        rintro e w9 ⟨rfl, hx⟩
        rw [HVA.out]
        replace hPA := hPA.ext hx
        replace hPB := hPB.ext hx
        replace hwB := hwB.ext hx
        replace hE := hE.trans hx
        clear c0 c1 d0 d1 hx
        have c0 := hPA.c0
        have c1 := hPA.c1
        have d0 := hPB.c0
        have d1 := hPB.c1
        go_wp2_with fail
        refine (valid_any host hho _ _ cB _ w9 hwB (fun _ => HSB.out) (TB.ext HT.out hE)).mono ?_
        rintro e w10 ⟨rfl, hx⟩
        rw [HVB.out]
        replace hPA := hPA.ext hx
        replace hPB := hPB.ext hx
        replace hE := hE.trans hx
        clear c0 c1 d0 d1 hx
        have c0 := hPA.c0
        have c1 := hPA.c1
        have d0 := hPB.c0
        have d1 := hPB.c1
        go_wp2_with fail
        go_ret
        exact ⟨rfl, hE⟩
  obtain ⟨p1, o1, rfl, hc1⟩ := h1.at (by omega)
  obtain ⟨a', m0, c', hcN, hrN⟩ := hc1 N (by omega)
  have hm0 : m0 ≤ 400 := by have := HSS.out (nthS rs N) (nthS_mem (by rw [HL.out]; omega)); rw [hrN.hlen] at this; exact this
  have hST0 : Short (rs.take N) := fun r hr => HSS.out r (List.mem_of_mem_take hr)
  have HST := Lib.hid hST0
  have HAP := Lib.hid (apd_back HV.out (k := N) HL.out)
  have HVT := Lib.hid (validF_take HV.out N)
  have bN := hrN.bd
  clear hc1 hST0
  go_enter Tryd.func5, Tryd.ntmps5
  go_upto_region 1 with fail
  generalize (w.alloc (.cells #[.int .i64 host, .slice (some ⟨p1, o1, none⟩) (N + 1) c] 24)).alloc (.cells #[.int .i64 lo, .int .i64 hi] 35) = W at *
  generalize w.heap.size = bc at *
  go_wp2_with fail
  refine (chead_any W (TB.ext HT.out hE)).mono ?_
  rintro e w1 ⟨rfl, hx⟩
  replace hC := hC.ext hx
  replace hV := hV.ext hx
  replace hE := hE.trans hx
  clear hx
  have c0 := hC.c0
  have c1 := hC.c1
  go_wp2_with fail
  refine (few12_any _ ((N + 1)) c rs w1 (h1.ext hE)).mono ?_
  rintro e wf ⟨rfl, rfl⟩
  rw [HF.out]

  go_wp2_with fail
  refine (rvalid_any host hho _ ((N + 1)) c rs w1 (h1.ext hE) (fun _ => HSS.out)).mono ?_
  rintro e w2 ⟨rfl, hx⟩
  rw [HV.out]
  clear c0 c1
  replace hC := hC.ext hx
  replace hV := hV.ext hx
  replace hE := hE.trans hx
  clear hx
  have c0 := hC.c0
  have c1 := hC.c1
  go_upto_region 6 with fail
  generalize w2 = V at *
  have hCV := hC
  have hEV := hE
  refine region_relyL (S := Ext) (fun W' => Ext V W') [some 34, some 35, some 36, some 37, some 38, some 39, some 40, some 41, some 9, none] [[], [0], [], [2], [], [4], [2, 3, 4, 5], [0, 1, 2, 3, 4, 5, 6], [], [0, 1, 2, 3, 4, 5, 6, 7, 8]] [[], [0], [], [2], [], [4], [3, 5], [1, 6], [], [7, 8]] [none, none, none, none, none, none, none, none, none, some 8] [[], [], [], [], [], [], [], [], [], [8, 9]] [9] [.one (.pointer (some ⟨bc, 0, none⟩)), .one (.int .i64 host), .one (.pointer (some ⟨bc, 1, none⟩)), .one (.slice (some ⟨p1, o1, none⟩) (N + 1) c), .one (.int .i64 ((N : Int) + 1)), .one (.int .i64 (N : Int)), .one (.slice (some ⟨p1, o1, none⟩) N c), .one (.agg #[.int .i64 host, .slice (some ⟨p1, o1, none⟩) N c]), RVar V.heap.size, RCh 8 V.heap.size host (some ⟨p1, o1, none⟩) N c] (by kernel_rfl) (by kernel_rfl) rfl (by kernel_rfl) (Ext.refl V).drew ?_ ?_
  · refine stepsL_cons ?_ ?_
    · intro vs W' hl hI hd
      refine hold ?_
      obtain ⟨x0, x1, x2, x3, x4, x5, x6, x7, x8, x9, rfl⟩ := lenlit10 hl; clear hl
      refine held ?_
      simp only [putAll, Act.put, List.setIfInBounds_toArray, List.set_cons_succ, List.set_cons_zero]
      go_wp2_with fail
      exact relyL_done _ rfl rfl (Ext.refl _) hI
    refine stepsL_cons ?_ ?_
    · intro vs W' hl hI hd
      refine hold ?_
      obtain ⟨x0, x1, x2, x3, x4, x5, x6, x7, x8, x9, rfl⟩ := lenlit10 hl; clear hl
      simp only [factsL, atL, refV, List.getElem?_cons_succ, List.getElem?_cons_zero, List.getD_cons_succ, List.getD_cons_zero, RelL.one, RelL.any, RelL.blk, RelL.law, RVar, RCh] at hd
      obtain ⟨rfl, -⟩ := hd
      refine held ?_
      simp only [putAll, Act.put, List.setIfInBounds_toArray, List.set_cons_succ, List.set_cons_zero]
      have q0 := hI.cell c0
      go_wp2_with fail
      exact relyL_done _ rfl rfl (Ext.refl _) hI
    refine stepsL_cons ?_ ?_
    · intro vs W' hl hI hd
      refine hold ?_
      obtain ⟨x0, x1, x2, x3, x4, x5, x6, x7, x8, x9, rfl⟩ := lenlit10 hl; clear hl
      refine held ?_
      simp only [putAll, Act.put, List.setIfInBounds_toArray, List.set_cons_succ, List.set_cons_zero]
      go_wp2_with fail
      exact relyL_done _ rfl rfl (Ext.refl _) hI
    refine stepsL_cons ?_ ?_
    · intro vs W' hl hI hd
      refine hold ?_
      obtain ⟨x0, x1, x2, x3, x4, x5, x6, x7, x8, x9, rfl⟩ := lenlit10 hl; clear hl
      simp only [factsL, atL, refV, List.getElem?_cons_succ, List.getElem?_cons_zero, List.getD_cons_succ, List.getD_cons_zero, RelL.one, RelL.any, RelL.blk, RelL.law, RVar, RCh] at hd
      obtain ⟨rfl, -⟩ := hd
      refine held ?_
      simp only [putAll, Act.put, List.setIfInBounds_toArray, List.set_cons_succ, List.set_cons_zero]
      have q0 := hI.cell c1
      go_wp2_with fail
      exact relyL_done _ rfl rfl (Ext.refl _) hI
    refine stepsL_cons ?_ ?_
    · intro vs W' hl hI hd
      refine hold ?_
      obtain ⟨x0, x1, x2, x3, x4, x5, x6, x7, x8, x9, rfl⟩ := lenlit10 hl; clear hl
      refine held ?_
      simp only [putAll, Act.put, List.setIfInBounds_toArray, List.set_cons_succ, List.set_cons_zero]
      go_wp2_with fail
      exact relyL_done _ rfl rfl (Ext.refl _) hI
    refine stepsL_cons ?_ ?_
    · intro vs W' hl hI hd
      refine hold ?_
      obtain ⟨x0, x1, x2, x3, x4, x5, x6, x7, x8, x9, rfl⟩ := lenlit10 hl; clear hl
      simp only [factsL, atL, refV, List.getElem?_cons_succ, List.getElem?_cons_zero, List.getD_cons_succ, List.getD_cons_zero, RelL.one, RelL.any, RelL.blk, RelL.law, RVar, RCh] at hd
      obtain ⟨rfl, -⟩ := hd
      refine held ?_
      simp only [putAll, Act.put, List.setIfInBounds_toArray, List.set_cons_succ, List.set_cons_zero]
      go_wp2_with fail
      exact relyL_done _ rfl rfl (Ext.refl _) hI
    refine stepsL_cons ?_ ?_
    · intro vs W' hl hI hd
      refine hold ?_
      obtain ⟨x0, x1, x2, x3, x4, x5, x6, x7, x8, x9, rfl⟩ := lenlit10 hl; clear hl
      simp only [factsL, atL, refV, List.getElem?_cons_succ, List.getElem?_cons_zero, List.getD_cons_succ, List.getD_cons_zero, RelL.one, RelL.any, RelL.blk, RelL.law, RVar, RCh] at hd
      obtain ⟨rfl, rfl, -⟩ := hd
      refine held ?_
      simp only [putAll, Act.put, List.setIfInBounds_toArray, List.set_cons_succ, List.set_cons_zero]
      go_wp2_with fail
      exact relyL_done _ rfl rfl (Ext.refl _) hI
    refine stepsL_cons ?_ ?_
    · intro vs W' hl hI hd
      refine hold ?_
      obtain ⟨x0, x1, x2, x3, x4, x5, x6, x7, x8, x9, rfl⟩ := lenlit10 hl; clear hl
      simp only [factsL, atL, refV, List.getElem?_cons_succ, List.getElem?_cons_zero, List.getD_cons_succ, List.getD_cons_zero, RelL.one, RelL.any, RelL.blk, RelL.law, RVar, RCh] at hd
      obtain ⟨rfl, rfl, -⟩ := hd
      refine held ?_
      simp only [putAll, Act.put, List.setIfInBounds_toArray, List.set_cons_succ, List.set_cons_zero]
      go_wp2_with fail
      exact relyL_done _ rfl rfl (Ext.refl _) hI
    refine stepsL_cons ?_ ?_
    · intro vs W' hl hI hd
      refine hold ?_
      obtain ⟨x0, x1, x2, x3, x4, x5, x6, x7, x8, x9, rfl⟩ := lenlit10 hl; clear hl
      refine held ?_
      simp only [putAll, Act.put, List.setIfInBounds_toArray, List.set_cons_succ, List.set_cons_zero]
      go_wp2_with fail
      exact relyL_done _ rfl ⟨_, 0, none, 0, 0, rfl, hI.sz, ChB.new _ 0 none 0 0⟩ ((Ext.refl _).alloc _) (hI.alloc _)
    refine stepsL_cons ?_ ?_
    · intro vs W' hl hI hd
      refine hold ?_
      obtain ⟨x0, x1, x2, x3, x4, x5, x6, x7, x8, x9, rfl⟩ := lenlit10 hl; clear hl
      simp only [factsL, atL, refV, List.getElem?_cons_succ, List.getElem?_cons_zero, List.getD_cons_succ, List.getD_cons_zero, RelL.one, RelL.any, RelL.blk, RelL.law, RVar, RCh] at hd
      obtain ⟨rfl, ⟨b8, y8, a8, n8, c8, rfl, hb8, hc8⟩, -⟩ := hd
      refine held ?_
      simp only [putAll, Act.put, List.setIfInBounds_toArray, List.set_cons_succ, List.set_cons_zero]
      have f0 := free_of_block hc8 0
      have f1 := free_of_block hc8 1
      have c70 := hc8.c0
      have c71 := hc8.c1
      have hs := hc8.stored host (some ⟨p1, o1, none⟩) N c
      have hI2 := (hI.setCell (p := ⟨b8, 0, none⟩) hb8 (.int .i64 host)).setCell (p := ⟨b8, 1, none⟩) hb8 (.slice (some ⟨p1, o1, none⟩) N c)
      go_wp2_with fail
      exact relyL_lose undef rfl ⟨b8, rfl, hb8, hs⟩ (keepsL_of ⟨.inr (fun _ _ h => h), .inr (fun _ _ h => h), .inr (fun _ _ h => h), .inr (fun _ _ h => h), .inr (fun _ _ h => h), .inr (fun _ _ h => h), .inr (fun _ _ h => h), .inr (fun _ _ h => h), .inl (by decide), .inl (by decide), trivial⟩) hI2
    exact trivial
  · intro vs W' hl hI hd
    obtain ⟨x0, x1, x2, x3, x4, x5, x6, x7, x8, x9, rfl⟩ := lenlit10 hl; clear hl
    simp only [factsL, atL, refV, List.getElem?_cons_succ, List.getElem?_cons_zero, List.getD_cons_succ, List.getD_cons_zero, RelL.one, RelL.any, RelL.blk, RelL.law, RVar, RCh] at hd
    obtain ⟨h9, -⟩ := hd
    simp only [putAll, Act.put, List.setIfInBounds_toArray, List.set_cons_succ, List.set_cons_zero]
    have hCb := hCV.ext hI
    have hVb := hV.ext hI
    have hE := hEV.trans hI
    clear hI hEV hCV hC hV c0 c1
    have hC := hCb
    have hV := hVb
    clear hCb hVb
    obtain ⟨b9, rfl, hb9, hD9⟩ := h9
    have c0 := hC.c0
    have c1 := hC.c1
    have e0 := hD9.c0
    have e1 := hD9.c1
    have eN := hE.cell hcN
    clear hb9
    go_upto_region 7 with fail
    generalize W' = V at *
    have hCV := hC
    have hEV := hE
    refine region_relyL (S := Ext) (fun W' => Ext V W') [some 43, some 44, some 45, some 46, some 47, some 48, some 49, some 50, some 42, some 51, some 52, some 10, none, some 11] [[], [], [1], [], [3], [1, 2, 3, 4], [1, 2, 3, 4, 5], [0, 1, 2, 3, 4, 5, 6], [0, 1, 2, 3, 4, 5, 6, 7], [0, 1, 2, 3, 4, 5, 6, 7, 8], [0, 1, 2, 3, 4, 5, 6, 7, 8], [], [0, 1, 2, 3, 4, 5, 6, 7, 8, 9, 11], [0, 1, 2, 3, 4, 5, 6, 7, 8, 9, 10, 11, 12]] [[], [], [1], [], [3], [2, 4], [5], [0, 6], [7], [7, 8], [8], [], [9, 11], [10]] [none, none, none, none, none, none, none, none, some 7, none, none, none, some 11, none] [[], [], [], [], [], [], [], [], [], [], [], [], [7, 9, 11, 12], []] [12, 13] [.one (.agg #[.int .i64 host, .slice (some ⟨p1, o1, none⟩) N c]), .one (.pointer (some ⟨bc, 1, none⟩)), .one (.slice (some ⟨p1, o1, none⟩) (N + 1) c), .one (.int .i64 ((N : Int) + 1)), .one (.int .i64 (N : Int)), .one (.pointer (some ⟨p1, o1 + N, none⟩)), .one (.agg #[.slice a' m0 c']), RApp host rs 0, RSame 7 0, RChn host rs, .one (.int .i64 0), RVar V.heap.size, RSto 11 V.heap.size host rs, .one (.int .i64 0)] (by kernel_rfl) (by kernel_rfl) rfl (by kernel_rfl) (Ext.refl V).drew ?_ ?_
    · refine stepsL_cons ?_ ?_
      · intro vs W' hl hI hd
        refine hold ?_
        obtain ⟨x0, x1, x2, x3, x4, x5, x6, x7, x8, x9, x10, x11, x12, x13, rfl⟩ := lenlit14 hl; clear hl
        refine held ?_
        simp only [putAll, Act.put, List.setIfInBounds_toArray, List.set_cons_succ, List.set_cons_zero]
        have q0 := hI.cell e0
        have q1 := hI.cell e1
        go_wp2_with fail
        exact relyL_done _ rfl rfl (Ext.refl _) hI
      refine stepsL_cons ?_ ?_
      · intro vs W' hl hI hd
        refine hold ?_
        obtain ⟨x0, x1, x2, x3, x4, x5, x6, x7, x8, x9, x10, x11, x12, x13, rfl⟩ := lenlit14 hl; clear hl
        refine held ?_
        simp only [putAll, Act.put, List.setIfInBounds_toArray, List.set_cons_succ, List.set_cons_zero]
        go_wp2_with fail
        exact relyL_done _ rfl rfl (Ext.refl _) hI
      refine stepsL_cons ?_ ?_
      · intro vs W' hl hI hd
        refine hold ?_
        obtain ⟨x0, x1, x2, x3, x4, x5, x6, x7, x8, x9, x10, x11, x12, x13, rfl⟩ := lenlit14 hl; clear hl
        simp only [factsL, atL, refV, List.getElem?_cons_succ, List.getElem?_cons_zero, List.getD_cons_succ, List.getD_cons_zero, RelL.one, RelL.any, RelL.blk, RelL.law, RApp, RSame, RChn, RVar, RSto] at hd
        obtain ⟨rfl, -⟩ := hd
        refine held ?_
        simp only [putAll, Act.put, List.setIfInBounds_toArray, List.set_cons_succ, List.set_cons_zero]
        have q0 := hI.cell c1
        go_wp2_with fail
        exact relyL_done _ rfl rfl (Ext.refl _) hI
      refine stepsL_cons ?_ ?_
      · intro vs W' hl hI hd
        refine hold ?_
        obtain ⟨x0, x1, x2, x3, x4, x5, x6, x7, x8, x9, x10, x11, x12, x13, rfl⟩ := lenlit14 hl; clear hl
        refine held ?_
        simp only [putAll, Act.put, List.setIfInBounds_toArray, List.set_cons_succ, List.set_cons_zero]
        go_wp2_with fail
        exact relyL_done _ rfl rfl (Ext.refl _) hI
      refine stepsL_cons ?_ ?_
      · intro vs W' hl hI hd
        refine hold ?_
        obtain ⟨x0, x1, x2, x3, x4, x5, x6, x7, x8, x9, x10, x11, x12, x13, rfl⟩ := lenlit14 hl; clear hl
        simp only [factsL, atL, refV, List.getElem?_cons_succ, List.getElem?_cons_zero, List.getD_cons_succ, List.getD_cons_zero, RelL.one, RelL.any, RelL.blk, RelL.law, RApp, RSame, RChn, RVar, RSto] at hd
        obtain ⟨rfl, -⟩ := hd
        refine held ?_
        simp only [putAll, Act.put, List.setIfInBounds_toArray, List.set_cons_succ, List.set_cons_zero]
        go_wp2_with fail
        exact relyL_done _ rfl rfl (Ext.refl _) hI
      refine stepsL_cons ?_ ?_
      · intro vs W' hl hI hd
        refine hold ?_
        obtain ⟨x0, x1, x2, x3, x4, x5, x6, x7, x8, x9, x10, x11, x12, x13, rfl⟩ := lenlit14 hl; clear hl
        simp only [factsL, atL, refV, List.getElem?_cons_succ, List.getElem?_cons_zero, List.getD_cons_succ, List.getD_cons_zero, RelL.one, RelL.any, RelL.blk, RelL.law, RApp, RSame, RChn, RVar, RSto] at hd
        obtain ⟨rfl, rfl, -⟩ := hd
        refine held ?_
        simp only [putAll, Act.put, List.setIfInBounds_toArray, List.set_cons_succ, List.set_cons_zero]
        go_wp2_with fail
        exact relyL_done _ rfl rfl (Ext.refl _) hI
      refine stepsL_cons ?_ ?_
      · intro vs W' hl hI hd
        refine hold ?_
        obtain ⟨x0, x1, x2, x3, x4, x5, x6, x7, x8, x9, x10, x11, x12, x13, rfl⟩ := lenlit14 hl; clear hl
        simp only [factsL, atL, refV, List.getElem?_cons_succ, List.getElem?_cons_zero, List.getD_cons_succ, List.getD_cons_zero, RelL.one, RelL.any, RelL.blk, RelL.law, RApp, RSame, RChn, RVar, RSto] at hd
        obtain ⟨rfl, -⟩ := hd
        refine held ?_
        simp only [putAll, Act.put, List.setIfInBounds_toArray, List.set_cons_succ, List.set_cons_zero]
        have q0 := hI.cell eN
        go_wp2_with fail
        exact relyL_done _ rfl rfl (Ext.refl _) hI
      refine stepsL_cons ?_ ?_
      · intro vs W' hl hI hd
        refine hold ?_
        obtain ⟨x0, x1, x2, x3, x4, x5, x6, x7, x8, x9, x10, x11, x12, x13, rfl⟩ := lenlit14 hl; clear hl
        simp only [factsL, atL, refV, List.getElem?_cons_succ, List.getElem?_cons_zero, List.getD_cons_succ, List.getD_cons_zero, RelL.one, RelL.any, RelL.blk, RelL.law, RApp, RSame, RChn, RVar, RSto] at hd
        obtain ⟨rfl, rfl, -⟩ := hd
        refine held ?_
        simp only [putAll, Act.put, List.setIfInBounds_toArray, List.set_cons_succ, List.set_cons_zero]
        go_wp2_with fail
        refine (append_any host hho _ N c _ _ m0 c' (nthS rs N) W' ((h1.ext (hEV.trans hI)).take (m := N) (by omega)) (hrN.ext (hEV.trans hI)) (fun _ => HST.out) (by omega) (TB.ext HT.out (hEV.trans hI))).mono ?_
        rintro e w1 ⟨aq, nq, cq, rfl, ho, hn', hx⟩
        rw [HAP.out.1, HAP.out.2.2]
        rw [HAP.out.2.1] at ho
        go_wp2_with fail
        exact relyL_done _ rfl (AppV.of ho hn') hx (hI.trans hx)
      refine stepsL_cons ?_ ?_
      · intro vs W' hl hI hd
        refine hold ?_
        obtain ⟨x0, x1, x2, x3, x4, x5, x6, x7, x8, x9, x10, x11, x12, x13, rfl⟩ := lenlit14 hl; clear hl
        simp only [factsL, atL, refV, List.getElem?_cons_succ, List.getElem?_cons_zero, List.getD_cons_succ, List.getD_cons_zero, RelL.one, RelL.any, RelL.blk, RelL.law, RApp, RSame, RChn, RVar, RSto] at hd
        obtain ⟨⟨a7, n7, c7, rfl, h7⟩, -⟩ := hd
        refine held ?_
        simp only [putAll, Act.put, List.setIfInBounds_toArray, List.set_cons_succ, List.set_cons_zero]
        go_wp2_with fail
        exact relyL_done _ rfl ⟨rfl, _, rfl⟩ (Ext.refl _) hI
      refine stepsL_cons ?_ ?_
      · intro vs W' hl hI hd
        refine hold ?_
        obtain ⟨x0, x1, x2, x3, x4, x5, x6, x7, x8, x9, x10, x11, x12, x13, rfl⟩ := lenlit14 hl; clear hl
        simp only [factsL, atL, refV, List.getElem?_cons_succ, List.getElem?_cons_zero, List.getD_cons_succ, List.getD_cons_zero, RelL.one, RelL.any, RelL.blk, RelL.law, RApp, RSame, RChn, RVar, RSto] at hd
        obtain ⟨⟨a7, n7, c7, rfl, h7⟩, ⟨rfl, h8⟩, -⟩ := hd
        refine held ?_
        simp only [putAll, Act.put, List.setIfInBounds_toArray, List.set_cons_succ, List.set_cons_zero]
        go_wp2_with fail
        exact relyL_done _ rfl ⟨a7, n7, c7, rfl, h7⟩ (Ext.refl _) hI
      refine stepsL_cons ?_ ?_
      · intro vs W' hl hI hd
        refine hold ?_
        obtain ⟨x0, x1, x2, x3, x4, x5, x6, x7, x8, x9, x10, x11, x12, x13, rfl⟩ := lenlit14 hl; clear hl
        simp only [factsL, atL, refV, List.getElem?_cons_succ, List.getElem?_cons_zero, List.getD_cons_succ, List.getD_cons_zero, RelL.one, RelL.any, RelL.blk, RelL.law, RApp, RSame, RChn, RVar, RSto] at hd
        obtain ⟨⟨-, A8, rfl⟩, -⟩ := hd
        refine held ?_
        simp only [putAll, Act.put, List.setIfInBounds_toArray, List.set_cons_succ, List.set_cons_zero]
        go_wp2_with fail
        exact relyL_done _ rfl rfl (Ext.refl _) hI
      refine stepsL_cons ?_ ?_
      · intro vs W' hl hI hd
        refine hold ?_
        obtain ⟨x0, x1, x2, x3, x4, x5, x6, x7, x8, x9, x10, x11, x12, x13, rfl⟩ := lenlit14 hl; clear hl
        refine held ?_
        simp only [putAll, Act.put, List.setIfInBounds_toArray, List.set_cons_succ, List.set_cons_zero]
        go_wp2_with fail
        exact relyL_done _ rfl ⟨_, 0, none, 0, 0, rfl, hI.sz, ChB.new _ 0 none 0 0⟩ ((Ext.refl _).alloc _) (hI.alloc _)
      refine stepsL_cons ?_ ?_
      · intro vs W' hl hI hd
        refine hold ?_
        obtain ⟨x0, x1, x2, x3, x4, x5, x6, x7, x8, x9, x10, x11, x12, x13, rfl⟩ := lenlit14 hl; clear hl
        simp only [factsL, atL, refV, List.getElem?_cons_succ, List.getElem?_cons_zero, List.getD_cons_succ, List.getD_cons_zero, RelL.one, RelL.any, RelL.blk, RelL.law, RApp, RSame, RChn, RVar, RSto] at hd
        obtain ⟨⟨a9, n9, c9, rfl, h9⟩, ⟨b11, y11, a11, n11, c11, rfl, hb11, hc11⟩, -⟩ := hd
        refine held ?_
        simp only [putAll, Act.put, List.setIfInBounds_toArray, List.set_cons_succ, List.set_cons_zero]
        have f0 := free_of_block hc11 0
        have f1 := free_of_block hc11 1
        have c70 := hc11.c0
        have c71 := hc11.c1
        have hs := hc11.stored host a9 n9 c9
        have hk := h9.set hc11 host a9 n9 c9
        have hI2 := (hI.setCell (p := ⟨b11, 0, none⟩) hb11 (.int .i64 host)).setCell (p := ⟨b11, 1, none⟩) hb11 (.slice a9 n9 c9)
        go_wp2_with fail
        exact relyL_lose undef rfl ⟨b11, a9, n9, c9, rfl, hb11, hs, hk⟩ (keepsL_of ⟨.inr (fun _ _ h => h), .inr (fun _ _ h => h), .inr (fun _ _ h => h), .inr (fun _ _ h => h), .inr (fun _ _ h => h), .inr (fun _ _ h => h), .inr (fun _ _ h => h), .inl (by decide), .inr (fun _ _ h => h), .inl (by decide), .inr (fun _ _ h => h), .inl (by decide), .inl (by decide), .inr (fun _ _ h => h), trivial⟩) hI2
      refine stepsL_cons ?_ ?_
      · intro vs W' hl hI hd
        refine hold ?_
        obtain ⟨x0, x1, x2, x3, x4, x5, x6, x7, x8, x9, x10, x11, x12, x13, rfl⟩ := lenlit14 hl; clear hl
        simp only [factsL, atL, refV, List.getElem?_cons_succ, List.getElem?_cons_zero, List.getD_cons_succ, List.getD_cons_zero, RelL.one, RelL.any, RelL.blk, RelL.law, RApp, RSame, RChn, RVar, RSto] at hd
        obtain ⟨rfl, -⟩ := hd
        refine held ?_
        simp only [putAll, Act.put, List.setIfInBounds_toArray, List.set_cons_succ, List.set_cons_zero]
        go_wp2_with fail
        exact relyL_done _ rfl rfl (Ext.refl _) hI
      exact trivial
    · intro vs W' hl hI hd
      obtain ⟨x0, x1, x2, x3, x4, x5, x6, x7, x8, x9, x10, x11, x12, x13, rfl⟩ := lenlit14 hl; clear hl
      simp only [factsL, atL, refV, List.getElem?_cons_succ, List.getElem?_cons_zero, List.getD_cons_succ, List.getD_cons_zero, RelL.one, RelL.any, RelL.blk, RelL.law, RApp, RSame, RChn, RVar, RSto] at hd
      obtain ⟨h12, rfl, -⟩ := hd
      simp only [putAll, Act.put, List.setIfInBounds_toArray, List.set_cons_succ, List.set_cons_zero]
      obtain ⟨b10, a10, n10, c10, rfl, hb10, hC10, hL10⟩ := h12
      have hD9 := hD9.ext hI
      have hV := hV.ext hI
      have hC := hCV.ext hI
      have hE := hEV.trans hI
      clear hI hEV hCV c0 c1 e0 e1 eN hb10
      have c0 := hC.c0
      have c1 := hC.c1
      have e0 := hD9.c0
      have e1 := hD9.c1
      have g0 := hC10.c0
      have g1 := hC10.c1
      go_wp2_with fail
      refine (valid_any host hho _ N c _ W' ((h1.ext hE).take (m := N) (by omega)) (fun _ => HST.out) (TB.ext HT.out hE)).mono ?_
      rintro e w3 ⟨rfl, hx⟩
      rw [HVT.out]
      replace hC10 := hC10.ext hx
      have R10 := hL10.rws.ext hx
      clear c0 c1 e0 e1 g0 g1 hD9 hL10
      replace hC := hC.ext hx
      replace hV := hV.ext hx
      replace hE := hE.trans hx
      clear hx
      have c0 := hC.c0
      have c1 := hC.c1
      have g0 := hC10.c0
      have g1 := hC10.c1
      go_wp2_with fail
      refine (same12_any host host a10 n10 c10 rs _ (N + 1) c rs w3 R10 (h1.ext hE)).mono ?_
      rintro e w4 ⟨rfl, hx⟩
      rw [sameC_refl]
      clear c0 c1 g0 g1 hC10 R10
      replace hC := hC.ext hx
      replace hV := hV.ext hx
      replace hE := hE.trans hx
      clear hx
      have c0 := hC.c0
      have c1 := hC.c1
      go_upto_region 11 with fail
      generalize w4 = V0 at *
      have hR0 : RdV (V0.alloc (.cells #[.slice none 0 0] 27)) V0.heap.size none 0 0 := World.alloc_heap_new V0 _
      have hE1 : Ext V0 (V0.alloc (.cells #[.slice none 0 0] 27)) := (Ext.refl V0).alloc _
      generalize V0.alloc (.cells #[.slice none 0 0] 27) = Y at *
      generalize hbre : V0.heap.size = br at *
      have hbr : V0.heap.size ≤ br := Nat.le_of_eq hbre
      have i0 := hV.c0
      have i1 := hV.c1
      generalize hHD : headF rs = HD at *
      have HHD := Lib.hid hHD
      have HDR : Hid (0 ≤ HD ∧ HD ≤ 18446744073709551615) := Lib.hid (hHD ▸ headF_rng rs)
      clear hbre hHD
      go_wp2_with fail
      go_loopw [13] (fun i wr => ∃ (k m cc : Nat) (sa : Option Addr) (L : List Rp), 1 ≤ k ∧ k ≤ 17 ∧ i = .int .i64 k ∧ RdV wr br sa m cc ∧ OwR 39 br wr sa m cc L ∧ Gro host ((N : Int) + 1 + 1) HD k L ∧ Ext V0 wr) (fun i _ => 17 - (intOf i).toNat)
      case atStart => exact ⟨1, 0, 0, none, [], by omega, by omega, rfl, hR0, OwR.nil _ _ _, Gro.nil _ _ _, hE1⟩
      case round =>
        obtain ⟨k, m, cc, sa, L, hk1, hk2, rfl, hR, hO, hG, hx⟩ := hrel
        have hm : m < k := by have := hG.1; have := hO.1; omega
        by_cases hk : k ≤ 16
        · by_cases hst : 0 ≤ lo ∧ lo ≤ hi ∧ hi ≤ 3000000000000000
          · have j0 := hx.cell i0
            have j1 := hx.cell i1
            obtain ⟨s1, s2, s3⟩ := hst
            have HNOR := nonF_rng HD host ((N : Int) + 1 + 1) (k : Int)
            have hrb := rightB_mk (hd := HD) (validF_host HV.out) (show 1 ≤ ((N : Int) + 1 + 1) ∧ ((N : Int) + 1 + 1) ≤ 200 by omega) ⟨s1, s2, s3⟩ (show 1 ≤ k ∧ k ≤ 16 by omega)
            generalize hNO : nonF HD host ((N : Int) + 1 + 1) (k : Int) = NO at *
            have HNO := Lib.hid hNO
            have HOK := Lib.hid (ok_mk hho (show 1 ≤ ((N : Int) + 1 + 1) ∧ ((N : Int) + 1 + 1) ≤ 200 by omega) HNOR hlo hhi hk)
            have HPUT := Lib.hid (hG.put HOK.out rfl hrb)
            clear hrb hNO HNOR
            have hEw := hE.trans hx
            go_upto_region 15 with fail
            · rename_i q1 K2 hK2 q2
              clear q1 q2
              have hEz := hx
              generalize wr = Vz at *
              have hbrz := lt_of_block hR
              refine region_relyE (fun listed W' => Ext V0 W' ∧ (listed 19 = false → Ext Vz W')) [some 93, some 94, some 95, some 96, some 97, some 98, some 99, some 100, some 101, some 102, some 103, some 104, some 105, some 106, some 107, some 108, some 109, some 110, some 111, some 112, some 113, none] [[], [0], [], [], [3], [], [5], [], [7], [7, 8], [], [10], [], [12], [], [7, 8, 9, 10, 11, 12, 13, 14], [], [2, 3, 4, 5, 6, 7, 8, 9, 10, 11, 12, 13, 14, 15, 16], [2, 3, 4, 5, 6, 7, 8, 9, 10, 11, 12, 13, 14, 15, 16, 17], [0, 1, 2, 3, 4, 5, 6, 7, 8, 9, 10, 11, 12, 13, 14, 15, 16, 17, 18], [0, 1, 2, 3, 4, 5, 6, 7, 8, 9, 10, 11, 12, 13, 14, 15, 16, 17, 18, 19], [0, 1, 2, 3, 4, 5, 6, 7, 8, 9, 10, 11, 12, 13, 14, 15, 16, 17, 18, 19, 20]] [[], [0], [], [], [3], [], [5], [], [7], [8], [], [10], [], [12], [], [9, 11, 13, 14], [], [2, 4, 6, 15, 16], [17], [1, 18], [], [19, 20]] [none, none, none, none, none, none, none, none, none, none, none, none, none, none, none, none, none, none, none, none, none, some 19] [false, false, false, false, false, false, false, false, false, false, false, false, false, false, false, false, false, false, false, false, false, false] [.one (.pointer (some ⟨br, 0, none⟩)), .one (.slice sa m cc), .one (.int .i64 (k : Int)), .one (.pointer (some ⟨bc, 0, none⟩)), .one (.int .i64 host), .one (.int .i64 ((N : Int) + 1)), .one (.int .i64 ((N : Int) + 1 + 1)), .one (.pointer (some ⟨bc, 1, none⟩)), .one (.slice (some ⟨p1, o1, none⟩) (N + 1) c), .one (.int .u64 HD), .one (.pointer (some ⟨bc, 0, none⟩)), .one (.int .i64 host), .one (.int .i64 ((N : Int) + 1)), .one (.int .i64 ((N : Int) + 1 + 1)), .one (.int .i64 (k : Int)), .one (.int .u64 NO), .one (.agg #[.int .i64 lo, .int .i64 hi]), .one (.agg #[.int .i64 (k : Int), .int .i64 host, .int .i64 ((N : Int) + 1 + 1), .int .u64 NO, .int .i64 lo, .int .i64 hi, .int .i64 0, .int .i64 0, .int .i64 0, .int .i64 0]), RLt Vz.heap.size #[.int .i64 (k : Int), .int .i64 host, .int .i64 ((N : Int) + 1 + 1), .int .u64 NO, .int .i64 lo, .int .i64 hi, .int .i64 0, .int .i64 0, .int .i64 0, .int .i64 0], RNr br br (m + 1) (L ++ [⟨(k : Int), host, ((N : Int) + 1 + 1), NO, lo, hi, 0, 0, 0, 0⟩]), .one (.pointer (some ⟨br, 0, none⟩)), RFn 19 br br (m + 1) (L ++ [⟨(k : Int), host, ((N : Int) + 1 + 1), NO, lo, hi, 0, 0, 0, 0⟩])] (by kernel_rfl) (by kernel_rfl) rfl ⟨hEz.drew, fun _ => (Ext.refl Vz).drew⟩ ?_ ?_
              · refine stepsE_cons ?_ ?_
                · intro listed vs W' hl hI hd hs hn hu hz
                  refine hold ?_
                  obtain ⟨x0, x1, x2, x3, x4, x5, x6, x7, x8, x9, x10, x11, x12, x13, x14, x15, x16, x17, x18, x19, x20, x21, rfl⟩ := lenlit22 hl; clear hl
                  refine held ?_
                  simp only [putAll, Act.put, List.setIfInBounds_toArray, List.set_cons_succ, List.set_cons_zero]
                  go_wp2_with fail
                  exact relyE_done _ rfl rfl (Ext.refl _) ⟨hI.1, fun h => hI.2 (updE_false h)⟩
                refine stepsE_cons ?_ ?_
                · intro listed vs W' hl hI hd hs hn hu hz
                  refine hold ?_
                  obtain ⟨x0, x1, x2, x3, x4, x5, x6, x7, x8, x9, x10, x11, x12, x13, x14, x15, x16, x17, x18, x19, x20, x21, rfl⟩ := lenlit22 hl; clear hl
                  simp only [factsL, atL, refV, List.getElem?_cons_succ, List.getElem?_cons_zero, List.getD_cons_succ, List.getD_cons_zero, RelL.one, RelL.any, RelL.blk, RelL.law, RNr, RFn, RLt] at hd
                  obtain ⟨rfl, -⟩ := hd
                  refine held ?_
                  simp only [putAll, Act.put, List.setIfInBounds_toArray, List.set_cons_succ, List.set_cons_zero]
                  have h19 : listed 19 = false := by cases h : listed 19 with | false => rfl | true => exact absurd (by decide) (hu 19 h)
                  have hz2 := hI.2 h19
                  have q0 := (hR.ext hz2).c0
                  go_wp2_with fail
                  exact relyE_done _ rfl rfl (Ext.refl _) ⟨hI.1, fun h => hI.2 (updE_false h)⟩
                refine stepsE_cons ?_ ?_
                · intro listed vs W' hl hI hd hs hn hu hz
                  refine hold ?_
                  obtain ⟨x0, x1, x2, x3, x4, x5, x6, x7, x8, x9, x10, x11, x12, x13, x14, x15, x16, x17, x18, x19, x20, x21, rfl⟩ := lenlit22 hl; clear hl
                  refine held ?_
                  simp only [putAll, Act.put, List.setIfInBounds_toArray, List.set_cons_succ, List.set_cons_zero]
                  go_wp2_with fail
                  exact relyE_done _ rfl rfl (Ext.refl _) ⟨hI.1, fun h => hI.2 (updE_false h)⟩
                refine stepsE_cons ?_ ?_
                · intro listed vs W' hl hI hd hs hn hu hz
                  refine hold ?_
                  obtain ⟨x0, x1, x2, x3, x4, x5, x6, x7, x8, x9, x10, x11, x12, x13, x14, x15, x16, x17, x18, x19, x20, x21, rfl⟩ := lenlit22 hl; clear hl
                  refine held ?_
                  simp only [putAll, Act.put, List.setIfInBounds_toArray, List.set_cons_succ, List.set_cons_zero]
                  go_wp2_with fail
                  exact relyE_done _ rfl rfl (Ext.refl _) ⟨hI.1, fun h => hI.2 (updE_false h)⟩
                refine stepsE_cons ?_ ?_
                · intro listed vs W' hl hI hd hs hn hu hz
                  refine hold ?_
                  obtain ⟨x0, x1, x2, x3, x4, x5, x6, x7, x8, x9, x10, x11, x12, x13, x14, x15, x16, x17, x18, x19, x20, x21, rfl⟩ := lenlit22 hl; clear hl
                  simp only [factsL, atL, refV, List.getElem?_cons_succ, List.getElem?_cons_zero, List.getD_cons_succ, List.getD_cons_zero, RelL.one, RelL.any, RelL.blk, RelL.law, RNr, RFn, RLt] at hd
                  obtain ⟨rfl, -⟩ := hd
                  refine held ?_
                  simp only [putAll, Act.put, List.setIfInBounds_toArray, List.set_cons_succ, List.set_cons_zero]
                  have q0 := hI.1.cell c0
                  go_wp2_with fail
                  exact relyE_done _ rfl rfl (Ext.refl _) ⟨hI.1, fun h => hI.2 (updE_false h)⟩
                refine stepsE_cons ?_ ?_
                · intro listed vs W' hl hI hd hs hn hu hz
                  refine hold ?_
                  obtain ⟨x0, x1, x2, x3, x4, x5, x6, x7, x8, x9, x10, x11, x12, x13, x14, x15, x16, x17, x18, x19, x20, x21, rfl⟩ := lenlit22 hl; clear hl
                  refine held ?_
                  simp only [putAll, Act.put, List.setIfInBounds_toArray, List.set_cons_succ, List.set_cons_zero]
                  go_wp2_with fail
                  exact relyE_done _ rfl rfl (Ext.refl _) ⟨hI.1, fun h => hI.2 (updE_false h)⟩
                refine stepsE_cons ?_ ?_
                · intro listed vs W' hl hI hd hs hn hu hz
                  refine hold ?_
                  obtain ⟨x0, x1, x2, x3, x4, x5, x6, x7, x8, x9, x10, x11, x12, x13, x14, x15, x16, x17, x18, x19, x20, x21, rfl⟩ := lenlit22 hl; clear hl
                  simp only [factsL, atL, refV, List.getElem?_cons_succ, List.getElem?_cons_zero, List.getD_cons_succ, List.getD_cons_zero, RelL.one, RelL.any, RelL.blk, RelL.law, RNr, RFn, RLt] at hd
                  obtain ⟨rfl, -⟩ := hd
                  refine held ?_
                  simp only [putAll, Act.put, List.setIfInBounds_toArray, List.set_cons_succ, List.set_cons_zero]
                  go_wp2_with fail
                  exact relyE_done _ rfl rfl (Ext.refl _) ⟨hI.1, fun h => hI.2 (updE_false h)⟩
                refine stepsE_cons ?_ ?_
                · intro listed vs W' hl hI hd hs hn hu hz
                  refine hold ?_
                  obtain ⟨x0, x1, x2, x3, x4, x5, x6, x7, x8, x9, x10, x11, x12, x13, x14, x15, x16, x17, x18, x19, x20, x21, rfl⟩ := lenlit22 hl; clear hl
                  refine held ?_
                  simp only [putAll, Act.put, List.setIfInBounds_toArray, List.set_cons_succ, List.set_cons_zero]
                  go_wp2_with fail
                  exact relyE_done _ rfl rfl (Ext.refl _) ⟨hI.1, fun h => hI.2 (updE_false h)⟩
                refine stepsE_cons ?_ ?_
                · intro listed vs W' hl hI hd hs hn hu hz
                  refine hold ?_
                  obtain ⟨x0, x1, x2, x3, x4, x5, x6, x7, x8, x9, x10, x11, x12, x13, x14, x15, x16, x17, x18, x19, x20, x21, rfl⟩ := lenlit22 hl; clear hl
                  simp only [factsL, atL, refV, List.getElem?_cons_succ, List.getElem?_cons_zero, List.getD_cons_succ, List.getD_cons_zero, RelL.one, RelL.any, RelL.blk, RelL.law, RNr, RFn, RLt] at hd
                  obtain ⟨rfl, -⟩ := hd
                  refine held ?_
                  simp only [putAll, Act.put, List.setIfInBounds_toArray, List.set_cons_succ, List.set_cons_zero]
                  have q0 := hI.1.cell c1
                  go_wp2_with fail
                  exact relyE_done _ rfl rfl (Ext.refl _) ⟨hI.1, fun h => hI.2 (updE_false h)⟩
                refine stepsE_cons ?_ ?_
                · intro listed vs W' hl hI hd hs hn hu hz
                  refine hold ?_
                  obtain ⟨x0, x1, x2, x3, x4, x5, x6, x7, x8, x9, x10, x11, x12, x13, x14, x15, x16, x17, x18, x19, x20, x21, rfl⟩ := lenlit22 hl; clear hl
                  simp only [factsL, atL, refV, List.getElem?_cons_succ, List.getElem?_cons_zero, List.getD_cons_succ, List.getD_cons_zero, RelL.one, RelL.any, RelL.blk, RelL.law, RNr, RFn, RLt] at hd
                  obtain ⟨rfl, -⟩ := hd
                  refine held ?_
                  simp only [putAll, Act.put, List.setIfInBounds_toArray, List.set_cons_succ, List.set_cons_zero]
                  go_wp2_with fail
                  refine (headf_any _ (N + 1) c rs W' (h1.ext (hE.trans hI.1)) HSS.out (TB.ext HT.out (hE.trans hI.1))).mono ?_
                  rintro e w1 ⟨rfl, hx⟩
                  rw [HHD.out]
                  go_wp2_with fail
                  exact relyE_done _ rfl rfl hx ⟨hI.1.trans hx, fun h => (hI.2 (updE_false h)).trans hx⟩
                refine stepsE_cons ?_ ?_
                · intro listed vs W' hl hI hd hs hn hu hz
                  refine hold ?_
                  obtain ⟨x0, x1, x2, x3, x4, x5, x6, x7, x8, x9, x10, x11, x12, x13, x14, x15, x16, x17, x18, x19, x20, x21, rfl⟩ := lenlit22 hl; clear hl
                  refine held ?_
                  simp only [putAll, Act.put, List.setIfInBounds_toArray, List.set_cons_succ, List.set_cons_zero]
                  go_wp2_with fail
                  exact relyE_done _ rfl rfl (Ext.refl _) ⟨hI.1, fun h => hI.2 (updE_false h)⟩
                refine stepsE_cons ?_ ?_
                · intro listed vs W' hl hI hd hs hn hu hz
                  refine hold ?_
                  obtain ⟨x0, x1, x2, x3, x4, x5, x6, x7, x8, x9, x10, x11, x12, x13, x14, x15, x16, x17, x18, x19, x20, x21, rfl⟩ := lenlit22 hl; clear hl
                  simp only [factsL, atL, refV, List.getElem?_cons_succ, List.getElem?_cons_zero, List.getD_cons_succ, List.getD_cons_zero, RelL.one, RelL.any, RelL.blk, RelL.law, RNr, RFn, RLt] at hd
                  obtain ⟨rfl, -⟩ := hd
                  refine held ?_
                  simp only [putAll, Act.put, List.setIfInBounds_toArray, List.set_cons_succ, List.set_cons_zero]
                  have q0 := hI.1.cell c0
                  go_wp2_with fail
                  exact relyE_done _ rfl rfl (Ext.refl _) ⟨hI.1, fun h => hI.2 (updE_false h)⟩
                refine stepsE_cons ?_ ?_
                · intro listed vs W' hl hI hd hs hn hu hz
                  refine hold ?_
                  obtain ⟨x0, x1, x2, x3, x4, x5, x6, x7, x8, x9, x10, x11, x12, x13, x14, x15, x16, x17, x18, x19, x20, x21, rfl⟩ := lenlit22 hl; clear hl
                  refine held ?_
                  simp only [putAll, Act.put, List.setIfInBounds_toArray, List.set_cons_succ, List.set_cons_zero]
                  go_wp2_with fail
                  exact relyE_done _ rfl rfl (Ext.refl _) ⟨hI.1, fun h => hI.2 (updE_false h)⟩
                refine stepsE_cons ?_ ?_
                · intro listed vs W' hl hI hd hs hn hu hz
                  refine hold ?_
                  obtain ⟨x0, x1, x2, x3, x4, x5, x6, x7, x8, x9, x10, x11, x12, x13, x14, x15, x16, x17, x18, x19, x20, x21, rfl⟩ := lenlit22 hl; clear hl
                  simp only [factsL, atL, refV, List.getElem?_cons_succ, List.getElem?_cons_zero, List.getD_cons_succ, List.getD_cons_zero, RelL.one, RelL.any, RelL.blk, RelL.law, RNr, RFn, RLt] at hd
                  obtain ⟨rfl, -⟩ := hd
                  refine held ?_
                  simp only [putAll, Act.put, List.setIfInBounds_toArray, List.set_cons_succ, List.set_cons_zero]
                  go_wp2_with fail
                  exact relyE_done _ rfl rfl (Ext.refl _) ⟨hI.1, fun h => hI.2 (updE_false h)⟩
                refine stepsE_cons ?_ ?_
                · intro listed vs W' hl hI hd hs hn hu hz
                  refine hold ?_
                  obtain ⟨x0, x1, x2, x3, x4, x5, x6, x7, x8, x9, x10, x11, x12, x13, x14, x15, x16, x17, x18, x19, x20, x21, rfl⟩ := lenlit22 hl; clear hl
                  refine held ?_
                  simp only [putAll, Act.put, List.setIfInBounds_toArray, List.set_cons_succ, List.set_cons_zero]
                  go_wp2_with fail
                  exact relyE_done _ rfl rfl (Ext.refl _) ⟨hI.1, fun h => hI.2 (updE_false h)⟩
                refine stepsE_cons ?_ ?_
                · intro listed vs W' hl hI hd hs hn hu hz
                  refine hold ?_
                  obtain ⟨x0, x1, x2, x3, x4, x5, x6, x7, x8, x9, x10, x11, x12, x13, x14, x15, x16, x17, x18, x19, x20, x21, rfl⟩ := lenlit22 hl; clear hl
                  simp only [factsL, atL, refV, List.getElem?_cons_succ, List.getElem?_cons_zero, List.getD_cons_succ, List.getD_cons_zero, RelL.one, RelL.any, RelL.blk, RelL.law, RNr, RFn, RLt] at hd
                  obtain ⟨rfl, rfl, rfl, rfl, -⟩ := hd
                  refine held ?_
                  simp only [putAll, Act.put, List.setIfInBounds_toArray, List.set_cons_succ, List.set_cons_zero]
                  go_wp2_with fail
                  refine (nonce_any HD host ((N : Int) + 1 + 1) (k : Int) HDR.out hho (wfi (by omega) (by omega)) (wfi (by omega) (by omega)) W' (TB.ext HT.out (hE.trans hI.1))).mono ?_
                  rintro e w1 ⟨rfl, hx⟩
                  rw [HNO.out]
                  go_wp2_with fail
                  exact relyE_done _ rfl rfl hx ⟨hI.1.trans hx, fun h => (hI.2 (updE_false h)).trans hx⟩
                refine stepsE_cons ?_ ?_
                · intro listed vs W' hl hI hd hs hn hu hz
                  refine hold ?_
                  obtain ⟨x0, x1, x2, x3, x4, x5, x6, x7, x8, x9, x10, x11, x12, x13, x14, x15, x16, x17, x18, x19, x20, x21, rfl⟩ := lenlit22 hl; clear hl
                  refine held ?_
                  simp only [putAll, Act.put, List.setIfInBounds_toArray, List.set_cons_succ, List.set_cons_zero]
                  have q0 := hI.1.cell i0
                  have q1 := hI.1.cell i1
                  go_wp2_with fail
                  exact relyE_done _ rfl rfl (Ext.refl _) ⟨hI.1, fun h => hI.2 (updE_false h)⟩
                refine stepsE_cons ?_ ?_
                · intro listed vs W' hl hI hd hs hn hu hz
                  refine hold ?_
                  obtain ⟨x0, x1, x2, x3, x4, x5, x6, x7, x8, x9, x10, x11, x12, x13, x14, x15, x16, x17, x18, x19, x20, x21, rfl⟩ := lenlit22 hl; clear hl
                  simp only [factsL, atL, refV, List.getElem?_cons_succ, List.getElem?_cons_zero, List.getD_cons_succ, List.getD_cons_zero, RelL.one, RelL.any, RelL.blk, RelL.law, RNr, RFn, RLt] at hd
                  obtain ⟨rfl, rfl, rfl, rfl, rfl, -⟩ := hd
                  refine held ?_
                  simp only [putAll, Act.put, List.setIfInBounds_toArray, List.set_cons_succ, List.set_cons_zero]
                  go_wp2_with fail
                  exact relyE_done _ rfl rfl (Ext.refl _) ⟨hI.1, fun h => hI.2 (updE_false h)⟩
                refine stepsE_cons ?_ ?_
                · intro listed vs W' hl hI hd hs hn hu hz
                  refine hold ?_
                  obtain ⟨x0, x1, x2, x3, x4, x5, x6, x7, x8, x9, x10, x11, x12, x13, x14, x15, x16, x17, x18, x19, x20, x21, rfl⟩ := lenlit22 hl; clear hl
                  simp only [factsL, atL, refV, List.getElem?_cons_succ, List.getElem?_cons_zero, List.getD_cons_succ, List.getD_cons_zero, RelL.one, RelL.any, RelL.blk, RelL.law, RNr, RFn, RLt] at hd
                  obtain ⟨rfl, -⟩ := hd
                  refine held ?_
                  simp only [putAll, Act.put, List.setIfInBounds_toArray, List.set_cons_succ, List.set_cons_zero]
                  go_wp2_with fail
                  have h19 : listed 19 = false := by cases h : listed 19 with | false => rfl | true => exact absurd (by decide) (hu 19 h)
                  have hz2 := hI.2 h19
                  exact relyE_done _ rfl ⟨_, rfl, hz2.sz, World.alloc_heap_new _ _⟩ ((Ext.refl _).alloc _) ⟨hI.1.alloc _, fun h => (hI.2 (updE_false h)).alloc _⟩
                refine stepsE_cons ?_ ?_
                · intro listed vs W' hl hI hd hs hn hu hz
                  refine hold ?_
                  obtain ⟨x0, x1, x2, x3, x4, x5, x6, x7, x8, x9, x10, x11, x12, x13, x14, x15, x16, x17, x18, x19, x20, x21, rfl⟩ := lenlit22 hl; clear hl
                  simp only [factsL, atL, refV, List.getElem?_cons_succ, List.getElem?_cons_zero, List.getD_cons_succ, List.getD_cons_zero, RelL.one, RelL.any, RelL.blk, RelL.law, RNr, RFn, RLt] at hd
                  obtain ⟨rfl, ⟨b18, rfl, hb17, hb18⟩, -⟩ := hd
                  refine held ?_
                  simp only [putAll, Act.put, List.setIfInBounds_toArray, List.set_cons_succ, List.set_cons_zero]
                  have hz2 := hI.2 hz
                  have hbz : br ≤ W'.heap.size := by have := hz2.sz; omega
                  have ho2 := hO.ext hz2
                  have hR2 := hR.ext hz2
                  have hlit : Rw W' (some ⟨b18, 0, none⟩) 1 1 [(⟨(k : Int), host, ((N : Int) + 1 + 1), NO, lo, hi, 0, 0, 0, 0⟩ : Rp)] := Rw.lit1 hb18 HOK.out
                  go_wp2_with (at_builtin; refine appRg el_rp rfl _ _ rfl _ br _ _ _ _ rfl ho2 b18 0 1 1 _ rfl hlit (by omega) hbz (by unfold maxLen; omega) (by omega) ?_; intro g19 c19 w19 hop hB hg; refine hold ?_)
                  refine held ?_
                  have hR3 := hR2.grown ho2 hg
                  exact wpList_nil (relyE_store _ rfl ⟨_, _, rfl, hop, _, _, _, hR3⟩ hB.size ⟨fun _ _ h => h, fun _ _ h => h, fun _ _ h => h, fun _ _ h => h, fun _ _ h => h, fun _ _ h => h, fun _ _ h => h, fun _ _ h => h, fun _ _ h => h, fun _ _ h => h, fun _ _ h => h, fun _ _ h => h, fun _ _ h => h, fun _ _ h => h, fun _ _ h => h, fun _ _ h => h, fun _ _ h => h, fun _ _ h => h, fun _ _ ⟨b, e1, e2, e3⟩ => ⟨b, e1, e2, (hg.block b (Array.getElem?_eq_some_iff.1 e3).1 (fun e => Nat.lt_irrefl _ (Nat.lt_of_lt_of_le (World.ownsRow.lt hO.2 b e.symm).2 e2))).trans e3⟩, fun _ hk _ => absurd rfl hk, fun _ _ h => h, fun hk _ _ => absurd (hu 21 hk) (by decide), trivial⟩ ⟨Below.trans hI.1 (Below.mono hB hbr), fun h => by simp [updE] at h⟩)
                refine stepsE_cons ?_ ?_
                · intro listed vs W' hl hI hd hs hn hu hz
                  refine hold ?_
                  obtain ⟨x0, x1, x2, x3, x4, x5, x6, x7, x8, x9, x10, x11, x12, x13, x14, x15, x16, x17, x18, x19, x20, x21, rfl⟩ := lenlit22 hl; clear hl
                  refine held ?_
                  simp only [putAll, Act.put, List.setIfInBounds_toArray, List.set_cons_succ, List.set_cons_zero]
                  go_wp2_with fail
                  exact relyE_done _ rfl rfl (Ext.refl _) ⟨hI.1, fun h => by simp [updE, hs 19 (by decide)] at h⟩
                refine stepsE_cons ?_ ?_
                · intro listed vs W' hl hI hd hs hn hu hz
                  refine hold ?_
                  obtain ⟨x0, x1, x2, x3, x4, x5, x6, x7, x8, x9, x10, x11, x12, x13, x14, x15, x16, x17, x18, x19, x20, x21, rfl⟩ := lenlit22 hl; clear hl
                  simp only [factsL, atL, refV, List.getElem?_cons_succ, List.getElem?_cons_zero, List.getD_cons_succ, List.getD_cons_zero, RelL.one, RelL.any, RelL.blk, RelL.law, RNr, RFn, RLt] at hd
                  obtain ⟨⟨g19, c19, rfl, h19, ar, nr, cr, hR3⟩, rfl, -⟩ := hd
                  refine held ?_
                  simp only [putAll, Act.put, List.setIfInBounds_toArray, List.set_cons_succ, List.set_cons_zero]
                  have f0 := free_of_block hR3 0
                  have q0 := hR3.c0
                  have hs2 := hR3.stored (some ⟨g19, 0, none⟩) (m + 1) c19
                  have hk := h19.setRd hR3 (.slice (some ⟨g19, 0, none⟩) (m + 1) c19)
                  have hI2 := hI.1.setCell (p := ⟨br, 0, none⟩) hbr (.slice (some ⟨g19, 0, none⟩) (m + 1) c19)
                  go_wp2_with fail
                  exact relyE_store undef rfl ⟨_, _, rfl, hs2, hk⟩ (by simp) ⟨fun _ _ h => h, fun _ _ h => h, fun _ _ h => h, fun _ _ h => h, fun _ _ h => h, fun _ _ h => h, fun _ _ h => h, fun _ _ h => h, fun _ _ h => h, fun _ _ h => h, fun _ _ h => h, fun _ _ h => h, fun _ _ h => h, fun _ _ h => h, fun _ _ h => h, fun _ _ h => h, fun _ _ h => h, fun _ _ h => h, fun _ _ ⟨b, e1, e2, e3⟩ => ⟨b, e1, e2, (heap_setCell_other _ ⟨br, 0, none⟩ b _ (fun e => absurd hbrz (Nat.not_lt.2 ((show b = br from e) ▸ e2)))).trans e3⟩, fun _ _ _ => ⟨g19, c19, rfl, hk, _, _, _, hs2⟩, fun _ _ h => h, fun _ hk _ => absurd rfl hk, trivial⟩ ⟨hI2, fun h => by simp [updE, hs 19 (by decide)] at h⟩
                exact trivial
              · intro listed vs W' hl hall hI hd hn
                obtain ⟨x0, x1, x2, x3, x4, x5, x6, x7, x8, x9, x10, x11, x12, x13, x14, x15, x16, x17, x18, x19, x20, x21, rfl⟩ := lenlit22 hl; clear hl
                simp only [List.length_cons, List.length_nil, List.range, List.range.loop, Nat.zero_add, Nat.reduceAdd, factsL, atL, refV, List.getElem?_cons_succ, List.getElem?_cons_zero, List.getD_cons_succ, List.getD_cons_zero, RelL.one, RelL.any, RelL.blk, RelL.law, RNr, RFn, RLt] at hd
                obtain ⟨rfl, rfl, rfl, rfl, rfl, rfl, rfl, rfl, rfl, rfl, rfl, rfl, rfl, rfl, rfl, rfl, rfl, rfl, -, -, rfl, h21, -⟩ := hd
                simp only [putAll, Act.put, List.setIfInBounds_toArray, List.set_cons_succ, List.set_cons_zero]
                obtain ⟨g19, c19, rfl, hR19, hO19⟩ := h21
                go_wp2_with fail
                exact ⟨⟨k + 1, m + 1, c19, _, _, by omega, by omega, by go_num, hR19, hO19, HPUT.out, hI.1⟩, by simp [intOf]; omega⟩
            · exact ⟨⟨k + 1, m, cc, sa, L, by omega, by omega, by go_num, hR, hO, hG.skip, hx⟩, by simp [intOf]; omega⟩
          · have j0 := hx.cell i0
            have j1 := hx.cell i1
            by_cases s1 : 0 ≤ lo
            · by_cases s2 : lo ≤ hi
              · have s3 : ¬ hi ≤ 3000000000000000 := fun h => hst ⟨s1, s2, h⟩
                clear hst
                go_wp2_with fail
                all_goals exact ⟨⟨k + 1, m, cc, sa, L, by omega, by omega, by go_num, hR, hO, hG.skip, hx⟩, by simp [intOf]; omega⟩
              · clear hst
                go_wp2_with fail
                all_goals exact ⟨⟨k + 1, m, cc, sa, L, by omega, by omega, by go_num, hR, hO, hG.skip, hx⟩, by simp [intOf]; omega⟩
            · clear hst
              go_wp2_with fail
              all_goals exact ⟨⟨k + 1, m, cc, sa, L, by omega, by omega, by go_num, hR, hO, hG.skip, hx⟩, by simp [intOf]; omega⟩
        · obtain rfl : k = 17 := by omega
          have hC := hC.ext hx
          have hE := hE.trans hx
          have hfit := hG.fits
          have HLL : Hid ((rs.length : Int) + 1 = ((N : Int) + 1 + 1)) := Lib.hid (by have := HL.out; omega)
          rw [← HLL.out] at hfit
          have HAA := Lib.hid (apd_ok (r := []) HV.out (by rw [HL.out]; omega) rfl)
          have HAB := Lib.hid (apd_ok HV.out (by rw [HL.out]; omega) (HHD.out ▸ hfit))
          have HVA := Lib.hid (validF_app (r := []) HV.out (by rw [HL.out]; omega) rfl)
          have HVB := Lib.hid (validF_app HV.out (by rw [HL.out]; omega) (HHD.out ▸ hfit))
          have hRw := hO.rw (by omega) hG.2.1
          have HSA : Hid (Short (rs ++ [[]])) := Lib.hid (fun r hr => by
            rcases List.mem_append.1 hr with h | h
            · exact HSS.out r h
            · rw [List.mem_singleton.1 h]; simp)
          have HSB : Hid (Short (rs ++ [L])) := Lib.hid (fun r hr => by
            rcases List.mem_append.1 hr with h | h
            · exact HSS.out r h
            · rw [List.mem_singleton.1 h]; have := hG.1; omega)
          clear hO hG hfit i0 i1 hE1 hV c0 c1
          have c0 := hC.c0
          have c1 := hC.c1
          go_wp2_with fail
          refine (append_any host hho _ (N + 1) c rs none 0 0 [] wr (h1.ext hE) (Rw.nil _) (fun _ => HSS.out) (by omega) (TB.ext HT.out hE)).mono ?_
          rintro e w5 ⟨aA, nA, cA, rfl, hoA, hnA, hx5⟩
          rw [HAA.out.1, HAA.out.2.2]
          rw [HAA.out.2.1] at hoA
          go_upto_region 17 with fail
          have hx6 : Ext w5 (w5.alloc (.cells #[.int .i64 host, .slice aA nA cA] 24)) := (Ext.refl _).alloc _
          have hPA := ChB.new w5 host aA nA cA
          have hwA := (hoA.ext hx6).rws (by omega)
          have hx7 := hx5.trans hx6
          generalize w5.alloc (.cells #[.int .i64 host, .slice aA nA cA] 24) = V6 at *
          generalize w5.heap.size = bA at *
          replace hC := hC.ext hx7
          replace hR := hR.ext hx7
          replace hRw := hRw.ext hx7
          replace hE := hE.trans hx7
          clear c0 c1 hx5 hx6 hx7 hoA hx
          have c0 := hC.c0
          have c1 := hC.c1
          have q0 := hR.c0
          go_wp2_with fail
          refine (append_any host hho _ (N + 1) c rs _ m cc L V6 (h1.ext hE) hRw (fun _ => HSS.out) (by omega) (TB.ext HT.out hE)).mono ?_
          rintro e w7 ⟨aB, nB, cB, rfl, hoB, hnB, hx5⟩
          rw [HAB.out.1, HAB.out.2.2]
          rw [HAB.out.2.1] at hoB
          go_upto_region 18 with fail
          have hx6 : Ext w7 (w7.alloc (.cells #[.int .i64 host, .slice aB nB cB] 24)) := (Ext.refl _).alloc _
          have hPB := ChB.new w7 host aB nB cB
          have hwB := (hoB.ext hx6).rws (by omega)
          have hx7 := hx5.trans hx6
          generalize w7.alloc (.cells #[.int .i64 host, .slice aB nB cB] 24) = V8 at *
          generalize w7.heap.size = bB at *
          replace hPA := hPA.ext hx7
          replace hwA := hwA.ext hx7
          replace hE := hE.trans hx7
          have hlA : nA = (N + 1) + 1 := by have := hwA.hlen; rw [List.length_append, HL.out] at this; simpa using this.symm
          have hlB : nB = (N + 1) + 1 := by have := hwB.hlen; rw [List.length_append, HL.out] at this; simpa using this.symm
          subst hlA hlB
          clear c0 c1 q0 hx5 hx6 hx7 hoB hC hR hRw
          have c0 := hPA.c0
          have c1 := hPA.c1
          have d0 := hPB.c0
          have d1 := hPB.c1
          go_wp2_with fail
          refine (valid_any host hho _ _ cA _ V8 hwA (fun _ => HSA.out) (TB.ext HT.out hE)).mono ?_
          rintro e w9 ⟨rfl, hx⟩
          rw [HVA.out]
          replace hPA := hPA.ext hx
          replace hPB := hPB.ext hx
          replace hwB := hwB.ext hx
          replace hE := hE.trans hx
          clear c0 c1 d0 d1 hx
          have c0 := hPA.c0
          have c1 := hPA.c1
          have d0 := hPB.c0
          have d1 := hPB.c1
          go_wp2_with fail
          refine (valid_any host hho _ _ cB _ w9 hwB (fun _ => HSB.out) (TB.ext HT.out hE)).mono ?_
          rintro e w10 ⟨rfl, hx⟩
          rw [HVB.out]
          replace hPA := hPA.ext hx
          replace hPB := hPB.ext hx
          replace hE := hE.trans hx
          clear c0 c1 d0 d1 hx
          have c0 := hPA.c0
          have c1 := hPA.c1
          have d0 := hPB.c0
          have d1 := hPB.c1
          go_wp2_with fail
          go_ret
          exact ⟨rfl, hE⟩
end Go.Proofs.YtfohekfhcolnfaaDoor
