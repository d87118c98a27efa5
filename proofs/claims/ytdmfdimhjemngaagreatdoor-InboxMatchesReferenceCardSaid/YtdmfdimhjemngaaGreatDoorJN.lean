/-
  The reference's Requests, SameRequests, walked. Written by wip/gen_jn.py.
-/
import Derived.Test.YtdmfdimhjemngaaGreatDoorJM
namespace Go.Proofs.YtdmfdimhjemngaaGreatDoor
open Go.RowKit Go.Sort Go.Shelf
set_option linter.unusedSimpArgs false
set_option linter.unusedVariables false
set_option maxRecDepth 100000

theorem lenlit18 {vs : List Value} (h : vs.length = 18) : ∃ x0 x1 x2 x3 x4 x5 x6 x7 x8 x9 x10 x11 x12 x13 x14 x15 x16 x17 : Value, vs = [x0, x1, x2, x3, x4, x5, x6, x7, x8, x9, x10, x11, x12, x13, x14, x15, x16, x17] := by
  obtain ⟨x0, v0, rfl, h0⟩ := len_cons h
  obtain ⟨x1, v1, rfl, h1⟩ := len_cons h0
  obtain ⟨x2, v2, rfl, h2⟩ := len_cons h1
  obtain ⟨x3, v3, rfl, h3⟩ := len_cons h2
  obtain ⟨x4, v4, rfl, h4⟩ := len_cons h3
  obtain ⟨x5, v5, rfl, h5⟩ := len_cons h4
  obtain ⟨x6, v6, rfl, h6⟩ := len_cons h5
  obtain ⟨x7, v7, rfl, h7⟩ := len_cons h6
  obtain ⟨x8, v8, rfl, h8⟩ := len_cons h7
  obtain ⟨x9, v9, rfl, h9⟩ := len_cons h8
  obtain ⟨x10, v10, rfl, h10⟩ := len_cons h9
  obtain ⟨x11, v11, rfl, h11⟩ := len_cons h10
  obtain ⟨x12, v12, rfl, h12⟩ := len_cons h11
  obtain ⟨x13, v13, rfl, h13⟩ := len_cons h12
  obtain ⟨x14, v14, rfl, h14⟩ := len_cons h13
  obtain ⟨x15, v15, rfl, h15⟩ := len_cons h14
  obtain ⟨x16, v16, rfl, h16⟩ := len_cons h15
  obtain ⟨x17, v17, rfl, h17⟩ := len_cons h16
  obtain rfl := len_nil h17
  exact ⟨x0, x1, x2, x3, x4, x5, x6, x7, x8, x9, x10, x11, x12, x13, x14, x15, x16, x17, rfl⟩


set_option maxHeartbeats 4000000 in
theorem rrqs_any (b : Bx) (sa : Option Addr) (sn sc : Nat) (ga : Option Addr) (gn gc : Nat) (w : World) (hb : BxF w b sa sn sc ga gn gc) :
    Calls Tryz.prog 11 #[.agg #[.int .i64 b.host, .int .i64 b.round, .int .u64 b.head, .int .i64 b.sent, .int .i64 b.wait, .slice sa sn sc, .slice ga gn gc]] w fun e w' => ∃ a n c, e = .returned (.tuple #[.slice a n c, .int .i64 (okE (frmX b))]) ∧ Rw w' a n c (rqsX b) ∧ Ext w w' := by
  have HO := Lib.hid hb.ok
  have h1 := hb.sl
  have bd := h1.bd
  have HL := Lib.hid h1.hlen
  have hP := Bk.new w 29 #[.int .i64 b.host, .int .i64 b.round, .int .u64 b.head, .int .i64 b.sent, .int .i64 b.wait, .slice sa sn sc, .slice ga gn gc]
  have hE : Ext w (w.alloc (.cells #[.int .i64 b.host, .int .i64 b.round, .int .u64 b.head, .int .i64 b.sent, .int .i64 b.wait, .slice sa sn sc, .slice ga gn gc] 29)) := (Ext.refl w).alloc _
  go_enter Tryz.func11, Tryz.ntmps11
  go_upto_region 1 with fail
  generalize w.alloc (.cells #[.int .i64 b.host, .int .i64 b.round, .int .u64 b.head, .int .i64 b.sent, .int .i64 b.wait, .slice sa sn sc, .slice ga gn gc] 29) = V at *
  generalize w.heap.size = pb at hP ⊢
  have p0 := hP.c 0 _ rfl
  have p1 := hP.c 1 _ rfl
  have p2 := hP.c 2 _ rfl
  have p3 := hP.c 3 _ rfl
  have p4 := hP.c 4 _ rfl
  have p5 := hP.c 5 _ rfl
  have p6 := hP.c 6 _ rfl
  go_wp2_with fail
  refine (rForm_any b sa sn sc ga gn gc V (hb.ext hE)).mono ?_
  rintro _ W ⟨rfl, hx⟩
  clear p0 p1 p2 p3 p4 p5 p6
  replace hP := hP.ext hx
  replace hE := hE.trans hx
  clear hx
  have p0 := hP.c 0 _ rfl
  have p1 := hP.c 1 _ rfl
  have p2 := hP.c 2 _ rfl
  have p3 := hP.c 3 _ rfl
  have p4 := hP.c 4 _ rfl
  have p5 := hP.c 5 _ rfl
  have p6 := hP.c 6 _ rfl
  rcases hf : frmX b with _ | _
  · have HR : Hid (rqsX b = []) := Lib.hid (by unfold rqsX; rw [hf]; rfl)
    have HZ : Hid (okE (frmX b) = 1) := Lib.hid (by rw [hf]; rfl)
    clear hf
    go_wp2_with fail
    go_ret2
    exact ⟨none, 0, 0, by rw [HZ.out]; rfl, by rw [HR.out]; exact Rw.nil _, hE⟩
  have HR : Hid (rqsX b = b.asked.map (rq1 b)) := Lib.hid (by unfold rqsX; rw [hf]; rfl)
  have HZ : Hid (okE (frmX b) = 0) := Lib.hid (by rw [hf]; rfl)
  have hsn := askB_len (frmX_iff.1 hf).asked
  rw [HL.out] at hsn
  have hEW := hE
  clear hf
  go_wp2_with fail
  clear p0 p1 p2 p3 p4 p5 p6
  go_loopw [5, 6] (fun s i wr => ∃ (k cc : Nat) (aa : Option Addr), k ≤ sn ∧ i = .int .i64 (k : Int) ∧ s = .slice aa k cc ∧ OwR 51 W.heap.size wr aa k cc ((b.asked.take k).map (rq1 b)) ∧ Ext W wr) (fun _ i _ => sn - (intOf i).toNat)
  case atStart => exact ⟨0, 0, none, by omega, rfl, rfl, OwR.nil _ _ _, Ext.refl W⟩
  case round =>
    obtain ⟨m, cc, aa, hk, rfl, rfl, ho, hEr⟩ := hrel
    have hPr := hP.ext hEr
    have p5 := hPr.c 5 _ rfl
    by_cases hlt : m < sn
    · obtain ⟨xb, o1, rfl, hc1⟩ := h1.at (by omega)
      have d0 := (hE.trans hEr).cell (hc1 m hlt)
      have hxw := h1.wfAt hlt
      have HTK : Hid ((b.asked.take (m + 1)).map (rq1 b) = (b.asked.take m).map (rq1 b) ++ [⟨b.host, nth b.asked m, b.round, nonF b.head b.host b.round (nth b.asked m)⟩]) := Lib.hid (rqs_take b (by rw [HL.out]; exact hlt))
      clear hc1
      generalize nth b.asked m = x at *
      obtain ⟨NF, hNF⟩ : ∃ z, nonF b.head b.host b.round x = z := ⟨_, rfl⟩
      rw [hNF] at HTK
      have HNF := Lib.hid hNF
      clear hNF
      generalize (b.asked.take m).map (rq1 b) = L at *
      go_upto_region 9 with fail
      clear p5 d0
      have hP0 := hP
      have e0 := hP0.c 0 _ rfl
      have e1 := hP0.c 1 _ rfl
      have e2 := hP0.c 2 _ rfl
      have e3 := hP0.c 3 _ rfl
      have e4 := hP0.c 4 _ rfl
      have e5 := hP0.c 5 _ rfl
      have e6 := hP0.c 6 _ rfl
      refine region_relyF (fun listed W' => Ext W W' ∧ (listed 16 = false → Ext wr W')) [some 24, some 25, some 26, some 27, some 28, some 29, some 30, some 31, some 32, some 33, some 34, some 35, some 36, some 37, some 38, some 39, some 40, some 5] [[], [], [1], [], [], [4], [], [6], [], [8], [], [10], [], [6, 7, 8, 9, 10, 11, 12], [1, 2, 3, 4, 5, 6, 7, 8, 9, 10, 11, 12, 13], [1, 2, 3, 4, 5, 6, 7, 8, 9, 10, 11, 12, 13, 14], [0, 1, 2, 3, 4, 5, 6, 7, 8, 9, 10, 11, 12, 13, 14, 15], [0, 1, 2, 3, 4, 5, 6, 7, 8, 9, 10, 11, 12, 13, 14, 15, 16]] [[], [], [1], [], [], [4], [], [6], [], [8], [], [10], [], [7, 9, 11, 12], [2, 3, 5, 13], [14], [0, 15], [16]] [none, none, none, none, none, none, none, none, none, none, none, none, none, none, none, none, none, some 16] [false, false, false, false, false, false, false, false, false, false, false, false, false, false, false, false, false, false] [.one (.slice aa m cc), .one (.pointer (some ⟨pb, 0, none⟩)), .one (.int .i64 b.host), .one (.int .i64 x), .one (.pointer (some ⟨pb, 1, none⟩)), .one (.int .i64 b.round), .one (.pointer (some ⟨pb, 2, none⟩)), .one (.int .u64 b.head), .one (.pointer (some ⟨pb, 0, none⟩)), .one (.int .i64 b.host), .one (.pointer (some ⟨pb, 1, none⟩)), .one (.int .i64 b.round), .one (.int .i64 x), .one (.int .u64 NF), .one (.agg #[.int .i64 b.host, .int .i64 x, .int .i64 b.round, .int .u64 NF]), RLr wr.heap.size #[.int .i64 b.host, .int .i64 x, .int .i64 b.round, .int .u64 NF], RNr W.heap.size (m + 1) (L ++ [⟨b.host, x, b.round, NF⟩]), RSmr 16] (by kernel_rfl) (by kernel_rfl) rfl ⟨hEr.drew, fun _ => (Ext.refl wr).drew⟩ ?_ ?_
      · refine stepsF_cons ?_ ?_
        · intro listed vs W' hl hI hd hs hn hu hz ho9
          refine hold ?_
          obtain ⟨x0, x1, x2, x3, x4, x5, x6, x7, x8, x9, x10, x11, x12, x13, x14, x15, x16, x17, rfl⟩ := lenlit18 hl; clear hl
          refine held ?_
          simp only [putAll, Act.put, List.setIfInBounds_toArray, List.set_cons_succ, List.set_cons_zero]
          have h17z : listed 17 = false := by cases h : listed 17 with | false => rfl | true => exact absurd (by decide) (hu 17 h)
          obtain rfl : x17 = .slice aa m cc := ho9 17 (some 5) x17 h17z rfl rfl
          go_wp2_with fail
          exact relyE_done _ rfl rfl (Ext.refl _) ⟨hI.1, fun h => hI.2 (updE_falseR h)⟩
        refine stepsF_cons ?_ ?_
        · intro listed vs W' hl hI hd hs hn hu hz ho9
          refine hold ?_
          obtain ⟨x0, x1, x2, x3, x4, x5, x6, x7, x8, x9, x10, x11, x12, x13, x14, x15, x16, x17, rfl⟩ := lenlit18 hl; clear hl
          refine held ?_
          simp only [putAll, Act.put, List.setIfInBounds_toArray, List.set_cons_succ, List.set_cons_zero]
          go_wp2_with fail
          exact relyE_done _ rfl rfl (Ext.refl _) ⟨hI.1, fun h => hI.2 (updE_falseR h)⟩
        refine stepsF_cons ?_ ?_
        · intro listed vs W' hl hI hd hs hn hu hz ho9
          refine hold ?_
          obtain ⟨x0, x1, x2, x3, x4, x5, x6, x7, x8, x9, x10, x11, x12, x13, x14, x15, x16, x17, rfl⟩ := lenlit18 hl; clear hl
          simp only [factsL, atL, refV, List.getElem?_cons_succ, List.getElem?_cons_zero, List.getD_cons_succ, List.getD_cons_zero, RelL.one, RelL.any, RelL.blk, RelL.law, RNr, RLr, RSmr] at hd
          obtain ⟨rfl, -⟩ := hd
          refine held ?_
          simp only [putAll, Act.put, List.setIfInBounds_toArray, List.set_cons_succ, List.set_cons_zero]
          have q := hI.1.cell e0
          go_wp2_with fail
          exact relyE_done _ rfl rfl (Ext.refl _) ⟨hI.1, fun h => hI.2 (updE_falseR h)⟩
        refine stepsF_cons ?_ ?_
        · intro listed vs W' hl hI hd hs hn hu hz ho9
          refine hold ?_
          obtain ⟨x0, x1, x2, x3, x4, x5, x6, x7, x8, x9, x10, x11, x12, x13, x14, x15, x16, x17, rfl⟩ := lenlit18 hl; clear hl
          refine held ?_
          simp only [putAll, Act.put, List.setIfInBounds_toArray, List.set_cons_succ, List.set_cons_zero]
          go_wp2_with fail
          exact relyE_done _ rfl rfl (Ext.refl _) ⟨hI.1, fun h => hI.2 (updE_falseR h)⟩
        refine stepsF_cons ?_ ?_
        · intro listed vs W' hl hI hd hs hn hu hz ho9
          refine hold ?_
          obtain ⟨x0, x1, x2, x3, x4, x5, x6, x7, x8, x9, x10, x11, x12, x13, x14, x15, x16, x17, rfl⟩ := lenlit18 hl; clear hl
          refine held ?_
          simp only [putAll, Act.put, List.setIfInBounds_toArray, List.set_cons_succ, List.set_cons_zero]
          go_wp2_with fail
          exact relyE_done _ rfl rfl (Ext.refl _) ⟨hI.1, fun h => hI.2 (updE_falseR h)⟩
        refine stepsF_cons ?_ ?_
        · intro listed vs W' hl hI hd hs hn hu hz ho9
          refine hold ?_
          obtain ⟨x0, x1, x2, x3, x4, x5, x6, x7, x8, x9, x10, x11, x12, x13, x14, x15, x16, x17, rfl⟩ := lenlit18 hl; clear hl
          simp only [factsL, atL, refV, List.getElem?_cons_succ, List.getElem?_cons_zero, List.getD_cons_succ, List.getD_cons_zero, RelL.one, RelL.any, RelL.blk, RelL.law, RNr, RLr, RSmr] at hd
          obtain ⟨rfl, -⟩ := hd
          refine held ?_
          simp only [putAll, Act.put, List.setIfInBounds_toArray, List.set_cons_succ, List.set_cons_zero]
          have q := hI.1.cell e1
          go_wp2_with fail
          exact relyE_done _ rfl rfl (Ext.refl _) ⟨hI.1, fun h => hI.2 (updE_falseR h)⟩
        refine stepsF_cons ?_ ?_
        · intro listed vs W' hl hI hd hs hn hu hz ho9
          refine hold ?_
          obtain ⟨x0, x1, x2, x3, x4, x5, x6, x7, x8, x9, x10, x11, x12, x13, x14, x15, x16, x17, rfl⟩ := lenlit18 hl; clear hl
          refine held ?_
          simp only [putAll, Act.put, List.setIfInBounds_toArray, List.set_cons_succ, List.set_cons_zero]
          go_wp2_with fail
          exact relyE_done _ rfl rfl (Ext.refl _) ⟨hI.1, fun h => hI.2 (updE_falseR h)⟩
        refine stepsF_cons ?_ ?_
        · intro listed vs W' hl hI hd hs hn hu hz ho9
          refine hold ?_
          obtain ⟨x0, x1, x2, x3, x4, x5, x6, x7, x8, x9, x10, x11, x12, x13, x14, x15, x16, x17, rfl⟩ := lenlit18 hl; clear hl
          simp only [factsL, atL, refV, List.getElem?_cons_succ, List.getElem?_cons_zero, List.getD_cons_succ, List.getD_cons_zero, RelL.one, RelL.any, RelL.blk, RelL.law, RNr, RLr, RSmr] at hd
          obtain ⟨rfl, -⟩ := hd
          refine held ?_
          simp only [putAll, Act.put, List.setIfInBounds_toArray, List.set_cons_succ, List.set_cons_zero]
          have q := hI.1.cell e2
          go_wp2_with fail
          exact relyE_done _ rfl rfl (Ext.refl _) ⟨hI.1, fun h => hI.2 (updE_falseR h)⟩
        refine stepsF_cons ?_ ?_
        · intro listed vs W' hl hI hd hs hn hu hz ho9
          refine hold ?_
          obtain ⟨x0, x1, x2, x3, x4, x5, x6, x7, x8, x9, x10, x11, x12, x13, x14, x15, x16, x17, rfl⟩ := lenlit18 hl; clear hl
          refine held ?_
          simp only [putAll, Act.put, List.setIfInBounds_toArray, List.set_cons_succ, List.set_cons_zero]
          go_wp2_with fail
          exact relyE_done _ rfl rfl (Ext.refl _) ⟨hI.1, fun h => hI.2 (updE_falseR h)⟩
        refine stepsF_cons ?_ ?_
        · intro listed vs W' hl hI hd hs hn hu hz ho9
          refine hold ?_
          obtain ⟨x0, x1, x2, x3, x4, x5, x6, x7, x8, x9, x10, x11, x12, x13, x14, x15, x16, x17, rfl⟩ := lenlit18 hl; clear hl
          simp only [factsL, atL, refV, List.getElem?_cons_succ, List.getElem?_cons_zero, List.getD_cons_succ, List.getD_cons_zero, RelL.one, RelL.any, RelL.blk, RelL.law, RNr, RLr, RSmr] at hd
          obtain ⟨rfl, -⟩ := hd
          refine held ?_
          simp only [putAll, Act.put, List.setIfInBounds_toArray, List.set_cons_succ, List.set_cons_zero]
          have q := hI.1.cell e0
          go_wp2_with fail
          exact relyE_done _ rfl rfl (Ext.refl _) ⟨hI.1, fun h => hI.2 (updE_falseR h)⟩
        refine stepsF_cons ?_ ?_
        · intro listed vs W' hl hI hd hs hn hu hz ho9
          refine hold ?_
          obtain ⟨x0, x1, x2, x3, x4, x5, x6, x7, x8, x9, x10, x11, x12, x13, x14, x15, x16, x17, rfl⟩ := lenlit18 hl; clear hl
          refine held ?_
          simp only [putAll, Act.put, List.setIfInBounds_toArray, List.set_cons_succ, List.set_cons_zero]
          go_wp2_with fail
          exact relyE_done _ rfl rfl (Ext.refl _) ⟨hI.1, fun h => hI.2 (updE_falseR h)⟩
        refine stepsF_cons ?_ ?_
        · intro listed vs W' hl hI hd hs hn hu hz ho9
          refine hold ?_
          obtain ⟨x0, x1, x2, x3, x4, x5, x6, x7, x8, x9, x10, x11, x12, x13, x14, x15, x16, x17, rfl⟩ := lenlit18 hl; clear hl
          simp only [factsL, atL, refV, List.getElem?_cons_succ, List.getElem?_cons_zero, List.getD_cons_succ, List.getD_cons_zero, RelL.one, RelL.any, RelL.blk, RelL.law, RNr, RLr, RSmr] at hd
          obtain ⟨rfl, -⟩ := hd
          refine held ?_
          simp only [putAll, Act.put, List.setIfInBounds_toArray, List.set_cons_succ, List.set_cons_zero]
          have q := hI.1.cell e1
          go_wp2_with fail
          exact relyE_done _ rfl rfl (Ext.refl _) ⟨hI.1, fun h => hI.2 (updE_falseR h)⟩
        refine stepsF_cons ?_ ?_
        · intro listed vs W' hl hI hd hs hn hu hz ho9
          refine hold ?_
          obtain ⟨x0, x1, x2, x3, x4, x5, x6, x7, x8, x9, x10, x11, x12, x13, x14, x15, x16, x17, rfl⟩ := lenlit18 hl; clear hl
          refine held ?_
          simp only [putAll, Act.put, List.setIfInBounds_toArray, List.set_cons_succ, List.set_cons_zero]
          go_wp2_with fail
          exact relyE_done _ rfl rfl (Ext.refl _) ⟨hI.1, fun h => hI.2 (updE_falseR h)⟩
        refine stepsF_cons ?_ ?_
        · intro listed vs W' hl hI hd hs hn hu hz ho9
          refine hold ?_
          obtain ⟨x0, x1, x2, x3, x4, x5, x6, x7, x8, x9, x10, x11, x12, x13, x14, x15, x16, x17, rfl⟩ := lenlit18 hl; clear hl
          simp only [factsL, atL, refV, List.getElem?_cons_succ, List.getElem?_cons_zero, List.getD_cons_succ, List.getD_cons_zero, RelL.one, RelL.any, RelL.blk, RelL.law, RNr, RLr, RSmr] at hd
          obtain ⟨rfl, rfl, rfl, rfl, -⟩ := hd
          refine held ?_
          simp only [putAll, Act.put, List.setIfInBounds_toArray, List.set_cons_succ, List.set_cons_zero]
          go_wp2_with fail
          refine (rnonce_any b.head b.host b.round x HO.out.head HO.out.host HO.out.round hxw W').mono ?_
          rintro e w4 ⟨rfl, hx4⟩
          rw [HNF.out]
          go_wp2_with fail
          exact relyE_done _ rfl rfl hx4 ⟨hI.1.trans hx4, fun h => (hI.2 (updE_falseR h)).trans hx4⟩
        refine stepsF_cons ?_ ?_
        · intro listed vs W' hl hI hd hs hn hu hz ho9
          refine hold ?_
          obtain ⟨x0, x1, x2, x3, x4, x5, x6, x7, x8, x9, x10, x11, x12, x13, x14, x15, x16, x17, rfl⟩ := lenlit18 hl; clear hl
          simp only [factsL, atL, refV, List.getElem?_cons_succ, List.getElem?_cons_zero, List.getD_cons_succ, List.getD_cons_zero, RelL.one, RelL.any, RelL.blk, RelL.law, RNr, RLr, RSmr] at hd
          obtain ⟨rfl, rfl, rfl, rfl, -⟩ := hd
          refine held ?_
          simp only [putAll, Act.put, List.setIfInBounds_toArray, List.set_cons_succ, List.set_cons_zero]
          go_wp2_with fail
          exact relyE_done _ rfl rfl (Ext.refl _) ⟨hI.1, fun h => hI.2 (updE_falseR h)⟩
        refine stepsF_cons ?_ ?_
        · intro listed vs W' hl hI hd hs hn hu hz ho9
          refine hold ?_
          obtain ⟨x0, x1, x2, x3, x4, x5, x6, x7, x8, x9, x10, x11, x12, x13, x14, x15, x16, x17, rfl⟩ := lenlit18 hl; clear hl
          simp only [factsL, atL, refV, List.getElem?_cons_succ, List.getElem?_cons_zero, List.getD_cons_succ, List.getD_cons_zero, RelL.one, RelL.any, RelL.blk, RelL.law, RNr, RLr, RSmr] at hd
          obtain ⟨rfl, -⟩ := hd
          refine held ?_
          simp only [putAll, Act.put, List.setIfInBounds_toArray, List.set_cons_succ, List.set_cons_zero]
          go_wp2_with fail
          have h16z : listed 16 = false := by cases h : listed 16 with | false => rfl | true => exact absurd (by decide) (hu 16 h)
          exact relyE_done _ rfl ⟨_, rfl, (hI.2 h16z).sz, World.alloc_heap_new _ _⟩ ((Ext.refl _).alloc _) ⟨hI.1.alloc _, fun h => (hI.2 (updE_falseR h)).alloc _⟩
        refine stepsF_cons ?_ ?_
        · intro listed vs W' hl hI hd hs hn hu hz ho9
          refine hold ?_
          obtain ⟨x0, x1, x2, x3, x4, x5, x6, x7, x8, x9, x10, x11, x12, x13, x14, x15, x16, x17, rfl⟩ := lenlit18 hl; clear hl
          simp only [factsL, atL, refV, List.getElem?_cons_succ, List.getElem?_cons_zero, List.getD_cons_succ, List.getD_cons_zero, RelL.one, RelL.any, RelL.blk, RelL.law, RNr, RLr, RSmr] at hd
          obtain ⟨rfl, ⟨b2, rfl, hb2, hB2⟩, -⟩ := hd
          refine held ?_
          simp only [putAll, Act.put, List.setIfInBounds_toArray, List.set_cons_succ, List.set_cons_zero]
          have hz2 := hI.2 hz
          have hbz : W.heap.size ≤ W'.heap.size := hI.1.sz
          have ho2 := ho.ext hz2
          go_wp2_with (at_builtin; refine appRg (α := Rq) el_rq rfl _ _ rfl _ W.heap.size _ _ _ _ ⟨b.host, x, b.round, NF⟩ _ rfl rfl ho2 _ _ hB2 rfl hbz (by unfold maxLen; omega) (by omega) ?_; intro g3 c3 w3 hop hB hg; refine hold ?_)
          refine held ?_
          exact wpList_nil (relyE_store _ rfl ⟨_, _, rfl, hop⟩ hB.size ⟨fun _ _ h => h, fun _ _ h => h, fun _ _ h => h, fun _ _ h => h, fun _ _ h => h, fun _ _ h => h, fun _ _ h => h, fun _ _ h => h, fun _ _ h => h, fun _ _ h => h, fun _ _ h => h, fun _ _ h => h, fun _ _ h => h, fun _ _ h => h, fun _ _ h => h, fun _ _ ⟨b, e1, e2, e3⟩ => ⟨b, e1, e2, (hg.block b (Array.getElem?_eq_some_iff.1 e3).1 (fun e => Nat.lt_irrefl _ (Nat.lt_of_lt_of_le (World.ownsRow.lt ho.2 b e.symm).2 e2))).trans e3⟩, fun _ hk _ => absurd rfl hk, fun _ _ h => h, trivial⟩ ⟨Below.trans hI.1 hB, fun h => by simp [updE] at h⟩)
        refine stepsF_cons ?_ ?_
        · intro listed vs W' hl hI hd hs hn hu hz ho9
          refine hold ?_
          obtain ⟨x0, x1, x2, x3, x4, x5, x6, x7, x8, x9, x10, x11, x12, x13, x14, x15, x16, x17, rfl⟩ := lenlit18 hl; clear hl
          simp only [factsL, atL, refV, List.getElem?_cons_succ, List.getElem?_cons_zero, List.getD_cons_succ, List.getD_cons_zero, RelL.one, RelL.any, RelL.blk, RelL.law, RNr, RLr, RSmr] at hd
          obtain ⟨⟨g3, c3', rfl, h3⟩, -⟩ := hd
          refine held ?_
          simp only [putAll, Act.put, List.setIfInBounds_toArray, List.set_cons_succ, List.set_cons_zero]
          go_wp2_with fail
          exact relyE_done _ rfl rfl (Ext.refl _) ⟨hI.1, fun h => hI.2 (updE_falseR h)⟩
        exact trivial
      · intro listed vs W' hl hall hI hd hn
        obtain ⟨x0, x1, x2, x3, x4, x5, x6, x7, x8, x9, x10, x11, x12, x13, x14, x15, x16, x17, rfl⟩ := lenlit18 hl; clear hl
        simp only [List.length_cons, List.length_nil, List.range, List.range.loop, Nat.zero_add, Nat.reduceAdd, factsL, atL, refV, List.getElem?_cons_succ, List.getElem?_cons_zero, List.getD_cons_succ, List.getD_cons_zero, RelL.one, RelL.any, RelL.blk, RelL.law, RNr, RLr, RSmr] at hd
        obtain ⟨rfl, rfl, rfl, rfl, rfl, rfl, rfl, rfl, rfl, rfl, rfl, rfl, rfl, rfl, rfl, -, ⟨g3, c3', rfl, h3⟩, rfl, -⟩ := hd
        simp only [putAll, Act.put, List.setIfInBounds_toArray, List.set_cons_succ, List.set_cons_zero]
        have hE5 := hI.1
        have ho5 := h3
        clear h3
        go_wp2_with fail
        refine ⟨⟨m + 1, _, _, by omega, by go_num, rfl, by rw [HTK.out]; exact ho5, hE5⟩, by simp [intOf]; omega⟩
    · obtain rfl : m = sn := by omega
      have HTK : Hid ((b.asked.take m).map (rq1 b) = rqsX b) := Lib.hid (by rw [HR.out, List.take_of_length_le (by rw [HL.out]; exact Nat.le_refl _)])
      go_wp2_with fail
      go_ret2
      refine ⟨aa, m, cc, by rw [HZ.out]; rfl, ?_, hE.trans hEr⟩
      rw [← HTK.out]
      refine ho.rw (by omega) (fun y hy => ?_)
      obtain ⟨x, hx, rfl⟩ := List.mem_map.1 hy
      exact rq1_ok HO.out (h1.wf x (List.mem_of_mem_take hx))
theorem eqRq (x y : Rq) (w : World) : (Op.equalIn 10000 51 (.agg #[.int .i64 x.h, .int .i64 x.a, .int .i64 x.r, .int .u64 x.n]) (.agg #[.int .i64 y.h, .int .i64 y.a, .int .i64 y.r, .int .u64 y.n])).run Tryz.prog w = .ok (decide (x = y)) w := by
  have u3 := Tryz.underlying3
  have a3 := Tryz.isAgg3
  have z3 := Tryz.sizeOf3
  have u4 := Tryz.underlying26
  have a4 := Tryz.isAgg26
  have z4 := Tryz.sizeOf26
  have hS : Tryz.prog.underlying 51 = some (.struct (Tryz.prog.fieldsOf 51)) := by kernel_rfl
  have hp : Tryz.prog.stoodInHeld 51 = false := by kernel_rfl
  rw [show (10000 : Nat) = 9999 + 1 from rfl, run_equalIn_agg w 9999 51 _ _ hS hp]
  simp only [Program.fieldsOf, Tryz.underlying51]
  go_simp
  obtain ⟨h, a, r, n⟩ := x
  obtain ⟨h', a', r', n'⟩ := y
  by_cases h0 : h = h' <;> by_cases h1 : a = a' <;> by_cases h2 : r = r' <;> by_cases h3 : n = n' <;> simp [h0, h1, h2, h3]
theorem nthR_extq {xs ys : List Rq} (hl : xs.length = ys.length) (h : ∀ i, i < xs.length → nthR xs i = nthR ys i) : xs = ys := by
  refine List.ext_getElem hl fun i h1 h2 => ?_
  have := h i h1
  rwa [nthR_get h1, nthR_get h2] at this

set_option maxHeartbeats 1000000 in
theorem rsrq_any (a1 : Option Addr) (n1 c1 : Nat) (xs : List Rq) (a2 : Option Addr) (n2 c2 : Nat) (ys : List Rq) (w : World) (h1 : Rw w a1 n1 c1 xs) (h2 : Rw w a2 n2 c2 ys) :
    Calls Tryz.prog 12 #[.slice a1 n1 c1, .slice a2 n2 c2] w fun e w' => e = .returned (.bool (decide (xs = ys))) ∧ Ext w w' := by
  have bd1 := h1.bd
  have bd2 := h2.bd
  have HL1 := Lib.hid h1.hlen
  have HL2 := Lib.hid h2.hlen
  by_cases hn : n1 = n2
  · subst hn
    have hq : ((n1 : Int) != (n1 : Int)) = false := by simp
    go_enter Tryz.func12, Tryz.ntmps12
    go_wp2_with fail
    go_loopw [5] (fun i wr => ∃ (k : Nat), k ≤ n1 ∧ i = .int .i64 k ∧ (∀ i, i < k → nthR xs i = nthR ys i) ∧ Ext w wr) (fun i _ => n1 - (intOf i).toNat)
    case atStart => exact ⟨0, by omega, rfl, fun i hi => absurd hi (by omega), Ext.refl w⟩
    case round =>
      obtain ⟨k, hk, rfl, hok, hE⟩ := hrel
      have HOK := Lib.hid hok
      clear hok
      by_cases hlt : k < n1
      · obtain ⟨x1, o1, rfl, hc1⟩ := h1.at (by omega)
        obtain ⟨x2, o2, rfl, hc2⟩ := h2.at (by omega)
        have hr1 := rangeAt_ext (hc1 k hlt) hE
        have hr2 := rangeAt_ext (hc2 k hlt) hE
        rw [sz_rq] at hr1 hr2
        generalize hx : nthR xs k = x at hr1
        generalize hy : nthR ys k = y at hr2
        have HX := Lib.hid hx
        have HY := Lib.hid hy
        clear hc1 hc2 hx hy
        obtain ⟨d0, d1, d2, d3⟩ := cells_rq hr1
        obtain ⟨e0, e1, e2, e3⟩ := cells_rq hr2
        have m1 := lt_of_cell d0
        have m2 := lt_of_cell e0
        simp only at m1 m2
        clear hr1 hr2
        have hg := @grow_cell
        have hqq := eqRq x y
        by_cases hxy : x = y
        · rw [decide_eq_true hxy] at hqq
          have HXY := Lib.hid hxy
          clear hxy
          go_upto_region 6 with fail
          refine region_ext (by kernel_rfl) (by kernel_rfl) ?_
          repeat (go_big_quiet_step (fail))
          refine wpQuiet_nil ?_
          intro w' hE'
          go_wp2_with fail
          refine ⟨⟨k + 1, by omega, by go_num, fun i hi => ?_, hE.trans hE'⟩, by simp [intOf]; omega⟩
          by_cases e : i = k
          · rw [e, HX.out, HY.out]; exact HXY.out
          · exact HOK.out i (by omega)
        · rw [decide_eq_false hxy] at hqq
          have HXY := Lib.hid hxy
          clear hxy
          go_upto_region 6 with fail
          refine region_ext (by kernel_rfl) (by kernel_rfl) ?_
          repeat (go_big_quiet_step (fail))
          refine wpQuiet_nil ?_
          intro w' hE'
          go_wp2_with fail
          go_ret
          refine ⟨ret_bool ?_, hE.trans hE'⟩
          rw [decide_eq_false]
          intro e
          exact HXY.out (by rw [← HX.out, ← HY.out, e])
      · obtain rfl : k = n1 := by omega
        go_wp2_with fail
        go_ret
        refine ⟨ret_bool ?_, hE⟩
        rw [decide_eq_true (nthR_extq (by rw [HL1.out, HL2.out]) (fun i hi => HOK.out i (by rw [← HL1.out]; exact hi)))]
  · have hq : ((n1 : Int) != (n2 : Int)) = true := by simp; omega
    have hv : decide (xs = ys) = false := decide_eq_false (fun e => hn (by rw [← HL1.out, ← HL2.out, e]))
    rw [hv]
    have HN := Lib.hid hn
    clear hv hn
    go_enter Tryz.func12, Tryz.ntmps12
    go_wp2_with fail
    go_ret
    exact ⟨rfl, Ext.refl w⟩
end Go.Proofs.YtdmfdimhjemngaaGreatDoor
