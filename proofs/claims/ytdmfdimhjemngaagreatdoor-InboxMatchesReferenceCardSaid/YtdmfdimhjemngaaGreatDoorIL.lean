/-
  The answer to a request; few; sameness of boxes; Open, Requests, Close of the package: walked. Written by wip/gen_il.py.
-/
import Derived.Test.YtdmfdimhjemngaaGreatDoorIK
namespace Go.Proofs.YtdmfdimhjemngaaGreatDoor
open Go.RowKit Go.Sort Go.Shelf
set_option linter.unusedSimpArgs false
set_option linter.unusedVariables false
set_option maxRecDepth 100000

/-- The reply to a request. -/
def ansR (q : Rq) (lo hi : Int) : Rp := ⟨q.a, q.h, q.r, q.n, lo, hi, 0, 0, 0, 0⟩
theorem ansR_ok {q : Rq} (h : q.Ok) {lo hi : Int} (h1 : (Lit.int .i64 lo).wf = true) (h2 : (Lit.int .i64 hi).wf = true) : (ansR q lo hi).Ok := ⟨h.a, h.h, h.r, h.n, h1, h2, rfl, rfl, rfl, rfl⟩
theorem ians_any (q : Rq) (hq : q.Ok) (lo hi : Int) (h1 : (Lit.int .i64 lo).wf = true) (h2 : (Lit.int .i64 hi).wf = true) (w : World) :
    Calls Tryz.prog 19 #[.agg #[.int .i64 q.h, .int .i64 q.a, .int .i64 q.r, .int .u64 q.n], .agg #[.int .i64 lo, .int .i64 hi]] w fun e w' => ∃ a m c, e = .returned (.tuple #[.slice a m c, .bool (wfR (ansR q lo hi))]) ∧ Sl .u8 w' a m c (if wfR (ansR q lo hi) = true then ppX (ansR q lo hi) else []) ∧ Ext w w' := by
  have hE : Ext w ((w.alloc (.cells #[.int .i64 q.h, .int .i64 q.a, .int .i64 q.r, .int .u64 q.n] 51)).alloc (.cells #[.int .i64 lo, .int .i64 hi] 56)) := ((Ext.refl w).alloc _).alloc _
  have hput := fun W => iput_any (ansR q lo hi) (ansR_ok hq h1 h2) W
  have HP := Lib.hid hput
  clear hput
  generalize hwf : wfR (ansR q lo hi) = WF at *
  have HWF := Lib.hid hwf
  have HQ : Hid (okE WF = if WF = true then 0 else 1) := Lib.hid rfl
  clear hwf
  go_enter Tryz.func19, Tryz.ntmps19
  go_wp2_with fail
  refine (HP.out _).mono ?_
  rintro e w1 ⟨a, m, c, rfl, hs, hx⟩
  rw [HQ.out]
  rcases WF with _ | _
  all_goals
    go_wp2_with fail
    go_ret2
    exact ⟨a, m, c, rfl, hs, hE.trans hx⟩

theorem ifew_any (b : Bx) (sa : Option Addr) (sn sc : Nat) (ga : Option Addr) (gn gc : Nat) (w : World) (hb : BxF w b sa sn sc ga gn gc) :
    Calls Tryz.prog 6 #[.agg #[.int .i64 b.host, .int .i64 b.round, .int .u64 b.head, .int .i64 b.sent, .int .i64 b.wait, .slice sa sn sc, .slice ga gn gc]] w fun e w' => e = .returned (.bool (decide (sn ≤ 20) && decide (gn ≤ 20))) ∧ Ext w w' := by
  have b1 := hb.sl.bd
  have b2 := hb.rw.bd
  have hE : Ext w (w.alloc (.cells #[.int .i64 b.host, .int .i64 b.round, .int .u64 b.head, .int .i64 b.sent, .int .i64 b.wait, .slice sa sn sc, .slice ga gn gc] 29)) := (Ext.refl w).alloc _
  by_cases h1 : sn ≤ 20
  · have q1 : decide ((sn : Int) ≤ 20) = true := by simp; omega
    have H1 := Lib.hid (decide_eq_true h1)
    by_cases h2 : gn ≤ 20
    · have q2 : decide ((gn : Int) ≤ 20) = true := by simp; omega
      have H2 := Lib.hid (decide_eq_true h2)
      clear h1 h2
      go_enter Tryz.func6, Tryz.ntmps6
      go_wp2_with fail
      go_ret
      exact ⟨ret_bool (by rw [H1.out, H2.out]; rfl), hE⟩
    · have q2 : decide ((gn : Int) ≤ 20) = false := by simp; omega
      have H2 := Lib.hid (decide_eq_false h2)
      clear h1 h2
      go_enter Tryz.func6, Tryz.ntmps6
      go_wp2_with fail
      go_ret
      exact ⟨ret_bool (by rw [H1.out, H2.out]; rfl), hE⟩
  · have q1 : decide ((sn : Int) ≤ 20) = false := by simp; omega
    have H1 := Lib.hid (decide_eq_false h1)
    clear h1
    go_enter Tryz.func6, Tryz.ntmps6
    go_wp2_with fail
    go_ret
    exact ⟨ret_bool (by rw [H1.out]; rfl), hE⟩

set_option maxHeartbeats 4000000 in
/-- Whether two boxes are the same. -/
theorem rsame13_any (b : Bx) (sa1 : Option Addr) (sn1 sc1 : Nat) (ga1 : Option Addr) (gn1 gc1 : Nat) (d : Bx) (sa2 : Option Addr) (sn2 sc2 : Nat) (ga2 : Option Addr) (gn2 gc2 : Nat) (w : World) (h1 : BxF w b sa1 sn1 sc1 ga1 gn1 gc1) (h2 : BxF w d sa2 sn2 sc2 ga2 gn2 gc2) :
    Calls Tryz.prog 9 #[.agg #[.int .i64 b.host, .int .i64 b.round, .int .u64 b.head, .int .i64 b.sent, .int .i64 b.wait, .slice sa1 sn1 sc1, .slice ga1 gn1 gc1], .agg #[.int .i64 d.host, .int .i64 d.round, .int .u64 d.head, .int .i64 d.sent, .int .i64 d.wait, .slice sa2 sn2 sc2, .slice ga2 gn2 gc2]] w fun e w' => e = .returned (.bool (decide (b = d))) ∧ Ext w w' := by
  have b1 := h1.sl.bd
  have b2 := h2.sl.bd
  have HL1 := Lib.hid h1.sl.hlen
  have HL2 := Lib.hid h2.sl.hlen
  have hP := (Bk.new w 29 #[.int .i64 b.host, .int .i64 b.round, .int .u64 b.head, .int .i64 b.sent, .int .i64 b.wait, .slice sa1 sn1 sc1, .slice ga1 gn1 gc1]).ext ((Ext.refl _).alloc (.cells #[.int .i64 d.host, .int .i64 d.round, .int .u64 d.head, .int .i64 d.sent, .int .i64 d.wait, .slice sa2 sn2 sc2, .slice ga2 gn2 gc2] 29))
  have hQ := Bk.new (w.alloc (.cells #[.int .i64 b.host, .int .i64 b.round, .int .u64 b.head, .int .i64 b.sent, .int .i64 b.wait, .slice sa1 sn1 sc1, .slice ga1 gn1 gc1] 29)) 29 #[.int .i64 d.host, .int .i64 d.round, .int .u64 d.head, .int .i64 d.sent, .int .i64 d.wait, .slice sa2 sn2 sc2, .slice ga2 gn2 gc2]
  rw [World.size_alloc] at hQ
  have hE : Ext w ((w.alloc (.cells #[.int .i64 b.host, .int .i64 b.round, .int .u64 b.head, .int .i64 b.sent, .int .i64 b.wait, .slice sa1 sn1 sc1, .slice ga1 gn1 gc1] 29)).alloc (.cells #[.int .i64 d.host, .int .i64 d.round, .int .u64 d.head, .int .i64 d.sent, .int .i64 d.wait, .slice sa2 sn2 sc2, .slice ga2 gn2 gc2] 29)) := ((Ext.refl w).alloc _).alloc _
  go_enter Tryz.func9, Tryz.ntmps9
  go_upto_region 1 with fail
  generalize (w.alloc (.cells #[.int .i64 b.host, .int .i64 b.round, .int .u64 b.head, .int .i64 b.sent, .int .i64 b.wait, .slice sa1 sn1 sc1, .slice ga1 gn1 gc1] 29)).alloc (.cells #[.int .i64 d.host, .int .i64 d.round, .int .u64 d.head, .int .i64 d.sent, .int .i64 d.wait, .slice sa2 sn2 sc2, .slice ga2 gn2 gc2] 29) = V at *
  generalize w.heap.size + 1 = qb at hQ ⊢
  generalize w.heap.size = pb at hP ⊢
  have p0 := hP.c 0 _ rfl
  have p1 := hP.c 1 _ rfl
  have p2 := hP.c 2 _ rfl
  have p3 := hP.c 3 _ rfl
  have p4 := hP.c 4 _ rfl
  have p5 := hP.c 5 _ rfl
  have p6 := hP.c 6 _ rfl
  have q0 := hQ.c 0 _ rfl
  have q1 := hQ.c 1 _ rfl
  have q2 := hQ.c 2 _ rfl
  have q3 := hQ.c 3 _ rfl
  have q4 := hQ.c 4 _ rfl
  have q5 := hQ.c 5 _ rfl
  have q6 := hQ.c 6 _ rfl
  rcases c0 : (b.host == d.host) with _ | _
  · have c0' : (b.host != d.host) = true := by rw [bne, c0]; rfl
    have HN : Hid (b ≠ d) := Lib.hid (fun e => by rw [e] at c0; simp at c0)
    go_wp2_with fail
    go_ret
    exact ⟨ret_bool (decide_eq_false HN.out).symm, hE⟩
  have c0' : (b.host != d.host) = false := by rw [bne, c0]; rfl
  have C0 : Hid (b.host = d.host) := Lib.hid (by simpa using c0)
  rcases c1 : (b.round == d.round) with _ | _
  · have c1' : (b.round != d.round) = true := by rw [bne, c1]; rfl
    have HN : Hid (b ≠ d) := Lib.hid (fun e => by rw [e] at c1; simp at c1)
    go_wp2_with fail
    go_ret
    exact ⟨ret_bool (decide_eq_false HN.out).symm, hE⟩
  have c1' : (b.round != d.round) = false := by rw [bne, c1]; rfl
  have C1 : Hid (b.round = d.round) := Lib.hid (by simpa using c1)
  rcases c2 : (b.head == d.head) with _ | _
  · have c2' : (b.head != d.head) = true := by rw [bne, c2]; rfl
    have HN : Hid (b ≠ d) := Lib.hid (fun e => by rw [e] at c2; simp at c2)
    go_wp2_with fail
    go_ret
    exact ⟨ret_bool (decide_eq_false HN.out).symm, hE⟩
  have c2' : (b.head != d.head) = false := by rw [bne, c2]; rfl
  have C2 : Hid (b.head = d.head) := Lib.hid (by simpa using c2)
  rcases c3 : (b.sent == d.sent) with _ | _
  · have c3' : (b.sent != d.sent) = true := by rw [bne, c3]; rfl
    have HN : Hid (b ≠ d) := Lib.hid (fun e => by rw [e] at c3; simp at c3)
    go_wp2_with fail
    go_ret
    exact ⟨ret_bool (decide_eq_false HN.out).symm, hE⟩
  have c3' : (b.sent != d.sent) = false := by rw [bne, c3]; rfl
  have C3 : Hid (b.sent = d.sent) := Lib.hid (by simpa using c3)
  rcases c4 : (b.wait == d.wait) with _ | _
  · have c4' : (b.wait != d.wait) = true := by rw [bne, c4]; rfl
    have HN : Hid (b ≠ d) := Lib.hid (fun e => by rw [e] at c4; simp at c4)
    go_wp2_with fail
    go_ret
    exact ⟨ret_bool (decide_eq_false HN.out).symm, hE⟩
  have c4' : (b.wait != d.wait) = false := by rw [bne, c4]; rfl
  have C4 : Hid (b.wait = d.wait) := Lib.hid (by simpa using c4)
  by_cases hn : sn1 = sn2
  rotate_left
  · have hq : ((sn1 : Int) != (sn2 : Int)) = true := by simp; omega
    have HN : Hid (b ≠ d) := Lib.hid (fun e => hn (by rw [← HL1.out, ← HL2.out, e]))
    clear hn
    go_wp2_with fail
    go_ret
    exact ⟨ret_bool (decide_eq_false HN.out).symm, hE⟩
  subst hn
  have hq : ((sn1 : Int) != (sn1 : Int)) = false := by simp
  go_wp2_with fail
  clear c0 c1 c2 c3 c4 c0' c1' c2' c3' c4' p0 p1 p2 p3 p4 p5 p6 q0 q1 q2 q3 q4 q5 q6
  go_loopw [5] (fun i wr => ∃ (k : Nat), k ≤ sn1 ∧ i = .int .i64 (k : Int) ∧ Hid (∀ j, j < k → nth b.asked j = nth d.asked j) ∧ Ext V wr) (fun i _ => sn1 - (intOf i).toNat)
  case atStart => exact ⟨0, by omega, rfl, Lib.hid (fun i hi => absurd hi (by omega)), Ext.refl V⟩
  case round =>
    obtain ⟨k, hk, rfl, HOK, hEr⟩ := hrel
    have hPr := hP.ext hEr
    have hQr := hQ.ext hEr
    have p0 := hPr.c 0 _ rfl
    have p1 := hPr.c 1 _ rfl
    have p2 := hPr.c 2 _ rfl
    have p3 := hPr.c 3 _ rfl
    have p4 := hPr.c 4 _ rfl
    have p5 := hPr.c 5 _ rfl
    have p6 := hPr.c 6 _ rfl
    have q0 := hQr.c 0 _ rfl
    have q1 := hQr.c 1 _ rfl
    have q2 := hQr.c 2 _ rfl
    have q3 := hQr.c 3 _ rfl
    have q4 := hQr.c 4 _ rfl
    have q5 := hQr.c 5 _ rfl
    have q6 := hQr.c 6 _ rfl
    by_cases hlt : k < sn1
    · obtain ⟨x1, o1, rfl, hc1⟩ := h1.sl.at (by omega)
      obtain ⟨x2, o2, rfl, hc2⟩ := h2.sl.at (by omega)
      have d1 := (hE.trans hEr).cell (hc1 k hlt)
      have d2 := (hE.trans hEr).cell (hc2 k hlt)
      have HST : Hid (nth b.asked k = nth d.asked k ↔ nth b.asked k = nth d.asked k) := Lib.hid Iff.rfl
      have HNE : Hid (nth b.asked k ≠ nth d.asked k → b ≠ d) := Lib.hid (fun h e => h (by rw [e]))
      clear hc1 hc2
      obtain ⟨x, hxe⟩ : ∃ x, nth b.asked k = x := ⟨_, rfl⟩
      obtain ⟨y, hye⟩ : ∃ y, nth d.asked k = y := ⟨_, rfl⟩
      rw [hxe] at d1 HST HNE
      rw [hye] at d2 HST HNE
      have HXE := Lib.hid hxe
      have HYE := Lib.hid hye
      clear hxe hye
      have hlP := hPr.lt
      have hlQ := hQr.lt
      have hl1 := lt_of_cell d1
      have hl2 := lt_of_cell d2
      simp only at hl1 hl2
      have hg := @grow_cell
      go_upto_region 6 with fail
      rcases hv : (x == y) with _ | _
      · have hv' : (x != y) = true := by rw [bne, hv]; rfl
        have HN : Hid (b ≠ d) := Lib.hid (HNE.out (by simpa using hv))
        refine region_ext (by kernel_rfl) (by kernel_rfl) ?_
        repeat (go_big_quiet_step (fail))
        refine wpQuiet_nil ?_
        intro w' hE'
        go_wp2_with fail
        go_ret
        exact ⟨ret_bool (decide_eq_false HN.out).symm, (hE.trans hEr).trans hE'⟩
      · have hv' : (x != y) = false := by rw [bne, hv]; rfl
        have HV : Hid (x = y) := Lib.hid (by simpa using hv)
        refine region_ext (by kernel_rfl) (by kernel_rfl) ?_
        repeat (go_big_quiet_step (fail))
        refine wpQuiet_nil ?_
        intro w' hE'
        go_wp2_with fail
        refine ⟨⟨k + 1, by omega, by go_num, Lib.hid (fun i hi => ?_), hEr.trans hE'⟩, by simp [intOf]; omega⟩
        by_cases e : i = k
        · rw [e, HXE.out, HYE.out]; exact HV.out
        · exact HOK.out i (by omega)
    · obtain rfl : k = sn1 := by omega
      have HA : Hid (b.asked = d.asked) := Lib.hid (List.ext_getElem (by rw [HL1.out, HL2.out]) (fun i hi hj => by
        have := HOK.out i (by rw [← HL1.out]; exact hi)
        simpa [nth, List.getD_eq_getElem?_getD, hi, hj] using this))
      go_wp2_with fail
      refine (sameRd_any ga1 gn1 gc1 b.got ga2 gn2 gc2 d.got wr (h1.rw.ext (hE.trans hEr)) (h2.rw.ext (hE.trans hEr))).mono ?_
      rintro e w2 ⟨rfl, hx⟩
      have HD : Hid (decide (b.got = d.got) = decide (b = d)) := Lib.hid (by
        congr 1
        rw [eq_iff_iff]
        constructor
        · intro h
          obtain ⟨b0, b1, b2, b3, b4, b5, b6⟩ := b
          obtain ⟨d0, d1, d2, d3, d4, d5, d6⟩ := d
          simp only [Bx.mk.injEq]
          exact ⟨C0.out, C1.out, C2.out, C3.out, C4.out, HA.out, h⟩
        · intro h
          rw [h])
      rw [HD.out]
      clear p0 p1 p2 p3 p4 p5 p6 q0 q1 q2 q3 q4 q5 q6
      go_wp2_with fail
      go_ret
      exact ⟨rfl, (hE.trans hEr).trans hx⟩

theorem res_icls (W : World) (b : Nat) (v z : Value) (tmps : Array Value) (hb : tmps[2]?.getD undef = .pointer (some ⟨b, 0, none⟩)) (h3 : tmps[3]?.getD undef = z) (h : Bk W b 45 #[v]) :
    (results Tryz.f15 tmps).run Tryz.prog W = .ok (.tuple #[.agg #[v], z]) W := by
  have c0 := h.c 0 _ rfl
  simp [results, Tryz.results15, go_sem, hb, h3, c0]

set_option maxHeartbeats 4000000 in
theorem icls_any (b : Bx) (sa : Option Addr) (sn sc : Nat) (ga : Option Addr) (gn gc : Nat) (w : World) (hb : BxF w b sa sn sc ga gn gc) (hgn : gn ≤ 1000) (ht : TB w) :
    Calls Tryz.prog 15 #[.agg #[.int .i64 b.host, .int .i64 b.round, .int .u64 b.head, .int .i64 b.sent, .int .i64 b.wait, .slice sa sn sc, .slice ga gn gc]] w fun e w' => ∃ a n c, e = .returned (.tuple #[.agg #[.slice a n c], .int .i64 (okE (frmX b))]) ∧ Rw w' a n c (clsX b) ∧ Ext w w' := by
  have HT := Lib.hid ht
  have hE : Ext w ((w.alloc (.cells #[.int .i64 b.host, .int .i64 b.round, .int .u64 b.head, .int .i64 b.sent, .int .i64 b.wait, .slice sa sn sc, .slice ga gn gc] 29)).alloc (.cells #[.slice none 0 0] 45)) := ((Ext.refl w).alloc _).alloc _
  have hP : Bk ((w.alloc (.cells #[.int .i64 b.host, .int .i64 b.round, .int .u64 b.head, .int .i64 b.sent, .int .i64 b.wait, .slice sa sn sc, .slice ga gn gc] 29)).alloc (.cells #[.slice none 0 0] 45)) w.heap.size 29 #[.int .i64 b.host, .int .i64 b.round, .int .u64 b.head, .int .i64 b.sent, .int .i64 b.wait, .slice sa sn sc, .slice ga gn gc] := (Bk.new w 29 #[.int .i64 b.host, .int .i64 b.round, .int .u64 b.head, .int .i64 b.sent, .int .i64 b.wait, .slice sa sn sc, .slice ga gn gc]).ext ((Ext.refl _).alloc _)
  have hR := Bk.new (w.alloc (.cells #[.int .i64 b.host, .int .i64 b.round, .int .u64 b.head, .int .i64 b.sent, .int .i64 b.wait, .slice sa sn sc, .slice ga gn gc] 29)) 45 #[.slice none 0 0]
  rw [World.size_alloc] at hR
  clear ht
  go_enter Tryz.func15, Tryz.ntmps15
  go_upto_region 1 with fail
  generalize (w.alloc (.cells #[.int .i64 b.host, .int .i64 b.round, .int .u64 b.head, .int .i64 b.sent, .int .i64 b.wait, .slice sa sn sc, .slice ga gn gc] 29)).alloc (.cells #[.slice none 0 0] 45) = V at *
  obtain ⟨rb, hrb⟩ : ∃ rb, w.heap.size + 1 = rb := ⟨_, rfl⟩
  obtain ⟨pb, hpb⟩ : ∃ pb, w.heap.size = pb := ⟨_, rfl⟩
  rw [hrb] at hR ⊢
  have hrw : w.heap.size ≤ rb := by omega
  rw [hpb] at hP ⊢
  clear hrb hpb
  have p0 := hP.c 0 _ rfl
  have p1 := hP.c 1 _ rfl
  have p2 := hP.c 2 _ rfl
  have p3 := hP.c 3 _ rfl
  have p4 := hP.c 4 _ rfl
  have p5 := hP.c 5 _ rfl
  have p6 := hP.c 6 _ rfl
  go_wp2_with fail
  refine (iformed_any b sa sn sc ga gn gc V (hb.ext hE) (TB.ext HT.out hE)).mono ?_
  rintro _ w1 ⟨rfl, hx⟩
  clear p0 p1 p2 p3 p4 p5 p6
  replace hP := hP.ext hx
  replace hR := hR.ext hx
  replace hE := hE.trans hx
  clear hx
  have p0 := hP.c 0 _ rfl
  have p1 := hP.c 1 _ rfl
  have p2 := hP.c 2 _ rfl
  have p3 := hP.c 3 _ rfl
  have p4 := hP.c 4 _ rfl
  have p5 := hP.c 5 _ rfl
  have p6 := hP.c 6 _ rfl
  have z0 := hR.c 0 _ rfl
  have fz := hR.free
  rcases hf : frmX b with _ | _
  · have HC : Hid (clsX b = []) := Lib.hid (by unfold clsX; rw [hf]; rfl)
    have HZ : Hid (okE (frmX b) = 1) := Lib.hid (by rw [hf]; rfl)
    clear hf
    go_wp2_with fail
    exact bodyPost_ret (res_icls _ rb (.slice none 0 0) (.int .i64 1) _ (by rfl) (by rfl) (hR.set 0 _)) rfl ⟨none, 0, 0, by rw [HZ.out], by rw [HC.out]; exact Rw.nil _, hE.setCell (p := ⟨rb, 0, none⟩) hrw _⟩
  have HC : Hid (clsX b = b.got) := Lib.hid (by unfold clsX; rw [hf]; rfl)
  have HZ : Hid (okE (frmX b) = 0) := Lib.hid (by rw [hf]; rfl)
  clear hf
  go_wp2_with fail
  refine (cloneR_any ga gn gc b.got w1 (hb.rw.ext hE) hgn).mono ?_
  rintro _ w2 ⟨a', c', rfl, ho, hx⟩
  have hrl := hR.lt
  have hof := ho.frsh.1
  clear p0 p1 p2 p3 p4 p5 p6 z0 fz
  replace hR := hR.ext hx
  replace hE := hE.trans hx
  have z0 := hR.c 0 _ rfl
  have fz := hR.free
  go_wp2_with fail
  exact bodyPost_ret (res_icls _ rb (.slice a' gn c') (.int .i64 0) _ (by rfl) (by rfl) (hR.set 0 _)) rfl ⟨a', gn, c', by rw [HZ.out], by rw [HC.out]; exact (ho.rw (by omega) hb.rw.wf).below (fun b' off ha hn => heap_setCell_other w2 ⟨rb, 0, none⟩ b' _ (by have := hof b' off ha hn; simp only; omega)), hE.setCell (p := ⟨rb, 0, none⟩) hrw _⟩
end Go.Proofs.YtdmfdimhjemngaaGreatDoor
