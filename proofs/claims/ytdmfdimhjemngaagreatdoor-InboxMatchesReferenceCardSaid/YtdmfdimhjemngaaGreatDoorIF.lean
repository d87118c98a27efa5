/-
  Well-formed boxes, by both, walked. Written by wip/gen_if.py.
-/
import Derived.Test.YtdmfdimhjemngaaGreatDoorID
import Derived.Test.YtdmfdimhjemngaaGreatDoorIE
namespace Go.Proofs.YtdmfdimhjemngaaGreatDoor
open Go.RowKit Go.Sort Go.Shelf
set_option linter.unusedSimpArgs false
set_option linter.unusedVariables false
set_option maxRecDepth 100000

def preX (b : Bx) : Bool := inC b.host 1 64 && (inC b.round 1 200 && (inC b.sent 0 3000000000000000 && (inC b.wait 0 1000000000 && askB b.asked)))
def stepG (b : Bx) (i : Nat) : Prop := wfR (nthR b.got i) = true ∧ ownB b (nthR b.got i) = true ∧ (0 < i → (nthR b.got (i - 1)).a < (nthR b.got i).a)
theorem frm_pre {b : Bx} (h : preX b = true) : frmX b = true ↔ ∀ i, i < b.got.length → stepG b i := by
  have ha : askB b.asked = true := by
    unfold preX at h
    simp only [Bool.and_eq_true] at h
    exact h.2.2.2.2
  have e : frmX b = gfrom b 0 b.got := by
    unfold preX at h
    unfold frmX
    simp only [Bool.and_eq_true] at h
    rw [h.1, h.2.1, h.2.2.1, h.2.2.2.1, h.2.2.2.2]
    rfl
  rw [e, gfrom_iff]
  constructor
  · intro g i hi
    obtain ⟨h1, h2, _, h4⟩ := g i hi
    exact ⟨h1, h2, h4⟩
  · intro g i hi
    obtain ⟨h1, h2, h4⟩ := g i hi
    refine ⟨h1, h2, fun hz => ?_, h4⟩
    subst hz
    exact (ascI_gt (l := b.asked) (last := 0) ha _ (own_asked h2)).1
theorem frm_nopre {b : Bx} (h : preX b = false) : frmX b = false := by
  rw [Bool.eq_false_iff] at h ⊢
  intro e
  apply h
  have := frmX_iff.1 e
  unfold preX
  rw [inC_iff.2 this.host, inC_iff.2 this.round, inC_iff.2 this.sent, inC_iff.2 this.wait, this.asked]
  rfl
theorem frm_no {b : Bx} (h : preX b = true) {k : Nat} (hk : k < b.got.length) (hn : ¬ stepG b k) : frmX b = false := by
  rw [Bool.eq_false_iff]
  exact fun e => hn ((frm_pre h).1 e k hk)

/-- PutReply, of a reply that came from anywhere. -/
theorem iput_any (x : Rp) (hx : x.Ok) (w : World) : Calls Tryz.prog 41 #[.agg #[.int .i64 x.a, .int .i64 x.h, .int .i64 x.r, .int .u64 x.n, .int .i64 x.lo, .int .i64 x.hi, .int .i64 x.k, .int .i64 x.t, .int .i64 x.c, .int .i64 x.s]] w fun e w' => ∃ a m c, e = .returned (.tuple #[.slice a m c, .int .i64 (okE (wfR x))]) ∧ Sl .u8 w' a m c (if wfR x = true then ppX x else []) ∧ Ext w w' := by
  refine (putReply_any x.a x.h x.r x.n x.lo x.hi x.k x.t x.c x.s hx.W w).mono ?_
  rintro e w' ⟨a, m, c, zs, r, rfl, h1, h2, h3, h4⟩
  rw [wfR_rep] at h3 h4
  subst h3
  subst h4
  exact ⟨a, m, c, rfl, h1, h2⟩

set_option maxHeartbeats 8000000 in
theorem iformed_any (b : Bx) (sa : Option Addr) (sn sc : Nat) (ga : Option Addr) (gn gc : Nat) (w : World) (hb : BxF w b sa sn sc ga gn gc) (ht : TB w) :
    Calls Tryz.prog 30 #[.agg #[.int .i64 b.host, .int .i64 b.round, .int .u64 b.head, .int .i64 b.sent, .int .i64 b.wait, .slice sa sn sc, .slice ga gn gc]] w fun e w' => e = .returned (.bool (frmX b)) ∧ Ext w w' := by
  have HT := Lib.hid ht
  have HO := Lib.hid hb.ok
  have hro := hb.rw
  have bd := hro.bd
  have HL := Lib.hid hro.hlen
  have hP := Bk.new w 29 #[.int .i64 b.host, .int .i64 b.round, .int .u64 b.head, .int .i64 b.sent, .int .i64 b.wait, .slice sa sn sc, .slice ga gn gc]
  have hE : Ext w (w.alloc (.cells #[.int .i64 b.host, .int .i64 b.round, .int .u64 b.head, .int .i64 b.sent, .int .i64 b.wait, .slice sa sn sc, .slice ga gn gc] 29)) := (Ext.refl w).alloc _
  have k1 := ibetween_any b.host 1 64
  have k2 := ibetween_any b.round 1 200
  have k3 := ibetween_any b.sent 0 3000000000000000
  have k4 := ibetween_any b.wait 0 1000000000
  clear ht
  go_enter Tryz.func30, Tryz.ntmps30
  go_upto_region 1 with fail
  generalize w.alloc (.cells #[.int .i64 b.host, .int .i64 b.round, .int .u64 b.head, .int .i64 b.sent, .int .i64 b.wait, .slice sa sn sc, .slice ga gn gc] 29) = V at *
  generalize w.heap.size = pb at hP ⊢
  have p0 := hP.c 0 _ rfl
  have p1 := hP.c 1 _ rfl
  have p2 := hP.c 2 _ rfl
  have p3 := hP.c 3 _ rfl
  have p4 := hP.c 4 _ rfl
  have p5 := hP.c 5 _ rfl
  have p6 := hP.c 6 _ rfl
  rcases c1 : inC b.host 1 64 with _ | _
  · rw [c1] at k1
    have HN : Hid (preX b = false) := Lib.hid (by unfold preX; rw [c1]; rfl)
    clear c1
    go_wp2_with (go_at_call 21; (first | (with_reducible refine (k1 _).mono ?_) | (with_reducible refine (k2 _).mono ?_) | (with_reducible refine (k3 _).mono ?_) | (with_reducible refine (k4 _).mono ?_)); rintro e w' ⟨rfl, rfl⟩)
    go_ret
    exact ⟨ret_bool (frm_nopre HN.out).symm, hE⟩
  rw [c1] at k1
  have C1 := Lib.hid c1
  clear c1
  rcases c2 : inC b.round 1 200 with _ | _
  · rw [c2] at k2
    have HN : Hid (preX b = false) := Lib.hid (by unfold preX; rw [C1.out, c2]; rfl)
    clear c2
    go_wp2_with (go_at_call 21; (first | (with_reducible refine (k1 _).mono ?_) | (with_reducible refine (k2 _).mono ?_) | (with_reducible refine (k3 _).mono ?_) | (with_reducible refine (k4 _).mono ?_)); rintro e w' ⟨rfl, rfl⟩)
    go_ret
    exact ⟨ret_bool (frm_nopre HN.out).symm, hE⟩
  rw [c2] at k2
  have C2 := Lib.hid c2
  clear c2
  rcases c3 : inC b.sent 0 3000000000000000 with _ | _
  · rw [c3] at k3
    have HN : Hid (preX b = false) := Lib.hid (by unfold preX; rw [C1.out, C2.out, c3]; rfl)
    clear c3
    go_wp2_with (go_at_call 21; (first | (with_reducible refine (k1 _).mono ?_) | (with_reducible refine (k2 _).mono ?_) | (with_reducible refine (k3 _).mono ?_) | (with_reducible refine (k4 _).mono ?_)); rintro e w' ⟨rfl, rfl⟩)
    go_ret
    exact ⟨ret_bool (frm_nopre HN.out).symm, hE⟩
  rw [c3] at k3
  have C3 := Lib.hid c3
  clear c3
  rcases c4 : inC b.wait 0 1000000000 with _ | _
  · rw [c4] at k4
    have HN : Hid (preX b = false) := Lib.hid (by unfold preX; rw [C1.out, C2.out, C3.out, c4]; rfl)
    clear c4
    go_wp2_with (go_at_call 21; (first | (with_reducible refine (k1 _).mono ?_) | (with_reducible refine (k2 _).mono ?_) | (with_reducible refine (k3 _).mono ?_) | (with_reducible refine (k4 _).mono ?_)); rintro e w' ⟨rfl, rfl⟩)
    go_ret
    exact ⟨ret_bool (frm_nopre HN.out).symm, hE⟩
  rw [c4] at k4
  have C4 := Lib.hid c4
  clear c4
  go_wp2_with (go_at_call 21; (first | (with_reducible refine (k1 _).mono ?_) | (with_reducible refine (k2 _).mono ?_) | (with_reducible refine (k3 _).mono ?_) | (with_reducible refine (k4 _).mono ?_)); rintro e w' ⟨rfl, rfl⟩)
  refine (iasked_any sa sn sc b.asked V (hb.sl.ext hE)).mono ?_
  rintro e V2 ⟨rfl, hx⟩
  clear k1 k2 k3 k4 p0 p1 p2 p3 p4 p5 p6
  replace hP := hP.ext hx
  replace hE := hE.trans hx
  have p0 := hP.c 0 _ rfl
  have p1 := hP.c 1 _ rfl
  have p2 := hP.c 2 _ rfl
  have p3 := hP.c 3 _ rfl
  have p4 := hP.c 4 _ rfl
  have p5 := hP.c 5 _ rfl
  have p6 := hP.c 6 _ rfl
  rcases c5 : askB b.asked with _ | _
  · have HN : Hid (preX b = false) := Lib.hid (by unfold preX; rw [C1.out, C2.out, C3.out, C4.out, c5]; rfl)
    clear c5
    go_wp2_with fail
    go_ret
    exact ⟨ret_bool (frm_nopre HN.out).symm, hE⟩
  have HN : Hid (preX b = true) := Lib.hid (by unfold preX; rw [C1.out, C2.out, C3.out, C4.out, c5]; rfl)
  clear c5
  go_wp2_with fail
  clear p0 p1 p2 p3 p4 p5 p6
  go_loopw [38] (fun i wr => ∃ (k : Nat), k ≤ gn ∧ i = .int .i64 (k : Int) ∧ Hid (∀ j, j < k → stepG b j) ∧ Ext V2 wr) (fun i _ => gn - (intOf i).toNat)
  case atStart => exact ⟨0, by omega, rfl, Lib.hid (fun i hi => absurd hi (by omega)), Ext.refl V2⟩
  case round =>
    obtain ⟨k, hk, rfl, HOK, hEr⟩ := hrel
    by_cases hlt : k < gn
    · obtain ⟨x1, o1, rfl, hc1⟩ := hro.at (by omega)
      have hEw := hE.trans hEr
      have hr := rangeAt_ext (hc1 k hlt) hEw
      have hx := hro.wfAt hlt
      rw [sz_rp] at hr
      have hrp : 0 < k → wr.cell? ⟨x1, o1 + (k - 1) * 10, none⟩ = some (.int .i64 (nthR b.got (k - 1)).a) := fun h0 => by
        have := rangeAt_ext (hc1 (k - 1) (by omega)) hEw
        rw [sz_rp] at this
        exact (cells_rp this).1
      have HST : Hid (stepG b k ↔ wfR (nthR b.got k) = true ∧ ownB b (nthR b.got k) = true ∧ (0 < k → (nthR b.got (k - 1)).a < (nthR b.got k).a)) := Lib.hid Iff.rfl
      generalize nthR b.got k = x at *
      generalize (nthR b.got (k - 1)).a = y at *
      have HRP := Lib.hid hrp
      clear hc1 hrp
      obtain ⟨d0, d1, d2, d3, d4, d5, d6, d7, d8, d9⟩ := cells_rp hr
      clear hr
      have hPr := hP.ext hEr
      have HD0 := Lib.hid d0
      go_upto_region 6 with fail
      have hR := Bk.new wr 60 #[.int .i64 x.a, .int .i64 x.h, .int .i64 x.r, .int .u64 x.n, .int .i64 x.lo, .int .i64 x.hi, .int .i64 x.k, .int .i64 x.t, .int .i64 x.c, .int .i64 x.s]
      have hEV : Ext wr (wr.alloc (.cells #[.int .i64 x.a, .int .i64 x.h, .int .i64 x.r, .int .u64 x.n, .int .i64 x.lo, .int .i64 x.hi, .int .i64 x.k, .int .i64 x.t, .int .i64 x.c, .int .i64 x.s] 60)) := (Ext.refl wr).alloc _
      generalize wr.alloc (.cells #[.int .i64 x.a, .int .i64 x.h, .int .i64 x.r, .int .u64 x.n, .int .i64 x.lo, .int .i64 x.hi, .int .i64 x.k, .int .i64 x.t, .int .i64 x.c, .int .i64 x.s] 60) = U at *
      generalize wr.heap.size = rb at hR ⊢
      clear d0 d1 d2 d3 d4 d5 d6 d7 d8 d9
      have r0 := hR.c 0 _ rfl
      have r1 := hR.c 1 _ rfl
      have r2 := hR.c 2 _ rfl
      have r3 := hR.c 3 _ rfl
      have r4 := hR.c 4 _ rfl
      have r5 := hR.c 5 _ rfl
      have r6 := hR.c 6 _ rfl
      have r7 := hR.c 7 _ rfl
      have r8 := hR.c 8 _ rfl
      have r9 := hR.c 9 _ rfl
      have hput := iput_any x hx U
      have hown := fun (W : World) (hW : Ext U W) => iown_any b sa sn sc (some ⟨x1, o1, none⟩) gn gc x hx W (hb.ext ((hEw.trans hEV).trans hW)) (TB.ext HT.out ((hEw.trans hEV).trans hW))
      rcases hw : wfR x with _ | _
      · rw [hw] at hput
        have HW := Lib.hid hw
        have HPU := Lib.hid hput
        clear hw hput hown
        go_wp2_with fail
        refine HPU.out.mono ?_
        rintro e U2 ⟨a', m', c', rfl, -, hx2⟩
        clear r0 r1 r2 r3 r4 r5 r6 r7 r8 r9
        simp only [okE, Bool.false_eq_true, if_false]
        go_upto_region 7 with fail
        have hg := @grow_cell
        refine region_ext (by kernel_rfl) (by kernel_rfl) ?_
        repeat (go_big_quiet_step (fail))
        refine wpQuiet_nil ?_
        intro w' hE'
        go_wp2_with fail
        go_ret
        exact ⟨ret_bool (frm_no HN.out (k := k) (by rw [HL.out]; exact hlt) (fun h => by have := (HST.out.1 h).1; rw [HW.out] at this; cases this)).symm, ((hEw.trans hEV).trans hx2).trans hE'⟩
      rw [hw] at hput
      have HW := Lib.hid hw
      have HPU := Lib.hid hput
      clear hw hput
      go_wp2_with fail
      refine HPU.out.mono ?_
      rintro e U2 ⟨a', m', c', rfl, -, hx2⟩
      clear r0 r1 r2 r3 r4 r5 r6 r7 r8 r9
      simp only [okE, if_true]
      go_upto_region 7 with fail
      have hE2 := (hEw.trans hEV).trans hx2
      have hR2 := hR.ext hx2
      have hP2 := (hPr.ext hEV).ext hx2
      have p0 := hP2.c 0 _ rfl
      have p1 := hP2.c 1 _ rfl
      have p2 := hP2.c 2 _ rfl
      have p3 := hP2.c 3 _ rfl
      have p4 := hP2.c 4 _ rfl
      have p5 := hP2.c 5 _ rfl
      have p6 := hP2.c 6 _ rfl
      have r0 := hR2.c 0 _ rfl
      have r1 := hR2.c 1 _ rfl
      have r2 := hR2.c 2 _ rfl
      have r3 := hR2.c 3 _ rfl
      have r4 := hR2.c 4 _ rfl
      have r5 := hR2.c 5 _ rfl
      have r6 := hR2.c 6 _ rfl
      have r7 := hR2.c 7 _ rfl
      have r8 := hR2.c 8 _ rfl
      have r9 := hR2.c 9 _ rfl
      have hlP := hP2.lt
      have hlR := hR2.lt
      have hg := @grow_cell
      have hx3 : x1 < U2.heap.size := by have := lt_of_cell (hx2.cell (hEV.cell HD0.out)); exact this
      rcases ho : ownB b x with _ | _
      · rw [ho] at hown
        have HOW : Hid (∀ W, Ext U2 W → Calls Tryz.prog 36 #[.agg #[.int .i64 b.host, .int .i64 b.round, .int .u64 b.head, .int .i64 b.sent, .int .i64 b.wait, .slice sa sn sc, .slice (some ⟨x1, o1, none⟩) gn gc], .agg #[.int .i64 x.a, .int .i64 x.h, .int .i64 x.r, .int .u64 x.n, .int .i64 x.lo, .int .i64 x.hi, .int .i64 x.k, .int .i64 x.t, .int .i64 x.c, .int .i64 x.s]] W fun e w' => e = .returned (.bool false) ∧ Ext W w') := Lib.hid (fun W hW => hown W (hx2.trans hW))
        have HOB := Lib.hid ho
        clear ho hown
        refine region_ext (by kernel_rfl) (by kernel_rfl) ?_
        repeat (go_big_quiet_step ((go_at_call 36; exact Calls.regrown_of (HOW.out _ (ext_grow _ _ _)))))
        refine wpQuiet_nil ?_
        intro w' hE'
        go_wp2_with fail
        go_ret
        exact ⟨ret_bool (frm_no HN.out (k := k) (by rw [HL.out]; exact hlt) (fun h => by have := (HST.out.1 h).2.1; rw [HOB.out] at this; cases this)).symm, hE2.trans hE'⟩
      rw [ho] at hown
      have HOW : Hid (∀ W, Ext U2 W → Calls Tryz.prog 36 #[.agg #[.int .i64 b.host, .int .i64 b.round, .int .u64 b.head, .int .i64 b.sent, .int .i64 b.wait, .slice sa sn sc, .slice (some ⟨x1, o1, none⟩) gn gc], .agg #[.int .i64 x.a, .int .i64 x.h, .int .i64 x.r, .int .u64 x.n, .int .i64 x.lo, .int .i64 x.hi, .int .i64 x.k, .int .i64 x.t, .int .i64 x.c, .int .i64 x.s]] W fun e w' => e = .returned (.bool true) ∧ Ext W w') := Lib.hid (fun W hW => hown W (hx2.trans hW))
      have HOB := Lib.hid ho
      clear ho hown
      by_cases hk0 : k = 0
      · have hk1 : decide ((0 : Int) < (k : Int)) = false := by simp; omega
        have hk2 : decide (0 < k) = false := by simp; omega
        have HK0 := Lib.hid hk0
        clear hk0
        refine region_ext (by kernel_rfl) (by kernel_rfl) ?_
        repeat (go_big_quiet_step ((go_at_call 36; exact Calls.regrown_of (HOW.out _ (ext_grow _ _ _)))))
        refine wpQuiet_nil ?_
        intro w' hE'
        go_wp2_with fail
        refine ⟨⟨k + 1, by omega, by go_num, Lib.hid (fun i hi => ?_), ((hEr.trans hEV).trans hx2).trans hE'⟩, by simp [intOf]; omega⟩
        by_cases e : i = k
        · rw [e]; exact HST.out.2 ⟨HW.out, HOB.out, fun h => absurd HK0.out (by omega)⟩
        · exact HOK.out i (by omega)
      · obtain ⟨m, rfl⟩ : ∃ m, k = m + 1 := ⟨k - 1, by omega⟩
        have hy := hx2.cell (hEV.cell (HRP.out (by omega)))
        rw [show m + 1 - 1 = m by omega] at hy
        have hk1 : decide ((0 : Int) < (m : Int) + 1) = true := decide_eq_true (by omega)
        have hk2 : decide (0 < m + 1) = true := by simp
        have hml : (m : Int) < gn := by omega
        have hwr : IntKind.i64.wrap ((m : Int) + 1 - 1) = m := IntWalk.i64_in _ (by omega) |>.trans (by omega)
        have HLT := Lib.hid hlt
        by_cases hlt2 : y < x.a
        · have hle : decide (x.a ≤ y) = false := by simp; omega
          have H2 := Lib.hid hlt2
          clear hlt2
          refine region_ext (by kernel_rfl) (by kernel_rfl) ?_
          repeat (go_big_quiet_step ((go_at_call 36; exact Calls.regrown_of (HOW.out _ (ext_grow _ _ _)))))
          refine wpQuiet_nil ?_
          intro w' hE'
          go_wp2_with fail
          refine ⟨⟨m + 1 + 1, by omega, by go_num, Lib.hid (fun i hi => ?_), ((hEr.trans hEV).trans hx2).trans hE'⟩, by simp [intOf]; omega⟩
          by_cases e : i = m + 1
          · rw [e]; exact HST.out.2 ⟨HW.out, HOB.out, fun _ => H2.out⟩
          · exact HOK.out i (by omega)
        · have hle : decide (x.a ≤ y) = true := by simp; omega
          have H2 := Lib.hid hlt2
          clear hlt2
          refine region_ext (by kernel_rfl) (by kernel_rfl) ?_
          repeat (go_big_quiet_step ((go_at_call 36; exact Calls.regrown_of (HOW.out _ (ext_grow _ _ _)))))
          refine wpQuiet_nil ?_
          intro w' hE'
          go_wp2_with fail
          go_ret
          exact ⟨ret_bool (frm_no HN.out (k := m + 1) (by rw [HL.out]; exact HLT.out) (fun h => by have h3 := (HST.out.1 h).2.2 (by omega); have h4 := H2.out; omega)).symm, hE2.trans hE'⟩
    · obtain rfl : k = gn := by omega
      have HF : Hid (frmX b = true) := Lib.hid ((frm_pre HN.out).2 (fun i hi => HOK.out i (by rw [← HL.out]; exact hi)))
      go_wp2_with fail
      go_ret
      exact ⟨ret_bool HF.out.symm, hE.trans hEr⟩

set_option maxHeartbeats 8000000 in
theorem rForm_any (b : Bx) (sa : Option Addr) (sn sc : Nat) (ga : Option Addr) (gn gc : Nat) (w : World) (hb : BxF w b sa sn sc ga gn gc) :
    Calls Tryz.prog 32 #[.agg #[.int .i64 b.host, .int .i64 b.round, .int .u64 b.head, .int .i64 b.sent, .int .i64 b.wait, .slice sa sn sc, .slice ga gn gc]] w fun e w' => e = .returned (.bool (frmX b)) ∧ Ext w w' := by
  have HO := Lib.hid hb.ok
  have hro := hb.rw
  have bd := hro.bd
  have HL := Lib.hid hro.hlen
  have hP := Bk.new w 29 #[.int .i64 b.host, .int .i64 b.round, .int .u64 b.head, .int .i64 b.sent, .int .i64 b.wait, .slice sa sn sc, .slice ga gn gc]
  have hE : Ext w (w.alloc (.cells #[.int .i64 b.host, .int .i64 b.round, .int .u64 b.head, .int .i64 b.sent, .int .i64 b.wait, .slice sa sn sc, .slice ga gn gc] 29)) := (Ext.refl w).alloc _
  have k3 := rreading_any b.sent
  have k4 := rwait_any b.wait
  go_enter Tryz.func32, Tryz.ntmps32
  go_upto_region 1 with fail
  generalize w.alloc (.cells #[.int .i64 b.host, .int .i64 b.round, .int .u64 b.head, .int .i64 b.sent, .int .i64 b.wait, .slice sa sn sc, .slice ga gn gc] 29) = V at *
  generalize w.heap.size = pb at hP ⊢
  have p0 := hP.c 0 _ rfl
  have p1 := hP.c 1 _ rfl
  have p2 := hP.c 2 _ rfl
  have p3 := hP.c 3 _ rfl
  have p4 := hP.c 4 _ rfl
  have p5 := hP.c 5 _ rfl
  have p6 := hP.c 6 _ rfl
  go_wp2_with fail
  refine (rasked_any sa sn sc b.asked V (hb.sl.ext hE)).mono ?_
  rintro e V2 ⟨rfl, hx⟩
  clear p0 p1 p2 p3 p4 p5 p6
  replace hP := hP.ext hx
  replace hE := hE.trans hx
  have p0 := hP.c 0 _ rfl
  have p1 := hP.c 1 _ rfl
  have p2 := hP.c 2 _ rfl
  have p3 := hP.c 3 _ rfl
  have p4 := hP.c 4 _ rfl
  have p5 := hP.c 5 _ rfl
  have p6 := hP.c 6 _ rfl
  generalize hAA : askB b.asked = AA
  have HAA := Lib.hid hAA
  clear hAA
  by_cases l1 : b.host < 1
  · have q1 : decide (b.host < 1) = true := by simp; omega
    have HN : Hid (preX b = false) := Lib.hid (by unfold preX; rw [show inC b.host 1 64 = false from by unfold inC; simp; omega]; rfl)
    go_wp2_with fail
    go_ret
    exact ⟨ret_bool (frm_nopre HN.out).symm, hE⟩
  by_cases u1 : 64 < b.host
  · have q1 : decide (b.host < 1) = false := by simp; omega
    have q2 : decide (64 < b.host) = true := by simp; omega
    have HN : Hid (preX b = false) := Lib.hid (by unfold preX; rw [show inC b.host 1 64 = false from by unfold inC; simp; omega]; rfl)
    go_wp2_with fail
    go_ret
    exact ⟨ret_bool (frm_nopre HN.out).symm, hE⟩
  have q11 : decide (b.host < 1) = false := by simp; omega
  have q12 : decide (64 < b.host) = false := by simp; omega
  have C1 : Hid (inC b.host 1 64 = true) := Lib.hid (inC_iff.2 ⟨by omega, by omega⟩)
  by_cases l2 : b.round < 1
  · have q1 : decide (b.round < 1) = true := by simp; omega
    have HN : Hid (preX b = false) := Lib.hid (by unfold preX; rw [show inC b.round 1 200 = false from by unfold inC; simp; omega]; simp)
    go_wp2_with fail
    go_ret
    exact ⟨ret_bool (frm_nopre HN.out).symm, hE⟩
  by_cases u2 : 200 < b.round
  · have q1 : decide (b.round < 1) = false := by simp; omega
    have q2 : decide (200 < b.round) = true := by simp; omega
    have HN : Hid (preX b = false) := Lib.hid (by unfold preX; rw [show inC b.round 1 200 = false from by unfold inC; simp; omega]; simp)
    go_wp2_with fail
    go_ret
    exact ⟨ret_bool (frm_nopre HN.out).symm, hE⟩
  have q21 : decide (b.round < 1) = false := by simp; omega
  have q22 : decide (200 < b.round) = false := by simp; omega
  have C2 : Hid (inC b.round 1 200 = true) := Lib.hid (inC_iff.2 ⟨by omega, by omega⟩)
  rcases c3 : inC b.sent 0 3000000000000000 with _ | _
  · rw [c3] at k3
    have HN : Hid (preX b = false) := Lib.hid (by unfold preX; rw [c3]; simp)
    clear c3
    go_wp2_with (first | (go_at_call 27; refine (k3 _).mono ?_; rintro e w' ⟨rfl, rfl⟩) | (go_at_call 28; refine (k4 _).mono ?_; rintro e w' ⟨rfl, rfl⟩))
    go_ret
    exact ⟨ret_bool (frm_nopre HN.out).symm, hE⟩
  rw [c3] at k3
  have C3 := Lib.hid c3
  clear c3
  rcases c4 : inC b.wait 0 1000000000 with _ | _
  · rw [c4] at k4
    have HN : Hid (preX b = false) := Lib.hid (by unfold preX; rw [c4]; simp)
    clear c4
    go_wp2_with (first | (go_at_call 27; refine (k3 _).mono ?_; rintro e w' ⟨rfl, rfl⟩) | (go_at_call 28; refine (k4 _).mono ?_; rintro e w' ⟨rfl, rfl⟩))
    go_ret
    exact ⟨ret_bool (frm_nopre HN.out).symm, hE⟩
  rw [c4] at k4
  have C4 := Lib.hid c4
  clear c4
  rcases AA with _ | _
  · have HN : Hid (preX b = false) := Lib.hid (by unfold preX; rw [HAA.out]; simp)
    go_wp2_with (first | (go_at_call 27; refine (k3 _).mono ?_; rintro e w' ⟨rfl, rfl⟩) | (go_at_call 28; refine (k4 _).mono ?_; rintro e w' ⟨rfl, rfl⟩))
    go_ret
    exact ⟨ret_bool (frm_nopre HN.out).symm, hE⟩
  have HN : Hid (preX b = true) := Lib.hid (by unfold preX; rw [C1.out, C2.out, C3.out, C4.out, HAA.out]; rfl)
  go_wp2_with (first | (go_at_call 27; refine (k3 _).mono ?_; rintro e w' ⟨rfl, rfl⟩) | (go_at_call 28; refine (k4 _).mono ?_; rintro e w' ⟨rfl, rfl⟩))
  clear p0 p1 p2 p3 p4 p5 p6 k3 k4 l1 u1 l2 u2 q11 q12 q21 q22
  go_loopw [4] (fun i wr => ∃ (k : Nat), k ≤ gn ∧ i = .int .i64 (k : Int) ∧ Hid (∀ j, j < k → stepG b j) ∧ Ext V2 wr) (fun i _ => gn - (intOf i).toNat)
  case atStart => exact ⟨0, by omega, rfl, Lib.hid (fun i hi => absurd hi (by omega)), Ext.refl V2⟩
  case round =>
    obtain ⟨k, hk, rfl, HOK, hEr⟩ := hrel
    have hPr := hP.ext hEr
    have p0 := hPr.c 0 _ rfl
    have p1 := hPr.c 1 _ rfl
    have p2 := hPr.c 2 _ rfl
    have p3 := hPr.c 3 _ rfl
    have p4 := hPr.c 4 _ rfl
    have p5 := hPr.c 5 _ rfl
    have p6 := hPr.c 6 _ rfl
    by_cases hlt : k < gn
    · obtain ⟨x1, o1, rfl, hc1⟩ := hro.at (by omega)
      have hEw := hE.trans hEr
      have hr := rangeAt_ext (hc1 k hlt) hEw
      have hx := hro.wfAt hlt
      rw [sz_rp] at hr
      have hrp : 0 < k → wr.cell? ⟨x1, o1 + (k - 1) * 10, none⟩ = some (.int .i64 (nthR b.got (k - 1)).a) := fun h0 => by
        have := rangeAt_ext (hc1 (k - 1) (by omega)) hEw
        rw [sz_rp] at this
        exact (cells_rp this).1
      have HST : Hid (stepG b k ↔ wfR (nthR b.got k) = true ∧ ownB b (nthR b.got k) = true ∧ (0 < k → (nthR b.got (k - 1)).a < (nthR b.got k).a)) := Lib.hid Iff.rfl
      generalize nthR b.got k = x at *
      generalize (nthR b.got (k - 1)).a = y at *
      have HRP := Lib.hid hrp
      clear hc1 hrp
      obtain ⟨d0, d1, d2, d3, d4, d5, d6, d7, d8, d9⟩ := cells_rp hr
      have HR := Lib.hid hr
      clear hr
      go_wp2_with fail
      refine (rreply_any x.a x.h x.r x.n x.lo x.hi x.k x.t x.c x.s wr).mono ?_
      rintro e U ⟨rfl, hx1⟩
      rw [wfR_rep]
      clear p0 p1 p2 p3 p4 p5 p6 d0 d1 d2 d3 d4 d5 d6 d7 d8 d9
      generalize hWF : wfR x = WF at *
      have HWF := Lib.hid hWF
      clear hWF
      go_upto_region 8 with fail
      have hPu := hPr.ext hx1
      have p0 := hPu.c 0 _ rfl
      have p1 := hPu.c 1 _ rfl
      have p2 := hPu.c 2 _ rfl
      have p3 := hPu.c 3 _ rfl
      have p4 := hPu.c 4 _ rfl
      have p5 := hPu.c 5 _ rfl
      have p6 := hPu.c 6 _ rfl
      obtain ⟨d0, d1, d2, d3, d4, d5, d6, d7, d8, d9⟩ := cells_rp (rangeAt_ext HR.out hx1)
      have hlP := hPu.lt
      have hx3 := lt_of_cell d0
      simp only at hx3
      have hg := @grow_cell
      have hfit := fun (W : World) (hW : Ext U W) => rfits_any b sa sn sc (some ⟨x1, o1, none⟩) gn gc x hx W (hb.ext ((hEw.trans hx1).trans hW))
      generalize hOW : ownB b x = OW at *
      have HOW := Lib.hid hOW
      have HFI := Lib.hid hfit
      clear hOW hfit
      refine region_ext (by kernel_rfl) (by kernel_rfl) ?_
      repeat (go_big_quiet_step ((go_at_call 52; exact Calls.regrown_of (HFI.out _ (ext_grow _ _ _)))))
      refine wpQuiet_nil ?_
      intro U2 hx2
      have hE2 := (hEw.trans hx1).trans hx2
      have hEq := (hEr.trans hx1).trans hx2
      clear p0 p1 p2 p3 p4 p5 p6 hlP hg
      have hPq := hPu.ext hx2
      have p0 := hPq.c 0 _ rfl
      have p1 := hPq.c 1 _ rfl
      have p2 := hPq.c 2 _ rfl
      have p3 := hPq.c 3 _ rfl
      have p4 := hPq.c 4 _ rfl
      have p5 := hPq.c 5 _ rfl
      have p6 := hPq.c 6 _ rfl
      have d0' := hx2.cell d0
      clear d0 d1 d2 d3 d4 d5 d6 d7 d8 d9 hx3
      have hlP := hPq.lt
      have hx3 := lt_of_cell d0'
      simp only at hx3
      have hg := @grow_cell
      go_upto_region 9 with fail
      rcases WF with _ | _
      · refine region_ext (by kernel_rfl) (by kernel_rfl) ?_
        repeat (go_big_quiet_step (fail))
        refine wpQuiet_nil ?_
        intro w' hE'
        go_wp2_with fail
        go_ret
        exact ⟨ret_bool (frm_no HN.out (k := k) (by rw [HL.out]; exact hlt) (fun h => by have := (HST.out.1 h).1; cases this)).symm, hE2.trans hE'⟩
      rcases OW with _ | _
      · refine region_ext (by kernel_rfl) (by kernel_rfl) ?_
        repeat (go_big_quiet_step (fail))
        refine wpQuiet_nil ?_
        intro w' hE'
        go_wp2_with fail
        go_ret
        exact ⟨ret_bool (frm_no HN.out (k := k) (by rw [HL.out]; exact hlt) (fun h => by have := (HST.out.1 h).2.1; cases this)).symm, hE2.trans hE'⟩
      by_cases hk0 : k = 0
      · have hk1 : decide ((0 : Int) < (k : Int)) = false := by simp; omega
        have hk2 : decide (0 < k) = false := by simp; omega
        have HK0 := Lib.hid hk0
        clear hk0
        refine region_ext (by kernel_rfl) (by kernel_rfl) ?_
        repeat (go_big_quiet_step (fail))
        refine wpQuiet_nil ?_
        intro w' hE'
        go_wp2_with fail
        refine ⟨⟨k + 1, by omega, by go_num, Lib.hid (fun i hi => ?_), hEq.trans hE'⟩, by simp [intOf]; omega⟩
        by_cases e : i = k
        · rw [e]; exact HST.out.2 ⟨rfl, rfl, fun h => absurd HK0.out (by omega)⟩
        · exact HOK.out i (by omega)
      · obtain ⟨m, rfl⟩ : ∃ m, k = m + 1 := ⟨k - 1, by omega⟩
        have hy := hx2.cell (hx1.cell (HRP.out (by omega)))
        rw [show m + 1 - 1 = m by omega] at hy
        have hk1 : decide ((0 : Int) < (m : Int) + 1) = true := decide_eq_true (by omega)
        have hk2 : decide (0 < m + 1) = true := by simp
        have hml : (m : Int) < gn := by omega
        have hwr : IntKind.i64.wrap ((m : Int) + 1 - 1) = m := IntWalk.i64_in _ (by omega) |>.trans (by omega)
        have HLT := Lib.hid hlt
        by_cases hlt2 : y < x.a
        · have hle : decide (x.a ≤ y) = false := by simp; omega
          have H2 := Lib.hid hlt2
          clear hlt2
          refine region_ext (by kernel_rfl) (by kernel_rfl) ?_
          repeat (go_big_quiet_step (fail))
          refine wpQuiet_nil ?_
          intro w' hE'
          go_wp2_with fail
          refine ⟨⟨m + 1 + 1, by omega, by go_num, Lib.hid (fun i hi => ?_), hEq.trans hE'⟩, by simp [intOf]; omega⟩
          by_cases e : i = m + 1
          · rw [e]; exact HST.out.2 ⟨rfl, rfl, fun _ => H2.out⟩
          · exact HOK.out i (by omega)
        · have hle : decide (x.a ≤ y) = true := by simp; omega
          have H2 := Lib.hid hlt2
          clear hlt2
          refine region_ext (by kernel_rfl) (by kernel_rfl) ?_
          repeat (go_big_quiet_step (fail))
          refine wpQuiet_nil ?_
          intro w' hE'
          go_wp2_with fail
          go_ret
          exact ⟨ret_bool (frm_no HN.out (k := m + 1) (by rw [HL.out]; exact HLT.out) (fun h => by have h3 := (HST.out.1 h).2.2 (by omega); have h4 := H2.out; omega)).symm, hE2.trans hE'⟩
    · obtain rfl : k = gn := by omega
      have HF : Hid (frmX b = true) := Lib.hid ((frm_pre HN.out).2 (fun i hi => HOK.out i (by rw [← HL.out]; exact hi)))
      go_wp2_with fail
      go_ret
      exact ⟨ret_bool HF.out.symm, hE.trans hEr⟩
end Go.Proofs.YtdmfdimhjemngaaGreatDoor
