
import Derived.Test.YtdmfdimhjemngaaGreatDoorCA
import Derived.Shelf.Abstract
import Derived.Shelf.RegionOpen
/-
  What a round's reply is asked, by both; walked.
-/
namespace Go.Proofs.YtdmfdimhjemngaaGreatDoor
open Go.RowKit Go.Sort Go.Shelf
set_option linter.unusedSimpArgs false
set_option linter.unusedVariables false
set_option maxRecDepth 100000

/-- The pointer to the reply before, and that one's authority. -/
def Bef (w : World) (p : Option Addr) (v : Option Int) : Prop := (p = none ∧ v = none) ∨ ∃ b o y, p = some ⟨b, o, none⟩ ∧ v = some y ∧ w.cell? ⟨b, o, none⟩ = some (.int .i64 y)
theorem Bef.ext {w w' : World} {p : Option Addr} {v : Option Int} (h : Bef w p v) (hE : Ext w w') : Bef w' p v := by
  rcases h with h | ⟨b, o, y, h1, h2, h3⟩
  · exact .inl h
  · exact .inr ⟨b, o, y, h1, h2, hE.cell h3⟩
def riseV (v : Option Int) (x : Int) : Bool := match v with | none => true | some y => decide (y < x)

set_option maxHeartbeats 2000000 in
theorem fits1_any (p : Option Addr) (v : Option Int) (x : Rp) (hx : x.Ok) (host number head : Int) (hho : (Lit.int .i64 host).wf = true) (hnu : (Lit.int .i64 number).wf = true) (hhe : 0 ≤ head ∧ head ≤ 18446744073709551615) (b1 b2 b3 : Nat) (w : World) (hp : Bef w p v)
    (c1 : w.cell? ⟨b1, 0, none⟩ = some (.int .i64 host)) (c2 : w.cell? ⟨b2, 0, none⟩ = some (.int .i64 number)) (c3 : w.cell? ⟨b3, 0, none⟩ = some (.int .u64 head)) (ht : TB w) :
    Calls Tryz.prog 65 #[.pointer p, .agg #[.int .i64 x.a, .int .i64 x.h, .int .i64 x.r, .int .u64 x.n, .int .i64 x.lo, .int .i64 x.hi, .int .i64 x.k, .int .i64 x.t, .int .i64 x.c, .int .i64 x.s], .pointer (some ⟨b1, 0, none⟩), .pointer (some ⟨b2, 0, none⟩), .pointer (some ⟨b3, 0, none⟩)] w fun e w' =>
      e = .returned (.bool (riseV v x.a && rightB host number head x)) ∧ Ext w w' := by
  have HT := Lib.hid ht
  have hB := RpB.new w x
  have hE0 : Ext w (w.alloc (.cells #[.int .i64 x.a, .int .i64 x.h, .int .i64 x.r, .int .u64 x.n, .int .i64 x.lo, .int .i64 x.hi, .int .i64 x.k, .int .i64 x.t, .int .i64 x.c, .int .i64 x.s] 60)) := (Ext.refl w).alloc _
  clear ht
  go_enter Tryz.func65, Tryz.ntmps65
  go_upto_region 1 with fail
  generalize w.alloc (.cells #[.int .i64 x.a, .int .i64 x.h, .int .i64 x.r, .int .u64 x.n, .int .i64 x.lo, .int .i64 x.hi, .int .i64 x.k, .int .i64 x.t, .int .i64 x.c, .int .i64 x.s] 60) = V at *
  go_cut [8] (fun s8 wx => s8 = .bool (riseV v x.a) ∧ Ext V wx)
  case first =>
    have hg := @grow_cell
    rcases hp with ⟨rfl, rfl⟩ | ⟨b, o, y, rfl, rfl, hy⟩
    · refine region_ext (by kernel_rfl) (by kernel_rfl) ?_
      repeat (go_big_quiet_step (fail))
      refine wpQuiet_nil ?_
      intro w' hE'
      go_wp2_with fail
      go_meet
      exact ⟨rfl, hE'⟩
    · have hy2 := hE0.cell hy
      have hlb := lt_of_cell hy2
      obtain ⟨d0, d1, d2, d3, d4, d5, d6, d7, d8, d9⟩ := hB.cells
      have hlx := lt_of_block hB
      simp only at hlb
      clear hy
      refine region_ext (by kernel_rfl) (by kernel_rfl) ?_
      repeat (go_big_quiet_step (fail))
      refine wpQuiet_nil ?_
      intro w' hE'
      go_wp2_with fail
      go_meet
      exact ⟨rfl, hE'⟩
  case rest =>
    obtain ⟨rfl, hE1⟩ := hcut
    generalize hR : riseV v x.a = R
    have HR := Lib.hid hR
    clear hR
    go_upto_region 2 with fail
    have hEx := hE0.trans hE1
    have hg := @grow_cell
    have q1 := hEx.cell c1
    have q2 := hEx.cell c2
    have q3 := hEx.cell c3
    have hl1 := lt_of_cell q1
    have hl2 := lt_of_cell q2
    have hl3 := lt_of_cell q3
    have hBx := hB.ext hE1
    have hlx := lt_of_block hBx
    obtain ⟨d0, d1, d2, d3, d4, d5, d6, d7, d8, d9⟩ := hBx.cells
    simp only at hl1 hl2 hl3
    clear c1 c2 c3 hB hBx hp hE0 hE1
    rcases R with _ | _
    · have HH := Lib.hid hx
      clear hx
      refine region_ext (by kernel_rfl) (by kernel_rfl) ?_
      repeat (go_big_quiet_step (fail))
      refine wpQuiet_nil ?_
      intro w' hE'
      go_wp2_with fail
      go_ret
      exact ⟨ret_bool (by simp [HR.out]), hEx.trans hE'⟩
    have hwell : ∀ W, Calls Tryz.prog 66 #[.agg #[.int .i64 x.a, .int .i64 x.h, .int .i64 x.r, .int .u64 x.n, .int .i64 x.lo, .int .i64 x.hi, .int .i64 x.k, .int .i64 x.t, .int .i64 x.c, .int .i64 x.s]] W fun e w' => e = .returned (.bool (wfR x)) ∧ Ext W w' := fun W => cwell_any x W
    rcases hw : wfR x with _ | _
    · rw [hw] at hwell
      have HW := Lib.hid hw
      clear hw
      refine region_ext (by kernel_rfl) (by kernel_rfl) ?_
      repeat (go_big_quiet_step (((go_at_call 66; exact Calls.regrown_of (hwell _)))))
      refine wpQuiet_nil ?_
      intro w' hE'
      go_wp2_with fail
      go_ret
      exact ⟨ret_bool (by simp [rightB, HW.out]), hEx.trans hE'⟩
    rw [hw] at hwell
    have HW := Lib.hid hw
    clear hw
    rcases hh : (x.h == host) with _ | _
    · have HH := Lib.hid hh
      refine region_ext (by kernel_rfl) (by kernel_rfl) ?_
      repeat (go_big_quiet_step (((go_at_call 66; exact Calls.regrown_of (hwell _)))))
      refine wpQuiet_nil ?_
      intro w' hE'
      go_wp2_with fail
      go_ret
      exact ⟨ret_bool (by simp [rightB, HW.out, HH.out]), hEx.trans hE'⟩
    have HH := Lib.hid hh
    rcases hr : (x.r == number) with _ | _
    · have HN := Lib.hid hr
      refine region_ext (by kernel_rfl) (by kernel_rfl) ?_
      repeat (go_big_quiet_step (((go_at_call 66; exact Calls.regrown_of (hwell _)))))
      refine wpQuiet_nil ?_
      intro w' hE'
      go_wp2_with fail
      go_ret
      exact ⟨ret_bool (by simp [HR.out, rightB, HW.out, HH.out, HN.out]), hEx.trans hE'⟩
    have HN := Lib.hid hr
    refine region_ext (by kernel_rfl) (by kernel_rfl) ?_
    repeat (go_big_quiet_step ((first | (go_at_call 66; exact Calls.regrown_of (hwell _)) | (go_at_call 50; exact Calls.regrown_of (nonce_any _ _ _ _ hhe hho hnu hx.a _ (TB.ext HT.out (hEx.trans (ext_grow _ _ _))))))))
    refine wpQuiet_nil ?_
    intro w' hE'
    go_wp2_with fail
    go_ret
    exact ⟨ret_bool (by simp [HR.out, rightB, HW.out, HH.out, HN.out]), hEx.trans hE'⟩
end Go.Proofs.YtdmfdimhjemngaaGreatDoor

/-
  Rounds that fit, by the program; walked.
-/
namespace Go.Proofs.YtdmfdimhjemngaaGreatDoor
open Go.RowKit Go.Sort Go.Shelf
set_option linter.unusedSimpArgs false
set_option linter.unusedVariables false
set_option maxRecDepth 100000

/-- The authority of the reply before the k-th. -/
def befA (xs : List Rp) (k : Nat) : Option Int := if k = 0 then none else some (nthR xs (k - 1)).a
theorem rise_bef (xs : List Rp) (k : Nat) : riseV (befA xs k) (nthR xs k).a = riseB xs k := by
  unfold befA riseB
  by_cases h : k = 0
  · subst h; rfl
  · rw [if_neg h]; simp [riseV, h]

set_option maxHeartbeats 2000000 in
theorem allF_any (a : Option Addr) (n c : Nat) (xs : List Rp) (host number head : Int) (hho : (Lit.int .i64 host).wf = true) (hnu : (Lit.int .i64 number).wf = true) (hhe : 0 ≤ head ∧ head ≤ 18446744073709551615) (b1 b2 b3 : Nat) (w : World) (h1 : Rw w a n c xs)
    (c1 : w.cell? ⟨b1, 0, none⟩ = some (.int .i64 host)) (c2 : w.cell? ⟨b2, 0, none⟩ = some (.int .i64 number)) (c3 : w.cell? ⟨b3, 0, none⟩ = some (.int .u64 head)) (ht : TB w) :
    Calls Tryz.prog 64 #[.slice a n c, .func (.func 65) #[] #[.pointer (some ⟨b1, 0, none⟩), .pointer (some ⟨b2, 0, none⟩), .pointer (some ⟨b3, 0, none⟩)]] w fun e w' =>
      e = .returned (.bool (fitsF host number head xs)) ∧ Ext w w' := by
  have bd := h1.bd
  have HT := Lib.hid ht
  have HL := Lib.hid h1.hlen
  clear ht
  go_enter Tryz.func64, Tryz.ntmps64
  go_wp2_with fail
  go_loopw [5, 9] (fun p i wr => ∃ (k : Nat) (q : Option Addr), k ≤ n ∧ i = .int .i64 k ∧ p = .pointer q ∧ Bef wr q (befA xs k) ∧ (∀ i, i < k → stepB' host number head xs i = true) ∧ Ext w wr) (fun _ i _ => n - (intOf i).toNat)
  case atStart => exact ⟨0, none, by omega, rfl, rfl, .inl ⟨rfl, rfl⟩, fun i hi => absurd hi (by omega), Ext.refl w⟩
  case round =>
    obtain ⟨k, q, hk, rfl, rfl, hbf, hok, hE⟩ := hrel
    have HOK := Lib.hid hok
    clear hok
    by_cases hlt : k < n
    · obtain ⟨x1, o1, rfl, hc1⟩ := h1.at (by omega)
      have hr := rangeAt_ext (hc1 k hlt) hE
      have hx := h1.wfAt hlt
      rw [sz_rp] at hr
      have hrb := rise_bef xs k
      have hstep : stepB' host number head xs k = (riseV (befA xs k) (nthR xs k).a && rightB host number head (nthR xs k)) := by rw [hrb]; rfl
      have hbn : befA xs (k + 1) = some (nthR xs k).a := by simp [befA]
      generalize nthR xs k = x at *
      generalize befA xs k = v at *
      have HST := Lib.hid hstep
      have HBN := Lib.hid hbn
      clear hc1 hrb hstep hbn
      obtain ⟨d0, d1, d2, d3, d4, d5, d6, d7, d8, d9⟩ := cells_rp hr
      clear hr
      have hfit := fun W (hW : Ext wr W) => fits1_any q v x hx host number head hho hnu hhe b1 b2 b3 W (hbf.ext hW) ((hE.trans hW).cell c1) ((hE.trans hW).cell c2) ((hE.trans hW).cell c3) (TB.ext HT.out (hE.trans hW))
      have HF := Lib.hid hfit
      clear hfit
      have HDA := Lib.hid d0
      rcases hb : (riseV v x.a && rightB host number head x) with _ | _
      · have HB := Lib.hid hb
        clear hb
        go_wp2_with fail
        refine (HF.out wr (Ext.refl wr)).mono ?_
        rintro e w1 ⟨rfl, hE1⟩
        rw [HB.out]
        clear d0 d1 d2 d3 d4 d5 d6 d7 d8 d9
        go_wp2_with fail
        go_ret
        refine ⟨ret_bool ?_, hE.trans hE1⟩
        unfold fitsF
        rw [all_range_no (k := k) (by rw [HL.out]; exact hlt) (by rw [HST.out, HB.out])]
      · have HB := Lib.hid hb
        clear hb
        go_wp2_with fail
        refine (HF.out wr (Ext.refl wr)).mono ?_
        rintro e w1 ⟨rfl, hE1⟩
        rw [HB.out]
        clear d0 d1 d2 d3 d4 d5 d6 d7 d8 d9
        go_wp2_with fail
        refine ⟨⟨k + 1, _, by omega, by go_num, rfl, .inr ⟨_, _, _, rfl, HBN.out, hE1.cell HDA.out⟩, fun i hi => ?_, hE.trans hE1⟩, by simp [intOf]; omega⟩
        by_cases e : i = k
        · rw [e, HST.out, HB.out]
        · exact HOK.out i (by omega)
    · obtain rfl : k = n := by omega
      go_wp2_with fail
      go_ret
      refine ⟨ret_bool ?_, hE⟩
      unfold fitsF
      rw [all_range.2 (fun i hi => HOK.out i (by rw [← HL.out]; exact hi))]

theorem fits_any (a : Option Addr) (n c : Nat) (xs : List Rp) (host number head : Int) (hho : (Lit.int .i64 host).wf = true) (hnu : (Lit.int .i64 number).wf = true) (hhe : 0 ≤ head ∧ head ≤ 18446744073709551615) (w : World) (h1 : Rw w a n c xs) (ht : TB w) :
    Calls Tryz.prog 44 #[.agg #[.slice a n c], .int .i64 host, .int .i64 number, .int .u64 head] w fun e w' => e = .returned (.bool (fitsF host number head xs)) ∧ Ext w w' := by
  have bd := h1.bd
  have HT := Lib.hid ht
  clear ht
  have hE0 : Ext w ((((w.alloc (.cells #[.slice a n c] 45)).alloc (.cells #[.int .i64 host] 3)).alloc (.cells #[.int .i64 number] 3)).alloc (.cells #[.int .u64 head] 26)) := ((((Ext.refl w).alloc _).alloc _).alloc _).alloc _
  have k1 : ((((w.alloc (.cells #[.slice a n c] 45)).alloc (.cells #[.int .i64 host] 3)).alloc (.cells #[.int .i64 number] 3)).alloc (.cells #[.int .u64 head] 26)).cell? ⟨w.heap.size + 1, 0, none⟩ = some (.int .i64 host) := by go_simp
  have k2 : ((((w.alloc (.cells #[.slice a n c] 45)).alloc (.cells #[.int .i64 host] 3)).alloc (.cells #[.int .i64 number] 3)).alloc (.cells #[.int .u64 head] 26)).cell? ⟨w.heap.size + 1 + 1, 0, none⟩ = some (.int .i64 number) := by go_simp
  have k3 : ((((w.alloc (.cells #[.slice a n c] 45)).alloc (.cells #[.int .i64 host] 3)).alloc (.cells #[.int .i64 number] 3)).alloc (.cells #[.int .u64 head] 26)).cell? ⟨w.heap.size + 1 + 1 + 1, 0, none⟩ = some (.int .u64 head) := by go_simp
  go_enter Tryz.func44, Tryz.ntmps44
  go_wp2_with fail
  refine (allF_any a n c xs host number head hho hnu hhe _ _ _ _ (h1.ext hE0) k1 k2 k3 (TB.ext HT.out hE0)).mono ?_
  rintro e w1 ⟨rfl, hE1⟩
  go_wp2_with fail
  go_ret
  exact ⟨rfl, hE0.trans hE1⟩
end Go.Proofs.YtdmfdimhjemngaaGreatDoor

/-
  Rounds that fit, by the reference; walked.
-/
namespace Go.Proofs.YtdmfdimhjemngaaGreatDoor
open Go.RowKit Go.Sort Go.Shelf
set_option linter.unusedSimpArgs false
set_option linter.unusedVariables false
set_option maxRecDepth 100000

set_option maxHeartbeats 4000000 in
theorem right_any (a : Option Addr) (n c : Nat) (xs : List Rp) (host number head : Int) (hho : (Lit.int .i64 host).wf = true) (hnu : (Lit.int .i64 number).wf = true) (hhe : 0 ≤ head ∧ head ≤ 18446744073709551615) (w : World) (h1 : Rw w a n c xs) :
    Calls Tryz.prog 48 #[.agg #[.slice a n c], .int .i64 host, .int .i64 number, .int .u64 head] w fun e w' => e = .returned (.bool (fitsF host number head xs)) ∧ Ext w w' := by
  have bd := h1.bd
  have HL := Lib.hid h1.hlen
  have hE0 : Ext w (w.alloc (.cells #[.slice a n c] 45)) := (Ext.refl w).alloc _
  have hB0 := World.alloc_heap_new w (.cells #[.slice a n c] 45)
  go_enter Tryz.func48, Tryz.ntmps48
  go_wp2_with fail
  go_loopw [9] (fun i wr => ∃ (k : Nat), k ≤ n ∧ i = .int .i64 k ∧ (∀ i, i < k → stepB' host number head xs i = true) ∧ Ext w wr ∧ wr.heap[w.heap.size]? = some (.cells #[.slice a n c] 45 (0, 0))) (fun i _ => n - (intOf i).toNat)
  case atStart => exact ⟨0, by omega, rfl, fun i hi => absurd hi (by omega), hE0, hB0⟩
  case round =>
    obtain ⟨k, hk, rfl, hok, hE, hb⟩ := hrel
    have HOK := Lib.hid hok
    have HB := Lib.hid hb
    have hcb := cell_of_block hb 0 _ rfl
    have hlb := lt_of_block hb
    clear hok hb
    by_cases hlt : k < n
    · obtain ⟨x1, o1, rfl, hc1⟩ := h1.at (by omega)
      have hr := rangeAt_ext (hc1 k hlt) hE
      have hx := h1.wfAt hlt
      rw [sz_rp] at hr
      have hstep : stepB' host number head xs k = (riseB xs k && rightB host number head (nthR xs k)) := rfl
      have hrise : riseB xs k = (k == 0 || decide ((nthR xs (k - 1)).a < (nthR xs k).a)) := rfl
      have hrp : 0 < k → wr.cell? ⟨x1, o1 + (k - 1) * 10, none⟩ = some (.int .i64 (nthR xs (k - 1)).a) := fun h0 => by
        have := rangeAt_ext (hc1 (k - 1) (by omega)) hE
        rw [sz_rp] at this
        exact (cells_rp this).1
      generalize nthR xs k = x at *
      generalize (nthR xs (k - 1)).a = y at *
      have HST := Lib.hid hstep
      have HRI := Lib.hid hrise
      have HRP := Lib.hid hrp
      clear hc1 hstep hrise hrp
      obtain ⟨d0, d1, d2, d3, d4, d5, d6, d7, d8, d9⟩ := cells_rp hr
      have hx1 := lt_of_cell d0
      simp only at hx1
      clear hr
      go_upto_region 5 with fail
      have hB := RpB.new wr x
      have hEV : Ext wr (wr.alloc (.cells #[.int .i64 x.a, .int .i64 x.h, .int .i64 x.r, .int .u64 x.n, .int .i64 x.lo, .int .i64 x.hi, .int .i64 x.k, .int .i64 x.t, .int .i64 x.c, .int .i64 x.s] 60)) := (Ext.refl wr).alloc _
      clear d0 d1 d2 d3 d4 d5 d6 d7 d8 d9
      have hcV := hEV.cell hcb
      have hbV := Lib.hid ((hEV.block _ hlb).trans HB.out)
      have hlV : w.heap.size < (wr.alloc (.cells #[.int .i64 x.a, .int .i64 x.h, .int .i64 x.r, .int .u64 x.n, .int .i64 x.lo, .int .i64 x.hi, .int .i64 x.k, .int .i64 x.t, .int .i64 x.c, .int .i64 x.s] 60)).heap.size := by simp; omega
      have hlX := lt_of_block hB
      generalize wr.alloc (.cells #[.int .i64 x.a, .int .i64 x.h, .int .i64 x.r, .int .u64 x.n, .int .i64 x.lo, .int .i64 x.hi, .int .i64 x.k, .int .i64 x.t, .int .i64 x.c, .int .i64 x.s] 60) = V at *
      obtain ⟨d0, d1, d2, d3, d4, d5, d6, d7, d8, d9⟩ := hB.cells
      have hg := @grow_cell
      have hwell : ∀ W, Calls Tryz.prog 70 #[.agg #[.int .i64 x.a, .int .i64 x.h, .int .i64 x.r, .int .u64 x.n, .int .i64 x.lo, .int .i64 x.hi, .int .i64 x.k, .int .i64 x.t, .int .i64 x.c, .int .i64 x.s]] W fun e w' => e = .returned (.bool (wfR x)) ∧ Ext W w' := fun W => rwell_any x W
      rcases hw : wfR x with _ | _
      · rw [hw] at hwell
        have HW := Lib.hid hw
        clear hw
        refine region_ext (by kernel_rfl) (by kernel_rfl) ?_
        repeat (go_big_quiet_step ((go_at_call 70; exact Calls.regrown_of (hwell _))))
        refine wpQuiet_nil ?_
        intro w' hE'
        go_wp2_with fail
        go_ret
        refine ⟨ret_bool ?_, (hE.trans hEV).trans hE'⟩
        unfold fitsF
        rw [all_range_no (k := k) (by rw [HL.out]; exact hlt) (by rw [HST.out]; simp [rightB, HW.out])]
      rw [hw] at hwell
      have HW := Lib.hid hw
      clear hw
      rcases hh : (x.h == host) with _ | _
      · have HH := Lib.hid hh
        have hh' : (x.h != host) = true := by rw [bne, hh]; rfl
        refine region_ext (by kernel_rfl) (by kernel_rfl) ?_
        repeat (go_big_quiet_step ((go_at_call 70; exact Calls.regrown_of (hwell _))))
        refine wpQuiet_nil ?_
        intro w' hE'
        go_wp2_with fail
        go_ret
        refine ⟨ret_bool ?_, (hE.trans hEV).trans hE'⟩
        unfold fitsF
        rw [all_range_no (k := k) (by rw [HL.out]; exact hlt) (by rw [HST.out]; simp [rightB, HW.out, HH.out])]
      have HH := Lib.hid hh
      have hh' : (x.h != host) = false := by rw [bne, hh]; rfl
      rcases hr : (x.r == number) with _ | _
      · have HN := Lib.hid hr
        have hr' : (x.r != number) = true := by rw [bne, hr]; rfl
        refine region_ext (by kernel_rfl) (by kernel_rfl) ?_
        repeat (go_big_quiet_step ((go_at_call 70; exact Calls.regrown_of (hwell _))))
        refine wpQuiet_nil ?_
        intro w' hE'
        go_wp2_with fail
        go_ret
        refine ⟨ret_bool ?_, (hE.trans hEV).trans hE'⟩
        unfold fitsF
        rw [all_range_no (k := k) (by rw [HL.out]; exact hlt) (by rw [HST.out]; simp [rightB, HW.out, HH.out, HN.out])]
      have HN := Lib.hid hr
      have hr' : (x.r != number) = false := by rw [bne, hr]; rfl
      rcases hn : (x.n == nonF head host number x.a) with _ | _
      · have HO := Lib.hid hn
        have hn' : (x.n != nonF head host number x.a) = true := by rw [bne, hn]; rfl
        refine region_ext (by kernel_rfl) (by kernel_rfl) ?_
        repeat (go_big_quiet_step ((first | (go_at_call 70; exact Calls.regrown_of (hwell _)) | (go_at_call 18; exact Calls.regrown_of (rnonce_any _ _ _ _ hhe hho hnu hx.a _)))))
        refine wpQuiet_nil ?_
        intro w' hE'
        go_wp2_with fail
        go_ret
        refine ⟨ret_bool ?_, (hE.trans hEV).trans hE'⟩
        unfold fitsF
        rw [all_range_no (k := k) (by rw [HL.out]; exact hlt) (by rw [HST.out]; simp [rightB, HW.out, HH.out, HN.out, HO.out])]
      have HO := Lib.hid hn
      have hn' : (x.n != nonF head host number x.a) = false := by rw [bne, hn]; rfl
      refine region_ext (by kernel_rfl) (by kernel_rfl) ?_
      repeat (go_big_quiet_step ((first | (go_at_call 70; exact Calls.regrown_of (hwell _)) | (go_at_call 18; exact Calls.regrown_of (rnonce_any _ _ _ _ hhe hho hnu hx.a _)))))
      refine wpQuiet_nil ?_
      intro w' hE'
      go_wp2_with fail
      have hE7 := hEV.trans hE'
      have hb7 := Lib.hid ((hE'.block _ hlV).trans hbV.out)
      obtain ⟨d10, _⟩ := (hB.ext hE').cells
      have hcV' := hE'.cell hcV
      have hl7 := hE'.sz
      have hw7 := lt_of_cell hcV'
      have hx7 := lt_of_cell d10
      simp only at hw7 hx7
      clear d0 d1 d2 d3 d4 d5 d6 d7 d8 d9 hwell hcb hcV hB
      by_cases hk0 : k = 0
      · have hk1 : decide ((0 : Int) < (k : Int)) = false := by simp; omega
        have hk2 : decide (0 < k) = false := by simp; omega
        have HK0 := Lib.hid hk0
        clear hk0
        refine region_ext (by kernel_rfl) (by kernel_rfl) ?_
        repeat (go_big_quiet_step (fail))
        refine wpQuiet_nil ?_
        intro w' hE2
        go_wp2_with fail
        refine ⟨⟨k + 1, by omega, by go_num, fun i hi => ?_, (hE.trans hE7).trans hE2, (hE2.block _ hw7).trans hb7.out⟩, by simp [intOf]; omega⟩
        by_cases e : i = k
        · rw [e, HST.out, HRI.out]; simp [rightB, HW.out, HH.out, HN.out, HO.out, HK0.out]
        · exact HOK.out i (by omega)
      · obtain ⟨m, rfl⟩ : ∃ m, k = m + 1 := ⟨k - 1, by omega⟩
        have hy := (hE7.cell (HRP.out (by omega)))
        rw [show m + 1 - 1 = m by omega] at hy
        have hly := lt_of_cell hy
        simp only at hly
        have hk1 : decide ((0 : Int) < (m : Int) + 1) = true := decide_eq_true (by omega)
        have hk2 : decide (0 < m + 1) = true := by simp
        have hml : (m : Int) < n := by omega
        have hwr : IntKind.i64.wrap ((m : Int) + 1 - 1) = m := IntWalk.i64_in _ (by omega) |>.trans (by omega)
        have HLT := Lib.hid hlt
        have hk3 : (m + 1 == 0) = false := rfl
        by_cases hlt2 : y < x.a
        · have hle : decide (x.a ≤ y) = false := by simp; omega
          refine region_ext (by kernel_rfl) (by kernel_rfl) ?_
          repeat (go_big_quiet_step (fail))
          refine wpQuiet_nil ?_
          intro w' hE2
          go_wp2_with fail
          refine ⟨⟨m + 1 + 1, by omega, by go_num, fun i hi => ?_, (hE.trans hE7).trans hE2, (hE2.block _ hw7).trans hb7.out⟩, by simp [intOf]; omega⟩
          by_cases e : i = m + 1
          · rw [e, HST.out, HRI.out]; simp [rightB, HW.out, HH.out, HN.out, HO.out, hlt2]
          · exact HOK.out i (by omega)
        · have hle : decide (x.a ≤ y) = true := by simp; omega
          refine region_ext (by kernel_rfl) (by kernel_rfl) ?_
          repeat (go_big_quiet_step (fail))
          refine wpQuiet_nil ?_
          intro w' hE2
          go_wp2_with fail
          go_ret
          refine ⟨ret_bool ?_, (hE.trans hE7).trans hE2⟩
          unfold fitsF
          rw [all_range_no (k := m + 1) (by rw [HL.out]; exact HLT.out) (by rw [HST.out, HRI.out, show decide (y < x.a) = false by simp; exact hlt2]; simp)]
    · obtain rfl : k = n := by omega
      go_wp2_with fail
      go_ret
      refine ⟨ret_bool ?_, hE⟩
      unfold fitsF
      rw [all_range.2 (fun i hi => HOK.out i (by rw [← HL.out]; exact hi))]
end Go.Proofs.YtdmfdimhjemngaaGreatDoor

/-
  The iterator over rounds, each with the head before it: its contract.
-/
namespace Go.Proofs.YtdmfdimhjemngaaGreatDoor
open Go.RowKit Go.Sort Go.Shelf
set_option linter.unusedSimpArgs false
set_option linter.unusedVariables false
set_option maxRecDepth 100000
attribute [local go_sem] Oper.semAt_some

theorem heads_any (a : Option Addr) (n c : Nat) (w : World) : Calls Tryz.prog 43 #[.slice a n c] w fun e w' => e = .returned (.func (.func 63) #[] #[.pointer (some ⟨w.heap.size, 0, none⟩)]) ∧ w' = w.alloc (.cells #[.slice a n c] 22) := by
  go_enter Tryz.func43, Tryz.ntmps43
  go_wp2_with fail
  go_ret
  exact ⟨rfl, rfl⟩

/-- What a round that goes on keeps: whatever lies below n₀; and all cells but those of the blocks B. -/
def KpB (n₀ : Nat) (B : Nat → Prop) (W W' : World) : Prop := Below n₀ W W' ∧ ∀ k cs t fr, ¬ B k → W.heap[k]? = some (.cells cs t fr) → W'.heap[k]? = some (.cells cs t fr)
theorem KpB.trans {n₀ : Nat} {B : Nat → Prop} {W W1 W2 : World} (h : KpB n₀ B W W1) (k : KpB n₀ B W1 W2) : KpB n₀ B W W2 := ⟨h.1.trans k.1, fun i cs t fr hB hi => k.2 i cs t fr hB (h.2 i cs t fr hB hi)⟩
theorem KpB.put {n₀ : Nat} {B : Nat → Prop} {w : World} (hn : n₀ ≤ w.heap.size) (W : World) (l : Nat) (o o' : Obj) (hl : w.heap.size ≤ l) (h : W.heap[l]? = some o) (hc : o.isCells = false) (hw : o.isWalk = false) : KpB n₀ B W (W.putObj l o') := by
  refine ⟨belowK_b hn W l o o' hl h hc hw, fun k cs t fr _ hk => ?_⟩
  by_cases e : k = l
  · subst e; rw [h] at hk; cases hk; cases hc
  · exact (World.putObj_heap_other e).trans hk
theorem KpB.ofExt {n₀ : Nat} {B : Nat → Prop} {W W' : World} (hn : n₀ ≤ W.heap.size) (h : Ext W W') : KpB n₀ B W W' :=
  ⟨Below.mono h hn, fun k cs t fr _ hk => (h.block k (Array.getElem?_eq_some_iff.1 hk).1).trans hk⟩
theorem KpB.set {n₀ : Nat} {B : Nat → Prop} {W W' : World} (h : KpB n₀ B W W') {b : Nat} (hb : B b) (hn : n₀ ≤ b) (v : Value) : KpB n₀ B W (W'.setCell ⟨b, 0, none⟩ v) :=
  ⟨Below.setCell h.1 (p := ⟨b, 0, none⟩) hn v, fun k cs t fr hk hi => (heap_setCell_other W' ⟨b, 0, none⟩ k v (fun e => hk (e ▸ hb))).trans (h.2 k cs t fr hk hi)⟩

theorem grownBy_of_ext {W W' : World} (h : Ext W W') : W.grownBy W' none := ⟨h.os, h.tape, h.output, h.size, fun k hk _ => h.block k hk⟩

/-- The values that lie in the cells of a slice of rounds. -/
structure Vals (w : World) (rs : List (List Rp)) (V : Nat → Value) : Prop where
  is : ∀ i, i < rs.length → ∃ a' n' c', V i = .slice a' n' c' ∧ Rw w a' n' c' (nthS rs i)
theorem Vals.ext {w w' : World} {rs : List (List Rp)} {V : Nat → Value} (h : Vals w rs V) (he : Ext w w') : Vals w' rs V := ⟨fun i hi => let ⟨a, n, c, h1, h2⟩ := h.is i hi; ⟨a, n, c, h1, h2.ext he⟩⟩
theorem Rws.valsF {w : World} {a : Option Addr} {n c : Nat} {rs : List (List Rp)} (h : Rws w a n c rs) : ∃ V : Nat → Value, Vals w rs V ∧ ∀ i, i < n → ∃ b off, a = some ⟨b, off, none⟩ ∧ w.cell? ⟨b, off + i, none⟩ = some (V i) := by
  rcases Nat.eq_zero_or_pos n with h0 | h0
  · subst h0
    obtain rfl := h.isnil
    exact ⟨fun _ => undef, ⟨fun i hi => absurd hi (by simp)⟩, fun i hi => absurd hi (by omega)⟩
  · obtain ⟨b, off, rfl, _⟩ := h.at h0
    obtain ⟨vs, h1, h2, h3⟩ := h.vals
    refine ⟨fun i => vs.getD i undef, ⟨fun i hi => ?_⟩, fun i hi => ⟨b, off, rfl, ?_⟩⟩
    · obtain ⟨a', n', c', h4, h5⟩ := h3 i (by rw [← h.hlen]; exact hi)
      exact ⟨a', n', c', by rw [List.getD_eq_getElem?_getD, h4]; rfl, h5⟩
    · refine h2 i _ ?_
      show vs[i]? = some (vs.getD i undef)
      rw [List.getD_eq_getElem?_getD, List.getElem?_eq_getElem (by omega)]; rfl

/-- What is handed to a round: the head before it, and the round. -/
def encH (rs : List (List Rp)) (V : Nat → Value) (x : Fin rs.length) : Array Value := #[.int .u64 (headF (rs.take x)), .agg #[V x]]
/-- In their order. -/
def Upto {n : Nat} (pre : List (Fin n)) : Prop := ∀ (i : Nat) (x : Fin n), pre[i]? = some x → x.val = i
theorem Upto.snoc {n : Nat} {pre : List (Fin n)} (h : Upto pre) (x : Fin n) (hx : x.val = pre.length) : Upto (pre ++ [x]) := by
  intro i y hy
  rcases Nat.lt_or_ge i pre.length with hi | hi
  · rw [List.getElem?_append_left hi] at hy; exact h i y hy
  · rw [List.getElem?_append_right hi] at hy
    rcases Nat.eq_zero_or_pos (i - pre.length) with h0 | h0
    · rw [h0] at hy; simp at hy; subst hy; omega
    · rw [List.getElem?_eq_none (by simp; omega)] at hy; cases hy

set_option maxHeartbeats 2000000 in
theorem heads1_in (n : Nat) (hn : 2 ≤ n) (n₀ : Nat) (B : Nat → Prop) (Bn : Nat) (a : Option Addr) (m c : Nat) (rs : List (List Rp)) (V : Nat → Value) (w0 w : World) (h0 : w0.heap.size = n₀) (hE0 : Ext w0 w) (hB : ∀ k, B k → k < w.heap.size)
    (h1 : Rws w0 a m c rs) (hV : Vals w0 rs V) (hVc : ∀ i, i < m → ∃ b off, a = some ⟨b, off, none⟩ ∧ w0.cell? ⟨b, off + i, none⟩ = some (V i)) (hs : Short rs) (ht : TB w0) (hb : Boxed w Bn 22 (.slice a m c)) :
    SeqStopsK Fence.wide n Tryz.prog 63 #[.pointer (some ⟨Bn, 0, none⟩)] (encH rs V) (KpB n₀ B) (fun xs => xs.length = rs.length ∧ Upto xs) Upto rs.length w := by
  intro l J Jx W hW hJ hJx hY hJ0
  have bd := h1.bd
  have HL := Lib.hid h1.hlen
  have HT := Lib.hid ht
  have HS := Lib.hid hs
  have hcb : W.cell? ⟨Bn, 0, none⟩ = some (.slice a m c) := (hW.cell (p := ⟨Bn, 0, none⟩) hb.lt).trans hb.cell
  have hEW : Ext w0 W := hE0.trans hW
  have hzW := hW.size
  clear ht hs
  refine callsIn_of_wp Tryz.func63 rfl trivial ?_ rfl
  simp only [Tryz.ntmps63, List.size_toArray, List.length_cons, List.length_nil, Nat.reduceAdd, Nat.reduceSub, Array.replicate_succ, Array.replicate_zero, List.push_toArray, List.append_toArray, List.nil_append, List.cons_append]
  gi_wp2
  gi_loopw [3, 8] (fun h i wr => ∃ (k : Nat) (pre : List (Fin rs.length)), k ≤ m ∧ i = .int .i64 k ∧ h = .int .u64 (headF (rs.take k)) ∧ pre.length = k ∧ Upto pre ∧ J pre wr ∧ Ext w0 wr ∧ W.heap.size ≤ wr.heap.size) (fun _ i _ => m - (intOf i).toNat)
  case atStart => exact ⟨0, [], by omega, rfl, rfl, rfl, fun i x hx => by simp at hx, hJ0, hEW, Nat.le_refl _⟩
  case round =>
    obtain ⟨k, pre, hk, rfl, rfl, hpl, hup, hJp, hE, hzr⟩ := hrel
    have HPL := Lib.hid hpl
    clear hpl
    by_cases hlt : k < m
    · obtain ⟨b, off, rfl, hcell⟩ := hVc k hlt
      have hkr : k < rs.length := by rw [HL.out]; exact hlt
      obtain ⟨a', n', c', hVk, hRk⟩ := hV.is k hkr
      have hcc := hE.cell hcell
      have hlen : n' ≤ 400 := by have := HS.out.at hkr; rw [hRk.hlen] at this; exact this
      have hht := Lib.hid (headF_take hkr)
      have hrng := headF_rng (rs.take k)
      rw [hVk] at hcc
      have hall : Ext wr (wr.alloc (.cells #[.slice a' n' c'] 45)) := (Ext.refl wr).alloc _
      have hJ1 : J pre (wr.alloc (.cells #[.slice a' n' c'] 45)) := hJ pre wr _ none hJp (grownBy_of_ext hall) (fun r e => by cases e)
      obtain ⟨fn, tmps, assign, body, hy, hR⟩ := hY pre ⟨k, hkr⟩ _ hJ1 (by rw [HPL.out]; exact hkr)
      simp only [encH, hVk] at hy
      have hbx := World.alloc_heap_new wr (.cells #[.slice a' n' c'] 45)
      clear hcell
      gi_wp2
      refine ⟨fun _ => by omega, ?_⟩
      refine hR.mono ?_
      rintro e W3 (⟨rfl, hJ3, hk3⟩ | ⟨rfl, hJx3⟩)
      · have hb3 := hk3.2 wr.heap.size _ _ _ (fun hb => by have := hB _ hb; omega) hbx
        have hE3 : Ext w0 W3 := Below.trans (hE.trans hall) (h0 ▸ hk3.1)
        have hc3 := cell_of_block hb3 0 _ rfl
        have hz3 := lt_of_block hb3
        gi_wp2
        refine ⟨trivial, fun _ => by omega, ?_⟩
        refine (callsIn_wide.2 (behind_any _ hrng a' n' c' _ W3 (hRk.ext hE3) hlen (TB.ext HT.out hE3))).mono ?_
        rintro e w4 ⟨rfl, hE4⟩
        gi_wp2
        go_roundw
        case rel => exact ⟨k + 1, pre ++ [⟨k, hkr⟩], by omega, by go_num, by rw [hht.out], by simp [HPL.out], hup.snoc _ HPL.out.symm, hJ _ _ _ none hJ3 (grownBy_of_ext hE4) (fun r e => by cases e), hE3.trans hE4, Nat.le_trans (by omega) hE4.sz⟩
        case measure => simp [intOf]; omega
      · gi_wp2
        refine bodyPost_ret (results_none rfl _ _ _) rfl ?_
        exact ⟨⟨_, rfl⟩, .inr ⟨pre ++ [⟨k, hkr⟩], hup.snoc _ HPL.out.symm, hJx3⟩⟩
    · obtain rfl : k = m := by omega
      gi_wp2
      go_end0
      exact ⟨⟨_, rfl⟩, .inl ⟨pre, ⟨by rw [HPL.out, HL.out], hup⟩, hJp⟩⟩
end Go.Proofs.YtdmfdimhjemngaaGreatDoor

/-
  The program's head, walked over its iterator.
-/
namespace Go.Proofs.YtdmfdimhjemngaaGreatDoor
open Go.RowKit Go.Sort Go.Shelf
set_option linter.unusedSimpArgs false
set_option linter.unusedVariables false
set_option maxRecDepth 100000
attribute [local go_sem] Oper.semAt_some

/-- The head behind the rounds that have come. -/
def lastH (rs : List (List Rp)) (pre : List (Fin rs.length)) : Int := match pre.getLast? with | none => 0 | some x => headF (rs.take (x.val + 1))
theorem lastH_snoc (rs : List (List Rp)) (pre : List (Fin rs.length)) (x : Fin rs.length) : lastH rs (pre ++ [x]) = headF (rs.take (x.val + 1)) := by simp [lastH]
theorem lastH_all {rs : List (List Rp)} {xs : List (Fin rs.length)} (hl : xs.length = rs.length) (hu : Upto xs) : lastH rs xs = headF rs := by
  rcases List.eq_nil_or_concat xs with rfl | ⟨ys, x, rfl⟩
  · obtain rfl : rs = [] := List.eq_nil_of_length_eq_zero (by simpa using hl.symm)
    rfl
  · rw [List.concat_eq_append] at hl hu ⊢
    rw [lastH_snoc]
    have h1 := hu ys.length x (by simp)
    simp at hl
    rw [h1, hl, List.take_length]

set_option maxHeartbeats 2000000 in
theorem headf_any (a : Option Addr) (n c : Nat) (rs : List (List Rp)) (w : World) (h1 : Rws w a n c rs) (hs : Short rs) (ht : TB w) :
    Calls Tryz.prog 24 #[.slice a n c] w fun e w' => e = .returned (.int .u64 (headF rs)) ∧ Ext w w' := by
  obtain ⟨V, hV, hVc⟩ := h1.valsF
  have HT := Lib.hid ht
  have HS := Lib.hid hs
  refine (callsIn_wide (n := 5)).1 ?_
  refine callsIn_of_wp_marks Tryz.func24 rfl trivial ?_ rfl
  simp only [Tryz.ntmps24, List.size_toArray, List.length_cons, List.length_nil, Nat.reduceAdd, Nat.reduceSub, Array.replicate_succ, Array.replicate_zero, List.push_toArray, List.append_toArray, List.nil_append, List.cons_append]
  gi_wp2_with (refine ⟨trivial, ?_⟩; gi_at_call 43; refine (callsIn_wide.2 (heads_any _ _ _ _)).mono ?_; rintro e w1 ⟨rfl, rfl⟩)
  have bO : Boxed ((w.alloc (.cells #[.int .u64 0] 26)).alloc (.cells #[.slice a n c] 22)) w.heap.size 26 (.int .u64 0) := (Boxed.new w _ _).alloc _
  have bN := Boxed.new (w.alloc (.cells #[.int .u64 0] 26)) 22 (.slice a n c)
  simp only [World.size_alloc] at bN
  have hE0 : Ext w ((w.alloc (.cells #[.int .u64 0] 26)).alloc (.cells #[.slice a n c] 22)) := ((Ext.refl w).alloc _).alloc _
  have hsz : ((w.alloc (.cells #[.int .u64 0] 26)).alloc (.cells #[.slice a n c] 22)).heap.size = w.heap.size + 2 := by simp
  obtain ⟨W0, hW0⟩ : ∃ W0, (w.alloc (.cells #[.int .u64 0] 26)).alloc (.cells #[.slice a n c] 22) = W0 := ⟨_, rfl⟩
  rw [hW0] at bO bN hE0 hsz ⊢
  clear hW0
  refine wpIn_rangeFunc_ownH rfl (by omega) (gf := 63) (lb := #[.pointer (some ⟨w.heap.size + 1, 0, none⟩)]) rfl trivial (enters_of Tryz.func63 (by kernel_rfl) rfl)
    (heads1_in (5 - 1) (by omega) w.heap.size (fun k => k = w.heap.size) (w.heap.size + 1) a n c rs V w W0 rfl hE0 (fun k hk => by omega) h1 hV hVc hs ht bN) KpB.trans (KpB.put (by omega)) (Below.refl _ _) (fun _ => rfl)
    (fun pre W => Boxed W w.heap.size 26 (.int .u64 (lastH rs pre)) ∧ Below w.heap.size w W)
    (fun _ _ _ => False)
    (OwnFrom.and (Own.from (boxed_own _ _ _) _) (ownFrom_below (Nat.le_refl _) (by omega)))
    (fun _ _ _ _ _ hs _ _ => hs)
    ⟨bO, hE0⟩
    (fun x a' W => ∃ Bx, w.heap.size < Bx ∧ Boxed W Bx 45 (V x) ∧ a' = { tmps := #[.slice a n c, undef, .int .u64 0, .pointer (some ⟨w.heap.size, 0, none⟩), .int .u64 (headF (rs.take x)), .pointer (some ⟨Bx, 0, none⟩), .slice a n c, .func (.func 63) #[] #[.pointer (some ⟨w.heap.size + 1, 0, none⟩)], .int .u64 (headF (rs.take x)), .agg #[V x], undef, undef, undef, undef], defers := [] })
    (fun x a' _ X Y row hs hg hr => by obtain ⟨Bx, h1, h2, h3⟩ := hs; exact ⟨Bx, h1, boxed_own Bx _ (fun (_ : Unit) => V x) () X Y row h2 hg (fun r e => (hr r e).2), h3⟩)
    ?assign ?body ?done ?stop
  case assign =>
    rintro l pre x W K ⟨bS1, hB1⟩ hK
    obtain ⟨a', n', c', hVx, hRx⟩ := hV.is x x.2
    simp only [encH, hVx] at hK ⊢
    gi_wp2
    exact hK _ _ ((KeepsOthers.alloc _ _).from _) (KpB.ofExt hB1.size ((Ext.refl W).alloc _)) ⟨bS1.alloc _, hB1.alloc hB1.size _⟩ ⟨W.heap.size, bS1.lt, Boxed.new W _ _, rfl⟩
  case body =>
    rintro l pre x a' W hl ⟨r, hr⟩ ⟨bS1, hB1⟩ ⟨Bx, hBx, bX, rfl⟩ hlt
    obtain ⟨a', n', c', hVx, hRx⟩ := hV.is x x.2
    rw [hVx] at bX
    simp only [hVx]
    have cX := bX.cell
    have hlen : n' ≤ 400 := by have := HS.out.at x.2; rw [hRx.hlen] at this; exact this
    gi_wp2
    refine ⟨trivial, ?_⟩
    refine (CallsIn.inRound l (callsIn_wide.2 (behind_any _ (headF_rng _) a' n' c' _ W (hRx.ext hB1) hlen (TB.ext HT.out hB1)))).mono ?_
    rintro e w4 ⟨rfl, hE4⟩
    have bS4 : Boxed w4 w.heap.size 26 _ := bS1.kept (grownBy_of_ext hE4) (by simp)
    have cS := bS4.cell
    have fS := bS4.frozen
    have hkf : KeepsOthers W w4 := KeepsOthers.of_grownBy (grownBy_of_ext hE4) (fun _ _ e => by cases e)
    gi_wp2
    refine ⟨(hkf.trans (KeepsOthers.setCell _ _ _)).from _, KpB.set (B := fun k => k = w.heap.size) (KpB.ofExt hB1.size hE4) rfl (Nat.le_refl _) _, ?_, (Below.trans hB1 (Below.mono hE4 hB1.size)).setCell (p := ⟨w.heap.size, 0, none⟩) (Nat.le_refl _) _⟩
    rw [lastH_snoc, headF_take x.2]
    exact bS4.set _
  case done =>
    rintro D zs W hD ⟨hl, hu⟩ ⟨bS1, hB1⟩ hK
    rw [lastH_all hl hu] at bS1
    have cS := bS1.cell
    gi_wp2
    refine ⟨by simp, .inl ⟨_, _, rfl, run_takeDeferred hK, ?_⟩⟩
    exact ⟨_, results_tmp rfl _ _ _, rfl, hB1.trans (belowK_b (w := w) (Nat.le_refl _) W D _ _ (by omega) hK rfl rfl)⟩
  case stop =>
    rintro D c pre W _ _ h _
    exact h.elim
end Go.Proofs.YtdmfdimhjemngaaGreatDoor

/-
  Valid chains, by the program: walked over its iterator.
-/
namespace Go.Proofs.YtdmfdimhjemngaaGreatDoor
open Go.RowKit Go.Sort Go.Shelf
set_option linter.unusedSimpArgs false
set_option linter.unusedVariables false
set_option maxRecDepth 100000
attribute [local go_sem] Oper.semAt_some

theorem cells_own {β : Type} (b : Nat) (cs : Array Value) (t : TypeId) : Own (fun (_ : β) W => W.heap[b]? = some (.cells cs t (0, 0))) := fun s A B row hs hg hr => by
  refine (hg.block b (Array.getElem?_eq_some_iff.1 hs).1 ?_).trans hs
  intro e
  obtain ⟨o, ho, hc⟩ := hr b e.symm
  rw [hs] at ho; cases ho; cases hc

/-- Which rounds that have come fit. -/
def okF (host : Int) (rs : List (List Rp)) (i : Nat) (x : Fin rs.length) : Bool := fitsF host ((i : Int) + 1) (headF (rs.take x)) (nthS rs x)
def AllOk (host : Int) (rs : List (List Rp)) (pre : List (Fin rs.length)) : Prop := ∀ i x, pre[i]? = some x → okF host rs i x = true
theorem AllOk.snoc {host : Int} {rs : List (List Rp)} {pre : List (Fin rs.length)} (h : AllOk host rs pre) {x : Fin rs.length} (hx : okF host rs pre.length x = true) : AllOk host rs (pre ++ [x]) := by
  intro i y hy
  rcases Nat.lt_or_ge i pre.length with hi | hi
  · rw [List.getElem?_append_left hi] at hy; exact h i y hy
  · rw [List.getElem?_append_right hi] at hy
    rcases Nat.eq_zero_or_pos (i - pre.length) with h0 | h0
    · rw [h0] at hy
      simp only [List.getElem?_cons_zero, Option.some.injEq] at hy
      subst hy
      rw [show i = pre.length by omega]; exact hx
    · rw [List.getElem?_eq_none (by simp; omega)] at hy; cases hy
theorem all_ok {host : Int} {rs : List (List Rp)} {xs : List (Fin rs.length)} (hl : xs.length = rs.length) (hu : Upto xs) (h : AllOk host rs xs) : (List.range rs.length).all (validAt host rs) = true := by
  refine all_range.2 fun i hi => ?_
  have hg : xs[i]? = some (xs[i]'(by omega)) := List.getElem?_eq_getElem (by omega)
  have h1 := h i _ hg
  have h2 := hu i _ hg
  unfold okF at h1
  rw [h2] at h1
  exact h1
theorem not_ok {host : Int} {rs : List (List Rp)} {pre : List (Fin rs.length)} (hu : Upto pre) {i : Nat} {x : Fin rs.length} (hx : pre[i]? = some x) (h : okF host rs i x = false) : (List.range rs.length).all (validAt host rs) = false := by
  have h2 := hu i x hx
  have h3 := x.2
  refine all_range_no (k := i) (by omega) ?_
  unfold okF at h
  rw [h2] at h
  exact h

/-- What is asked of the rounds of a chain: they are not too long for the digest, if they are not too many. -/
def Short2 (n : Nat) (rs : List (List Rp)) : Prop := n ≤ 200 → Short rs

set_option maxHeartbeats 4000000 in
theorem valid_any (host : Int) (hho : (Lit.int .i64 host).wf = true) (a : Option Addr) (n c : Nat) (rs : List (List Rp)) (w : World) (h1 : Rws w a n c rs) (hs : Short2 n rs) (ht : TB w) :
    Calls Tryz.prog 20 #[.agg #[.int .i64 host, .slice a n c]] w fun e w' => e = .returned (.bool (validF host rs)) ∧ Ext w w' := by
  have bd := h1.bd
  have HT := Lib.hid ht
  have HL := Lib.hid h1.hlen
  clear ht
  have hE0 : Ext w ((w.alloc (.cells #[.int .i64 host, .slice a n c] 24)).alloc (.cells #[.bool false] 4)) := ((Ext.refl w).alloc _).alloc _
  rcases hin : inC host 1 64 with _ | _
  · have HI := Lib.hid hin
    clear hin
    have hv : validF host rs = false := by unfold validF; rw [HI.out]; rfl
    rw [hv]
    go_enter Tryz.func20, Tryz.ntmps20
    go_wp2_with fail
    refine (cwithin_any _ _ _ _).mono ?_
    rintro e w' ⟨rfl, rfl⟩
    rw [HI.out]
    go_wp2_with fail
    exact bodyPost_ret (v := .bool false) (by simp [results, Tryz.results20, go_sem]) rfl ⟨rfl, hE0⟩
  have HI := Lib.hid hin
  clear hin
  by_cases hn : 200 < n
  · have hq : decide ((200 : Int) < (n : Int)) = true := by simp; omega
    have hv : validF host rs = false := by unfold validF; rw [HI.out, decide_eq_false (by rw [HL.out]; omega)]; rfl
    rw [hv]
    go_enter Tryz.func20, Tryz.ntmps20
    go_wp2_with fail
    refine (cwithin_any _ _ _ _).mono ?_
    rintro e w' ⟨rfl, rfl⟩
    rw [HI.out]
    go_wp2_with fail
    exact bodyPost_ret (v := .bool false) (by simp [results, Tryz.results20, go_sem]) rfl ⟨rfl, hE0⟩
  have hq : decide ((200 : Int) < (n : Int)) = false := by simp; omega
  have HS : Hid (Short rs) := hs (by omega)
  have hv : validF host rs = (List.range rs.length).all (validAt host rs) := by unfold validF; rw [HI.out, decide_eq_true (by rw [HL.out]; omega)]; rfl
  rw [hv]
  clear hv hs
  obtain ⟨V, hV, hVc⟩ := h1.valsF
  refine (callsIn_wide (n := 5)).1 ?_
  refine callsIn_of_wp_marks Tryz.func20 rfl trivial ?_ rfl
  simp only [Tryz.ntmps20, List.size_toArray, List.length_cons, List.length_nil, Nat.reduceAdd, Nat.reduceSub, Array.replicate_succ, Array.replicate_zero, List.push_toArray, List.append_toArray, List.nil_append, List.cons_append]
  gi_wp2
  refine ⟨trivial, ?_⟩
  refine (callsIn_wide.2 (cwithin_any _ _ _ _)).mono ?_
  rintro e w' ⟨rfl, rfl⟩
  rw [HI.out]
  gi_wp2
  refine ⟨trivial, ?_⟩
  refine (callsIn_wide.2 (heads_any _ _ _ _)).mono ?_
  rintro e w1 ⟨rfl, rfl⟩
  have bC : ((((w.alloc (.cells #[.int .i64 host, .slice a n c] 24)).alloc (.cells #[.bool false] 4)).alloc (.cells #[.int .i64 0] 3)).alloc (.cells #[.slice a n c] 22)).heap[w.heap.size]? = some (.cells #[.int .i64 host, .slice a n c] 24 (0, 0)) := ((((Ext.refl _).alloc _).alloc _).alloc _ |>.block _ (by simp)).trans (World.alloc_heap_new w _)
  have bR : Boxed ((((w.alloc (.cells #[.int .i64 host, .slice a n c] 24)).alloc (.cells #[.bool false] 4)).alloc (.cells #[.int .i64 0] 3)).alloc (.cells #[.slice a n c] 22)) (w.heap.size + 1) 4 (.bool false) := by
    have := ((Boxed.new (w.alloc (.cells #[.int .i64 host, .slice a n c] 24)) 4 (.bool false)).alloc (.cells #[.int .i64 0] 3)).alloc (.cells #[.slice a n c] 22)
    simpa using this
  have bI : Boxed ((((w.alloc (.cells #[.int .i64 host, .slice a n c] 24)).alloc (.cells #[.bool false] 4)).alloc (.cells #[.int .i64 0] 3)).alloc (.cells #[.slice a n c] 22)) (w.heap.size + 2) 3 (.int .i64 0) := by
    have := (Boxed.new ((w.alloc (.cells #[.int .i64 host, .slice a n c] 24)).alloc (.cells #[.bool false] 4)) 3 (.int .i64 0)).alloc (.cells #[.slice a n c] 22)
    simpa using this
  have bN := Boxed.new (((w.alloc (.cells #[.int .i64 host, .slice a n c] 24)).alloc (.cells #[.bool false] 4)).alloc (.cells #[.int .i64 0] 3)) 22 (.slice a n c)
  have hs1 : (((w.alloc (.cells #[.int .i64 host, .slice a n c] 24)).alloc (.cells #[.bool false] 4)).alloc (.cells #[.int .i64 0] 3)).heap.size = w.heap.size + 3 := by simp
  rw [hs1] at bN ⊢
  have hE1 : Ext w ((((w.alloc (.cells #[.int .i64 host, .slice a n c] 24)).alloc (.cells #[.bool false] 4)).alloc (.cells #[.int .i64 0] 3)).alloc (.cells #[.slice a n c] 22)) := ((((Ext.refl w).alloc _).alloc _).alloc _).alloc _
  have hsz : ((((w.alloc (.cells #[.int .i64 host, .slice a n c] 24)).alloc (.cells #[.bool false] 4)).alloc (.cells #[.int .i64 0] 3)).alloc (.cells #[.slice a n c] 22)).heap.size = w.heap.size + 4 := by simp
  gi_wp2
  obtain ⟨W0, hW0⟩ : ∃ W0, ((((w.alloc (.cells #[.int .i64 host, .slice a n c] 24)).alloc (.cells #[.bool false] 4)).alloc (.cells #[.int .i64 0] 3)).alloc (.cells #[.slice a n c] 22)) = W0 := ⟨_, rfl⟩
  rw [hW0] at bC bR bI bN hE1 hsz ⊢
  clear hW0 hE0
  refine wpIn_rangeFunc_ownH rfl (by omega) (gf := 63) (lb := #[.pointer (some ⟨w.heap.size + 3, 0, none⟩)]) rfl trivial (enters_of Tryz.func63 (by kernel_rfl) rfl)
    (heads1_in (5 - 1) (by omega) w.heap.size (fun k => k = w.heap.size + 1 ∨ k = w.heap.size + 2) (w.heap.size + 3) a n c rs V w W0 rfl hE1 (fun k hk => by omega) h1 hV hVc HS.out HT.out bN) KpB.trans (KpB.put (by omega)) (Below.refl _ _) (fun _ => rfl)
    (fun pre W => ((Boxed W (w.heap.size + 1) 4 (.bool false) ∧ Boxed W (w.heap.size + 2) 3 (.int .i64 (pre.length : Int))) ∧ W.heap[w.heap.size]? = some (.cells #[.int .i64 host, .slice a n c] 24 (0, 0))) ∧ (Below w.heap.size w W ∧ AllOk host rs pre))
    (fun cd pre W => (Boxed W (w.heap.size + 1) 4 (.bool false) ∧ Below w.heap.size w W) ∧ (cd = .ret ∧ (List.range rs.length).all (validAt host rs) = false ∨ ¬ Upto pre ∧ cd = .ret))
    (OwnFrom.and (OwnFrom.and (OwnFrom.and (Own.from (boxed_own _ _ _) _) (Own.from (boxed_own _ _ _) _)) (Own.from (cells_own _ _ _) _)) (OwnFrom.and (ownFrom_below (Nat.le_refl _) (by omega)) (ownFrom_pure _ _)))
    (fun cd => OwnFrom.and (OwnFrom.and (Own.from (boxed_own _ _ _) _) (ownFrom_below (Nat.le_refl _) (by omega))) (ownFrom_pure _ _))
    ⟨⟨⟨bR, bI⟩, bC⟩, hE1, fun i x hx => by simp at hx⟩
    (fun x a' W => ∃ Bx, w.heap.size + 2 < Bx ∧ Boxed W Bx 45 (V x) ∧ a' = { tmps := #[.agg #[.int .i64 host, .slice a n c], .pointer (some ⟨w.heap.size, 0, none⟩), .pointer (some ⟨w.heap.size + 1, 0, none⟩), .pointer (some ⟨w.heap.size + 1 + 1, 0, none⟩), .int .u64 (headF (rs.take x)), .pointer (some ⟨Bx, 0, none⟩), .pointer (some ⟨w.heap.size, 0, none⟩), .int .i64 host, .bool true, .bool false, .bool false, .pointer (some ⟨w.heap.size, 1, none⟩), .slice a n c, .int .i64 n, .bool false, .bool false, .pointer (some ⟨w.heap.size, 1, none⟩), .slice a n c, .func (.func 63) #[] #[.pointer (some ⟨w.heap.size + 3, 0, none⟩)], .int .u64 (headF (rs.take x)), .agg #[V x], undef, undef, undef, undef, undef, undef, undef, undef, undef], defers := [] })
    (fun x a' _ X Y row hs hg hr => by obtain ⟨Bx, h1, h2, h3⟩ := hs; exact ⟨Bx, h1, boxed_own Bx _ (fun (_ : Unit) => V x) () X Y row h2 hg (fun r e => (hr r e).2), h3⟩)
    ?assign ?body ?done ?stop
  case assign =>
    rintro l pre x W K ⟨⟨⟨bR1, bI1⟩, bC1⟩, hB1, hA1⟩ hK
    obtain ⟨a', n', c', hVx, hRx⟩ := hV.is x x.2
    simp only [encH, hVx] at hK ⊢
    gi_wp2
    exact hK _ _ ((KeepsOthers.alloc _ _).from _) (KpB.ofExt hB1.size ((Ext.refl W).alloc _)) ⟨⟨⟨bR1.alloc _, bI1.alloc _⟩, (Below.heap_alloc W _ _ (lt_of_block bC1)).trans bC1⟩, hB1.alloc hB1.size _, hA1⟩ ⟨W.heap.size, bI1.lt, Boxed.new W _ _, rfl⟩
  case body =>
    rintro l pre x a' W hl ⟨r, hr⟩ ⟨⟨⟨bR1, bI1⟩, bC1⟩, hB1, hA1⟩ ⟨Bx, hBx, bX, rfl⟩ hlt
    obtain ⟨a', n', c', hVx, hRx⟩ := hV.is x x.2
    rw [hVx] at bX
    simp only [hVx]
    have hpn : pre.length ≤ 199 := by have := HL.out; omega
    have cI : W.cell? ⟨w.heap.size + 1 + 1, 0, none⟩ = _ := bI1.cell
    have fI : W.frozen? ⟨w.heap.size + 1 + 1, 0, none⟩ = _ := bI1.frozen
    have bI2 := bI1.set (.int .i64 ((pre.length : Int) + 1))
    have bX2 := bX.other (B' := w.heap.size + 2) (by omega) (.int .i64 ((pre.length : Int) + 1))
    have bR2 := bR1.other (B' := w.heap.size + 2) (by omega) (.int .i64 ((pre.length : Int) + 1))
    have bC2 := (heap_setCell_other W ⟨w.heap.size + 2, 0, none⟩ w.heap.size (.int .i64 ((pre.length : Int) + 1)) (by simp)).trans bC1
    have hB2 := hB1.setCell (p := ⟨w.heap.size + 2, 0, none⟩) (by simp) (.int .i64 ((pre.length : Int) + 1))
    have hKo := KeepsOthers.setCell W ⟨w.heap.size + 2, 0, none⟩ (.int .i64 ((pre.length : Int) + 1))
    have hKp : KpB w.heap.size (fun k => k = w.heap.size + 1 ∨ k = w.heap.size + 2) W (W.setCell ⟨w.heap.size + 2, 0, none⟩ (.int .i64 ((pre.length : Int) + 1))) := KpB.set (B := fun k => k = w.heap.size + 1 ∨ k = w.heap.size + 2) (KpB.ofExt hB1.size (Ext.refl W)) (.inr rfl) (by omega) _
    have cI2 : (W.setCell ⟨w.heap.size + 1 + 1, 0, none⟩ (.int .i64 ((pre.length : Int) + 1))).cell? ⟨w.heap.size + 1 + 1, 0, none⟩ = _ := bI2.cell
    have cX2 : (W.setCell ⟨w.heap.size + 1 + 1, 0, none⟩ (.int .i64 ((pre.length : Int) + 1))).cell? ⟨Bx, 0, none⟩ = _ := bX2.cell
    have cC2 : (W.setCell ⟨w.heap.size + 1 + 1, 0, none⟩ (.int .i64 ((pre.length : Int) + 1))).cell? ⟨w.heap.size, 0, none⟩ = _ := cell_of_block bC2 0 _ rfl
    gi_wp2
    refine ⟨trivial, ?_⟩
    refine (CallsIn.inRound l (callsIn_wide.2 (fits_any a' n' c' _ host ((pre.length : Int) + 1) _ hho (by have := nat_wf (n := pre.length + 1) (by omega); simpa using this) (headF_rng (rs.take x)) _ (hRx.ext hB2) (TB.ext HT.out hB2)))).mono ?_
    rintro e w4 ⟨rfl, hE4⟩
    have hg4 := grownBy_of_ext hE4
    have bR4 : Boxed w4 (w.heap.size + 1) 4 _ := bR2.kept hg4 (by simp)
    have bI4 : Boxed w4 (w.heap.size + 2) 3 _ := bI2.kept hg4 (by simp)
    have bC4 := (hE4.block _ (lt_of_block bC2)).trans bC2
    have hB4 : Below w.heap.size w w4 := Below.trans hB2 (Below.mono hE4 hB2.size)
    have hKo4 := hKo.trans (KeepsOthers.of_grownBy hg4 (fun _ _ e => by cases e))
    have hKp4 := hKp.trans (KpB.ofExt hB2.size hE4)
    have cR4 := bR4.cell
    have fR4 := bR4.frozen
    rcases hf : okF host rs pre.length x with _ | _
    · have hf2 : fitsF host ((pre.length : Int) + 1) (headF (rs.take x)) (nthS rs x) = false := hf
      have hf3 := Lib.hid hf
      clear hf cI fI cI2 cX2 cC2
      rw [hf2]
      clear hf2
      gi_wp2
      refine ⟨(hKo4.trans (KeepsOthers.setCell _ _ _)).from _, ⟨bR4.set _, hB4.setCell (p := ⟨w.heap.size + 1, 0, none⟩) (by simp) _⟩, ?_⟩
      by_cases hu : Upto (pre ++ [x])
      · exact .inl ⟨rfl, not_ok (i := pre.length) (x := x) hu (by simp) hf3.out⟩
      · exact .inr ⟨hu, rfl⟩
    · have hf2 : fitsF host ((pre.length : Int) + 1) (headF (rs.take x)) (nthS rs x) = true := hf
      have hf3 := Lib.hid hf
      clear hf cI fI cI2 cX2 cC2
      rw [hf2]
      clear hf2
      gi_wp2
      refine ⟨hKo4.from _, hKp4, ⟨⟨bR4, ?_⟩, bC4⟩, hB4, hA1.snoc hf3.out⟩
      have el : (((pre ++ [x]).length : Nat) : Int) = (pre.length : Int) + 1 := by simp
      rw [el]
      exact bI4
  case done =>
    rintro D zs W hD ⟨hl, hu⟩ ⟨⟨⟨bR1, bI1⟩, bC1⟩, hB1, hA1⟩ hK
    have hall := Lib.hid (all_ok hl hu hA1)
    have cR := bR1.cell
    have fR := bR1.frozen
    have bR2 := bR1.set (.bool true)
    have hK2 := (KeepsOthers.setCell W ⟨w.heap.size + 1, 0, none⟩ (.bool true)).same D _ hK rfl
    have hB2 := hB1.setCell (p := ⟨w.heap.size + 1, 0, none⟩) (by simp) (.bool true)
    gi_wp2
    refine ⟨by simp, .inl ⟨_, _, rfl, run_takeDeferred hK2, ?_⟩⟩
    have cR3 := cell_kept bR2.cell (grownBy_putObj' _ D (.deferred none)) (fun r e => by cases e; exact ⟨_, hK2, rfl⟩)
    exact ⟨.bool true, by simp [results, Tryz.results20, go_sem, cR3], by rw [hall.out], hB2.trans (belowK_b (w := w) (Nat.le_refl _) _ D _ _ (by omega) hK2 rfl rfl)⟩
  case stop =>
    rintro D cd pre W hD hup ⟨⟨bR1, hB1⟩, hcd⟩ hK
    have hcd2 : cd = .ret ∧ (List.range rs.length).all (validAt host rs) = false := by
      rcases hcd with h | ⟨h, _⟩
      · exact h
      · exact absurd hup h
    obtain ⟨rfl, hall⟩ := hcd2
    gi_wp2
    refine ⟨by simp, .inl ⟨_, _, rfl, run_takeDeferred hK, ?_⟩⟩
    have cR3 := cell_kept bR1.cell (grownBy_putObj' _ D (.deferred none)) (fun r e => by cases e; exact ⟨_, hK, rfl⟩)
    exact ⟨.bool false, by simp [results, Tryz.results20, go_sem, cR3], rfl, hB1.trans (belowK_b (w := w) (Nat.le_refl _) _ D _ _ (by omega) hK rfl rfl)⟩
end Go.Proofs.YtdmfdimhjemngaaGreatDoor
