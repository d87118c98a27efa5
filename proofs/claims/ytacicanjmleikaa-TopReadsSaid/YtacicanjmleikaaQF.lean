/-
  Package versions, walked: the search, upTo, last. Written by wip/gen_qf.py.
-/
import Derived.Test.YtacicanjmleikaaQE
namespace Go.Proofs.Ytacicanjmleikaa
open Go.RowKit Go.Sort Go.Shelf
set_option linter.unusedSimpArgs false
set_option linter.unusedVariables false
set_option maxRecDepth 100000

theorem ltV_down {l : List Vn} (h : AscV l) {T : Vn} {i j : Nat} (hij : i ≤ j) (hj : j < l.length) (hl : ordF (nthR l j) T < 0) : ordF (nthR l i) T < 0 := by
  rw [ordF_lt] at hl ⊢
  rcases Nat.lt_or_ge i j with h1 | h1
  · exact ltV_trans (h i j h1 hj) hl
  · obtain rfl : i = j := by omega
    exact hl
/-- What the search finds. -/
def SrV (l : List Vn) (T : Vn) (n : Nat) (w w' : World) (e : Ending) : Prop := ∃ (i : Nat) (B : Bool), e = .returned (.tuple #[.int .i64 (i : Int), .bool B]) ∧ Ext w w' ∧ i ≤ n ∧ (∀ j, j < i → ordF (nthR l j) T < 0) ∧ (∀ j, i ≤ j → j < n → ¬ ordF (nthR l j) T < 0) ∧ (B = true ↔ i < n ∧ ordF (nthR l i) T = 0)

set_option maxHeartbeats 4000000 in
theorem vsearch_any (a : Option Addr) (n c : Nat) (l : List Vn) (T : Vn) (w : World) (h1 : Rw w a n c l) (hs : AscV l) :
    Calls Try.prog 53 #[.slice a n c, valV T, .func (.func 54) #[] #[]] w fun e w' => SrV l T n w w' e := by
  have bd := h1.bd
  have HL := Lib.hid h1.hlen
  have HR := Lib.hid hs
  have HO := Lib.hid (fun x W => vup1_any x T W)
  clear hs
  have HD : Hid (∀ i j, i ≤ j → j < n → ordF (nthR l j) T < 0 → ordF (nthR l i) T < 0) := Lib.hid (fun i j hij hj h => ltV_down HR.out hij (by rw [HL.out]; exact hj) h)
  have HDEF : Hid (∀ e w', SrV l T n w w' e = SrV l T n w w' e) := Lib.hid (fun _ _ => rfl)
  obtain ⟨F, hF⟩ : ∃ F : Nat → Int, F = fun j => ordF (nthR l j) T := ⟨_, rfl⟩
  have HF := Lib.hid hF
  clear hF
  have HOF : Hid (∀ j W, Calls Try.prog 54 #[valV (nthR l j), valV T] W fun e w' => e = .returned (.int .i64 (F j)) ∧ Ext W w') := Lib.hid (fun j W => by rw [HF.out]; exact HO.out _ W)
  have HDF : Hid (∀ i j, i ≤ j → j < n → F j < 0 → F i < 0) := Lib.hid (fun i j hij hj h => by rw [HF.out] at h ⊢; exact HD.out i j hij hj h)
  obtain ⟨k, t, v, g⟩ := T
  have hE : Ext w (w.alloc (.cells #[.int .i64 k, .int .i64 t, .int .i64 v, .bool g] 47)) := (Ext.refl w).alloc _
  have hT := World.alloc_heap_new w (.cells #[.int .i64 k, .int .i64 t, .int .i64 v, .bool g] 47)
  unfold valV at *
  go_enter Try.func53, Try.ntmps53
  go_upto_region 1 with fail
  generalize w.alloc (.cells #[.int .i64 k, .int .i64 t, .int .i64 v, .bool g] 47) = V at *
  have C0 := Lib.hid (cell_of_block hT 0 _ rfl)
  have C1 := Lib.hid (cell_of_block hT 1 _ rfl)
  have C2 := Lib.hid (cell_of_block hT 2 _ rfl)
  have C3 := Lib.hid (cell_of_block hT 3 _ rfl)
  have L0 := Lib.hid (lt_of_block hT)
  clear hT
  generalize w.heap.size = tb at *
  go_wp2_with fail
  go_loopw [9, 10] (fun s9 s10 wr => ∃ (lo hi : Nat), s9 = .int .i64 lo ∧ s10 = .int .i64 hi ∧ lo ≤ hi ∧ hi ≤ n ∧ Ext V wr ∧ Hid ((∀ i : Nat, i < lo → F i < 0) ∧ (∀ i : Nat, hi ≤ i → i < n → ¬ F i < 0))) (fun s9 s10 _ => (intOf s10).toNat - (intOf s9).toNat)
  case atStart => exact ⟨0, n, rfl, rfl, by omega, by omega, Ext.refl _, Lib.hid ⟨fun i hi => by omega, fun i h1 h2 => by omega⟩⟩
  case round =>
    obtain ⟨lo, hi, rfl, rfl, hlh, h9, hx, I⟩ := hrel
    by_cases hlt : lo < hi
    · obtain ⟨h, hh⟩ : ∃ h : Nat, (lo + hi) / 2 = h := ⟨_, rfl⟩
      have hm : ((lo : Int) + (hi : Int)) / 2 = (h : Int) := by omega
      have hhn : h < n := by omega
      have hh1 : lo ≤ h ∧ h < hi := by omega
      obtain ⟨x1, o1, rfl, hc1⟩ := h1.at (by omega)
      have hrr := rangeAt_ext (hc1 h hhn) (hE.trans hx)
      rw [sz_vn] at hrr
      have HC := Lib.hid (HOF.out h)
      have HD1 := Lib.hid (fun i hi hh => HDF.out i h hi hhn hh)
      have HD2 := Lib.hid (fun i hi hin hh => HDF.out h i hi hin hh)
      clear hc1 hh
      generalize nthR l h = x at *
      generalize hfd : F h = fd at *
      have HFD := Lib.hid hfd
      clear hfd
      obtain ⟨d0, d1, d2, d3⟩ := cells_vn hrr
      have l1 := lt_of_cell d0
      clear hrr
      have c0 := hx.cell C0.out
      have c1 := hx.cell C1.out
      have c2 := hx.cell C2.out
      have c3 := hx.cell C3.out
      have l2 : tb < wr.heap.size := Nat.lt_of_lt_of_le L0.out hx.sz
      have hg := @grow_cell
      by_cases hp : fd < 0
      · have HP := Lib.hid hp
        go_upto_region 5 with fail
        refine region_ext (by kernel_rfl) (by kernel_rfl) ?_
        repeat (go_big_quiet_step ((go_at_call 54; exact Calls.regrown_of (HC.out _))))
        refine wpQuiet_nil ?_
        intro W1 hx1
        go_wp2_with fail
        refine ⟨⟨h + 1, hi, by go_num, rfl, by omega, h9, hx.trans hx1, Lib.hid ⟨fun i hi' => HD1.out i (by omega) HP.out, I.out.2⟩⟩, ?_⟩
        simp only [intOf]
        omega
      · have HP := Lib.hid hp
        have hp1 : 0 ≤ fd := by omega
        go_upto_region 5 with fail
        refine region_ext (by kernel_rfl) (by kernel_rfl) ?_
        repeat (go_big_quiet_step ((go_at_call 54; exact Calls.regrown_of (HC.out _))))
        refine wpQuiet_nil ?_
        intro W1 hx1
        go_wp2_with fail
        refine ⟨⟨lo, h, rfl, rfl, by omega, by omega, hx.trans hx1, Lib.hid ⟨I.out.1, fun i hi' hin hh => HP.out (HD2.out i (by omega) hin hh)⟩⟩, ?_⟩
        simp only [intOf]
        omega
    · obtain rfl : lo = hi := by omega
      by_cases hn : lo < n
      · obtain ⟨x1, o1, rfl, hc1⟩ := h1.at (by omega)
        have hrr := rangeAt_ext (hc1 lo hn) (hE.trans hx)
        rw [sz_vn] at hrr
        have HC := Lib.hid (HOF.out lo)
        clear hc1
        generalize nthR l lo = x at *
        generalize hfd : F lo = fd at *
        have HFD := Lib.hid hfd
        clear hfd
        obtain ⟨d0, d1, d2, d3⟩ := cells_vn hrr
        have l1 := lt_of_cell d0
        clear hrr
        have c0 := hx.cell C0.out
        have c1 := hx.cell C1.out
        have c2 := hx.cell C2.out
        have c3 := hx.cell C3.out
        have l2 : tb < wr.heap.size := Nat.lt_of_lt_of_le L0.out hx.sz
        have hg := @grow_cell
        go_upto_region 8 with fail
        refine region_ext (by kernel_rfl) (by kernel_rfl) ?_
        repeat (go_big_quiet_step ((go_at_call 54; exact Calls.regrown_of (HC.out _))))
        refine wpQuiet_nil ?_
        intro W1 hx1
        go_wp2_with fail
        go_ret2
        exact ⟨lo, fd == 0, rfl, hE.trans (hx.trans hx1), h9, fun j hj => by have := I.out.1 j hj; rw [HF.out] at this; exact this, fun j hj hjn => by have := I.out.2 j hj hjn; rw [HF.out] at this; simp only at this; omega, by
          have e : fd = ordF (nthR l lo) ⟨k, t, v, g⟩ := by rw [← HFD.out, HF.out]
          rw [← e, beq_iff_eq]
          exact ⟨fun h => ⟨hn, h⟩, fun h => h.2⟩⟩
      · have hnn : ¬ ((lo : Int) < (n : Int)) := by omega
        have hnd : decide ((lo : Int) < (n : Int)) = false := decide_eq_false hnn
        have c0 := hx.cell C0.out
        have c1 := hx.cell C1.out
        have c2 := hx.cell C2.out
        have c3 := hx.cell C3.out
        have l2 : tb < wr.heap.size := Nat.lt_of_lt_of_le L0.out hx.sz
        have hg := @grow_cell
        go_upto_region 8 with fail
        refine region_ext (by kernel_rfl) (by kernel_rfl) ?_
        repeat (go_big_quiet_step (fail))
        refine wpQuiet_nil ?_
        intro W1 hx1
        go_wp2_with fail
        go_ret2
        exact ⟨lo, false, rfl, hE.trans (hx.trans hx1), h9, fun j hj => by have := I.out.1 j hj; rw [HF.out] at this; exact this, fun j hj hjn => by have := I.out.2 j hj hjn; rw [HF.out] at this; simp only at this; omega, by
          constructor
          · intro h; cases h
          · rintro ⟨h, _⟩; exact absurd h hn⟩
end Go.Proofs.Ytacicanjmleikaa
