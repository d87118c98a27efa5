/-
  The codec, part two.
-/
import Derived.Test.YtdmfdimhjemngaaGreatDoorWA0
import Derived.Lib.Zigzag
import Derived.Shelf.Abstract
import Derived.StillTailTactics

namespace Go.Proofs.YtdmfdimhjemngaaGreatDoor
open Go.RowKit Go.Sort Go.Shelf
set_option linter.unusedSimpArgs false
set_option linter.unusedVariables false
set_option maxRecDepth 100000
attribute [local go_sem] Oper.semAt_some

set_option maxHeartbeats 400000 in
theorem digits_any (u : Int) (w : World) :
    Calls Tryz.prog 98 #[.int .u64 u] w fun e w' => e = .returned (.func (.func 100) #[] #[.pointer (some ⟨w.heap.size, 0, none⟩)]) ∧ w.alloc (.cells #[.int .u64 u] 26) = w' := by
  have hmf : ∀ (fn : Fn) (first cap : Array Value) (w : World), (Instr.makeFunc fn first cap).run Tryz.prog w = .ok (.func fn first cap) w := fun _ _ _ _ => rfl
  go_enter Tryz.func98, Tryz.ntmps98
  go_wp2
  go_ret
  exact ⟨rfl, rfl⟩

theorem bit7 {x : Int} (h : 0 ≤ x ∧ x ≤ 255) : bits .or .u8 x 128 = x % 128 + 128 := by
  obtain ⟨n, rfl⟩ : ∃ n : Nat, x = (n : Int) := ⟨x.toNat, by omega⟩
  have : n < 256 := by omega
  have key : ∀ n, n < 256 → bits .or .u8 ((n : Nat) : Int) 128 = ((n : Nat) : Int) % 128 + 128 := by decide
  exact key n this

theorem digits1_in (F : Fence) (n : Nat) (hF : F.fn 100) (hro : F.round = none) (hn : 1 ≤ n) (Bp U : Nat) (hU : U < 18446744073709551616) :
    SeqP F n Tryz.prog 100 #[.pointer (some ⟨Bp, 0, none⟩)] (Value.int .u8) Bp 26 (fun xs => xs = digs U) 10 (.int .u64 U) := by
  intro l J W hset hY h0 hb
  have hdl := (digs_len U).2 10 (by omega)
  have HDL := Lib.hid hdl
  clear hdl
  refine callsIn_of_wp Tryz.func100 rfl hF ?_ hro
  simp only [Tryz.ntmps100, List.size_toArray, List.length_cons, List.length_nil, Nat.reduceAdd, Nat.reduceSub, Array.replicate_succ, Array.replicate_zero, List.push_toArray, List.append_toArray, List.nil_append, List.cons_append]
  gi_wp2
  gi_loopw [] (fun wr => ∃ (u : Nat) (pre : List Int), u < 18446744073709551616 ∧ digs U = pre ++ digs u ∧ J pre wr ∧ Boxed wr Bp 26 (.int .u64 u)) (fun wr => match wr.cell? ⟨Bp, 0, none⟩ with | some (.int _ x) => x.toNat | _ => 0)
  case atStart => exact ⟨U, [], hU, rfl, h0, hb⟩
  case round =>
    obtain ⟨u, pre, hu, hd, hJ, hbx⟩ := hrel
    have hc := hbx.cell
    have hf := hbx.frozen
    have HD := Lib.hid hd
    clear hd
    by_cases hlt : u < 128
    · have hlen : pre.length < 10 := by
        have h1 := HDL.out; rw [HD.out, List.length_append] at h1; have h2 := (digs_len u).1; simp at h1; omega
      obtain ⟨fn, tmps, assign, body, hy, hR⟩ := hY pre (u : Int) wr _ hJ hbx hlen
      have h256 : (u : Int) % 256 = u := by omega
      gi_wp2
      refine hR.mono ?_
      rintro e W' ⟨rfl, hJ', hb'⟩
      gi_wp2
      go_end0
      exact ⟨⟨_, rfl⟩, _, by rw [HD.out, digs_small hlt], hJ'⟩
    · have hlen : pre.length < 10 := by
        have h1 := HDL.out; rw [HD.out, List.length_append] at h1; have h2 := (digs_len u).1; simp at h1; omega
      obtain ⟨fn, tmps, assign, body, hy, hR⟩ := hY pre (bits .or .u8 ((u : Int) % 256) 128) wr _ hJ hbx hlen
      gi_wp2
      refine hR.mono ?_
      rintro e W' ⟨rfl, hJ', hb'⟩
      have hc' := hb'.cell
      have hf' := hb'.frozen
      have hbs := hb'.set (.int .u64 ((u : Int) / 128))
      gi_wp2
      go_roundw
      case rel =>
        refine ⟨u / 128, _, by omega, ?_, hset _ _ _ _ hJ' hb', hbs⟩
        rw [HD.out, digs_big hlt, bit7 (by omega), List.append_assoc]
        congr 2
        omega
      case measure => 
        rw [hc, hbs.cell]
        simp; omega

theorem zig {n : Int} (h : -9223372036854775808 ≤ n ∧ n ≤ 9223372036854775807) :
    bits .xor .u64 (IntKind.u64.wrap (IntKind.u64.wrap n * 2)) (IntKind.u64.wrap (n / 9223372036854775808)) = (num n : Int) := by
  by_cases hn : n < 0
  · have e1 : IntKind.u64.wrap n = n + 18446744073709551616 := by rw [IntKind.wrap_u64]; omega
    have e2 : IntKind.u64.wrap ((n + 18446744073709551616) * 2) = ((2 * n + 18446744073709551616).toNat : Int) := by rw [IntKind.wrap_u64]; omega
    have e3 : IntKind.u64.wrap (n / 9223372036854775808) = ((2 ^ 64 - 1 : Nat) : Int) := by rw [IntKind.wrap_u64]; omega
    rw [e1, e2, e3, u64_xor_nat _ _ (by omega) (by omega), Nat.xor_comm, Lib.xor_ones64 _ (by omega)]
    have := num_neg hn
    omega
  · have e1 : IntKind.u64.wrap n = n := by rw [IntKind.wrap_u64]; omega
    have e2 : IntKind.u64.wrap (n * 2) = ((2 * n).toNat : Int) := by rw [IntKind.wrap_u64]; omega
    have e3 : IntKind.u64.wrap (n / 9223372036854775808) = ((0 : Nat) : Int) := by rw [IntKind.wrap_u64]; omega
    rw [e1, e2, e3, u64_xor_nat _ _ (by omega) (by omega), Nat.xor_zero]
    have := num_pos hn
    omega

theorem owi_kept_other {k : IntKind} {E : TypeId} {base : Nat} {W W' : World} {row : Option Nat} {a : Option Addr} {n c : Nat} {xs : List Int} (h : OwI k E base W a n c xs) (hg : W.grownBy W' row)
    (hne : ∀ r, row = some r → ∃ o : Obj, W.heap[r]? = some o ∧ o.isCells = false) : OwI k E base W' a n c xs := by
  refine World.ownsRow.kept h hg ?_
  rcases h.2 with ⟨hv, _⟩ | ⟨g, cap, cur, hv, _, hb, _⟩
  · left; rw [hv]; rfl
  · right
    rw [hv]
    intro e
    obtain ⟨o, ho, hn⟩ := hne g e.symm
    rw [hb] at ho; cases ho; cases hn

/-- The byte behind 'put'. -/
theorem holds_put (E T : TypeId) (hTE : T ≠ E) (base B0 B : Nat) (w0 : World) (n1 : Nat) (xs : List Int) (hB : base ≤ B) :
    OwnFrom B (fun (pre : List Int) W => ∃ a c, Boxed W B0 T (.slice a (n1 + pre.length) c) ∧ OwI .u8 E base W a (n1 + pre.length) c (xs ++ pre) ∧ Below base w0 W ∧ base ≤ W.heap.size) := by
  rintro pre W W' row ⟨a, c, h1, h2, h3, hb⟩ hg hr
  have hne : ∀ r, row = some r → ∃ o : Obj, W.heap[r]? = some o ∧ o.isCells = false := fun r e => (hr r e).2
  refine ⟨a, c, h1.kept hg ?_, ?_, h3.grown hg hb ?_, Nat.le_trans hb hg.size⟩
  · intro e
    obtain ⟨o, ho, hn⟩ := hne B0 e.symm
    have h1' : W.heap[B0]? = some (.cells #[_] T (0, 0)) := h1
    rw [ho] at h1'; cases h1'; cases hn
  · exact owi_kept_other h2 hg hne
  · intro k e; have := (hr k e).1; omega

set_option maxHeartbeats 800000 in
theorem put_any (base : Nat) (a1 : Option Addr) (n1 c1 : Nat) (xs : List Int) (n : Int) (w : World) (hn : -9223372036854775808 ≤ n ∧ n ≤ 9223372036854775807)
    (h1 : OwI .u8 5 base w a1 n1 c1 xs) (hb : base ≤ w.heap.size) (hsz : n1 ≤ 1000000) :
    Calls Tryz.prog 96 #[.slice a1 n1 c1, .int .i64 n] w fun e w' => ∃ g c, e = .returned (.slice (some ⟨g, 0, none⟩) (n1 + (digs (num n)).length) c) ∧
      OwI .u8 5 base w' (some ⟨g, 0, none⟩) (n1 + (digs (num n)).length) c (xs ++ digs (num n)) ∧ Below base w w' := by
  refine (callsIn_wide (n := 3)).1 ?_
  refine callsIn_of_wp_marks Tryz.func96 rfl trivial ?_ rfl
  simp only [Tryz.ntmps96, List.size_toArray, List.length_cons, List.length_nil, Nat.reduceAdd, Nat.reduceSub, Array.replicate_succ, Array.replicate_zero, List.push_toArray, List.append_toArray, List.nil_append, List.cons_append]
  have hz := zig hn
  have hnl := num_lt hn
  have hl10 := Lib.hid (digs_num_len hn)
  generalize num n = U at *
  gi_wp2_with (refine ⟨trivial, ?_⟩; gi_at_call 98; refine (callsIn_wide.2 (digits_any _ _)).mono ?_; rintro e w1 ⟨rfl, rfl⟩)
  obtain ⟨i0, hi, hz0, hz1, hz2⟩ := info_parts el_u8.2
  have hbw0 : Boxed (w.alloc (.cells #[.slice a1 n1 c1] 30)) w.heap.size 30 (.slice a1 n1 c1) := Boxed.new w _ _
  have hbp0 : Boxed ((w.alloc (.cells #[.slice a1 n1 c1] 30)).alloc (.cells #[.int .u64 U] 26)) (w.heap.size + 1) 26 (.int .u64 U) := by
    have := Boxed.new (w.alloc (.cells #[.slice a1 n1 c1] 30)) 26 (.int .u64 U)
    simpa using this
  refine wpIn_rangeP rfl (by omega) (gf := 100) (lb := #[.pointer (some ⟨w.heap.size + 1, 0, none⟩)]) rfl trivial (enters_of Tryz.func100 (by kernel_rfl) rfl)
    (digits1_in Fence.wide (3 - 1) trivial rfl (by omega) (w.heap.size + 1) U hnl) rfl
    (fun (pre : List Int) W => ∃ a c, Boxed W w.heap.size 30 (.slice a (n1 + pre.length) c) ∧ OwI .u8 5 base W a (n1 + pre.length) c (xs ++ pre) ∧ Below base w W ∧ base ≤ W.heap.size)
    (holds_put 5 30 (by decide) base w.heap.size _ w n1 xs (by simp; omega)) ?_ ⟨a1, c1, hbw0.alloc _, ?_, ?_, by simp; omega⟩ hbp0
    (fun x => { tmps := #[.slice a1 n1 c1, .int .i64 n, .pointer (some ⟨w.heap.size, 0, none⟩), undef, .slice none 0 0, .int .u8 x, .int .i64 n, .int .u64 (IntKind.u64.wrap n), .int .u64 (IntKind.u64.wrap (IntKind.u64.wrap n * 2)), .int .i64 n,
      .int .i64 (n / 9223372036854775808), .int .u64 (IntKind.u64.wrap (n / 9223372036854775808)), .int .u64 U, .func (.func 100) #[] #[.pointer (some ⟨w.heap.size + 1, 0, none⟩)], .int .u8 x, undef, undef, undef, undef, undef], defers := [] })
    ?assign ?body ?done
  case assign =>
    intro l x W K hK
    gi_wp2
    exact hK
  case body =>
    rintro l pre x v W ⟨a, c, hv, hrow, hB, hbs⟩ hbp hlen
    have hc := hv.cell
    have hf := hv.frozen
    gi_wp2_with (gi_at_builtin; refine wpListIn_append_own _ rfl _ _ 30 rfl base 5 i0 (.int .u8 0) 1 1 el_u8.1 hi hz0 hz1 hz2 rfl (by decide) _ _ _ rfl (World.ownsRow.alloc hrow _) ⟨W.heap.size, 0, none⟩ 1 1 [.int .u8 x] rfl rfl (cell_one_new _ _ _) (by simp [Value.oneCell']) (by unfold maxLen; omega) (by omega) (by simp; omega) ?_; intro v' w1 hown' hgrow _; obtain ⟨g', cap', rfl⟩ := ownsRow_succ hown'; obtain ⟨hv1, hv2, hr2, hk2, hb2⟩ := hv.appended (by decide) hrow hbs (by omega) hown' hgrow; have hc1 := hv1.cell; have hf1 := hv1.frozen)
    have hbp1 : Boxed w1 (w.heap.size + 1) 26 v := (hbp.alloc _).kept hgrow (hbp.not_row (by decide) hrow)
    have el : (pre ++ [x]).length = pre.length + 1 := by simp
    refine ⟨hk2, ⟨some ⟨g', 0, none⟩, cap', ?_, ?_, hB.trans hb2, Nat.le_trans hbs hb2.size⟩, hbp1.other (by omega) _⟩
    · rw [el]; exact hv2
    · unfold OwI; rw [el, ← List.append_assoc, List.map_append]; exact hr2
  case done =>
    rintro D ys W hD rfl ⟨a, c, hv, hrow, hB, hbs⟩ hK
    have hc := hv.cell
    gi_wp2
    refine ⟨by simp, .inl ⟨_, _, rfl, run_takeDeferred hK, ?_⟩⟩
    obtain ⟨g, c', hs⟩ : ∃ g c', Value.slice a (n1 + (digs U).length) c = .slice (some ⟨g, 0, none⟩) (n1 + (digs U).length) c' := by
      obtain ⟨m, hm⟩ : ∃ m, n1 + (digs U).length = m + 1 := ⟨n1 + (digs U).length - 1, by have := hl10.out; omega⟩
      unfold OwI at hrow
      rw [hm] at hrow ⊢
      exact ownsRow_succ hrow
    simp only [Value.slice.injEq] at hs
    obtain ⟨rfl, _, rfl⟩ := hs
    exact ⟨_, results_tmp rfl _ _ _, g, c, rfl, ownsRow_putObj hrow _ hK rfl, hB.trans (belowK_b (w := w) (by omega) W D _ _ (by simp at hD; omega) hK rfl rfl)⟩
  · rintro pre A v v' ⟨a, c, hv, hrow, hB, hbs⟩ hbp
    refine ⟨a, c, hv.other (by omega) _, ?_, hB.setCell (p := ⟨_, 0, none⟩) (by simp; omega) _, by simp [World.setCell]; omega⟩
    exact World.ownsRow.kept hrow (grownBy_setCell' A _ _) (.inr (hbp.not_row (by decide) hrow).symm)
  · simp only [List.length_nil, Nat.add_zero, List.append_nil]
    exact World.ownsRow.alloc (World.ownsRow.alloc h1 _) _
  · exact ((Below.refl base w).alloc hb _).alloc (by simp; omega) _

end Go.Proofs.YtdmfdimhjemngaaGreatDoor

namespace Go.Proofs.YtdmfdimhjemngaaGreatDoor
open Go.RowKit Go.Sort Go.Shelf
set_option linter.unusedSimpArgs false
set_option linter.unusedVariables false
set_option maxRecDepth 100000

set_option maxHeartbeats 400000 in
theorem put2_any (a1 : Option Addr) (n1 c1 : Nat) (xs : List Int) (w : World) (h1 : Sl .i64 w a1 n1 c1 xs) (hs : n1 ≤ 1000) :
    Calls Tryz.prog 85 #[.slice a1 n1 c1] w fun e w' => ∃ g c, e = .returned (.tuple #[.slice (some ⟨g, 0, none⟩) (lput xs).length c, .int .i64 0]) ∧
      OwI .u8 5 w.heap.size w' (some ⟨g, 0, none⟩) (lput xs).length c (lput xs) ∧ Ext w w' := by
  have b1 := h1.bd
  have e1 := Lib.hid h1.hlen
  go_enter Tryz.func85, Tryz.ntmps85
  go_wp2_with (go_at_call 96; refine (put_any w.heap.size _ _ _ [] n1 _ (by omega) (OwI.nil _ _ _ _) (Nat.le_refl _) (by omega)).mono ?_; rintro e w1 ⟨g, c, rfl, ho1, hB1⟩)
  simp only [Nat.zero_add, List.nil_append] at ho1
  have hl1 := digs_num_len (n := n1) (by omega)
  have hq : Hid (digs (num xs.length) = digs (num n1)) := by have := e1.out; unfold Hid; rw [this]
  generalize digs (num n1) = ds at *
  go_loopw [4, 15] (fun o i wr => ∃ (k m g c : Nat) (ys : List Int), k ≤ n1 ∧ i = .int .i64 k ∧ o = .slice (some ⟨g, 0, none⟩) m c ∧ m = ys.length ∧ m ≤ 10 + 10 * k ∧ ys = ds ++ (xs.take k).flatMap (fun x => digs (num x)) ∧ OwI .u8 5 w.heap.size wr (some ⟨g, 0, none⟩) m c ys ∧ Ext w wr) (fun _ i _ => n1 - (intOf i).toNat)
  case atStart => exact ⟨0, ds.length, g, c, ds, by omega, rfl, rfl, rfl, by omega, by simp, ho1, hB1⟩
  case round =>
    obtain ⟨k, m, g, c, ys, hk, rfl, rfl, hm, hm2, hys, ho, hE⟩ := hrel
    have HM := Lib.hid hm
    have HY := Lib.hid hys
    clear hm hys
    by_cases hlt : k < n1
    · obtain ⟨x1, o1, rfl, hc1⟩ := h1.at (by omega)
      have g1 := hE.cell (hc1 k hlt)
      have w1 := wf_i64 (h1.wfAt hlt)
      have hl2 := digs_num_len w1
      clear hc1
      go_wp2_with (go_at_call 96; refine (put_any w.heap.size _ _ _ ys _ _ w1 ho hE.sz (by omega)).mono ?_; rintro e w2 ⟨g2, c2, rfl, ho2, hB2⟩)
      go_roundw
      case rel => exact ⟨k + 1, _, g2, c2, _, by omega, by go_num, rfl, by rw [List.length_append, HM.out], by omega, by rw [flatMap_take_succ (by rw [e1.out]; omega), ← List.append_assoc, ← HY.out], ho2, Below.trans hE hB2⟩
      case measure => simp [intOf]; omega
    · go_wp2
      go_ret2
      have hx : lput xs = ys := by rw [HY.out, lput, hq.out, List.take_of_length_le (by have := e1.out; omega)]
      rw [hx, ← HM.out]
      exact ⟨g, c, rfl, ho, hE⟩

theorem put2_big (a1 : Option Addr) (n1 c1 : Nat) (xs : List Int) (w : World) (h1 : Sl .i64 w a1 n1 c1 xs) (hs : 1000 < n1) :
    Calls Tryz.prog 85 #[.slice a1 n1 c1] w fun e w' => e = .returned (.tuple #[.slice none 0 0, .int .i64 2]) ∧ w = w' := by
  have b1 := h1.bd
  go_enter Tryz.func85, Tryz.ntmps85
  go_wp2
  go_ret2
  exact ⟨rfl, rfl⟩


def Boxed8 (wr : World) (b : Nat) : Prop := OwI .u8 128 b wr (some ⟨b, 0, none⟩) 8 8 (List.replicate 8 0)

end Go.Proofs.YtdmfdimhjemngaaGreatDoor

namespace Go.Proofs.YtdmfdimhjemngaaGreatDoor
open Go.RowKit Go.Sort Go.Shelf
set_option linter.unusedSimpArgs false
set_option linter.unusedVariables false
set_option maxRecDepth 100000

/-- The panic that a reader's need ends in. -/
def formPanic : List PanicEntry := [{ v := .iface 34 (.int .i64 7), recovered := false }]

set_option maxHeartbeats 400000 in
theorem need_yes (w : World) : Calls Tryz.prog 93 #[.bool true] w fun e w' => e = .returned (.tuple #[]) ∧ w = w' := by
  go_enter Tryz.func93, Tryz.ntmps93
  go_wp2
  go_end0
  exact ⟨rfl, rfl⟩

set_option maxHeartbeats 400000 in
theorem need_no (w : World) : Calls Tryz.prog 93 #[.bool false] w fun e w' => e = .panicked formPanic ∧ w = w' := by
  go_enter Tryz.func93, Tryz.ntmps93
  go_wp2
  exact ⟨rfl, rfl, rfl⟩

/-- The reader in block R: its bytes and its place. -/
def Rdr (w : World) (R : Nat) (a : Option Addr) (n c at_ : Nat) : Prop := w.heap[R]? = some (.cells #[.slice a n c, .int .i64 at_] 134 (0, 0))

theorem Rdr.c0 {w : World} {R : Nat} {a : Option Addr} {n c at_ : Nat} (h : Rdr w R a n c at_) : w.cell? ⟨R, 0, none⟩ = some (.slice a n c) := by
  rw [cell_of_row w R 0 _ _ _ h]; rfl
theorem Rdr.c1 {w : World} {R : Nat} {a : Option Addr} {n c at_ : Nat} (h : Rdr w R a n c at_) : w.cell? ⟨R, 1, none⟩ = some (.int .i64 at_) := by
  rw [cell_of_row w R 1 _ _ _ h]; rfl
theorem Rdr.f {w : World} {R : Nat} {a : Option Addr} {n c at_ : Nat} (h : Rdr w R a n c at_) (j : Nat) : w.frozen? ⟨R, j, none⟩ = false := frozen_of_row w R j _ _ h
theorem Rdr.set {w : World} {R : Nat} {a : Option Addr} {n c at_ : Nat} (h : Rdr w R a n c at_) (m : Nat) : Rdr (w.setCell ⟨R, 1, none⟩ (.int .i64 m)) R a n c m := by
  have := heap_setCell_same w R 1 _ _ (.int .i64 m) h
  exact this
theorem Rdr.ext {w w' : World} {R : Nat} {a : Option Addr} {n c at_ : Nat} (h : Rdr w R a n c at_) (he : Ext w w') : Rdr w' R a n c at_ :=
  (he.block R (Array.getElem?_eq_some_iff.1 h).1).trans h

theorem grown_ext {w wr w' : World} {row : Option Nat} (hg : w.grownBy wr row) (he : Ext wr w') : w.grownBy w' row :=
  ⟨he.os.trans hg.os, he.tape.trans hg.tape, he.output.trans hg.output, Nat.le_trans hg.size he.size, fun k hk hne => (he.block k (Nat.lt_of_lt_of_le hk hg.size)).trans (hg.block k hk hne)⟩
theorem grown_set {w w' : World} {R : Nat} (hg : w.grownBy w' (some R)) (j : Nat) (v : Value) : w.grownBy (w'.setCell ⟨R, j, none⟩ v) (some R) :=
  ⟨hg.os, hg.tape, hg.output, by simpa [World.setCell] using hg.size, fun k hk hne => (Below.heap_setCell _ _ _ k (fun e => hne (by rw [e]))).trans (hg.block k hk hne)⟩

theorem and127 {c : Int} (h : 0 ≤ c ∧ c ≤ 255) : bits .and .u8 c 127 = c % 128 := by
  obtain ⟨n, rfl⟩ : ∃ n : Nat, c = (n : Int) := ⟨c.toNat, by omega⟩
  have : n < 256 := by omega
  have key : ∀ n, n < 256 → bits .and .u8 ((n : Nat) : Int) 127 = ((n : Nat) : Int) % 128 := by decide
  exact key n this

theorem vfacts2 {k U S : Nat} {c : Int} (hS : k < 10 → S = 128 ^ k) (hk : k < 10) (hU : U < S) (hc : 0 ≤ c ∧ c ≤ 255) (h9 : 9 ≤ k → c ≤ 1) :
    ∃ V : Nat, bits .or .u64 (U : Int) (IntKind.u64.wrap (IntKind.u64.wrap (bits .and .u8 c 127) * 2 ^ (7 * k))) = (V : Int) ∧ V < 18446744073709551616 ∧ V = U + S * (c % 128).toNat ∧ V < S * 128 := by
  obtain ⟨V, _, hVb, hV, hV3⟩ := vfacts hS hk hU hc h9
  refine ⟨V, ?_, hVb, hV, hV3⟩
  have hS' := hS hk
  have e2 : S = 2 ^ (7 * k) := by rw [hS', show (128 : Nat) = 2 ^ 7 by rfl, ← Nat.pow_mul]
  rw [and127 hc]
  obtain ⟨d, hd⟩ : ∃ d : Nat, c % 128 = (d : Int) := ⟨(c % 128).toNat, by omega⟩
  rw [hd] at hV ⊢
  simp only [Int.toNat_natCast] at hV
  rw [IntWalk.u64_in (d : Int) ⟨by omega, by omega⟩]
  have e1 : (d : Int) * 2 ^ (7 * k) = ((S * d : Nat) : Int) := by rw [e2, Int.natCast_mul, Int.mul_comm]; simp
  rw [e1, IntWalk.u64_in _ ⟨by omega, by omega⟩, u64_or_nat _ _ (by omega) (by omega)]
  have := Nat.two_pow_add_eq_or_of_lt (i := 7 * k) (b := U) (by rw [← e2]; exact hU) d
  rw [← e2] at this
  rw [Nat.or_comm, ← this, hV]
  omega

theorem unnum_bits {V : Nat} (h : V < 18446744073709551616) : bits .xor .i64 ((V : Int) / 2) (-((V : Int) % 2)) = unnum V := by
  have e0 : (V : Int) / 2 = ((V / 2 : Nat) : Int) := by omega
  have h2 : (BitVec.ofInt 64 ((V / 2 : Nat) : Int)).toNat = V / 2 := by
    rw [BitVec.ofInt_natCast, BitVec.toNat_ofNat]; exact Nat.mod_eq_of_lt (by omega)
  by_cases hodd : (V : Int) % 2 = 1
  · rw [unnum_odd hodd, hodd, e0]
    show IntKind.i64.wrap ((BitVec.ofInt 64 ((V / 2 : Nat) : Int) ^^^ BitVec.ofInt 64 (-1)).toNat : Int) = _
    have h1 : (BitVec.ofInt 64 (-1)).toNat = 2 ^ 64 - 1 := by decide
    rw [BitVec.toNat_xor, h1, h2, Nat.xor_comm, Lib.xor_ones64 _ (by omega), IntKind.wrap_i64]
    omega
  · have h0 : (V : Int) % 2 = 0 := by omega
    rw [unnum_even hodd, h0, e0]
    show IntKind.i64.wrap ((BitVec.ofInt 64 ((V / 2 : Nat) : Int) ^^^ BitVec.ofInt 64 (-0)).toNat : Int) = _
    have h1 : (BitVec.ofInt 64 (-0)).toNat = 0 := by decide
    rw [BitVec.toNat_xor, h1, h2, Nat.xor_zero, IntKind.wrap_i64]
    omega

theorem rdr_apart {w : World} {R : Nat} {a : Option Addr} {n c at_ : Nat} (h : Rdr w R a n c at_) {x j : Nat} {v : Int} (hc : w.cell? ⟨x, j, none⟩ = some (.int .u8 v)) : x ≠ R := by
  rintro rfl
  rw [cell_of_row w x j _ _ _ h] at hc
  rcases j with _ | _ | j <;> simp at hc

set_option maxHeartbeats 1000000 in
theorem int_any (R : Nat) (a1 : Option Addr) (n1 c1 at_ : Nat) (xs : List Int) (w : World) (h1 : Sl .u8 w a1 n1 c1 xs) (hr : Rdr w R a1 n1 c1 at_) (hat : at_ ≤ n1) (hn1 : n1 ≤ 1000000000) :
    Calls Tryz.prog 92 #[.pointer (some ⟨R, 0, none⟩)] w fun e w' => 
      (∀ n next, rdAt xs at_ = some (n, next) → e = .returned (.int .i64 n) ∧ Rdr w' R a1 n1 c1 next) ∧ (rdAt xs at_ = none → e = .panicked formPanic) ∧ w.grownBy w' (some R) := by
  have b1 := h1.bd
  have e1 := Lib.hid h1.hlen
  go_enter Tryz.func92, Tryz.ntmps92
  go_wp2
  go_loopw [3, 4] (fun u i wr => ∃ k U S : Nat, k < 10 ∧ i = .int .i64 k ∧ u = .int .u64 U ∧ (k < 10 → S = 128 ^ k) ∧ U < S ∧ (k < 9 → S ≤ 72057594037927936) ∧
    rdL 0 (xs.drop at_) = (rdL k (xs.drop (at_ + k))).map (fun (v, m) => (U + S * v, m + k)) ∧ at_ + k ≤ n1 ∧ Rdr wr R a1 n1 c1 (at_ + k) ∧ w.grownBy wr (some R)) (fun _ i _ => 10 - (intOf i).toNat)
  case atStart => exact ⟨0, 0, 1, by omega, rfl, rfl, fun _ => rfl, by omega, fun _ => by omega, by simp, hat, hr, World.grownBy.refl _ _⟩
  case round =>
    obtain ⟨k, U, S, hk, rfl, rfl, hSk, hUS, hS8, hrd, hak, hR, hG⟩ := hrel
    have HS := Lib.hid hSk
    have HR := Lib.hid hrd
    have HRR := Lib.hid hR
    clear hSk hrd
    have r0 := hR.c0
    have r1 := hR.c1
    have rf := hR.f 1
    have hk10 : decide ((k : Int) < 10) = true := by simp; omega
    by_cases hlt2 : at_ + k < n1
    · have hd : decide ((at_ : Int) + k < n1) = true := by simp; omega
      obtain ⟨x1, o1, rfl, hc1⟩ := h1.at (by omega)
      have w1 := wf_u8 (h1.wfAt hlt2)
      have g1 : wr.cell? ⟨x1, o1 + (at_ + k), none⟩ = some (.int .u8 (nth xs (at_ + k))) :=
        hG.cell (hc1 (at_ + k) hlt2) (fun e => rdr_apart hr (hc1 (at_ + k) hlt2) (by simpa using e))
      clear hc1
      have hdr := Lib.hid (drop_nth (xs := xs) (i := at_ + k) (by rw [e1.out]; exact hlt2))
      generalize nth xs (at_ + k) = c at *
      have r0' := cellG r0
      have r1' := cellG r1
      go_wp2
      refine region_ext (by kernel_rfl) (by kernel_rfl) ?_
      repeat (go_big_quiet_step ((go_at_call 93; exact Calls.regrown_of ((need_yes _).mono fun e w' ⟨h, h2⟩ => ⟨h, by subst h2; exact Ext.refl _⟩))))
      refine wpQuiet_nil ?_
      intro w2 hE2
      replace r0 := hE2.cell r0
      replace r1 := hE2.cell r1
      replace g1 := hE2.cell g1
      have r0' := cellG r0
      have r1' := cellG r1
      have g1' := cellG g1
      go_wp2
      refine region_ext (by kernel_rfl) (by kernel_rfl) ?_
      repeat (go_big_quiet_step (fail))
      refine wpQuiet_nil ?_
      intro w3 hE3
      have HR3 := (HRR.out.ext hE2).ext hE3
      replace r0 := HR3.c0
      replace r1 := HR3.c1
      replace rf := HR3.f 1
      clear r0' r1' g1' g1 hR hr h1
      have bF9 : k < 9 → decide ((k : Int) < 9) = true := by intro h; simp; omega
      have bT9 : 9 ≤ k → decide ((k : Int) < 9) = false := by intro h; simp; omega
      have bF0 : 0 < k → ((k : Int) == 0) = false := by intro h; simp; omega
      have bT0 : k ≤ 0 → ((k : Int) == 0) = true := by intro h; simp; omega
      rcases Nat.lt_or_ge k 9 with hk9 | hk9
      · replace bF9 := bF9 hk9; clear bT9
        replace hS8 := hS8 hk9
        obtain ⟨V, hV, hVb, hV2, hV3⟩ := vfacts2 HS.out hk hUS w1 (fun h => absurd h (by omega))
        have hand := Lib.u64_and1 (V : Int) (by omega) (by omega)
        have HV := Lib.hid hV2
        clear hV2
        rcases Nat.eq_zero_or_pos k with hk0 | hk0
        · replace hk0 : k ≤ 0 := by omega
          replace bT0 := bT0 hk0; clear bF0
          by_cases hsm : c < 128
          · have hend := Lib.hid (rd_end HR.out hdr.out ⟨w1.1, hsm⟩ (by omega) HV.out)
            go_wp2_with (go_at_call 93; refine (need_yes _).mono ?_; rintro e w' ⟨rfl, rfl⟩)
            go_ret
            refine ⟨fun n next hnn => ?_, fun hnn => absurd (hnn.symm.trans hend.out) (by simp), grown_set (grown_ext (grown_ext hG hE2) hE3) _ _⟩
            obtain ⟨rfl, rfl⟩ : unnum V = n ∧ at_ + k + 1 = next := by have := hend.out.symm.trans hnn; simpa using this
            exact ⟨ret_int (unnum_bits hVb), HR3.set (at_ + k + 1)⟩
          · have hnx := Lib.hid (rd_next HR.out hdr.out rfl ⟨by omega, w1.2⟩ (by omega) HV.out)
            go_wp2_with (go_at_call 93; refine (need_yes _).mono ?_; rintro e w' ⟨rfl, rfl⟩)
            go_roundw
            case rel => exact ⟨k + 1, V, S * 128, by omega, by go_num, rfl, fun _ => by rw [HS.out hk, Nat.pow_succ], hV3, fun h => by have := pow128 (k + 1) (by omega); rw [Nat.pow_succ, ← HS.out hk] at this; exact this, hnx.out, by omega, HR3.set (at_ + (k + 1)), grown_set (grown_ext (grown_ext hG hE2) hE3) _ _⟩
            case measure => simp [intOf]; omega
        · replace bF0 := bF0 hk0; clear bT0
          rcases Int.lt_or_le 0 c with hc0 | hc0
          · by_cases hsm : c < 128
            · have hend := Lib.hid (rd_end HR.out hdr.out ⟨w1.1, hsm⟩ (by omega) HV.out)
              go_wp2_with (go_at_call 93; refine (need_yes _).mono ?_; rintro e w' ⟨rfl, rfl⟩)
              go_ret
              refine ⟨fun n next hnn => ?_, fun hnn => absurd (hnn.symm.trans hend.out) (by simp), grown_set (grown_ext (grown_ext hG hE2) hE3) _ _⟩
              obtain ⟨rfl, rfl⟩ : unnum V = n ∧ at_ + k + 1 = next := by have := hend.out.symm.trans hnn; simpa using this
              exact ⟨ret_int (unnum_bits hVb), HR3.set (at_ + k + 1)⟩
            · have hnx := Lib.hid (rd_next HR.out hdr.out rfl ⟨by omega, w1.2⟩ (by omega) HV.out)
              go_wp2_with (go_at_call 93; refine (need_yes _).mono ?_; rintro e w' ⟨rfl, rfl⟩)
              go_roundw
              case rel => exact ⟨k + 1, V, S * 128, by omega, by go_num, rfl, fun _ => by rw [HS.out hk, Nat.pow_succ], hV3, fun h => by have := pow128 (k + 1) (by omega); rw [Nat.pow_succ, ← HS.out hk] at this; exact this, hnx.out, by omega, HR3.set (at_ + (k + 1)), grown_set (grown_ext (grown_ext hG hE2) hE3) _ _⟩
              case measure => simp [intOf]; omega
          · have hc3 : decide (0 < c) = false := by simp; omega
            go_wp2_with (go_at_call 93; refine (need_no _).mono ?_; rintro e w' ⟨rfl, rfl⟩)
            exact ⟨rfl, fun n next hnn => absurd (hnn.symm.trans (rd_bad HR.out hdr.out (by omega))) (by simp), fun _ => rfl, grown_ext (grown_ext hG hE2) hE3⟩
      · replace bT9 := bT9 hk9; clear bF9 hS8
        replace bF0 := bF0 (by omega); clear bT0
        rcases Int.lt_or_le 1 c with hc1 | hc1
        · have hc2 : decide (c < 2) = false := by simp; omega
          go_wp2_with (go_at_call 93; refine (need_no _).mono ?_; rintro e w' ⟨rfl, rfl⟩)
          exact ⟨rfl, fun n next hnn => absurd (hnn.symm.trans (rd_bad HR.out hdr.out (by omega))) (by simp), fun _ => rfl, grown_ext (grown_ext hG hE2) hE3⟩
        · have hc2 : decide (c < 2) = true := by simp; omega
          obtain ⟨V, hV, hVb, hV2, hV3⟩ := vfacts2 HS.out hk hUS w1 (fun _ => hc1)
          have hand := Lib.u64_and1 (V : Int) (by omega) (by omega)
          have HV := Lib.hid hV2
          clear hV2
          rcases Int.lt_or_le 0 c with hc0 | hc0
          · have hend := Lib.hid (rd_end HR.out hdr.out ⟨w1.1, by omega⟩ (by omega) HV.out)
            go_wp2_with (go_at_call 93; refine (need_yes _).mono ?_; rintro e w' ⟨rfl, rfl⟩)
            go_ret
            refine ⟨fun n next hnn => ?_, fun hnn => absurd (hnn.symm.trans hend.out) (by simp), grown_set (grown_ext (grown_ext hG hE2) hE3) _ _⟩
            obtain ⟨rfl, rfl⟩ : unnum V = n ∧ at_ + k + 1 = next := by have := hend.out.symm.trans hnn; simpa using this
            exact ⟨ret_int (unnum_bits hVb), HR3.set (at_ + k + 1)⟩
          · have hc3 : decide (0 < c) = false := by simp; omega
            go_wp2_with (go_at_call 93; refine (need_no _).mono ?_; rintro e w' ⟨rfl, rfl⟩)
            exact ⟨rfl, fun n next hnn => absurd (hnn.symm.trans (rd_bad HR.out hdr.out (by omega))) (by simp), fun _ => rfl, grown_ext (grown_ext hG hE2) hE3⟩
    · have hd : decide ((at_ : Int) + k < n1) = false := by simp; omega
      go_wp2
      go_still_tail 14, (by kernel_rfl)
      change wpList _ _ _ _ _ wr.drew
      go_wp2_with (go_at_call 93; refine (need_no _).mono ?_; rintro e w' ⟨rfl, rfl⟩)
      exact ⟨rfl, fun n next hnn => absurd (hnn.symm.trans (rd_out HR.out (by rw [e1.out]; omega))) (by simp), fun _ => rfl, grown_ext hG ((Ext.refl _).drew)⟩

end Go.Proofs.YtdmfdimhjemngaaGreatDoor

namespace Go.Proofs.YtdmfdimhjemngaaGreatDoor
open Go.RowKit Go.Sort Go.Shelf
set_option linter.unusedSimpArgs false
set_option linter.unusedVariables false
set_option maxRecDepth 100000

/-- The two named results of Get have been laid by the closure. -/
def Caught (base L E : Nat) (w w' : World) : Prop := w'.cell? ⟨L, 0, none⟩ = some (.slice none 0 0) ∧ w'.cell? ⟨E, 0, none⟩ = some (.int .i64 7) ∧ Below base w w'

set_option maxHeartbeats 800000 in
theorem catch_panic (base L E : Nat) (v1 v2 : Value) (w : World) (hL : w.cell? ⟨L, 0, none⟩ = some v1) (hE : w.cell? ⟨E, 0, none⟩ = some v2) (fL : w.frozen? ⟨L, 0, none⟩ = false) (fE : w.frozen? ⟨E, 0, none⟩ = false) (hne : L ≠ E) (hb : base ≤ L) (hb2 : base ≤ E) :
    CallsD Tryz.prog 91 #[.pointer (some ⟨L, 0, none⟩), .pointer (some ⟨E, 0, none⟩)] (.panicking formPanic) w fun e u' w' =>
      e = .returned (.tuple #[]) ∧ u' = .panicking [{ v := .iface 34 (.int .i64 7), recovered := true }] ∧ Caught base L E w w' := by
  have hta : ∀ w, (Instr.typeAssert (.iface 34 (.int .i64 7)) 20 34 false).run Tryz.prog w = .ok (.int .i64 7) w := fun _ => by kernel_rfl
  refine callsD_of_wpS Tryz.func91 rfl fun c₀ cs hu => ?_
  apply wpS_seq
  apply wpS_region
  simp [wpOpsS, go_sem, recoverD, hu, Tryz.ntmps91, Exit.thenS, formPanic]
  apply wpS_seq
  apply wpS_region
  simp [wpOpsS, go_sem, Exit.thenS]
  refine wpS_cond (t := true) (by simp [Act.eval, Array.replicate]) ?_
  simp only [if_true]
  refine wpS_of_wp ?_
  simp only [List.size_toArray, List.length_cons, List.length_nil, Nat.reduceAdd, Nat.reduceSub, Array.replicate_succ, Array.replicate_zero, List.push_toArray, List.append_toArray, List.nil_append, List.cons_append, List.setIfInBounds_toArray, List.set_cons_zero, List.set_cons_succ]
  go_region
  refine ⟨rfl, _, rfl, _, results_none rfl _ _ _, rfl, rfl, ?_, ?_, ?_⟩
  · simp [go_sem, hne, hL, hE]
  · simp [go_sem, hne, hL, hE]
  · exact (((Below.refl base w).setCell (p := ⟨L, 0, none⟩) hb _).setCell (p := ⟨E, 0, none⟩) hb2 _).drew

set_option maxHeartbeats 800000 in
theorem catch_idle (L E : Nat) (w : World) :
    CallsD Tryz.prog 91 #[.pointer (some ⟨L, 0, none⟩), .pointer (some ⟨E, 0, none⟩)] .returning w fun e u' w' =>
      e = .returned (.tuple #[]) ∧ u' = .returning ∧ w = w' := by
  refine callsD_of_wpS Tryz.func91 rfl fun c₀ cs hu => ?_
  apply wpS_seq
  apply wpS_region
  simp [wpOpsS, go_sem, recoverD, hu, Tryz.ntmps91, Exit.thenS]
  apply wpS_seq
  apply wpS_region
  simp [wpOpsS, go_sem, Exit.thenS]
  refine wpS_cond (t := false) (by simp [Act.eval, Array.replicate]) ?_
  simp only [Bool.false_eq_true, if_false]
  refine wpS_of_wp (wp_skip ?_)
  cases c₀
  simp_all [bodyPostS, results, Tryz.results91]

end Go.Proofs.YtdmfdimhjemngaaGreatDoor

namespace Go.Proofs.YtdmfdimhjemngaaGreatDoor
open Go.RowKit Go.Sort Go.Shelf
set_option linter.unusedSimpArgs false
set_option linter.unusedVariables false
set_option maxRecDepth 100000

theorem int_some {xs : List Int} {at_ next : Nat} {x : Int} (hx : rdAt xs at_ = some (x, next)) (R : Nat) (a1 : Option Addr) (n1 c1 : Nat) (w : World) (h1 : Sl .u8 w a1 n1 c1 xs) (hr : Rdr w R a1 n1 c1 at_) (hat : at_ ≤ n1) (hn1 : n1 ≤ 1000000000) :
    Calls Tryz.prog 92 #[.pointer (some ⟨R, 0, none⟩)] w fun e w' => e = .returned (.int .i64 x) ∧ Rdr w' R a1 n1 c1 next ∧ w.grownBy w' (some R) :=
  (int_any R a1 n1 c1 at_ xs w h1 hr hat hn1).mono fun e w' ⟨h, _, hg⟩ => ⟨(h _ _ hx).1, (h _ _ hx).2, hg⟩
theorem int_none {xs : List Int} {at_ : Nat} (hx : rdAt xs at_ = none) (R : Nat) (a1 : Option Addr) (n1 c1 : Nat) (w : World) (h1 : Sl .u8 w a1 n1 c1 xs) (hr : Rdr w R a1 n1 c1 at_) (hat : at_ ≤ n1) (hn1 : n1 ≤ 1000000000) :
    Calls Tryz.prog 92 #[.pointer (some ⟨R, 0, none⟩)] w fun e w' => e = .panicked formPanic ∧ w.grownBy w' (some R) :=
  (int_any R a1 n1 c1 at_ xs w h1 hr hat hn1).mono fun e w' ⟨_, h, hg⟩ => ⟨h hx, hg⟩

/-- What lies in the three blocks of Get, and below. -/
structure GetW (base : Nat) (w wr : World) (a1 : Option Addr) (n1 c1 q : Nat) (a : Option Addr) (k c : Nat) (ys : List Int) : Prop where
  l : Boxed wr base 25 (.slice a k c)
  e : Boxed wr (base + 1) 34 (.int .i64 0)
  r : Rdr wr (base + 1 + 1) a1 n1 c1 q
  o : OwI .i64 3 base wr a k c ys
  b : Below base w wr

theorem GetW.int {base : Nat} {w wr w2 : World} {a1 : Option Addr} {n1 c1 q q2 : Nat} {a : Option Addr} {k c : Nat} {ys : List Int} (h : GetW base w wr a1 n1 c1 q a k c ys) (hb : base ≤ wr.heap.size)
    (hg : wr.grownBy w2 (some (base + 1 + 1))) (hr : Rdr w2 (base + 1 + 1) a1 n1 c1 q2) : GetW base w w2 a1 n1 c1 q2 a k c ys := by
  refine ⟨h.l.kept hg (by simp; omega), h.e.kept hg (by simp), hr, World.ownsRow.kept h.o hg ?_, h.b.grown hg hb (by intro k e; cases e; omega)⟩
  right
  rcases h.o.2 with ⟨hv, _⟩ | ⟨g, cap, cur, hv, _, hgb, _⟩
  · rw [hv]; simp [Value.ownBlock]
  · rw [hv]
    intro e'
    obtain rfl : g = base + 1 + 1 := by simpa [Value.ownBlock] using e'
    have hR : wr.heap[base + 1 + 1]? = some (.cells #[.slice a1 n1 c1, .int .i64 q] 134 (0, 0)) := h.r
    rw [hgb] at hR
    simp at hR

/-- A panic in Get: what is still known. -/
theorem GetW.lost {base : Nat} {w wr w2 : World} {a1 : Option Addr} {n1 c1 q : Nat} {a : Option Addr} {k c : Nat} {ys : List Int} (h : GetW base w wr a1 n1 c1 q a k c ys) (hb : base ≤ wr.heap.size)
    (hg : wr.grownBy w2 (some (base + 1 + 1))) : Boxed w2 base 25 (.slice a k c) ∧ Boxed w2 (base + 1) 34 (.int .i64 0) ∧ Below base w w2 :=
  ⟨h.l.kept hg (by simp; omega), h.e.kept hg (by simp), h.b.grown hg hb (by intro k e; cases e; omega)⟩

theorem GetW.app {base : Nat} {w w3 w4 : World} {a1 : Option Addr} {n1 c1 q : Nat} {a : Option Addr} {k c g cap : Nat} {ys ys' : List Int} {x : Int} (h : GetW base w w3 a1 n1 c1 q a k c ys)
    (hb : Below base w3 w4) (ho : OwI .i64 3 base w4 (some ⟨g, 0, none⟩) (k + 1) cap ys') (hg : (w3.alloc (.cells #[.int .i64 x] 3)).grownBy w4 (Value.slice a k c).ownBlock) :
    GetW base w (w4.setCell ⟨base, 0, none⟩ (.slice (some ⟨g, 0, none⟩) (k + 1) cap)) a1 n1 c1 q (some ⟨g, 0, none⟩) (k + 1) cap ys' := by
  have l4 := (h.l.alloc _).kept hg (Boxed.not_row h.l (by decide) h.o)
  have e4 := (h.e.alloc _).kept hg (Boxed.not_row h.e (by decide) h.o)
  have hR : w3.heap[base + 1 + 1]? = some (.cells #[.slice a1 n1 c1, .int .i64 q] 134 (0, 0)) := h.r
  have hRlt := (Array.getElem?_eq_some_iff.1 hR).1
  have hRne : some (base + 1 + 1) ≠ (Value.slice a k c).ownBlock := by
    rcases h.o.2 with ⟨hv, _⟩ | ⟨g', cap', cur, hv, _, hgb, _⟩
    · rw [hv]; simp [Value.ownBlock]
    · rw [hv]
      intro e'
      obtain rfl : base + 1 + 1 = g' := by simpa [Value.ownBlock] using e'
      rw [hgb] at hR
      simp at hR
  refine ⟨l4.set _, e4.other (by omega) _, ?_, World.ownsRow.kept ho (grownBy_setCell' w4 base _) (.inr (Boxed.not_row l4 (by decide) ho).symm), (h.b.trans hb).setCell (p := ⟨base, 0, none⟩) (Nat.le_refl _) _⟩
  show (w4.setCell ⟨base, 0, none⟩ _).heap[base + 1 + 1]? = _
  rw [Below.heap_setCell _ _ _ _ (by simp; omega), hg.block (base + 1 + 1) (by simp; omega) hRne, Below.heap_alloc _ _ _ hRlt]
  exact hR

theorem grown_draw {w w' : World} {row : Option Nat} (hg : w.drew.grownBy w' row) : w.grownBy w' row := ⟨hg.os, hg.tape, hg.output, hg.size, hg.block⟩

set_option maxHeartbeats 1000000 in
theorem get_any (a1 : Option Addr) (n1 c1 : Nat) (xs : List Int) (w : World) (h1 : Sl .u8 w a1 n1 c1 xs) (hn1 : n1 ≤ 1000000000) :
    Calls Tryz.prog 77 #[.slice a1 n1 c1] w fun e w' => GetPost w w' e (lget xs) := by
  have b1 := h1.bd
  have e1 := Lib.hid h1.hlen
  have H0 := Lib.hid h1.wf
  have hmf : ∀ (fn : Fn) (first cap : Array Value) (w : World), (Instr.makeFunc fn first cap).run Tryz.prog w = .ok (.func fn first cap) w := fun _ _ _ _ => rfl
  have hG0 : GetW w.heap.size w (((w.alloc (.cells #[.slice none 0 0] 25)).alloc (.cells #[.int .i64 0] 34)).alloc (.cells #[.slice a1 n1 c1, .int .i64 0] 134)) a1 n1 c1 0 none 0 0 [] := by
    refine ⟨((Boxed.new w _ _).alloc _).alloc _, ?_, ?_, OwI.nil _ _ _ _, (((Ext.refl w).alloc _).alloc _).alloc _⟩
    · have := (Boxed.new (w.alloc (.cells #[.slice none 0 0] 25)) 34 (.int .i64 0)).alloc (.cells #[.slice a1 n1 c1, .int .i64 0] 134)
      rwa [World.size_alloc] at this
    · have := World.alloc_heap_new ((w.alloc (.cells #[.slice none 0 0] 25)).alloc (.cells #[.int .i64 0] 34)) (.cells #[.slice a1 n1 c1, .int .i64 0] 134)
      rw [World.size_alloc, World.size_alloc] at this
      exact this
  have HG0 := Lib.hid hG0
  clear hG0
  go_enter_defers Tryz.func77, Tryz.ntmps77
  rcases hr0 : rdAt xs 0 with _ | ⟨m, at0⟩
  · have R0 := Lib.hid hr0
    clear hr0
    go_wp2_with fail
    refine (int_none R0.out _ a1 n1 c1 _ (h1.ext ?_) ?_ (by omega) hn1).mono ?_
    · exact (((Ext.refl w).alloc _).alloc _).alloc _
    · exact HG0.out.r
    rintro e w2 ⟨rfl, hg⟩
    obtain ⟨l2, e2, b2⟩ := HG0.out.lost (by simp; omega) hg
    go_wp2
    refine leaves_cons (f := 91) (args := #[.pointer (some ⟨w.heap.size, 0, none⟩), .pointer (some ⟨w.heap.size + 1, 0, none⟩)]) (by simp) (by simp [go_sem]) ?_
    refine (catch_panic w.heap.size w.heap.size (w.heap.size + 1) _ _ _ l2.cell e2.cell l2.frozen e2.frozen (by omega) (by omega) (by omega)).mono ?_
    rintro e u' w'' ⟨rfl, rfl, hc1, hc2, hc3⟩
    simp [Leaves, settle, results, Tryz.results77, go_sem, hc1, hc2]
    exact getPost_none (by unfold lget; rw [R0.out]) rfl (Below.trans b2 hc3)
  · have R0 := Lib.hid hr0
    have bd0 := rdAt_bd h1.wf hr0
    rw [e1.out] at bd0
    clear hr0
    go_wp2_with fail
    refine (int_some R0.out _ a1 n1 c1 _ (h1.ext ?_) ?_ (by omega) hn1).mono ?_
    · exact (((Ext.refl w).alloc _).alloc _).alloc _
    · exact HG0.out.r
    rintro e w2 ⟨rfl, hr2, hg⟩
    have hG2 := HG0.out.int (by simp; omega) hg hr2
    have HG2 := Lib.hid hG2
    clear hG2 hr2 hg HG0
    by_cases hm : m < 0 ∨ 1000 < m
    · have hbad : lget xs = none := by unfold lget; rw [R0.out]; simp only [hm, if_true]
      have l2 := HG2.out.l
      have e2 := HG2.out.e
      rcases hm with hm | hm
      · have hb1 : decide (0 ≤ m) = false := by simp; omega
        go_wp2_with (go_at_call 93; refine (need_no _).mono ?_; rintro e w' ⟨rfl, rfl⟩)
        refine leaves_cons (f := 91) (args := #[.pointer (some ⟨w.heap.size, 0, none⟩), .pointer (some ⟨w.heap.size + 1, 0, none⟩)]) (by simp) (by simp [go_sem]) ?_
        refine (catch_panic w.heap.size w.heap.size (w.heap.size + 1) _ _ _ l2.cell e2.cell l2.frozen e2.frozen (by omega) (by omega) (by omega)).mono ?_
        rintro e u' w'' ⟨rfl, rfl, hc1, hc2, hc3⟩
        simp [Leaves, settle, results, Tryz.results77, go_sem, hc1, hc2]
        exact getPost_none hbad rfl (Below.trans HG2.out.b hc3)
      · have hb1 : decide (0 ≤ m) = true := by simp; omega
        have hb2 : decide (m ≤ 1000) = false := by simp; omega
        go_wp2_with (go_at_call 93; refine (need_no _).mono ?_; rintro e w' ⟨rfl, rfl⟩)
        refine leaves_cons (f := 91) (args := #[.pointer (some ⟨w.heap.size, 0, none⟩), .pointer (some ⟨w.heap.size + 1, 0, none⟩)]) (by simp) (by simp [go_sem]) ?_
        refine (catch_panic w.heap.size w.heap.size (w.heap.size + 1) _ _ _ l2.cell e2.cell l2.frozen e2.frozen (by omega) (by omega) (by omega)).mono ?_
        rintro e u' w'' ⟨rfl, rfl, hc1, hc2, hc3⟩
        simp [Leaves, settle, results, Tryz.results77, go_sem, hc1, hc2]
        exact getPost_none hbad rfl (Below.trans HG2.out.b hc3)
    · obtain ⟨M, rfl⟩ : ∃ M : Nat, m = (M : Int) := ⟨m.toNat, by omega⟩
      have hM : M ≤ 1000 := by omega
      have hgo : Hid (lget xs = match rdMany xs M at0 with | none => none | some (l, e) => if e = xs.length then some l else none) := by
        unfold Hid lget; rw [R0.out]; simp only [hm, if_false]; rfl
      clear hm
      have hb1 : decide (0 ≤ (M : Int)) = true := by simp
      have hb2 : decide ((M : Int) ≤ 1000) = true := by simp; omega
      go_wp2_with (go_at_call 93; refine (need_yes _).mono ?_; rintro e w' ⟨rfl, rfl⟩)
      go_loopw [20] (fun i wr => ∃ (k q c : Nat) (a : Option Addr) (ys : List Int), k ≤ M ∧ i = .int .i64 k ∧ q ≤ n1 ∧ GetW w.heap.size w wr a1 n1 c1 q a k c ys ∧
        (∀ x ∈ ys, (Lit.int .i64 x).wf = true) ∧ rdMany xs M at0 = (rdMany xs (M - k) q).map fun (l, e) => (ys ++ l, e)) (fun i _ => M - (intOf i).toNat)
      case atStart => exact ⟨0, at0, 0, none, [], by omega, rfl, by omega, HG2.out, by simp, by simp⟩
      case round =>
        obtain ⟨k, q, c, a, ys, hk, rfl, hq, hGW, hyw, hrm⟩ := hrel
        have HGW := Lib.hid hGW
        have HR := Lib.hid hrm
        have HY := Lib.hid hyw
        have hE : Ext w wr := hGW.b
        have hlc := hGW.l.cell
        have hlf := hGW.l.frozen
        clear hrm hyw hGW
        have h1' := h1.ext hE
        have hsz := hE.sz
        by_cases hlt : k < M
        · have hMk : M - k = (M - (k + 1)) + 1 := by omega
          have HMk := Lib.hid hMk
          clear hMk
          rcases hr1 : rdAt xs q with _ | ⟨x, next⟩
          · have R1 := Lib.hid hr1
            clear hr1
            go_wp2_with fail
            have hbad : lget xs = none := by
              rw [hgo.out, HR.out, HMk.out]
              simp only [rdMany, R1.out]; rfl
            refine wp_region_any (by kernel_rfl) ?_
            change wpAny _ _ _ _ _ _ _ (World.drew _)
            refine wpAny_ready (rs := [0, 1]) (by kernel_rfl) (by simp) ?_
            refine AllReady.cons rfl (fun K hK => ?_) (AllReady.cons rfl (fun K hK => ?_) AllReady.nil)
            · go_simp
              refine hK _ _ ?_
              clear hK K
              refine wpAny_ready (rs := [1]) (by kernel_rfl) (by simp) ?_
              refine AllReady.cons rfl (fun K hK => ?_) AllReady.nil
              go_simp
              refine hK _ _ ?_
              clear hK K
              refine wpAny_ready (rs := [2]) (by kernel_rfl) (by simp) ?_
              refine AllReady.cons rfl (fun K hK => ?_) AllReady.nil
              go_simp
              refine (int_none R1.out _ a1 n1 c1 _ (h1'.ext ((Ext.refl _).drew)) (HGW.out.r.ext ((Ext.refl _).drew)) hq hn1).mono ?_
              rintro e w3 ⟨rfl, hg⟩
              obtain ⟨l2, e2, b2⟩ := HGW.out.lost hsz (grown_draw hg)
              refine leaves_cons (f := 91) (args := #[.pointer (some ⟨w.heap.size, 0, none⟩), .pointer (some ⟨w.heap.size + 1, 0, none⟩)]) (by simp) (by simp [go_sem]) ?_
              refine (catch_panic w.heap.size w.heap.size (w.heap.size + 1) _ _ _ l2.cell e2.cell l2.frozen e2.frozen (by omega) (by omega) (by omega)).mono ?_
              rintro e u' w'' ⟨rfl, rfl, hc1, hc2, hc3⟩
              simp [Leaves, settle, results, Tryz.results77, go_sem, hc1, hc2]
              exact getPost_none hbad rfl (Below.trans b2 hc3)
            · go_simp
              refine hK _ _ ?_
              clear hK K
              refine wpAny_ready (rs := [0, 2]) (by kernel_rfl) (by simp) ?_
              refine AllReady.cons rfl (fun K hK => ?_) (AllReady.cons rfl (fun K hK => ?_) AllReady.nil)
              · go_simp
                refine hK _ _ ?_
                clear hK K
                refine wpAny_ready (rs := [2]) (by kernel_rfl) (by simp) ?_
                refine AllReady.cons rfl (fun K hK => ?_) AllReady.nil
                go_simp
                refine (int_none R1.out _ a1 n1 c1 _ (h1'.ext ((Ext.refl _).drew)) (HGW.out.r.ext ((Ext.refl _).drew)) hq hn1).mono ?_
                rintro e w3 ⟨rfl, hg⟩
                obtain ⟨l2, e2, b2⟩ := HGW.out.lost hsz (grown_draw hg)
                refine leaves_cons (f := 91) (args := #[.pointer (some ⟨w.heap.size, 0, none⟩), .pointer (some ⟨w.heap.size + 1, 0, none⟩)]) (by simp) (by simp [go_sem]) ?_
                refine (catch_panic w.heap.size w.heap.size (w.heap.size + 1) _ _ _ l2.cell e2.cell l2.frozen e2.frozen (by omega) (by omega) (by omega)).mono ?_
                rintro e u' w'' ⟨rfl, rfl, hc1, hc2, hc3⟩
                simp [Leaves, settle, results, Tryz.results77, go_sem, hc1, hc2]
                exact getPost_none hbad rfl (Below.trans b2 hc3)
              · go_simp
                refine (int_none R1.out _ a1 n1 c1 _ (h1'.ext ((Ext.refl _).drew)) (HGW.out.r.ext ((Ext.refl _).drew)) hq hn1).mono ?_
                rintro e w3 ⟨rfl, hg⟩
                obtain ⟨l2, e2, b2⟩ := HGW.out.lost hsz (grown_draw hg)
                refine leaves_cons (f := 91) (args := #[.pointer (some ⟨w.heap.size, 0, none⟩), .pointer (some ⟨w.heap.size + 1, 0, none⟩)]) (by simp) (by simp [go_sem]) ?_
                refine (catch_panic w.heap.size w.heap.size (w.heap.size + 1) _ _ _ l2.cell e2.cell l2.frozen e2.frozen (by omega) (by omega) (by omega)).mono ?_
                rintro e u' w'' ⟨rfl, rfl, hc1, hc2, hc3⟩
                simp [Leaves, settle, results, Tryz.results77, go_sem, hc1, hc2]
                exact getPost_none hbad rfl (Below.trans b2 hc3)
          · have R1 := Lib.hid hr1
            have bd1 := rdAt_bd H0.out hr1
            rw [e1.out] at bd1
            clear hr1
            go_wp2_with fail
            have fin4 : ∀ (w3 w4 : World) (g cap : Nat), GetW w.heap.size w w3 a1 n1 c1 next a k c ys → OwI .i64 3 w.heap.size w4 (some ⟨g, 0, none⟩) (k + 1) cap (ys ++ [x]) → Below w.heap.size w3 w4 → (w3.alloc (.cells #[.int .i64 x] 3)).grownBy w4 (Value.slice a k c).ownBlock →
                ∃ (k' q' c' : Nat) (a' : Option Addr) (ys' : List Int), k' ≤ M ∧ Value.int .i64 ((k : Int) + 1) = .int .i64 k' ∧ q' ≤ n1 ∧ GetW w.heap.size w (w4.setCell ⟨w.heap.size, 0, none⟩ (.slice (some ⟨g, 0, none⟩) (k + 1) cap)) a1 n1 c1 q' a' k' c' ys' ∧
                  (∀ x ∈ ys', (Lit.int .i64 x).wf = true) ∧ rdMany xs M at0 = (rdMany xs (M - k') q').map fun (l, e) => (ys' ++ l, e) := by
              intro w3 w4 g cap hG3 ho4 hb4 hg4
              refine ⟨k + 1, next, cap, _, ys ++ [x], by omega, by go_num, by omega, hG3.app hb4 ho4 hg4, ?_, ?_⟩
              · intro y hy
                rcases List.mem_append.1 hy with h | h
                · exact HY.out y h
                · simp only [List.mem_singleton] at h; subst h
                  simp [Lit.wf, IntKind.min, IntKind.max, IntKind.bits, IntKind.signed]; omega
              · rw [HR.out, HMk.out]
                simp only [rdMany, R1.out, Option.map_map]
                congr 1
                funext ⟨l, e⟩
                simp
            refine wp_region_any (by kernel_rfl) ?_
            change wpAny _ _ _ _ _ _ _ (World.drew _)
            refine wpAny_ready (rs := [0, 1]) (by kernel_rfl) (by simp) ?_
            refine AllReady.cons rfl (fun K hK => ?_) (AllReady.cons rfl (fun K hK => ?_) (AllReady.nil))
            · go_simp
              refine hK _ _ ?_
              clear hK K
              refine wpAny_ready (rs := [1]) (by kernel_rfl) (by simp) ?_
              refine AllReady.cons rfl (fun K hK => ?_) (AllReady.nil)
              go_simp
              refine hK _ _ ?_
              clear hK K
              refine wpAny_ready (rs := [2]) (by kernel_rfl) (by simp) ?_
              refine AllReady.cons rfl (fun K hK => ?_) (AllReady.nil)
              go_simp
              refine (int_some R1.out _ a1 n1 c1 _ (h1'.ext ((Ext.refl _).drew)) (HGW.out.r.ext ((Ext.refl _).drew)) hq hn1).mono ?_
              rintro e w3 ⟨rfl, hr3, hg3⟩
              have hG3 := Lib.hid (HGW.out.int hsz (grown_draw hg3) hr3)
              have l3 := hG3.out.l
              have l3c := l3.cell
              have o3 := hG3.out.o
              have hsz3 := hG3.out.b.size
              clear hr3 hg3
              refine hK _ _ ?_
              clear hK K
              refine wpAny_ready (rs := [3]) (by kernel_rfl) (by simp) ?_
              refine AllReady.cons rfl (fun K hK => ?_) (AllReady.nil)
              go_simp
              refine hK _ _ ?_
              clear hK K
              refine wpAny_ready (rs := [4]) (by kernel_rfl) (by simp) ?_
              refine AllReady.cons rfl (fun K hK => ?_) (AllReady.nil)
              refine step_app1 el_i64 rfl _ _ rfl _ w.heap.size _ _ _ _ _ rfl o3 rfl (by omega) (by unfold maxLen; omega) (by omega) ?_
              intro g cap w4 ho4 hb4 hg4
              have l4 := (l3.alloc _).kept hg4 (Boxed.not_row l3 (by decide) o3)
              have l4c := l4.cell
              have l4f := l4.frozen
              refine hK _ _ ?_
              clear hK K
              refine wpAny_ready (rs := [5]) (by kernel_rfl) (by simp) ?_
              refine AllReady.cons rfl (fun K hK => ?_) (AllReady.nil)
              go_simp
              refine hK _ _ ?_
              clear hK K
              refine wpAny_done (by kernel_rfl) ?_ _
              go_wp2
              go_roundw
              case rel => exact fin4 _ _ _ _ hG3.out ho4 hb4 hg4
              case measure => simp [intOf]; omega
            · go_simp
              refine hK _ _ ?_
              clear hK K
              refine wpAny_ready (rs := [0, 2]) (by kernel_rfl) (by simp) ?_
              refine AllReady.cons rfl (fun K hK => ?_) (AllReady.cons rfl (fun K hK => ?_) (AllReady.nil))
              · go_simp
                refine hK _ _ ?_
                clear hK K
                refine wpAny_ready (rs := [2]) (by kernel_rfl) (by simp) ?_
                refine AllReady.cons rfl (fun K hK => ?_) (AllReady.nil)
                go_simp
                refine (int_some R1.out _ a1 n1 c1 _ (h1'.ext ((Ext.refl _).drew)) (HGW.out.r.ext ((Ext.refl _).drew)) hq hn1).mono ?_
                rintro e w3 ⟨rfl, hr3, hg3⟩
                have hG3 := Lib.hid (HGW.out.int hsz (grown_draw hg3) hr3)
                have l3 := hG3.out.l
                have l3c := l3.cell
                have o3 := hG3.out.o
                have hsz3 := hG3.out.b.size
                clear hr3 hg3
                refine hK _ _ ?_
                clear hK K
                refine wpAny_ready (rs := [3]) (by kernel_rfl) (by simp) ?_
                refine AllReady.cons rfl (fun K hK => ?_) (AllReady.nil)
                go_simp
                refine hK _ _ ?_
                clear hK K
                refine wpAny_ready (rs := [4]) (by kernel_rfl) (by simp) ?_
                refine AllReady.cons rfl (fun K hK => ?_) (AllReady.nil)
                refine step_app1 el_i64 rfl _ _ rfl _ w.heap.size _ _ _ _ _ rfl o3 rfl (by omega) (by unfold maxLen; omega) (by omega) ?_
                intro g cap w4 ho4 hb4 hg4
                have l4 := (l3.alloc _).kept hg4 (Boxed.not_row l3 (by decide) o3)
                have l4c := l4.cell
                have l4f := l4.frozen
                refine hK _ _ ?_
                clear hK K
                refine wpAny_ready (rs := [5]) (by kernel_rfl) (by simp) ?_
                refine AllReady.cons rfl (fun K hK => ?_) (AllReady.nil)
                go_simp
                refine hK _ _ ?_
                clear hK K
                refine wpAny_done (by kernel_rfl) ?_ _
                go_wp2
                go_roundw
                case rel => exact fin4 _ _ _ _ hG3.out ho4 hb4 hg4
                case measure => simp [intOf]; omega
              · go_simp
                refine (int_some R1.out _ a1 n1 c1 _ (h1'.ext ((Ext.refl _).drew)) (HGW.out.r.ext ((Ext.refl _).drew)) hq hn1).mono ?_
                rintro e w3 ⟨rfl, hr3, hg3⟩
                have hG3 := Lib.hid (HGW.out.int hsz (grown_draw hg3) hr3)
                have l3 := hG3.out.l
                have l3c := l3.cell
                have o3 := hG3.out.o
                have hsz3 := hG3.out.b.size
                clear hr3 hg3
                refine hK _ _ ?_
                clear hK K
                refine wpAny_ready (rs := [0, 3]) (by kernel_rfl) (by simp) ?_
                refine AllReady.cons rfl (fun K hK => ?_) (AllReady.cons rfl (fun K hK => ?_) (AllReady.nil))
                · go_simp
                  refine hK _ _ ?_
                  clear hK K
                  refine wpAny_ready (rs := [3]) (by kernel_rfl) (by simp) ?_
                  refine AllReady.cons rfl (fun K hK => ?_) (AllReady.nil)
                  go_simp
                  refine hK _ _ ?_
                  clear hK K
                  refine wpAny_ready (rs := [4]) (by kernel_rfl) (by simp) ?_
                  refine AllReady.cons rfl (fun K hK => ?_) (AllReady.nil)
                  refine step_app1 el_i64 rfl _ _ rfl _ w.heap.size _ _ _ _ _ rfl o3 rfl (by omega) (by unfold maxLen; omega) (by omega) ?_
                  intro g cap w4 ho4 hb4 hg4
                  have l4 := (l3.alloc _).kept hg4 (Boxed.not_row l3 (by decide) o3)
                  have l4c := l4.cell
                  have l4f := l4.frozen
                  refine hK _ _ ?_
                  clear hK K
                  refine wpAny_ready (rs := [5]) (by kernel_rfl) (by simp) ?_
                  refine AllReady.cons rfl (fun K hK => ?_) (AllReady.nil)
                  go_simp
                  refine hK _ _ ?_
                  clear hK K
                  refine wpAny_done (by kernel_rfl) ?_ _
                  go_wp2
                  go_roundw
                  case rel => exact fin4 _ _ _ _ hG3.out ho4 hb4 hg4
                  case measure => simp [intOf]; omega
                · go_simp
                  refine hK _ _ ?_
                  clear hK K
                  have l3a := (l3.alloc (.cells #[.int .i64 x] 3)).cell
                  refine wpAny_ready (rs := [0]) (by kernel_rfl) (by simp) ?_
                  refine AllReady.cons rfl (fun K hK => ?_) (AllReady.nil)
                  go_simp
                  refine hK _ _ ?_
                  clear hK K
                  refine wpAny_ready (rs := [4]) (by kernel_rfl) (by simp) ?_
                  refine AllReady.cons rfl (fun K hK => ?_) (AllReady.nil)
                  refine step_app1 el_i64 rfl _ _ rfl _ w.heap.size _ _ _ _ _ rfl o3 rfl (by omega) (by unfold maxLen; omega) (by omega) ?_
                  intro g cap w4 ho4 hb4 hg4
                  have l4 := (l3.alloc _).kept hg4 (Boxed.not_row l3 (by decide) o3)
                  have l4c := l4.cell
                  have l4f := l4.frozen
                  refine hK _ _ ?_
                  clear hK K
                  refine wpAny_ready (rs := [5]) (by kernel_rfl) (by simp) ?_
                  refine AllReady.cons rfl (fun K hK => ?_) (AllReady.nil)
                  go_simp
                  refine hK _ _ ?_
                  clear hK K
                  refine wpAny_done (by kernel_rfl) ?_ _
                  go_wp2
                  go_roundw
                  case rel => exact fin4 _ _ _ _ hG3.out ho4 hb4 hg4
                  case measure => simp [intOf]; omega
        · obtain rfl : k = M := by omega
          have hfin : lget xs = if q = n1 then some ys else none := by
            rw [hgo.out, HR.out, Nat.sub_self]
            simp only [rdMany, Option.map_some, List.append_nil]
            rw [e1.out]
          have HF := Lib.hid hfin
          clear hfin
          have r0 := HGW.out.r.c0
          have r1 := HGW.out.r.c1
          by_cases hend : q = n1
          · have HE := Lib.hid hend
            have hq1 : ((q : Int) == n1) = true := by simp [hend]
            have l3 := HGW.out.l
            have e3 := HGW.out.e
            have l3c := l3.cell
            have l3f := l3.frozen
            have e3c := e3.cell
            have e3f := e3.frozen
            clear hend
            go_wp2_with (go_at_call 93; refine (need_yes _).mono ?_; rintro e w' ⟨rfl, rfl⟩)
            refine leaves_cons (f := 91) (args := #[.pointer (some ⟨w.heap.size, 0, none⟩), .pointer (some ⟨w.heap.size + 1, 0, none⟩)]) (by simp) (by simp [go_sem]) ?_
            refine (catch_idle w.heap.size (w.heap.size + 1) _).mono ?_
            rintro e u' w'' ⟨rfl, rfl, rfl⟩
            have l5 := (l3.set (.slice a k c)).other (B' := w.heap.size + 1) (by omega) (.int .i64 0)
            have e5 := (e3.other (B' := w.heap.size) (by omega) (.slice a k c)).set (.int .i64 0)
            have o5 : OwI .i64 3 w.heap.size ((wr.setCell ⟨w.heap.size, 0, none⟩ (.slice a k c)).setCell ⟨w.heap.size + 1, 0, none⟩ (.int .i64 0)) a k c ys := by
              refine World.ownsRow.kept (World.ownsRow.kept HGW.out.o (grownBy_setCell' wr _ _) (.inr (Boxed.not_row l3 (by decide) HGW.out.o).symm)) (grownBy_setCell' _ _ _) (.inr ?_)
              exact (Boxed.not_row e3 (by decide) HGW.out.o).symm
            have b5 := (HGW.out.b.setCell (p := ⟨w.heap.size, 0, none⟩) (Nat.le_refl _) (.slice a k c)).setCell (p := ⟨w.heap.size + 1, 0, none⟩) (by simp) (.int .i64 0)
            generalize (wr.setCell ⟨w.heap.size, 0, none⟩ (.slice a k c)).setCell ⟨w.heap.size + 1, 0, none⟩ (.int .i64 0) = w5 at *
            have l5c := l5.cell
            have e5c := e5.cell
            simp [Leaves, settle, results, Tryz.results77, go_sem, l5c, e5c]
            rw [HF.out, if_pos HE.out]
            have hl := o5.hlen
            subst hl
            exact ⟨a, c, rfl, o5, b5⟩
          · have HE := Lib.hid hend
            have hq1 : ((q : Int) == n1) = false := by simp; omega
            have l2 := HGW.out.l
            have e2 := HGW.out.e
            clear hend
            go_wp2_with (go_at_call 93; refine (need_no _).mono ?_; rintro e w' ⟨rfl, rfl⟩)
            refine leaves_cons (f := 91) (args := #[.pointer (some ⟨w.heap.size, 0, none⟩), .pointer (some ⟨w.heap.size + 1, 0, none⟩)]) (by simp) (by simp [go_sem]) ?_
            refine (catch_panic w.heap.size w.heap.size (w.heap.size + 1) _ _ _ l2.cell e2.cell l2.frozen e2.frozen (by omega) (by omega) (by omega)).mono ?_
            rintro e u' w'' ⟨rfl, rfl, hc1, hc2, hc3⟩
            simp [Leaves, settle, results, Tryz.results77, go_sem, hc1, hc2]
            exact getPost_none (by rw [HF.out, if_neg HE.out]) rfl (Below.trans HGW.out.b hc3)

end Go.Proofs.YtdmfdimhjemngaaGreatDoor

/-
  The plain laws of the lists' bytes: what is put is got, what is got was put, no bytes begin others. No program in sight.
-/
namespace Go.Proofs.YtdmfdimhjemngaaGreatDoor
set_option linter.unusedSimpArgs false
set_option linter.unusedVariables false
set_option maxRecDepth 100000

theorem pow128_le {a b : Nat} (h : a ≤ b) : 128 ^ a ≤ 128 ^ b := Nat.pow_le_pow_right (by omega) h

theorem rdL_digs (t : List Int) : ∀ (u k : Nat), u * 128 ^ k < 18446744073709551616 → (0 < k → u ≠ 0) → rdL k (digs u ++ t) = some (u, (digs u).length) := by
  intro u
  induction u using Nat.strongRecOn with
  | _ u ih =>
    intro k hu hk
    have hk9 : k ≤ 9 := by
      rcases Nat.lt_or_ge 9 k with h | h
      · have h1 := hk (by omega)
        have h2 : 128 ^ 10 ≤ 128 ^ k := pow128_le h
        have h3 : 1 * 128 ^ k ≤ u * 128 ^ k := Nat.mul_le_mul_right _ (by omega)
        have h4 : (128 : Nat) ^ 10 = 1180591620717411303424 := by decide
        omega
      · exact h
    by_cases hs : u < 128
    · rw [digs_small hs]
      have h9 : k = 9 → u ≤ 1 := by
        intro h
        subst h
        have h4 : (128 : Nat) ^ 9 = 9223372036854775808 := by decide
        rw [h4] at hu
        omega
      show rdL k ((u : Int) :: ([] ++ t)) = _
      unfold rdL
      rw [if_neg (by
        rintro (h | ⟨h, h'⟩ | ⟨h, h'⟩)
        · omega
        · have := h9 h; omega
        · have := hk h; omega), if_pos (by omega)]
      simp
    · rw [digs_big hs]
      have hk8 : k ≤ 8 := by
        rcases Nat.lt_or_ge 8 k with h | h
        · have h2 : 128 ^ 9 ≤ 128 ^ k := pow128_le h
          have h3 : 128 * 128 ^ k ≤ u * 128 ^ k := Nat.mul_le_mul_right _ (by omega)
          have h4 : (128 : Nat) ^ 9 = 9223372036854775808 := by decide
          omega
        · exact h
      have hr := ih (u / 128) (by omega) (k + 1) (by
        have h1 : u / 128 * 128 ^ (k + 1) ≤ u * 128 ^ k := by
          rw [Nat.pow_succ, ← Nat.mul_assoc, Nat.mul_right_comm]
          exact Nat.mul_le_mul_right _ (Nat.div_mul_le_self _ _)
        omega) (fun _ => by omega)
      show rdL k (((u % 128 + 128 : Nat) : Int) :: (digs (u / 128) ++ t)) = _
      unfold rdL
      rw [if_neg (by
        rintro (h | ⟨h, h'⟩ | ⟨h, h'⟩)
        · omega
        · omega
        · omega), if_neg (by omega), hr]
      simp
      omega

theorem unnum_num (n : Int) : unnum (num n) = n := by
  unfold unnum num
  split <;> split <;> omega
theorem num_unnum (v : Nat) : num (unnum v) = v := by
  unfold unnum num
  split <;> split <;> omega

theorem rdAt_digs (p t : List Int) {n : Int} (h : -9223372036854775808 ≤ n ∧ n ≤ 9223372036854775807) : rdAt (p ++ (digs (num n) ++ t)) p.length = some (n, p.length + (digs (num n)).length) := by
  unfold rdAt
  rw [List.drop_left, rdL_digs t (num n) 0 (by have := num_lt h; omega) (by omega)]
  simp [unnum_num]

theorem rdMany_put (t : List Int) : ∀ (l p : List Int), (∀ x ∈ l, (Lit.int .i64 x).wf = true) → rdMany (p ++ ((l.flatMap fun x => digs (num x)) ++ t)) l.length p.length = some (l, p.length + (l.flatMap fun x => digs (num x)).length)
  | [], p, _ => by simp [rdMany]
  | x :: l, p, hw => by
    have h1 := rdAt_digs p ((l.flatMap fun x => digs (num x)) ++ t) (wf_i64 (hw x (by simp)))
    have h2 := rdMany_put t l (p ++ digs (num x)) (fun y hy => hw y (by simp [hy]))
    simp only [List.flatMap_cons, List.length_cons, List.append_assoc] at h1 h2 ⊢
    unfold rdMany
    rw [h1]
    simp only [List.length_append] at h2 ⊢
    rw [h2]
    simp [Nat.add_assoc]

/-- What is put is got, and no further. -/
theorem lget_more {l : List Int} (hw : ∀ x ∈ l, (Lit.int .i64 x).wf = true) (hl : l.length ≤ 1000) (t : List Int) : lget (lput l ++ t) = if t = [] then some l else none := by
  have h1 := rdAt_digs [] ((l.flatMap fun x => digs (num x)) ++ t) (n := (l.length : Int)) (by omega)
  have h2 := rdMany_put t l (digs (num l.length)) hw
  unfold lget
  rw [show lput l ++ t = digs (num l.length) ++ ((l.flatMap fun x => digs (num x)) ++ t) from by simp [lput]]
  simp only [List.nil_append, List.length_nil, Nat.zero_add] at h1
  rw [h1]
  simp only
  rw [if_neg (by omega), show ((l.length : Int)).toNat = l.length from by simp, h2]
  simp only [List.length_append]
  by_cases ht : t = []
  · subst ht; simp
  · rw [if_neg ht, if_neg]
    have : 0 < t.length := List.length_pos_iff.2 ht
    omega

theorem lget_lput {l : List Int} (hw : ∀ x ∈ l, (Lit.int .i64 x).wf = true) (hl : l.length ≤ 1000) : lget (lput l) = some l := by
  have := lget_more hw hl []
  simpa using this

theorem rdL_conv : ∀ (xs : List Int) (k v m : Nat), (∀ x ∈ xs, (Lit.int .u8 x).wf = true) → rdL k xs = some (v, m) → xs.take m = digs v ∧ (0 < k → v ≠ 0)
  | [], k, v, m, _, h => by simp [rdL] at h
  | c :: rest, k, v, m, hw, h => by
    have hc := wf_u8 (hw c (by simp))
    unfold rdL at h
    split at h
    · cases h
    · rename_i hk
      split at h
      · rename_i hlt
        simp at h
        obtain ⟨rfl, rfl⟩ := h
        rw [digs_small (by omega)]
        refine ⟨by simp; omega, fun h0 => ?_⟩
        intro hz
        exact hk (.inr (.inr ⟨h0, by omega⟩))
      · rename_i hge
        rcases hr : rdL (k + 1) rest with _ | ⟨v', m'⟩
        · rw [hr] at h; cases h
        · rw [hr] at h
          simp at h
          obtain ⟨rfl, rfl⟩ := h
          obtain ⟨h1, h2⟩ := rdL_conv rest (k + 1) v' m' (fun x hx => hw x (by simp [hx])) hr
          have hv := h2 (by omega)
          refine ⟨?_, fun _ => by omega⟩
          rw [digs_big (by omega), List.take_succ_cons, h1]
          congr 1
          · omega
          · congr 1; omega

theorem rdAt_conv {xs : List Int} {a next : Nat} {x : Int} (hw : ∀ x ∈ xs, (Lit.int .u8 x).wf = true) (h : rdAt xs a = some (x, next)) : a ≤ next ∧ (xs.drop a).take (next - a) = digs (num x) := by
  unfold rdAt at h
  rcases hr : rdL 0 (xs.drop a) with _ | ⟨v, m⟩
  · rw [hr] at h; cases h
  · rw [hr] at h
    simp at h
    obtain ⟨rfl, rfl⟩ := h
    obtain ⟨h1, _⟩ := rdL_conv _ _ _ _ (fun x hx => hw x (List.mem_of_mem_drop hx)) hr
    refine ⟨by omega, ?_⟩
    rw [num_unnum, show a + m - a = m from by omega, h1]

theorem take_split (xs : List Int) {a b c : Nat} (h1 : a ≤ b) (h2 : b ≤ c) : (xs.drop a).take (c - a) = (xs.drop a).take (b - a) ++ (xs.drop b).take (c - b) := by
  have h3 : c - a = (b - a) + (c - b) := by omega
  rw [h3, List.take_add, List.drop_drop]
  congr 3
  omega

theorem rdMany_conv {xs : List Int} (hw : ∀ x ∈ xs, (Lit.int .u8 x).wf = true) : ∀ (n a e : Nat) (l : List Int), rdMany xs n a = some (l, e) → a ≤ e ∧ (xs.drop a).take (e - a) = l.flatMap fun x => digs (num x)
  | 0, a, e, l, h => by
    simp [rdMany] at h
    obtain ⟨rfl, rfl⟩ := h
    simp
  | n + 1, a, e, l, h => by
    unfold rdMany at h
    rcases hr : rdAt xs a with _ | ⟨x, next⟩
    · rw [hr] at h; cases h
    · rw [hr] at h
      simp only at h
      rcases hm : rdMany xs n next with _ | ⟨l', e'⟩
      · rw [hm] at h; cases h
      · rw [hm] at h
        simp at h
        obtain ⟨rfl, rfl⟩ := h
        obtain ⟨h1, h2⟩ := rdAt_conv hw hr
        obtain ⟨h3, h4⟩ := rdMany_conv hw n next e' l' hm
        refine ⟨by omega, ?_⟩
        rw [take_split xs h1 h3, h2, h4, List.flatMap_cons]

/-- What is got was put. -/
theorem lput_lget {xs l : List Int} (hw : ∀ x ∈ xs, (Lit.int .u8 x).wf = true) (h : lget xs = some l) : lput l = xs ∧ l.length ≤ 1000 ∧ ∀ x ∈ l, (Lit.int .i64 x).wf = true := by
  unfold lget at h
  rcases hr : rdAt xs 0 with _ | ⟨m, a⟩
  · rw [hr] at h; cases h
  · rw [hr] at h
    simp only at h
    split at h
    · cases h
    · rename_i hm
      rcases hq : rdMany xs m.toNat a with _ | ⟨l', e⟩
      · rw [hq] at h; cases h
      · rw [hq] at h
        simp only at h
        split at h
        · rename_i he
          cases h
          obtain ⟨h1, h2⟩ := rdAt_conv hw hr
          obtain ⟨h3, h4⟩ := rdMany_conv hw _ _ _ _ hq
          obtain ⟨h5, h6⟩ := rdMany_wf hw _ _ _ _ hq
          refine ⟨?_, by omega, h6⟩
          unfold lput
          rw [← h4, show (l.length : Int) = m from by omega, ← h2]
          have := take_split xs (a := 0) (b := a) (c := e) (by omega) h3
          rw [← this, he]
          simp
        · cases h

/-- No bytes of a list begin those of another one. -/
theorem lput_prefix {l m t : List Int} (hl : l.length ≤ 1000) (hm : m.length ≤ 1000) (wl : ∀ x ∈ l, (Lit.int .i64 x).wf = true) (wm : ∀ x ∈ m, (Lit.int .i64 x).wf = true) (h : lput m = lput l ++ t) : l = m := by
  have h1 := lget_more wl hl t
  rw [← h, lget_lput wm hm] at h1
  split at h1
  · simpa using h1.symm
  · cases h1

/-- No proper beginning of the bytes of a list is accepted. -/
theorem lget_cut {l : List Int} (hl : l.length ≤ 1000) (wl : ∀ x ∈ l, (Lit.int .i64 x).wf = true) {k : Nat} (hk : k < (lput l).length) : lget ((lput l).take k) = none := by
  rcases h : lget ((lput l).take k) with _ | m
  · rfl
  · obtain ⟨h1, h2, h3⟩ := lput_lget (fun x hx => lput_wf l x (List.mem_of_mem_take hx)) h
    have h4 := lget_more h3 h2 ((lput l).drop k)
    rw [h1, List.take_append_drop, lget_lput wl hl, if_neg (by
      intro hd
      have := congrArg List.length hd
      simp at this
      omega)] at h4
    cases h4

/-- The bytes of a greater number are no fewer. -/
theorem digs_mono : ∀ (v u : Nat), u ≤ v → (digs u).length ≤ (digs v).length := by
  intro v
  induction v using Nat.strongRecOn with
  | _ v ih =>
    intro u hu
    by_cases h1 : u < 128
    · rw [digs_small h1]
      have := (digs_len v).1
      simpa using this
    · rw [digs_big h1, digs_big (u := v) (by omega)]
      have := ih (v / 128) (by omega) (u / 128) (by omega)
      simpa using this

end Go.Proofs.YtdmfdimhjemngaaGreatDoor

