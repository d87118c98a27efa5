/-
  A nonce put together; what a read request is made of.
-/
import Derived.Test.YtcpojkodidflcaaK6
import Derived.Deep.RegionWith
namespace Go.Proofs.Ytcpojkodidflcaa
open Go.RowKit Go.Sort Go.Shelf
set_option linter.unusedSimpArgs false
set_option linter.unusedVariables false
set_option maxRecDepth 100000

theorem grown_of_ext {w w' : World} (h : Ext w w') (row : Option Nat) : w.grownBy w' row := ⟨h.os, h.tape, h.output, h.size, fun k hk _ => h.block k hk⟩
theorem grown_new {w w' : World} {row : Option Nat} (hg : w.grownBy w' row) (j : Nat) (v : Value) : w.grownBy (w'.setCell ⟨w.heap.size, j, none⟩ v) row :=
  ⟨hg.os, hg.tape, hg.output, by simpa using hg.size, fun k hk hne => (heap_setCell_other w' ⟨w.heap.size, j, none⟩ k v (by simp; omega)).trans (hg.block k hk hne)⟩
theorem grown_drewR {w w' : World} {row : Option Nat} (hg : w.grownBy w' row) : w.grownBy w'.drew row := ⟨hg.os, hg.tape, hg.output, hg.size, hg.block⟩
theorem below_of_grown {base : Nat} {w w' : World} {r : Nat} (hg : w.grownBy w' (some r)) (hb : base ≤ r) (hw : base ≤ w.heap.size) : Below base w w' :=
  (Below.refl base w).grown hg hw fun k hk => by cases hk; exact hb

theorem halfB_eq (n : Int) : halfB n = decide (0 ≤ n ∧ n < 4294967296) := by
  unfold halfB inB
  rw [Bool.eq_iff_iff]; simp; omega

theorem right_any (n : Int) (w : World) : Calls Try.prog 44 #[.int .i64 n] w fun e w' => e = .returned (.bool (halfB n)) ∧ Ext w w' := by
  rw [halfB_eq]
  go_enter Try.func44, Try.ntmps44
  go_wp2
  all_goals
    go_ret
    refine ⟨ret_bool ?_, Ext.refl w⟩
    simp_all <;> omega

def wholeV (u l : Int) : Int := bits .or .u64 (IntKind.u64.wrap (IntKind.u64.wrap u * 4294967296)) (IntKind.u64.wrap l)
theorem wholeV_eq {u l : Int} (hu : halfB u = true) (hl : halfB l = true) : wholeV u l = u * 4294967296 + l := by
  have h1 := inB_iff.1 hu
  have h2 := inB_iff.1 hl
  unfold wholeV
  rw [IntWalk.u64_in u ⟨by omega, by omega⟩, IntWalk.u64_in l ⟨by omega, by omega⟩, IntWalk.u64_in (u * 4294967296) ⟨by omega, by omega⟩]
  obtain ⟨a, rfl⟩ : ∃ a : Nat, u = (a : Int) := ⟨u.toNat, by omega⟩
  obtain ⟨b, rfl⟩ : ∃ b : Nat, l = (b : Int) := ⟨l.toNat, by omega⟩
  have e1 : (a : Int) * 4294967296 = ((a * 4294967296 : Nat) : Int) := by omega
  rw [e1]
  show IntKind.u64.wrap ((BitVec.ofInt 64 ((a * 4294967296 : Nat) : Int) ||| BitVec.ofInt 64 (b : Int)).toNat : Int) = _
  rw [BitVec.toNat_or, BitVec.ofInt_natCast, BitVec.ofInt_natCast, BitVec.toNat_ofNat, BitVec.toNat_ofNat, Nat.mod_eq_of_lt (by omega), Nat.mod_eq_of_lt (by omega)]
  have h3 := Nat.two_pow_add_eq_or_of_lt (i := 32) (b := b) (by omega) a
  rw [show a * 4294967296 = 2 ^ 32 * a by omega, ← h3, IntKind.wrap_u64]
  omega

set_option maxHeartbeats 1000000 in
theorem whole_any (u l : Int) (w : World) : Calls Try.prog 29 #[.agg #[.int .i64 u, .int .i64 l]] w fun e w' => e = .returned (.tuple #[.int .u64 (wholeV u l), .bool (halfB u && halfB l)]) ∧ Ext w w' := by
  rcases hu : halfB u with _ | _
  all_goals
    have HUc : Hid (∀ w, Calls Try.prog 44 #[.int .i64 u] w fun e w' => e = .returned (.bool (halfB u)) ∧ Ext w w') := fun w => right_any u w
    have HLc : Hid (∀ w, Calls Try.prog 44 #[.int .i64 l] w fun e w' => e = .returned (.bool (halfB l)) ∧ Ext w w') := fun w => right_any l w
    rw [hu] at HUc
    have HU := Lib.hid hu
    clear hu
    go_enter Try.func29, Try.ntmps29
    go_wp2_with fail
    refine region_ext (by kernel_rfl) (by kernel_rfl) ?_
    have hg := @grow_cell
    repeat (go_big_quiet_step (first | (go_at_call 44; first | with_reducible exact Calls.regrown_of (HUc.out _) | with_reducible exact Calls.regrown_of (HLc.out _))))
    refine wpQuiet_nil ?_
    intro w1 hE1
    go_wp2
    go_ret2
    exact ⟨rfl, ((Ext.refl w).alloc _).trans hE1⟩

/-- What stands behind a pointer while a request is read. -/
def NonceBlk (W : World) (b : Nat) (u l : Int) : Prop := W.heap[b]? = some (.cells #[.int .i64 u, .int .i64 l] 53 (0, 0))
def ReqBlk (W : World) (b : Nat) (h a r n : Int) : Prop := W.heap[b]? = some (.cells #[.int .i64 h, .int .i64 a, .int .i64 r, .int .u64 n] 24 (0, 0))

set_option maxHeartbeats 1000000 in
theorem made1_any (N R : Nat) (u l h a r n : Int) (w : World) (hN : NonceBlk w N u l) (hR : ReqBlk w R h a r n) (hNR : N ≠ R) :
    Calls Try.prog 28 #[.pointer (some ⟨N, 0, none⟩), .pointer (some ⟨R, 0, none⟩)] w fun e w' => e = .returned (.tuple #[.agg #[.int .i64 h, .int .i64 a, .int .i64 r, .int .u64 (wholeV u l)], .bool ((halfB u && halfB l) && reqB h a r)]) ∧ w.grownBy w' (some R) := by
  have n0 := cell_of_block hN 0 (.int .i64 u) rfl
  have n1 := cell_of_block hN 1 (.int .i64 l) rfl
  have r0 := cell_of_block hR 0 (.int .i64 h) rfl
  have r1 := cell_of_block hR 1 (.int .i64 a) rfl
  have r2 := cell_of_block hR 2 (.int .i64 r) rfl
  have r3 := cell_of_block hR 3 (.int .u64 n) rfl
  have rf := free_of_block hR
  have hNl := lt_of_block hN
  have hRl := lt_of_block hR
  go_enter Try.func28, Try.ntmps28
  go_wp2_with (go_at_call 29; refine (whole_any _ _ _).mono ?_; rintro e w1 ⟨rfl, hE1⟩; obtain ⟨hc1, hf1⟩ := hE1.rules; have hz1 := hE1.sz1)
  have hb1 : w.grownBy w1 (some R) := grown_of_ext (((Ext.refl w).alloc _).trans hE1) _
  have hR1 : ReqBlk w1 R h a r n := (hE1.block R (by simp; omega)).trans ((Below.heap_alloc w _ R hRl).trans hR)
  have hS1 : ReqBlk w1 w.heap.size 0 0 0 0 := (hE1.block _ (by simp)).trans (World.alloc_heap_new w _)
  have hR2 : ReqBlk (w1.setCell ⟨R, 3, none⟩ (.int .u64 (wholeV u l))) R h a r (wholeV u l) := heap_setCell_same w1 R 3 _ _ _ hR1
  have hS2 : ReqBlk (w1.setCell ⟨R, 3, none⟩ (.int .u64 (wholeV u l))) w.heap.size 0 0 0 0 := (heap_setCell_other w1 ⟨R, 3, none⟩ w.heap.size _ (by simp; omega)).trans hS1
  have hB2 : w.grownBy (w1.setCell ⟨R, 3, none⟩ (.int .u64 (wholeV u l))) (some R) := grown_set hb1 _ _
  generalize w1.setCell ⟨R, 3, none⟩ (.int .u64 (wholeV u l)) = W2 at *
  clear hb1 hR1 hS1 hE1 hc1 hf1 hz1 n0 n1 r0 r1 r2 r3 rf hN hR
  have r0 := cell_of_block hR2 0 (.int .i64 h) rfl
  have r1 := cell_of_block hR2 1 (.int .i64 a) rfl
  have r2 := cell_of_block hR2 2 (.int .i64 r) rfl
  have r3 := cell_of_block hR2 3 (.int .u64 (wholeV u l)) rfl
  have s0 := cell_of_block hS2 0 (.int .i64 0) rfl
  have s1 := cell_of_block hS2 1 (.int .i64 0) rfl
  have s2 := cell_of_block hS2 2 (.int .i64 0) rfl
  have s3 := cell_of_block hS2 3 (.int .u64 0) rfl
  have sf := free_of_block hS2
  have hRz := lt_of_block hR2
  have hSz := lt_of_block hS2
  rcases hok : (halfB u && halfB l) with _ | _
  · go_region_with (fail)
    all_goals
      go_wp2
      refine bodyPost_ret (v := .tuple #[.agg #[.int .i64 h, .int .i64 a, .int .i64 r, .int .u64 (wholeV u l)], .bool false]) (by simp [results, Try.results28, go_sem, s0, s1, s2, s3]) rfl ⟨by simp [hok], ?_⟩
      have hX := hB2
      have hY := grown_new (grown_new (grown_new (grown_new hX 0 (.int .i64 h)) 1 (.int .i64 a)) 2 (.int .i64 r)) 3 (.int .u64 (wholeV u l))
      first | with_reducible exact hY | with_reducible exact grown_drewR hY
  · go_region_with (go_at_call 22; refine (request_any _ _ _ _ _).mono ?_; rintro e w2 ⟨rfl, hE2⟩; obtain ⟨hc2, hf2⟩ := hE2.rules; have t0 := hE2.cell (a := ⟨w.heap.size, 0, none⟩) (v := .int .i64 0) (by go_cell); have t1 := hE2.cell (a := ⟨w.heap.size, 1, none⟩) (v := .int .i64 0) (by go_cell); have t2 := hE2.cell (a := ⟨w.heap.size, 2, none⟩) (v := .int .i64 0) (by go_cell); have t3 := hE2.cell (a := ⟨w.heap.size, 3, none⟩) (v := .int .u64 0) (by go_cell); have u0 := hE2.cell (a := ⟨R, 0, none⟩) (v := .int .i64 h) (by go_cell); have u1 := hE2.cell (a := ⟨R, 1, none⟩) (v := .int .i64 a) (by go_cell); have u2 := hE2.cell (a := ⟨R, 2, none⟩) (v := .int .i64 r) (by go_cell); have u3 := hE2.cell (a := ⟨R, 3, none⟩) (v := .int .u64 (wholeV u l)) (by go_cell); have hS3 : ReqBlk w2 w.heap.size 0 0 0 0 := (hE2.block _ (by simpa using hSz)).trans hS2; have hB3 : w.grownBy w2 (some R) := grown_ext hB2 ((Ext.refl _).drew.trans hE2); have hz4 : w.heap.size < w2.heap.size := Nat.lt_of_lt_of_le hSz hE2.sz; have tf : ∀ j, w2.frozen? ⟨w.heap.size, j, none⟩ = false := fun j => (hf2 _ j (by simpa using hSz)).trans (by simpa using sf j))
    all_goals
      go_wp2
      refine bodyPost_ret (v := .tuple #[.agg #[.int .i64 h, .int .i64 a, .int .i64 r, .int .u64 (wholeV u l)], .bool (reqB h a r)]) (by simp [results, Try.results28, go_sem, t0, t1, t2, t3]) rfl ⟨by simp [hok], ?_⟩
      have hX := hB3
      have hY := grown_new (grown_new (grown_new (grown_new hX 0 (.int .i64 h)) 1 (.int .i64 a)) 2 (.int .i64 r)) 3 (.int .u64 (wholeV u l))
      first | with_reducible exact hY | with_reducible exact grown_drewR hY

end Go.Proofs.Ytcpojkodidflcaa
