/-
  GetReply of the program.
-/
import Derived.Test.YtcpojkodidflcaaK11
namespace Go.Proofs.Ytcpojkodidflcaa
open Go.RowKit Go.Sort Go.Shelf
set_option linter.unusedSimpArgs false
set_option linter.unusedVariables false
set_option maxRecDepth 100000

theorem res_getRep (W : World) (b : Nat) (q : Rep) (k : Int) (tmps : Array Value) (h2 : tmps[2]?.getD undef = .pointer (some ⟨b, 0, none⟩)) (h3 : tmps[3]?.getD undef = .int .i64 k) (hb : RepBlk W b q) :
    (results Try.f18 tmps).run Try.prog W = .ok (.tuple #[repV q, .int .i64 k]) W := by
  have c0 := cell_of_block hb 0 (.int .i64 q.a) rfl
  have c1 := cell_of_block hb 1 (.int .i64 q.h) rfl
  have c2 := cell_of_block hb 2 (.int .i64 q.r) rfl
  have c3 := cell_of_block hb 3 (.int .u64 q.n) rfl
  have c4 := cell_of_block hb 4 (.int .i64 q.lo) rfl
  have c5 := cell_of_block hb 5 (.int .i64 q.hi) rfl
  have c6 := cell_of_block hb 6 (.int .i64 q.k) rfl
  have c7 := cell_of_block hb 7 (.int .i64 q.t) rfl
  have c8 := cell_of_block hb 8 (.int .i64 q.c) rfl
  have c9 := cell_of_block hb 9 (.int .i64 q.s) rfl
  simp [results, Try.results18, go_sem, h2, h3, c0, c1, c2, c3, c4, c5, c6, c7, c8, c9, repV]

set_option maxHeartbeats 1000000 in
theorem getReply_any (a1 : Option Addr) (n1 c1 : Nat) (xs : List Int) (w : World) (h1 : Sl .u8 w a1 n1 c1 xs) (hn1 : n1 ≤ 1000000000) :
    Calls Try.prog 18 #[.slice a1 n1 c1] w fun e w' => RepPost w w' e (lrep xs) := by
  go_enter Try.func18, Try.ntmps18
  go_wp2_with fail
  refine region_ext (by kernel_rfl) (by kernel_rfl) ?_
  repeat (go_big_quiet_step (fail))
  refine wpQuiet_nil ?_
  intro w1 hE1
  have hS1 : RepBlk w1 w.heap.size rep0 := (hE1.block _ (by simp; omega)).trans (alloc_keep (World.alloc_heap_new w _))
  have hA1 : AnsBlk w1 (w.heap.size + 1) 0 0 0 0 0 0 0 0 0 0 0 0 := (hE1.block _ (by simp)).trans (alloc_at (by simp))
  have hE01 : Ext w w1 := (((Ext.refl w).alloc _).alloc _).trans hE1
  clear hE1
  have lS := lt_of_block hS1
  have lA := lt_of_block hA1
  go_wp2_with fail
  refine region_mk 38 _ 7 #[.pointer none, .pointer none, .pointer none, .pointer none, .pointer none, .pointer none, .pointer none, .pointer none, .pointer none, .pointer none, .pointer none] 75 _ (by kernel_rfl) (by kernel_rfl) rfl rfl (fun _ => rfl) (fun a W => by simp [execOp, go_sem]) rfl (by kernel_rfl) ?_
  apply Exists.intro
  refine ⟨fun W0 hE0 => ?_, fun b W hE3 hb hblk => ?_⟩
  · simp only [List.take_succ_cons, List.take_zero]
    repeat (go_big_quiet_step (fail))
    refine wpQuiet_nil ?_
    rfl
  · simp only [List.drop_succ_cons, List.drop_zero, Act.put, List.setIfInBounds_toArray, List.set_cons_zero, List.set_cons_succ]
    have hz3 := lt_of_block hblk
    have k0 := cell_of_block hblk 0 (.pointer none) rfl
    have k1 := cell_of_block hblk 1 (.pointer none) rfl
    have k2 := cell_of_block hblk 2 (.pointer none) rfl
    have k3 := cell_of_block hblk 3 (.pointer none) rfl
    have k4 := cell_of_block hblk 4 (.pointer none) rfl
    have k5 := cell_of_block hblk 5 (.pointer none) rfl
    have k6 := cell_of_block hblk 6 (.pointer none) rfl
    have k7 := cell_of_block hblk 7 (.pointer none) rfl
    have k8 := cell_of_block hblk 8 (.pointer none) rfl
    have k9 := cell_of_block hblk 9 (.pointer none) rfl
    have k10 := cell_of_block hblk 10 (.pointer none) rfl
    have kf := free_of_block hblk
    go_wp2_with fail
    have g0 : (W.setCell ⟨b, 0, none⟩ (.pointer (some ⟨w.heap.size + 1, 0, none⟩))).heap[b]? = some (.cells #[.pointer (some ⟨w.heap.size + 1, 0, none⟩), .pointer none, .pointer none, .pointer none, .pointer none, .pointer none, .pointer none, .pointer none, .pointer none, .pointer none, .pointer none] 75 (0, 0)) := heap_setCell_same _ b 0 _ _ _ hblk
    have g1 : ((W.setCell ⟨b, 0, none⟩ (.pointer (some ⟨w.heap.size + 1, 0, none⟩))).setCell ⟨b, 1, none⟩ (.pointer (some ⟨w.heap.size + 1, 1, none⟩))).heap[b]? = some (.cells #[.pointer (some ⟨w.heap.size + 1, 0, none⟩), .pointer (some ⟨w.heap.size + 1, 1, none⟩), .pointer none, .pointer none, .pointer none, .pointer none, .pointer none, .pointer none, .pointer none, .pointer none, .pointer none] 75 (0, 0)) := heap_setCell_same _ b 1 _ _ _ g0
    have g2 : (((W.setCell ⟨b, 0, none⟩ (.pointer (some ⟨w.heap.size + 1, 0, none⟩))).setCell ⟨b, 1, none⟩ (.pointer (some ⟨w.heap.size + 1, 1, none⟩))).setCell ⟨b, 2, none⟩ (.pointer (some ⟨w.heap.size + 1, 2, none⟩))).heap[b]? = some (.cells #[.pointer (some ⟨w.heap.size + 1, 0, none⟩), .pointer (some ⟨w.heap.size + 1, 1, none⟩), .pointer (some ⟨w.heap.size + 1, 2, none⟩), .pointer none, .pointer none, .pointer none, .pointer none, .pointer none, .pointer none, .pointer none, .pointer none] 75 (0, 0)) := heap_setCell_same _ b 2 _ _ _ g1
    have g3 : ((((W.setCell ⟨b, 0, none⟩ (.pointer (some ⟨w.heap.size + 1, 0, none⟩))).setCell ⟨b, 1, none⟩ (.pointer (some ⟨w.heap.size + 1, 1, none⟩))).setCell ⟨b, 2, none⟩ (.pointer (some ⟨w.heap.size + 1, 2, none⟩))).setCell ⟨b, 3, none⟩ (.pointer (some ⟨w.heap.size + 1, 10, none⟩))).heap[b]? = some (.cells #[.pointer (some ⟨w.heap.size + 1, 0, none⟩), .pointer (some ⟨w.heap.size + 1, 1, none⟩), .pointer (some ⟨w.heap.size + 1, 2, none⟩), .pointer (some ⟨w.heap.size + 1, 10, none⟩), .pointer none, .pointer none, .pointer none, .pointer none, .pointer none, .pointer none, .pointer none] 75 (0, 0)) := heap_setCell_same _ b 3 _ _ _ g2
    have g4 : (((((W.setCell ⟨b, 0, none⟩ (.pointer (some ⟨w.heap.size + 1, 0, none⟩))).setCell ⟨b, 1, none⟩ (.pointer (some ⟨w.heap.size + 1, 1, none⟩))).setCell ⟨b, 2, none⟩ (.pointer (some ⟨w.heap.size + 1, 2, none⟩))).setCell ⟨b, 3, none⟩ (.pointer (some ⟨w.heap.size + 1, 10, none⟩))).setCell ⟨b, 4, none⟩ (.pointer (some ⟨w.heap.size + 1, 11, none⟩))).heap[b]? = some (.cells #[.pointer (some ⟨w.heap.size + 1, 0, none⟩), .pointer (some ⟨w.heap.size + 1, 1, none⟩), .pointer (some ⟨w.heap.size + 1, 2, none⟩), .pointer (some ⟨w.heap.size + 1, 10, none⟩), .pointer (some ⟨w.heap.size + 1, 11, none⟩), .pointer none, .pointer none, .pointer none, .pointer none, .pointer none, .pointer none] 75 (0, 0)) := heap_setCell_same _ b 4 _ _ _ g3
    have g5 : ((((((W.setCell ⟨b, 0, none⟩ (.pointer (some ⟨w.heap.size + 1, 0, none⟩))).setCell ⟨b, 1, none⟩ (.pointer (some ⟨w.heap.size + 1, 1, none⟩))).setCell ⟨b, 2, none⟩ (.pointer (some ⟨w.heap.size + 1, 2, none⟩))).setCell ⟨b, 3, none⟩ (.pointer (some ⟨w.heap.size + 1, 10, none⟩))).setCell ⟨b, 4, none⟩ (.pointer (some ⟨w.heap.size + 1, 11, none⟩))).setCell ⟨b, 5, none⟩ (.pointer (some ⟨w.heap.size + 1, 4, none⟩))).heap[b]? = some (.cells #[.pointer (some ⟨w.heap.size + 1, 0, none⟩), .pointer (some ⟨w.heap.size + 1, 1, none⟩), .pointer (some ⟨w.heap.size + 1, 2, none⟩), .pointer (some ⟨w.heap.size + 1, 10, none⟩), .pointer (some ⟨w.heap.size + 1, 11, none⟩), .pointer (some ⟨w.heap.size + 1, 4, none⟩), .pointer none, .pointer none, .pointer none, .pointer none, .pointer none] 75 (0, 0)) := heap_setCell_same _ b 5 _ _ _ g4
    have g6 : (((((((W.setCell ⟨b, 0, none⟩ (.pointer (some ⟨w.heap.size + 1, 0, none⟩))).setCell ⟨b, 1, none⟩ (.pointer (some ⟨w.heap.size + 1, 1, none⟩))).setCell ⟨b, 2, none⟩ (.pointer (some ⟨w.heap.size + 1, 2, none⟩))).setCell ⟨b, 3, none⟩ (.pointer (some ⟨w.heap.size + 1, 10, none⟩))).setCell ⟨b, 4, none⟩ (.pointer (some ⟨w.heap.size + 1, 11, none⟩))).setCell ⟨b, 5, none⟩ (.pointer (some ⟨w.heap.size + 1, 4, none⟩))).setCell ⟨b, 6, none⟩ (.pointer (some ⟨w.heap.size + 1, 5, none⟩))).heap[b]? = some (.cells #[.pointer (some ⟨w.heap.size + 1, 0, none⟩), .pointer (some ⟨w.heap.size + 1, 1, none⟩), .pointer (some ⟨w.heap.size + 1, 2, none⟩), .pointer (some ⟨w.heap.size + 1, 10, none⟩), .pointer (some ⟨w.heap.size + 1, 11, none⟩), .pointer (some ⟨w.heap.size + 1, 4, none⟩), .pointer (some ⟨w.heap.size + 1, 5, none⟩), .pointer none, .pointer none, .pointer none, .pointer none] 75 (0, 0)) := heap_setCell_same _ b 6 _ _ _ g5
    have g7 : ((((((((W.setCell ⟨b, 0, none⟩ (.pointer (some ⟨w.heap.size + 1, 0, none⟩))).setCell ⟨b, 1, none⟩ (.pointer (some ⟨w.heap.size + 1, 1, none⟩))).setCell ⟨b, 2, none⟩ (.pointer (some ⟨w.heap.size + 1, 2, none⟩))).setCell ⟨b, 3, none⟩ (.pointer (some ⟨w.heap.size + 1, 10, none⟩))).setCell ⟨b, 4, none⟩ (.pointer (some ⟨w.heap.size + 1, 11, none⟩))).setCell ⟨b, 5, none⟩ (.pointer (some ⟨w.heap.size + 1, 4, none⟩))).setCell ⟨b, 6, none⟩ (.pointer (some ⟨w.heap.size + 1, 5, none⟩))).setCell ⟨b, 7, none⟩ (.pointer (some ⟨w.heap.size + 1, 6, none⟩))).heap[b]? = some (.cells #[.pointer (some ⟨w.heap.size + 1, 0, none⟩), .pointer (some ⟨w.heap.size + 1, 1, none⟩), .pointer (some ⟨w.heap.size + 1, 2, none⟩), .pointer (some ⟨w.heap.size + 1, 10, none⟩), .pointer (some ⟨w.heap.size + 1, 11, none⟩), .pointer (some ⟨w.heap.size + 1, 4, none⟩), .pointer (some ⟨w.heap.size + 1, 5, none⟩), .pointer (some ⟨w.heap.size + 1, 6, none⟩), .pointer none, .pointer none, .pointer none] 75 (0, 0)) := heap_setCell_same _ b 7 _ _ _ g6
    have g8 : (((((((((W.setCell ⟨b, 0, none⟩ (.pointer (some ⟨w.heap.size + 1, 0, none⟩))).setCell ⟨b, 1, none⟩ (.pointer (some ⟨w.heap.size + 1, 1, none⟩))).setCell ⟨b, 2, none⟩ (.pointer (some ⟨w.heap.size + 1, 2, none⟩))).setCell ⟨b, 3, none⟩ (.pointer (some ⟨w.heap.size + 1, 10, none⟩))).setCell ⟨b, 4, none⟩ (.pointer (some ⟨w.heap.size + 1, 11, none⟩))).setCell ⟨b, 5, none⟩ (.pointer (some ⟨w.heap.size + 1, 4, none⟩))).setCell ⟨b, 6, none⟩ (.pointer (some ⟨w.heap.size + 1, 5, none⟩))).setCell ⟨b, 7, none⟩ (.pointer (some ⟨w.heap.size + 1, 6, none⟩))).setCell ⟨b, 8, none⟩ (.pointer (some ⟨w.heap.size + 1, 7, none⟩))).heap[b]? = some (.cells #[.pointer (some ⟨w.heap.size + 1, 0, none⟩), .pointer (some ⟨w.heap.size + 1, 1, none⟩), .pointer (some ⟨w.heap.size + 1, 2, none⟩), .pointer (some ⟨w.heap.size + 1, 10, none⟩), .pointer (some ⟨w.heap.size + 1, 11, none⟩), .pointer (some ⟨w.heap.size + 1, 4, none⟩), .pointer (some ⟨w.heap.size + 1, 5, none⟩), .pointer (some ⟨w.heap.size + 1, 6, none⟩), .pointer (some ⟨w.heap.size + 1, 7, none⟩), .pointer none, .pointer none] 75 (0, 0)) := heap_setCell_same _ b 8 _ _ _ g7
    have g9 : ((((((((((W.setCell ⟨b, 0, none⟩ (.pointer (some ⟨w.heap.size + 1, 0, none⟩))).setCell ⟨b, 1, none⟩ (.pointer (some ⟨w.heap.size + 1, 1, none⟩))).setCell ⟨b, 2, none⟩ (.pointer (some ⟨w.heap.size + 1, 2, none⟩))).setCell ⟨b, 3, none⟩ (.pointer (some ⟨w.heap.size + 1, 10, none⟩))).setCell ⟨b, 4, none⟩ (.pointer (some ⟨w.heap.size + 1, 11, none⟩))).setCell ⟨b, 5, none⟩ (.pointer (some ⟨w.heap.size + 1, 4, none⟩))).setCell ⟨b, 6, none⟩ (.pointer (some ⟨w.heap.size + 1, 5, none⟩))).setCell ⟨b, 7, none⟩ (.pointer (some ⟨w.heap.size + 1, 6, none⟩))).setCell ⟨b, 8, none⟩ (.pointer (some ⟨w.heap.size + 1, 7, none⟩))).setCell ⟨b, 9, none⟩ (.pointer (some ⟨w.heap.size + 1, 8, none⟩))).heap[b]? = some (.cells #[.pointer (some ⟨w.heap.size + 1, 0, none⟩), .pointer (some ⟨w.heap.size + 1, 1, none⟩), .pointer (some ⟨w.heap.size + 1, 2, none⟩), .pointer (some ⟨w.heap.size + 1, 10, none⟩), .pointer (some ⟨w.heap.size + 1, 11, none⟩), .pointer (some ⟨w.heap.size + 1, 4, none⟩), .pointer (some ⟨w.heap.size + 1, 5, none⟩), .pointer (some ⟨w.heap.size + 1, 6, none⟩), .pointer (some ⟨w.heap.size + 1, 7, none⟩), .pointer (some ⟨w.heap.size + 1, 8, none⟩), .pointer none] 75 (0, 0)) := heap_setCell_same _ b 9 _ _ _ g8
    have g10 : (((((((((((W.setCell ⟨b, 0, none⟩ (.pointer (some ⟨w.heap.size + 1, 0, none⟩))).setCell ⟨b, 1, none⟩ (.pointer (some ⟨w.heap.size + 1, 1, none⟩))).setCell ⟨b, 2, none⟩ (.pointer (some ⟨w.heap.size + 1, 2, none⟩))).setCell ⟨b, 3, none⟩ (.pointer (some ⟨w.heap.size + 1, 10, none⟩))).setCell ⟨b, 4, none⟩ (.pointer (some ⟨w.heap.size + 1, 11, none⟩))).setCell ⟨b, 5, none⟩ (.pointer (some ⟨w.heap.size + 1, 4, none⟩))).setCell ⟨b, 6, none⟩ (.pointer (some ⟨w.heap.size + 1, 5, none⟩))).setCell ⟨b, 7, none⟩ (.pointer (some ⟨w.heap.size + 1, 6, none⟩))).setCell ⟨b, 8, none⟩ (.pointer (some ⟨w.heap.size + 1, 7, none⟩))).setCell ⟨b, 9, none⟩ (.pointer (some ⟨w.heap.size + 1, 8, none⟩))).setCell ⟨b, 10, none⟩ (.pointer (some ⟨w.heap.size + 1, 9, none⟩))).heap[b]? = some (.cells #[.pointer (some ⟨w.heap.size + 1, 0, none⟩), .pointer (some ⟨w.heap.size + 1, 1, none⟩), .pointer (some ⟨w.heap.size + 1, 2, none⟩), .pointer (some ⟨w.heap.size + 1, 10, none⟩), .pointer (some ⟨w.heap.size + 1, 11, none⟩), .pointer (some ⟨w.heap.size + 1, 4, none⟩), .pointer (some ⟨w.heap.size + 1, 5, none⟩), .pointer (some ⟨w.heap.size + 1, 6, none⟩), .pointer (some ⟨w.heap.size + 1, 7, none⟩), .pointer (some ⟨w.heap.size + 1, 8, none⟩), .pointer (some ⟨w.heap.size + 1, 9, none⟩)] 75 (0, 0)) := heap_setCell_same _ b 10 _ _ _ g9

    have hF5 : FldBlk2 (((((((((((W.setCell ⟨b, 0, none⟩ (.pointer (some ⟨w.heap.size + 1, 0, none⟩))).setCell ⟨b, 1, none⟩ (.pointer (some ⟨w.heap.size + 1, 1, none⟩))).setCell ⟨b, 2, none⟩ (.pointer (some ⟨w.heap.size + 1, 2, none⟩))).setCell ⟨b, 3, none⟩ (.pointer (some ⟨w.heap.size + 1, 10, none⟩))).setCell ⟨b, 4, none⟩ (.pointer (some ⟨w.heap.size + 1, 11, none⟩))).setCell ⟨b, 5, none⟩ (.pointer (some ⟨w.heap.size + 1, 4, none⟩))).setCell ⟨b, 6, none⟩ (.pointer (some ⟨w.heap.size + 1, 5, none⟩))).setCell ⟨b, 7, none⟩ (.pointer (some ⟨w.heap.size + 1, 6, none⟩))).setCell ⟨b, 8, none⟩ (.pointer (some ⟨w.heap.size + 1, 7, none⟩))).setCell ⟨b, 9, none⟩ (.pointer (some ⟨w.heap.size + 1, 8, none⟩))).setCell ⟨b, 10, none⟩ (.pointer (some ⟨w.heap.size + 1, 9, none⟩))) b (w.heap.size + 1) := g10
    have hX5 : Ext w1 (((((((((((W.setCell ⟨b, 0, none⟩ (.pointer (some ⟨w.heap.size + 1, 0, none⟩))).setCell ⟨b, 1, none⟩ (.pointer (some ⟨w.heap.size + 1, 1, none⟩))).setCell ⟨b, 2, none⟩ (.pointer (some ⟨w.heap.size + 1, 2, none⟩))).setCell ⟨b, 3, none⟩ (.pointer (some ⟨w.heap.size + 1, 10, none⟩))).setCell ⟨b, 4, none⟩ (.pointer (some ⟨w.heap.size + 1, 11, none⟩))).setCell ⟨b, 5, none⟩ (.pointer (some ⟨w.heap.size + 1, 4, none⟩))).setCell ⟨b, 6, none⟩ (.pointer (some ⟨w.heap.size + 1, 5, none⟩))).setCell ⟨b, 7, none⟩ (.pointer (some ⟨w.heap.size + 1, 6, none⟩))).setCell ⟨b, 8, none⟩ (.pointer (some ⟨w.heap.size + 1, 7, none⟩))).setCell ⟨b, 9, none⟩ (.pointer (some ⟨w.heap.size + 1, 8, none⟩))).setCell ⟨b, 10, none⟩ (.pointer (some ⟨w.heap.size + 1, 9, none⟩))) := by repeat' (first | with_reducible exact hE3 | with_reducible refine Ext.setCell ?_ hb _)
    generalize (((((((((((W.setCell ⟨b, 0, none⟩ (.pointer (some ⟨w.heap.size + 1, 0, none⟩))).setCell ⟨b, 1, none⟩ (.pointer (some ⟨w.heap.size + 1, 1, none⟩))).setCell ⟨b, 2, none⟩ (.pointer (some ⟨w.heap.size + 1, 2, none⟩))).setCell ⟨b, 3, none⟩ (.pointer (some ⟨w.heap.size + 1, 10, none⟩))).setCell ⟨b, 4, none⟩ (.pointer (some ⟨w.heap.size + 1, 11, none⟩))).setCell ⟨b, 5, none⟩ (.pointer (some ⟨w.heap.size + 1, 4, none⟩))).setCell ⟨b, 6, none⟩ (.pointer (some ⟨w.heap.size + 1, 5, none⟩))).setCell ⟨b, 7, none⟩ (.pointer (some ⟨w.heap.size + 1, 6, none⟩))).setCell ⟨b, 8, none⟩ (.pointer (some ⟨w.heap.size + 1, 7, none⟩))).setCell ⟨b, 9, none⟩ (.pointer (some ⟨w.heap.size + 1, 8, none⟩))).setCell ⟨b, 10, none⟩ (.pointer (some ⟨w.heap.size + 1, 9, none⟩))) = W5 at *
    clear g0 g1 g2 g3 g4 g5 g6 g7 g8 g9 g10 k0 k1 k2 k3 k4 k5 k6 k7 k8 k9 k10 kf hblk
    have hS5 := hS1.ext hX5
    have hA5 := hA1.ext hX5
    have hE5 := hE01.trans hX5
    refine (get2_any (w.heap.size + 1) b (w.heap.size + 1) _ _ _ xs _ (h1.ext hE5) hn1 hF5 hA5 (by omega) (by omega) (by omega)).mono ?_
    rintro e w2 ⟨rfl, hB⟩
    have hz := lt_of_block hS5
    have hS2 : RepBlk w2 w.heap.size rep0 := (hB.block _ (by omega)).trans hS5
    have hE2 : Ext w w2 := Below.trans hE5 (Below.mono hB (by omega))
    have s0 := cell_of_block hS2 0 (.int .i64 0) rfl
    have s1 := cell_of_block hS2 1 (.int .i64 0) rfl
    have s2 := cell_of_block hS2 2 (.int .i64 0) rfl
    have s3 := cell_of_block hS2 3 (.int .u64 0) rfl
    have s4 := cell_of_block hS2 4 (.int .i64 0) rfl
    have s5 := cell_of_block hS2 5 (.int .i64 0) rfl
    have s6 := cell_of_block hS2 6 (.int .i64 0) rfl
    have s7 := cell_of_block hS2 7 (.int .i64 0) rfl
    have s8 := cell_of_block hS2 8 (.int .i64 0) rfl
    have s9 := cell_of_block hS2 9 (.int .i64 0) rfl
    have sf := free_of_block hS2
    clear hS1 hA1 hS5 hA5 hF5 hB hE5 hX5 hE3 hE01
    rcases hL : lrep xs with _ | q
    · have HL := Lib.hid hL
      clear hL
      simp only [repV, rep0, Option.getD_none, Option.isSome_none, Bool.false_eq_true, if_false]
      go_wp2
      refine bodyPost_ret (res_getRep _ w.heap.size rep0 7 _ (by rfl) (by rfl) (RepBlk.stored hS2 0 0 0 0 0 0 0 0 0 0)) rfl ?_
      exact repPost_no HL.out rfl (by repeat' (first | with_reducible exact hE2 | with_reducible refine Ext.setCell ?_ (Nat.le_refl _) _))
    · have HL := Lib.hid hL
      clear hL
      obtain ⟨a, h, r, n, lo, hi, k, t, c, s⟩ := q
      simp only [repV, Option.getD_some, Option.isSome_some, if_true]
      go_wp2
      refine bodyPost_ret (res_getRep _ w.heap.size ⟨a, h, r, n, lo, hi, k, t, c, s⟩ 0 _ (by rfl) (by rfl) (RepBlk.stored hS2 a h r n lo hi k t c s)) rfl ?_
      exact repPost_yes HL.out rfl (by repeat' (first | with_reducible exact hE2 | with_reducible refine Ext.setCell ?_ (Nat.le_refl _) _))

end Go.Proofs.Ytcpojkodidflcaa
