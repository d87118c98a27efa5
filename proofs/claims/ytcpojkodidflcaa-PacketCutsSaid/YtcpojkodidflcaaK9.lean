/-
  GetRequest of the program.
-/
import Derived.Test.YtcpojkodidflcaaK8
namespace Go.Proofs.Ytcpojkodidflcaa
open Go.RowKit Go.Sort Go.Shelf
set_option linter.unusedSimpArgs false
set_option linter.unusedVariables false
set_option maxRecDepth 100000

theorem alloc_at {W : World} {o : Obj} {b : Nat} (h : W.heap.size = b) : (W.alloc o).heap[b]? = some o := by subst h; exact World.alloc_heap_new W o
theorem alloc_keep {W : World} {o o' : Obj} {b : Nat} (h : W.heap[b]? = some o) : (W.alloc o').heap[b]? = some o := (Below.heap_alloc W o' b (Array.getElem?_eq_some_iff.1 h).1).trans h

theorem res_getReq (W : World) (b : Nat) (h a r n k : Int) (tmps : Array Value) (h2 : tmps[2]?.getD undef = .pointer (some ⟨b, 0, none⟩)) (h3 : tmps[3]?.getD undef = .int .i64 k) (hb : ReqBlk W b h a r n) :
    (results Try.f14 tmps).run Try.prog W = .ok (.tuple #[.agg #[.int .i64 h, .int .i64 a, .int .i64 r, .int .u64 n], .int .i64 k]) W := by
  have c0 := cell_of_block hb 0 (.int .i64 h) rfl
  have c1 := cell_of_block hb 1 (.int .i64 a) rfl
  have c2 := cell_of_block hb 2 (.int .i64 r) rfl
  have c3 := cell_of_block hb 3 (.int .u64 n) rfl
  simp [results, Try.results14, go_sem, h2, h3, c0, c1, c2, c3]

set_option maxHeartbeats 1000000 in
theorem getRequest_any (a1 : Option Addr) (n1 c1 : Nat) (xs : List Int) (w : World) (h1 : Sl .u8 w a1 n1 c1 xs) (hn1 : n1 ≤ 1000000000) :
    Calls Try.prog 14 #[.slice a1 n1 c1] w fun e w' => ReqPost w w' e (lreq xs) := by
  go_enter Try.func14, Try.ntmps14
  go_wp2_with fail
  have hE : Ext w ((((w.alloc (.cells #[.int .i64 0, .int .i64 0, .int .i64 0, .int .u64 0] 24)).alloc (.cells #[.int .i64 0, .int .i64 0, .int .i64 0, .int .u64 0] 24)).alloc (.cells #[.int .i64 0, .int .i64 0] 53)).alloc (.cells #[.pointer (some ⟨w.heap.size + 1, 0, none⟩), .pointer (some ⟨w.heap.size + 1, 1, none⟩), .pointer (some ⟨w.heap.size + 1, 2, none⟩), .pointer (some ⟨w.heap.size + 1 + 1, 0, none⟩), .pointer (some ⟨w.heap.size + 1 + 1, 1, none⟩)] 60)) := ((((Ext.refl w).alloc _).alloc _).alloc _).alloc _
  have hS : ReqBlk ((((w.alloc (.cells #[.int .i64 0, .int .i64 0, .int .i64 0, .int .u64 0] 24)).alloc (.cells #[.int .i64 0, .int .i64 0, .int .i64 0, .int .u64 0] 24)).alloc (.cells #[.int .i64 0, .int .i64 0] 53)).alloc (.cells #[.pointer (some ⟨w.heap.size + 1, 0, none⟩), .pointer (some ⟨w.heap.size + 1, 1, none⟩), .pointer (some ⟨w.heap.size + 1, 2, none⟩), .pointer (some ⟨w.heap.size + 1 + 1, 0, none⟩), .pointer (some ⟨w.heap.size + 1 + 1, 1, none⟩)] 60)) w.heap.size 0 0 0 0 := alloc_keep (alloc_keep (alloc_keep (alloc_at rfl)))
  have hR : ReqBlk ((((w.alloc (.cells #[.int .i64 0, .int .i64 0, .int .i64 0, .int .u64 0] 24)).alloc (.cells #[.int .i64 0, .int .i64 0, .int .i64 0, .int .u64 0] 24)).alloc (.cells #[.int .i64 0, .int .i64 0] 53)).alloc (.cells #[.pointer (some ⟨w.heap.size + 1, 0, none⟩), .pointer (some ⟨w.heap.size + 1, 1, none⟩), .pointer (some ⟨w.heap.size + 1, 2, none⟩), .pointer (some ⟨w.heap.size + 1 + 1, 0, none⟩), .pointer (some ⟨w.heap.size + 1 + 1, 1, none⟩)] 60)) (w.heap.size + 1) 0 0 0 0 := alloc_keep (alloc_keep (alloc_at (by simp)))
  have hN : NonceBlk ((((w.alloc (.cells #[.int .i64 0, .int .i64 0, .int .i64 0, .int .u64 0] 24)).alloc (.cells #[.int .i64 0, .int .i64 0, .int .i64 0, .int .u64 0] 24)).alloc (.cells #[.int .i64 0, .int .i64 0] 53)).alloc (.cells #[.pointer (some ⟨w.heap.size + 1, 0, none⟩), .pointer (some ⟨w.heap.size + 1, 1, none⟩), .pointer (some ⟨w.heap.size + 1, 2, none⟩), .pointer (some ⟨w.heap.size + 1 + 1, 0, none⟩), .pointer (some ⟨w.heap.size + 1 + 1, 1, none⟩)] 60)) (w.heap.size + 1 + 1) 0 0 := alloc_keep (alloc_at (by simp))
  have hF : FldBlk ((((w.alloc (.cells #[.int .i64 0, .int .i64 0, .int .i64 0, .int .u64 0] 24)).alloc (.cells #[.int .i64 0, .int .i64 0, .int .i64 0, .int .u64 0] 24)).alloc (.cells #[.int .i64 0, .int .i64 0] 53)).alloc (.cells #[.pointer (some ⟨w.heap.size + 1, 0, none⟩), .pointer (some ⟨w.heap.size + 1, 1, none⟩), .pointer (some ⟨w.heap.size + 1, 2, none⟩), .pointer (some ⟨w.heap.size + 1 + 1, 0, none⟩), .pointer (some ⟨w.heap.size + 1 + 1, 1, none⟩)] 60)) (w.heap.size + 1 + 1 + 1) (w.heap.size + 1) (w.heap.size + 1 + 1) := alloc_at (by simp)
  generalize ((((w.alloc (.cells #[.int .i64 0, .int .i64 0, .int .i64 0, .int .u64 0] 24)).alloc (.cells #[.int .i64 0, .int .i64 0, .int .i64 0, .int .u64 0] 24)).alloc (.cells #[.int .i64 0, .int .i64 0] 53)).alloc (.cells #[.pointer (some ⟨w.heap.size + 1, 0, none⟩), .pointer (some ⟨w.heap.size + 1, 1, none⟩), .pointer (some ⟨w.heap.size + 1, 2, none⟩), .pointer (some ⟨w.heap.size + 1 + 1, 0, none⟩), .pointer (some ⟨w.heap.size + 1 + 1, 1, none⟩)] 60)) = W at *
  refine (get1_any (w.heap.size + 1) (w.heap.size + 1 + 1 + 1) (w.heap.size + 1) (w.heap.size + 1 + 1) _ _ _ xs _ (h1.ext hE) hn1 hF hR hN (by omega) (by omega) (by omega) (by omega) (by omega) (by omega)).mono ?_
  rintro e w2 ⟨rfl, hB⟩
  have hz := lt_of_block hS
  have hS2 : ReqBlk w2 w.heap.size 0 0 0 0 := (hB.block _ (by omega)).trans hS
  have hE2 : Ext w w2 := Below.trans hE (Below.mono hB (by omega))
  have s0 := cell_of_block hS2 0 (.int .i64 0) rfl
  have s1 := cell_of_block hS2 1 (.int .i64 0) rfl
  have s2 := cell_of_block hS2 2 (.int .i64 0) rfl
  have s3 := cell_of_block hS2 3 (.int .u64 0) rfl
  have sf := free_of_block hS2
  clear hS hR hN hF hB hE
  rcases hL : lreq xs with _ | ⟨h, a, r, n⟩
  · have HL := Lib.hid hL
    clear hL
    simp only [reqV, Option.getD_none, Option.isSome_none, Bool.false_eq_true, if_false]
    go_wp2
    refine bodyPost_ret (res_getReq _ w.heap.size 0 0 0 0 7 _ (by rfl) (by rfl) (ReqBlk.stored hS2 0 0 0 0)) rfl ?_
    exact reqPost_no HL.out rfl (by repeat' (first | with_reducible exact hE2 | with_reducible refine Ext.setCell ?_ (Nat.le_refl _) _))
  · have HL := Lib.hid hL
    clear hL
    simp only [reqV, Option.getD_some, Option.isSome_some, if_true]
    go_wp2
    refine bodyPost_ret (res_getReq _ w.heap.size h a r n 0 _ (by rfl) (by rfl) (ReqBlk.stored hS2 h a r n)) rfl ?_
    exact reqPost_yes HL.out rfl (by repeat' (first | with_reducible exact hE2 | with_reducible refine Ext.setCell ?_ (Nat.le_refl _) _))

end Go.Proofs.Ytcpojkodidflcaa
