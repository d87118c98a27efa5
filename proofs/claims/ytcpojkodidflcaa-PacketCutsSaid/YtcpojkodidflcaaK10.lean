/-
  What a read reply is made of.
-/
import Derived.Test.YtcpojkodidflcaaK9
import Derived.Test.YtcpojkodidflcaaLib10
namespace Go.Proofs.Ytcpojkodidflcaa
open Go.RowKit Go.Sort Go.Shelf
set_option linter.unusedSimpArgs false
set_option linter.unusedVariables false
set_option maxRecDepth 100000

/-- A reply, with its nonce in two halves, in memory. -/
def AnsBlk (W : World) (b : Nat) (a h r n lo hi k t c s u l : Int) : Prop := W.heap[b]? = some (.cells #[.int .i64 a, .int .i64 h, .int .i64 r, .int .u64 n, .int .i64 lo, .int .i64 hi, .int .i64 k, .int .i64 t, .int .i64 c, .int .i64 s, .int .i64 u, .int .i64 l] 72 (0, 0))
theorem AnsBlk.ext {W W' : World} {b : Nat} {a h r n lo hi k t c s u l : Int} (hb : AnsBlk W b a h r n lo hi k t c s u l) (he : Ext W W') : AnsBlk W' b a h r n lo hi k t c s u l := (he.block b (Array.getElem?_eq_some_iff.1 hb).1).trans hb

theorem res_made2 (W : World) (b : Nat) (q : Rep) (k : Bool) (tmps : Array Value) (h2 : tmps[2]?.getD undef = .pointer (some ⟨b, 0, none⟩)) (h3 : tmps[3]?.getD undef = .bool k) (hb : RepBlk W b q) :
    (results Try.f35 tmps).run Try.prog W = .ok (.tuple #[repV q, .bool k]) W := by
  have c0 := cell_of_block hb 0 (.int .i64 q.a) rfl
  have c1 := cell_of_block hb 1 (.int .i64 q.h) rfl
  have c2 := cell_of_block hb 2 (.int .i64 q.r) rfl
  have c3 := cell_of_block hb 3 (.int .u64 q.n) rfl
  have c4 := cell_of_block hb 4 (.int .i64 q.lo) rfl
  have c5 := cell_of_block hb 5 (.int .i64 q.hi) rfl
  have c6 := cell_of_block hb 6 (.int .i64 q.k) rfl
  have c7 := cell_of_block hb 7 (.int .i64 q.t) rfl
  have c8 := cell_of_block hb 8 (.int .i64 q.c) rfl
  have c9 := cell_of_block hb 9 (.int .i64 q.s) rfl
  simp [results, Try.results35, go_sem, h2, h3, c0, c1, c2, c3, c4, c5, c6, c7, c8, c9, repV]

set_option maxHeartbeats 1000000 in
theorem made2_any (A : Nat) (a h r n lo hi k t c s u l : Int) (w : World) (hA : AnsBlk w A a h r n lo hi k t c s u l) :
    Calls Try.prog 35 #[.pointer (some ⟨A, 0, none⟩)] w fun e w' => e = .returned (.tuple #[repV ⟨a, h, r, wholeV u l, lo, hi, k, t, c, s⟩, .bool ((halfB u && halfB l) && repB a h r lo hi k t c s)]) ∧ w.grownBy w' (some A) := by
  have n3 := cell_of_block hA 3 (.int .u64 n) rfl
  have n10 := cell_of_block hA 10 (.int .i64 u) rfl
  have n11 := cell_of_block hA 11 (.int .i64 l) rfl
  have rf := free_of_block hA
  have hAl := lt_of_block hA
  go_enter Try.func35, Try.ntmps35
  go_wp2_with (go_at_call 29; refine (whole_any _ _ _).mono ?_; rintro e w1 ⟨rfl, hE1⟩; obtain ⟨hc1, hf1⟩ := hE1.rules; have hz1 := hE1.sz1)
  have hA1 : AnsBlk w1 A a h r n lo hi k t c s u l := (hE1.block A (by simp; omega)).trans (alloc_keep hA)
  have hS1 : RepBlk w1 w.heap.size ⟨0, 0, 0, 0, 0, 0, 0, 0, 0, 0⟩ := (hE1.block _ (by simp)).trans (World.alloc_heap_new w _)
  have hA2 : AnsBlk (w1.setCell ⟨A, 3, none⟩ (.int .u64 (wholeV u l))) A a h r (wholeV u l) lo hi k t c s u l := heap_setCell_same w1 A 3 _ _ _ hA1
  have hS2 : RepBlk (w1.setCell ⟨A, 3, none⟩ (.int .u64 (wholeV u l))) w.heap.size ⟨0, 0, 0, 0, 0, 0, 0, 0, 0, 0⟩ := (heap_setCell_other w1 ⟨A, 3, none⟩ w.heap.size _ (by simp; omega)).trans hS1
  have hg2 : w.grownBy (w1.setCell ⟨A, 3, none⟩ (.int .u64 (wholeV u l))) (some A) := grown_set (grown_of_ext (((Ext.refl w).alloc _).trans hE1) _) _ _
  generalize w1.setCell ⟨A, 3, none⟩ (.int .u64 (wholeV u l)) = W2 at *
  clear hA1 hS1 hE1 hc1 hf1 hz1 n3 n10 n11 rf hA
  generalize hV : wholeV u l = V at *
  have HV := Lib.hid hV
  clear hV
  rcases hok : (halfB u && halfB l) with _ | _
  all_goals
    refine region_store 12 _ _ (by kernel_rfl) (by kernel_rfl) (by kernel_rfl) rfl (fun _ => rfl) rfl (by kernel_rfl) ?_
    apply Exists.intro
    refine ⟨fun W0 hE0 => ?_, fun W0 hE0 K hK => ?_⟩
    · have hA3 := hA2.ext hE0
      have g0 := cellG (cell_of_block hA3 0 (.int .i64 a) rfl)
      have g1 := cellG (cell_of_block hA3 1 (.int .i64 h) rfl)
      have g2 := cellG (cell_of_block hA3 2 (.int .i64 r) rfl)
      have g3 := cellG (cell_of_block hA3 3 (.int .u64 V) rfl)
      have g4 := cellG (cell_of_block hA3 4 (.int .i64 lo) rfl)
      have g5 := cellG (cell_of_block hA3 5 (.int .i64 hi) rfl)
      have g6 := cellG (cell_of_block hA3 6 (.int .i64 k) rfl)
      have g7 := cellG (cell_of_block hA3 7 (.int .i64 t) rfl)
      have g8 := cellG (cell_of_block hA3 8 (.int .i64 c) rfl)
      have g9 := cellG (cell_of_block hA3 9 (.int .i64 s) rfl)
      have g10 := cellG (cell_of_block hA3 10 (.int .i64 u) rfl)
      have g11 := cellG (cell_of_block hA3 11 (.int .i64 l) rfl)
      clear hA3
      simp only [List.take_succ_cons, List.take_zero]
      repeat (go_big_quiet_step ((go_at_call 32; exact Calls.regrown_of (reply_any _ _ _ _ _ _ _ _ _ _ _))))
      refine wpQuiet_nil ?_
      rfl
    · have hS3 := hS2.ext hE0
      have hg3 := grown_ext hg2 hE0
      have s0 := cell_of_block hS3 0 (.int .i64 0) rfl
      have s1 := cell_of_block hS3 1 (.int .i64 0) rfl
      have s2 := cell_of_block hS3 2 (.int .i64 0) rfl
      have s3 := cell_of_block hS3 3 (.int .u64 0) rfl
      have s4 := cell_of_block hS3 4 (.int .i64 0) rfl
      have s5 := cell_of_block hS3 5 (.int .i64 0) rfl
      have s6 := cell_of_block hS3 6 (.int .i64 0) rfl
      have s7 := cell_of_block hS3 7 (.int .i64 0) rfl
      have s8 := cell_of_block hS3 8 (.int .i64 0) rfl
      have s9 := cell_of_block hS3 9 (.int .i64 0) rfl
      have sf := free_of_block hS3
      simp [execOp, go_sem, storeUpon, s0, s1, s2, s3, s4, s5, s6, s7, s8, s9, sf]
      refine hK _ _ ?_
      have hb3 := RepBlk.stored hS3 a h r V lo hi k t c s
      have hg4 := grown_new (grown_new (grown_new (grown_new (grown_new (grown_new (grown_new (grown_new (grown_new (grown_new hg3 0 (.int .i64 a)) 1 (.int .i64 h)) 2 (.int .i64 r)) 3 (.int .u64 V)) 4 (.int .i64 lo)) 5 (.int .i64 hi)) 6 (.int .i64 k)) 7 (.int .i64 t)) 8 (.int .i64 c)) 9 (.int .i64 s)
      clear s0 s1 s2 s3 s4 s5 s6 s7 s8 s9 sf hg3 hS3
      simp only [List.drop_succ_cons, List.drop_zero, Act.put]
      go_wp2
      refine bodyPost_ret (res_made2 _ w.heap.size ⟨a, h, r, V, lo, hi, k, t, c, s⟩ _ _ (by rfl) (by rfl) hb3) rfl ⟨by rw [HV.out]; simp [hok], hg4⟩

end Go.Proofs.Ytcpojkodidflcaa
