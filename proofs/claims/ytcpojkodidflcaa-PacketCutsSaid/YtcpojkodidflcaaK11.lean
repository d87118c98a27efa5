/-
  Reading a reply: the program.
-/
import Derived.Test.YtcpojkodidflcaaK10
import Derived.Deep.Cut
namespace Go.Proofs.Ytcpojkodidflcaa
open Go.RowKit Go.Sort Go.Shelf
set_option linter.unusedSimpArgs false
set_option linter.unusedVariables false
set_option maxRecDepth 100000

theorem res_get2 (W : World) (b : Nat) (q : Rep) (k : Int) (tmps : Array Value) (h2 : tmps[8]?.getD undef = .pointer (some ⟨b, 0, none⟩)) (h3 : tmps[9]?.getD undef = .int .i64 k) (hb : RepBlk W b q) :
    (results Try.f34 tmps).run Try.prog W = .ok (.tuple #[repV q, .int .i64 k]) W := by
  have c0 := cell_of_block hb 0 (.int .i64 q.a) rfl
  have c1 := cell_of_block hb 1 (.int .i64 q.h) rfl
  have c2 := cell_of_block hb 2 (.int .i64 q.r) rfl
  have c3 := cell_of_block hb 3 (.int .u64 q.n) rfl
  have c4 := cell_of_block hb 4 (.int .i64 q.lo) rfl
  have c5 := cell_of_block hb 5 (.int .i64 q.hi) rfl
  have c6 := cell_of_block hb 6 (.int .i64 q.k) rfl
  have c7 := cell_of_block hb 7 (.int .i64 q.t) rfl
  have c8 := cell_of_block hb 8 (.int .i64 q.c) rfl
  have c9 := cell_of_block hb 9 (.int .i64 q.s) rfl
  simp [results, Try.results34, go_sem, h2, h3, c0, c1, c2, c3, c4, c5, c6, c7, c8, c9, repV]

/-- Where a reply's eleven integers are read to. -/
def FldBlk2 (W : World) (F A : Nat) : Prop := W.heap[F]? = some (.cells #[.pointer (some ⟨A, 0, none⟩), .pointer (some ⟨A, 1, none⟩), .pointer (some ⟨A, 2, none⟩), .pointer (some ⟨A, 10, none⟩), .pointer (some ⟨A, 11, none⟩), .pointer (some ⟨A, 4, none⟩), .pointer (some ⟨A, 5, none⟩), .pointer (some ⟨A, 6, none⟩), .pointer (some ⟨A, 7, none⟩), .pointer (some ⟨A, 8, none⟩), .pointer (some ⟨A, 9, none⟩)] 75 (0, 0))
theorem FldBlk2.ext {W W' : World} {F A : Nat} (hb : FldBlk2 W F A) (he : Ext W W') : FldBlk2 W' F A := (he.block F (Array.getElem?_eq_some_iff.1 hb).1).trans hb
theorem RepBlk.other {W : World} {b : Nat} {q : Rep} (hb : RepBlk W b q) (c j : Nat) (v : Value) (hne : b ≠ c) : RepBlk (W.setCell ⟨c, j, none⟩ v) b q := (heap_setCell_other W ⟨c, j, none⟩ b v hne).trans hb

def GetPost2 (base : Nat) (w w' : World) (e : Ending) (o : Option Rep) : Prop := e = .returned (.tuple #[repV (o.getD rep0), .int .i64 (if o.isSome then 0 else 7)]) ∧ Below base w w'
theorem getPost2_no {base : Nat} {w w' : World} {e : Ending} {o : Option Rep} (ho : o = none) (h : e = .returned (.tuple #[repV rep0, .int .i64 7])) (hE : Below base w w') : GetPost2 base w w' e o := by
  subst ho; exact ⟨h, hE⟩
theorem getPost2_yes {base : Nat} {w w' : World} {e : Ending} {o : Option Rep} {q : Rep} (ho : o = some q) (he : e = .returned (.tuple #[repV q, .int .i64 0])) (hE : Below base w w') : GetPost2 base w w' e o := by
  subst ho; exact ⟨he, hE⟩

set_option maxHeartbeats 2000000 in
theorem get2_any (base F A : Nat) (a1 : Option Addr) (n1 c1 : Nat) (xs : List Int) (w : World) (h1 : Sl .u8 w a1 n1 c1 xs) (hn1 : n1 ≤ 1000000000) (hF : FldBlk2 w F A) (hA : AnsBlk w A 0 0 0 0 0 0 0 0 0 0 0 0) (hFA : F ≠ A)
    (bF : base ≤ F) (bA : base ≤ A) :
    Calls Try.prog 34 #[.int .u8 2, .slice a1 n1 c1, .slice (some ⟨F, 0, none⟩) 11 11, .func (.func 35) #[.pointer (some ⟨A, 0, none⟩)] #[]] w fun e w' => GetPost2 base w w' e (lrep xs) := by
  have b1 := h1.bd
  have e1 := h1.hlen
  have lF := lt_of_block hF
  have lA := lt_of_block hA
  have bw : base ≤ w.heap.size := by omega
  rcases xs with _ | ⟨c, t⟩
  · obtain rfl : n1 = 0 := by simpa using e1.symm
    clear e1
    go_enter Try.func34, Try.ntmps34
    go_wp2
    refine bodyPost_ret (res_get2 _ w.heap.size rep0 7 _ (by rfl) (by rfl) ?_) rfl ?_
    · exact (Below.heap_alloc _ _ _ (by simp)).trans (World.alloc_heap_new w _)
    · exact getPost2_no rfl rfl (((Below.refl base w).alloc bw _).alloc (by simp; omega) _)
  · have hp : 0 < n1 := by rw [← e1]; simp
    obtain ⟨x1, o1, rfl, hc⟩ := h1.at hp
    have hx0 := (hc 0 hp)
    rw [nth_cons, Nat.add_zero] at hx0
    clear hc
    have hxl : x1 < w.heap.size := lt_of_cell hx0
    have hxl2 : x1 < w.heap.size + 1 := by omega
    have hm1 : ((n1 : Int) == 0) = false := by simp; omega
    have hE00 : Ext w ((w.alloc (.cells #[.int .i64 0, .int .i64 0, .int .i64 0, .int .u64 0, .int .i64 0, .int .i64 0, .int .i64 0, .int .i64 0, .int .i64 0, .int .i64 0] 30)).alloc (.cells #[.int .i64 0, .int .i64 0, .int .i64 0, .int .u64 0, .int .i64 0, .int .i64 0, .int .i64 0, .int .i64 0, .int .i64 0, .int .i64 0] 30)) := ((Ext.refl w).alloc _).alloc _
    by_cases hk : c = 2
    · subst hk
      have ht := h1.from (m := 1) hp
      rw [List.drop_succ_cons, List.drop_zero] at ht
      have hsl : ∀ w, (Instr.slice 31 (.slice (some ⟨x1, o1, none⟩) n1 c1) (some (.int .i64 1)) none none).run Try.prog w = .ok (.slice (subA (some ⟨x1, o1, none⟩) c1 1) (n1 - 1) (c1 - 1)) w := run_from (P := Try.prog) (T := 31) (by kernel_rfl) (fun _ => by kernel_rfl) (some ⟨x1, o1, none⟩) n1 c1 1 hp
      have hl0 : lrep (2 :: t) = (match lget t with | some l => if l.length = 11 then repOf l else none | none => none) := by
        unfold lrep lints
        simp only [if_true]
        rcases lget t with _ | l
        · rfl
        · by_cases h5 : l.length = 11
          · simp [h5]
          · simp [h5]
      have HL := Lib.hid hl0
      have E1 := Lib.hid e1
      clear hl0 e1
      rcases hr : lget t with _ | l
      · have HR := Lib.hid hr
        clear hr
        go_enter Try.func34, Try.ntmps34
        go_wp2_with fail
        refine (get_any _ _ _ t _ (ht.ext hE00) (by omega)).mono ?_
        intro e w2 hp2
        rw [HR.out] at hp2
        obtain ⟨rfl, hE2⟩ := hp2
        have hS : RepBlk w2 w.heap.size rep0 := (hE2.block _ (by simp; omega)).trans ((Below.heap_alloc _ _ _ (by simp)).trans (World.alloc_heap_new w _))
        have hD : RepBlk w2 (w.heap.size + 1) rep0 := (hE2.block _ (by simp)).trans (alloc_at (by simp))
        have s0 := cell_of_block hS 0 (.int .i64 0) rfl
        have s1 := cell_of_block hS 1 (.int .i64 0) rfl
        have s2 := cell_of_block hS 2 (.int .i64 0) rfl
        have s3 := cell_of_block hS 3 (.int .u64 0) rfl
        have s4 := cell_of_block hS 4 (.int .i64 0) rfl
        have s5 := cell_of_block hS 5 (.int .i64 0) rfl
        have s6 := cell_of_block hS 6 (.int .i64 0) rfl
        have s7 := cell_of_block hS 7 (.int .i64 0) rfl
        have s8 := cell_of_block hS 8 (.int .i64 0) rfl
        have s9 := cell_of_block hS 9 (.int .i64 0) rfl
        have sf := free_of_block hS
        have d0 := cell_of_block hD 0 (.int .i64 0) rfl
        have d1 := cell_of_block hD 1 (.int .i64 0) rfl
        have d2 := cell_of_block hD 2 (.int .i64 0) rfl
        have d3 := cell_of_block hD 3 (.int .u64 0) rfl
        have d4 := cell_of_block hD 4 (.int .i64 0) rfl
        have d5 := cell_of_block hD 5 (.int .i64 0) rfl
        have d6 := cell_of_block hD 6 (.int .i64 0) rfl
        have d7 := cell_of_block hD 7 (.int .i64 0) rfl
        have d8 := cell_of_block hD 8 (.int .i64 0) rfl
        have d9 := cell_of_block hD 9 (.int .i64 0) rfl
        have hz := lt_of_block hS
        have hX : Below base w w2 := Below.mono (hE00.trans hE2) bw
        go_wp2
        refine bodyPost_ret (res_get2 _ w.heap.size rep0 7 _ (by rfl) (by rfl) (RepBlk.stored hS 0 0 0 0 0 0 0 0 0 0)) rfl ?_
        exact getPost2_no (by rw [HL.out, HR.out]) rfl (by repeat' (first | with_reducible exact hX | with_reducible refine Below.setCell ?_ bw _))
      · by_cases h5 : l.length = 11
        · match l, h5 with
          | [y0, y1, y2, y3, y4, y5, y6, y7, y8, y9, y10], _ =>
          have HR := Lib.hid hr
          clear hr
          go_enter Try.func34, Try.ntmps34
          go_wp2_with fail
          refine (get_any _ _ _ t _ (ht.ext hE00) (by omega)).mono ?_
          intro e w2 hp2
          rw [HR.out] at hp2
          obtain ⟨a2, c2, rfl, ho2, hE2⟩ := hp2
          have hs2 := ho2.sl (lget_wf (i := 0) (j := t.length) ht.wf (by simpa using HR.out))
          obtain ⟨x2, o2, hx2, hcl⟩ := hs2.at (by simp)
          have hge := ho2.lt x2 (by rw [hx2]; rfl)
          subst hx2
          have f0 := hcl 0 (by simp)
          have f1 := hcl 1 (by simp)
          have f2 := hcl 2 (by simp)
          have f3 := hcl 3 (by simp)
          have f4 := hcl 4 (by simp)
          have f5 := hcl 5 (by simp)
          have f6 := hcl 6 (by simp)
          have f7 := hcl 7 (by simp)
          have f8 := hcl 8 (by simp)
          have f9 := hcl 9 (by simp)
          have f10 := hcl 10 (by simp)
          simp only [nth, List.getD_cons_zero, List.getD_cons_succ, Nat.add_zero] at f0 f1 f2 f3 f4 f5 f6 f7 f8 f9 f10
          simp only [World.size_alloc] at hge
          simp only [List.length_cons, List.length_nil, Nat.zero_add]
          clear hcl ho2 hs2
          have hS : RepBlk w2 w.heap.size rep0 := (hE2.block _ (by simp; omega)).trans ((Below.heap_alloc _ _ _ (by simp)).trans (World.alloc_heap_new w _))
          have hD : RepBlk w2 (w.heap.size + 1) rep0 := (hE2.block _ (by simp)).trans (alloc_at (by simp))
          have s0 := cell_of_block hS 0 (.int .i64 0) rfl
          have s1 := cell_of_block hS 1 (.int .i64 0) rfl
          have s2 := cell_of_block hS 2 (.int .i64 0) rfl
          have s3 := cell_of_block hS 3 (.int .u64 0) rfl
          have s4 := cell_of_block hS 4 (.int .i64 0) rfl
          have s5 := cell_of_block hS 5 (.int .i64 0) rfl
          have s6 := cell_of_block hS 6 (.int .i64 0) rfl
          have s7 := cell_of_block hS 7 (.int .i64 0) rfl
          have s8 := cell_of_block hS 8 (.int .i64 0) rfl
          have s9 := cell_of_block hS 9 (.int .i64 0) rfl
          have sf := free_of_block hS
          have d0 := cell_of_block hD 0 (.int .i64 0) rfl
          have d1 := cell_of_block hD 1 (.int .i64 0) rfl
          have d2 := cell_of_block hD 2 (.int .i64 0) rfl
          have d3 := cell_of_block hD 3 (.int .u64 0) rfl
          have d4 := cell_of_block hD 4 (.int .i64 0) rfl
          have d5 := cell_of_block hD 5 (.int .i64 0) rfl
          have d6 := cell_of_block hD 6 (.int .i64 0) rfl
          have d7 := cell_of_block hD 7 (.int .i64 0) rfl
          have d8 := cell_of_block hD 8 (.int .i64 0) rfl
          have d9 := cell_of_block hD 9 (.int .i64 0) rfl
          have hz := lt_of_block hS
          have hX : Below base w w2 := Below.mono (hE00.trans hE2) bw
          have hEw := hE00.trans hE2
          have hF2 := hF.ext hEw
          have hA2 := hA.ext hEw
          clear hE2 hE00
          have p0 := cell_of_block hF2 0 (.pointer (some ⟨A, 0, none⟩)) rfl
          have p1 := cell_of_block hF2 1 (.pointer (some ⟨A, 1, none⟩)) rfl
          have p2 := cell_of_block hF2 2 (.pointer (some ⟨A, 2, none⟩)) rfl
          have p3 := cell_of_block hF2 3 (.pointer (some ⟨A, 10, none⟩)) rfl
          have p4 := cell_of_block hF2 4 (.pointer (some ⟨A, 11, none⟩)) rfl
          have p5 := cell_of_block hF2 5 (.pointer (some ⟨A, 4, none⟩)) rfl
          have p6 := cell_of_block hF2 6 (.pointer (some ⟨A, 5, none⟩)) rfl
          have p7 := cell_of_block hF2 7 (.pointer (some ⟨A, 6, none⟩)) rfl
          have p8 := cell_of_block hF2 8 (.pointer (some ⟨A, 7, none⟩)) rfl
          have p9 := cell_of_block hF2 9 (.pointer (some ⟨A, 8, none⟩)) rfl
          have p10 := cell_of_block hF2 10 (.pointer (some ⟨A, 9, none⟩)) rfl
          have r0 := cell_of_block hA2 0 (.int .i64 0) rfl
          have r1 := cell_of_block hA2 1 (.int .i64 0) rfl
          have r2 := cell_of_block hA2 2 (.int .i64 0) rfl
          have r3 := cell_of_block hA2 3 (.int .u64 0) rfl
          have r4 := cell_of_block hA2 4 (.int .i64 0) rfl
          have r5 := cell_of_block hA2 5 (.int .i64 0) rfl
          have r6 := cell_of_block hA2 6 (.int .i64 0) rfl
          have r7 := cell_of_block hA2 7 (.int .i64 0) rfl
          have r8 := cell_of_block hA2 8 (.int .i64 0) rfl
          have r9 := cell_of_block hA2 9 (.int .i64 0) rfl
          have r10 := cell_of_block hA2 10 (.int .i64 0) rfl
          have r11 := cell_of_block hA2 11 (.int .i64 0) rfl
          have rf := free_of_block hA2
          have q1 : A ≠ x2 := by omega
          have q3 : x2 ≠ A := by omega
          have q6 : A ≠ F := fun h => hFA h.symm
          go_wp2_with fail
          refine wp_loop_rounds 12 ?_
          rw [rounds_succ]
          go_wp2_with fail
          rw [rounds_succ]
          go_wp2_with fail
          rw [rounds_succ]
          go_wp2_with fail
          rw [rounds_succ]
          go_wp2_with fail
          rw [rounds_succ]
          go_wp2_with fail
          rw [rounds_succ]
          go_wp2_with fail
          rw [rounds_succ]
          go_wp2_with fail
          rw [rounds_succ]
          go_wp2_with fail
          rw [rounds_succ]
          go_wp2_with fail
          rw [rounds_succ]
          go_wp2_with fail
          rw [rounds_succ]
          go_wp2_with fail
          rw [rounds_succ]
          go_wp2_with fail
          have g0 : (w2.setCell ⟨A, 0, none⟩ (.int .i64 y0)).heap[A]? = some (.cells #[.int .i64 y0, .int .i64 0, .int .i64 0, .int .u64 0, .int .i64 0, .int .i64 0, .int .i64 0, .int .i64 0, .int .i64 0, .int .i64 0, .int .i64 0, .int .i64 0] 72 (0, 0)) := heap_setCell_same _ A 0 _ _ _ hA2
          have g1 : ((w2.setCell ⟨A, 0, none⟩ (.int .i64 y0)).setCell ⟨A, 1, none⟩ (.int .i64 y1)).heap[A]? = some (.cells #[.int .i64 y0, .int .i64 y1, .int .i64 0, .int .u64 0, .int .i64 0, .int .i64 0, .int .i64 0, .int .i64 0, .int .i64 0, .int .i64 0, .int .i64 0, .int .i64 0] 72 (0, 0)) := heap_setCell_same _ A 1 _ _ _ g0
          have g2 : (((w2.setCell ⟨A, 0, none⟩ (.int .i64 y0)).setCell ⟨A, 1, none⟩ (.int .i64 y1)).setCell ⟨A, 2, none⟩ (.int .i64 y2)).heap[A]? = some (.cells #[.int .i64 y0, .int .i64 y1, .int .i64 y2, .int .u64 0, .int .i64 0, .int .i64 0, .int .i64 0, .int .i64 0, .int .i64 0, .int .i64 0, .int .i64 0, .int .i64 0] 72 (0, 0)) := heap_setCell_same _ A 2 _ _ _ g1
          have g3 : ((((w2.setCell ⟨A, 0, none⟩ (.int .i64 y0)).setCell ⟨A, 1, none⟩ (.int .i64 y1)).setCell ⟨A, 2, none⟩ (.int .i64 y2)).setCell ⟨A, 10, none⟩ (.int .i64 y3)).heap[A]? = some (.cells #[.int .i64 y0, .int .i64 y1, .int .i64 y2, .int .u64 0, .int .i64 0, .int .i64 0, .int .i64 0, .int .i64 0, .int .i64 0, .int .i64 0, .int .i64 y3, .int .i64 0] 72 (0, 0)) := heap_setCell_same _ A 10 _ _ _ g2
          have g4 : (((((w2.setCell ⟨A, 0, none⟩ (.int .i64 y0)).setCell ⟨A, 1, none⟩ (.int .i64 y1)).setCell ⟨A, 2, none⟩ (.int .i64 y2)).setCell ⟨A, 10, none⟩ (.int .i64 y3)).setCell ⟨A, 11, none⟩ (.int .i64 y4)).heap[A]? = some (.cells #[.int .i64 y0, .int .i64 y1, .int .i64 y2, .int .u64 0, .int .i64 0, .int .i64 0, .int .i64 0, .int .i64 0, .int .i64 0, .int .i64 0, .int .i64 y3, .int .i64 y4] 72 (0, 0)) := heap_setCell_same _ A 11 _ _ _ g3
          have g5 : ((((((w2.setCell ⟨A, 0, none⟩ (.int .i64 y0)).setCell ⟨A, 1, none⟩ (.int .i64 y1)).setCell ⟨A, 2, none⟩ (.int .i64 y2)).setCell ⟨A, 10, none⟩ (.int .i64 y3)).setCell ⟨A, 11, none⟩ (.int .i64 y4)).setCell ⟨A, 4, none⟩ (.int .i64 y5)).heap[A]? = some (.cells #[.int .i64 y0, .int .i64 y1, .int .i64 y2, .int .u64 0, .int .i64 y5, .int .i64 0, .int .i64 0, .int .i64 0, .int .i64 0, .int .i64 0, .int .i64 y3, .int .i64 y4] 72 (0, 0)) := heap_setCell_same _ A 4 _ _ _ g4
          have g6 : (((((((w2.setCell ⟨A, 0, none⟩ (.int .i64 y0)).setCell ⟨A, 1, none⟩ (.int .i64 y1)).setCell ⟨A, 2, none⟩ (.int .i64 y2)).setCell ⟨A, 10, none⟩ (.int .i64 y3)).setCell ⟨A, 11, none⟩ (.int .i64 y4)).setCell ⟨A, 4, none⟩ (.int .i64 y5)).setCell ⟨A, 5, none⟩ (.int .i64 y6)).heap[A]? = some (.cells #[.int .i64 y0, .int .i64 y1, .int .i64 y2, .int .u64 0, .int .i64 y5, .int .i64 y6, .int .i64 0, .int .i64 0, .int .i64 0, .int .i64 0, .int .i64 y3, .int .i64 y4] 72 (0, 0)) := heap_setCell_same _ A 5 _ _ _ g5
          have g7 : ((((((((w2.setCell ⟨A, 0, none⟩ (.int .i64 y0)).setCell ⟨A, 1, none⟩ (.int .i64 y1)).setCell ⟨A, 2, none⟩ (.int .i64 y2)).setCell ⟨A, 10, none⟩ (.int .i64 y3)).setCell ⟨A, 11, none⟩ (.int .i64 y4)).setCell ⟨A, 4, none⟩ (.int .i64 y5)).setCell ⟨A, 5, none⟩ (.int .i64 y6)).setCell ⟨A, 6, none⟩ (.int .i64 y7)).heap[A]? = some (.cells #[.int .i64 y0, .int .i64 y1, .int .i64 y2, .int .u64 0, .int .i64 y5, .int .i64 y6, .int .i64 y7, .int .i64 0, .int .i64 0, .int .i64 0, .int .i64 y3, .int .i64 y4] 72 (0, 0)) := heap_setCell_same _ A 6 _ _ _ g6
          have g8 : (((((((((w2.setCell ⟨A, 0, none⟩ (.int .i64 y0)).setCell ⟨A, 1, none⟩ (.int .i64 y1)).setCell ⟨A, 2, none⟩ (.int .i64 y2)).setCell ⟨A, 10, none⟩ (.int .i64 y3)).setCell ⟨A, 11, none⟩ (.int .i64 y4)).setCell ⟨A, 4, none⟩ (.int .i64 y5)).setCell ⟨A, 5, none⟩ (.int .i64 y6)).setCell ⟨A, 6, none⟩ (.int .i64 y7)).setCell ⟨A, 7, none⟩ (.int .i64 y8)).heap[A]? = some (.cells #[.int .i64 y0, .int .i64 y1, .int .i64 y2, .int .u64 0, .int .i64 y5, .int .i64 y6, .int .i64 y7, .int .i64 y8, .int .i64 0, .int .i64 0, .int .i64 y3, .int .i64 y4] 72 (0, 0)) := heap_setCell_same _ A 7 _ _ _ g7
          have g9 : ((((((((((w2.setCell ⟨A, 0, none⟩ (.int .i64 y0)).setCell ⟨A, 1, none⟩ (.int .i64 y1)).setCell ⟨A, 2, none⟩ (.int .i64 y2)).setCell ⟨A, 10, none⟩ (.int .i64 y3)).setCell ⟨A, 11, none⟩ (.int .i64 y4)).setCell ⟨A, 4, none⟩ (.int .i64 y5)).setCell ⟨A, 5, none⟩ (.int .i64 y6)).setCell ⟨A, 6, none⟩ (.int .i64 y7)).setCell ⟨A, 7, none⟩ (.int .i64 y8)).setCell ⟨A, 8, none⟩ (.int .i64 y9)).heap[A]? = some (.cells #[.int .i64 y0, .int .i64 y1, .int .i64 y2, .int .u64 0, .int .i64 y5, .int .i64 y6, .int .i64 y7, .int .i64 y8, .int .i64 y9, .int .i64 0, .int .i64 y3, .int .i64 y4] 72 (0, 0)) := heap_setCell_same _ A 8 _ _ _ g8
          have g10 : (((((((((((w2.setCell ⟨A, 0, none⟩ (.int .i64 y0)).setCell ⟨A, 1, none⟩ (.int .i64 y1)).setCell ⟨A, 2, none⟩ (.int .i64 y2)).setCell ⟨A, 10, none⟩ (.int .i64 y3)).setCell ⟨A, 11, none⟩ (.int .i64 y4)).setCell ⟨A, 4, none⟩ (.int .i64 y5)).setCell ⟨A, 5, none⟩ (.int .i64 y6)).setCell ⟨A, 6, none⟩ (.int .i64 y7)).setCell ⟨A, 7, none⟩ (.int .i64 y8)).setCell ⟨A, 8, none⟩ (.int .i64 y9)).setCell ⟨A, 9, none⟩ (.int .i64 y10)).heap[A]? = some (.cells #[.int .i64 y0, .int .i64 y1, .int .i64 y2, .int .u64 0, .int .i64 y5, .int .i64 y6, .int .i64 y7, .int .i64 y8, .int .i64 y9, .int .i64 y10, .int .i64 y3, .int .i64 y4] 72 (0, 0)) := heap_setCell_same _ A 9 _ _ _ g9
          have hA5 : AnsBlk (((((((((((w2.setCell ⟨A, 0, none⟩ (.int .i64 y0)).setCell ⟨A, 1, none⟩ (.int .i64 y1)).setCell ⟨A, 2, none⟩ (.int .i64 y2)).setCell ⟨A, 10, none⟩ (.int .i64 y3)).setCell ⟨A, 11, none⟩ (.int .i64 y4)).setCell ⟨A, 4, none⟩ (.int .i64 y5)).setCell ⟨A, 5, none⟩ (.int .i64 y6)).setCell ⟨A, 6, none⟩ (.int .i64 y7)).setCell ⟨A, 7, none⟩ (.int .i64 y8)).setCell ⟨A, 8, none⟩ (.int .i64 y9)).setCell ⟨A, 9, none⟩ (.int .i64 y10)) A y0 y1 y2 0 y5 y6 y7 y8 y9 y10 y3 y4 := g10
          have hS5 : RepBlk (((((((((((w2.setCell ⟨A, 0, none⟩ (.int .i64 y0)).setCell ⟨A, 1, none⟩ (.int .i64 y1)).setCell ⟨A, 2, none⟩ (.int .i64 y2)).setCell ⟨A, 10, none⟩ (.int .i64 y3)).setCell ⟨A, 11, none⟩ (.int .i64 y4)).setCell ⟨A, 4, none⟩ (.int .i64 y5)).setCell ⟨A, 5, none⟩ (.int .i64 y6)).setCell ⟨A, 6, none⟩ (.int .i64 y7)).setCell ⟨A, 7, none⟩ (.int .i64 y8)).setCell ⟨A, 8, none⟩ (.int .i64 y9)).setCell ⟨A, 9, none⟩ (.int .i64 y10)) w.heap.size rep0 := (((((((((((hS.other A 0 _ (by omega)).other A 1 _ (by omega)).other A 2 _ (by omega)).other A 10 _ (by omega)).other A 11 _ (by omega)).other A 4 _ (by omega)).other A 5 _ (by omega)).other A 6 _ (by omega)).other A 7 _ (by omega)).other A 8 _ (by omega)).other A 9 _ (by omega))
          have hD5 : RepBlk (((((((((((w2.setCell ⟨A, 0, none⟩ (.int .i64 y0)).setCell ⟨A, 1, none⟩ (.int .i64 y1)).setCell ⟨A, 2, none⟩ (.int .i64 y2)).setCell ⟨A, 10, none⟩ (.int .i64 y3)).setCell ⟨A, 11, none⟩ (.int .i64 y4)).setCell ⟨A, 4, none⟩ (.int .i64 y5)).setCell ⟨A, 5, none⟩ (.int .i64 y6)).setCell ⟨A, 6, none⟩ (.int .i64 y7)).setCell ⟨A, 7, none⟩ (.int .i64 y8)).setCell ⟨A, 8, none⟩ (.int .i64 y9)).setCell ⟨A, 9, none⟩ (.int .i64 y10)) (w.heap.size + 1) rep0 := (((((((((((hD.other A 0 _ (by omega)).other A 1 _ (by omega)).other A 2 _ (by omega)).other A 10 _ (by omega)).other A 11 _ (by omega)).other A 4 _ (by omega)).other A 5 _ (by omega)).other A 6 _ (by omega)).other A 7 _ (by omega)).other A 8 _ (by omega)).other A 9 _ (by omega))
          have hX5 : Below base w (((((((((((w2.setCell ⟨A, 0, none⟩ (.int .i64 y0)).setCell ⟨A, 1, none⟩ (.int .i64 y1)).setCell ⟨A, 2, none⟩ (.int .i64 y2)).setCell ⟨A, 10, none⟩ (.int .i64 y3)).setCell ⟨A, 11, none⟩ (.int .i64 y4)).setCell ⟨A, 4, none⟩ (.int .i64 y5)).setCell ⟨A, 5, none⟩ (.int .i64 y6)).setCell ⟨A, 6, none⟩ (.int .i64 y7)).setCell ⟨A, 7, none⟩ (.int .i64 y8)).setCell ⟨A, 8, none⟩ (.int .i64 y9)).setCell ⟨A, 9, none⟩ (.int .i64 y10)) := (((((((((((hX.setCell (p := ⟨A, 0, none⟩) bA _).setCell (p := ⟨A, 1, none⟩) bA _).setCell (p := ⟨A, 2, none⟩) bA _).setCell (p := ⟨A, 10, none⟩) bA _).setCell (p := ⟨A, 11, none⟩) bA _).setCell (p := ⟨A, 4, none⟩) bA _).setCell (p := ⟨A, 5, none⟩) bA _).setCell (p := ⟨A, 6, none⟩) bA _).setCell (p := ⟨A, 7, none⟩) bA _).setCell (p := ⟨A, 8, none⟩) bA _).setCell (p := ⟨A, 9, none⟩) bA _)
          generalize (((((((((((w2.setCell ⟨A, 0, none⟩ (.int .i64 y0)).setCell ⟨A, 1, none⟩ (.int .i64 y1)).setCell ⟨A, 2, none⟩ (.int .i64 y2)).setCell ⟨A, 10, none⟩ (.int .i64 y3)).setCell ⟨A, 11, none⟩ (.int .i64 y4)).setCell ⟨A, 4, none⟩ (.int .i64 y5)).setCell ⟨A, 5, none⟩ (.int .i64 y6)).setCell ⟨A, 6, none⟩ (.int .i64 y7)).setCell ⟨A, 7, none⟩ (.int .i64 y8)).setCell ⟨A, 8, none⟩ (.int .i64 y9)).setCell ⟨A, 9, none⟩ (.int .i64 y10)) = W5 at *
          clear g0 g1 g2 g3 g4 g5 g6 g7 g8 g9 g10 f0 f1 f2 f3 f4 f5 f6 f7 f8 f9 f10 s0 s1 s2 s3 s4 s5 s6 s7 s8 s9 d0 d1 d2 d3 d4 d5 d6 d7 d8 d9 p0 p1 p2 p3 p4 p5 p6 p7 p8 p9 p10 r0 r1 r2 r3 r4 r5 r6 r7 r8 r9 r10 r11 sf rf hF2 hA2 hS hD hX hEw
          refine (made2_any A y0 y1 y2 0 y5 y6 y7 y8 y9 y10 y3 y4 _ hA5).mono ?_
          rintro e w4 ⟨rfl, hg⟩
          have lS := lt_of_block hS5
          have lD := lt_of_block hD5
          have hS6 : RepBlk w4 w.heap.size rep0 := (hg.block _ lS (by intro h; cases h; omega)).trans hS5
          have hD6 : RepBlk w4 (w.heap.size + 1) rep0 := (hg.block _ lD (by intro h; cases h; omega)).trans hD5
          have hX6 : Below base w w4 := Below.trans hX5 (below_of_grown hg bA (by omega))
          clear hA5 hS5 hD5 hX5 hg
          simp only [repV]
          go_upto_region 13 with fail
          have hE6 : Ext w4 (w4.alloc (.cells #[.int .i64 y0, .int .i64 y1, .int .i64 y2, .int .u64 (wholeV y3 y4), .int .i64 y5, .int .i64 y6, .int .i64 y7, .int .i64 y8, .int .i64 y9, .int .i64 y10] 30)) := (Ext.refl w4).alloc _
          have hS7 := hS6.ext hE6
          have hD7 := hD6.ext hE6
          have hY7 : RepBlk (w4.alloc (.cells #[.int .i64 y0, .int .i64 y1, .int .i64 y2, .int .u64 (wholeV y3 y4), .int .i64 y5, .int .i64 y6, .int .i64 y7, .int .i64 y8, .int .i64 y9, .int .i64 y10] 30)) w4.heap.size ⟨y0, y1, y2, wholeV y3 y4, y5, y6, y7, y8, y9, y10⟩ := World.alloc_heap_new w4 _
          have hbz : base ≤ w4.heap.size := by have := lt_of_block hS6; omega
          have hX7 : Below base w (w4.alloc (.cells #[.int .i64 y0, .int .i64 y1, .int .i64 y2, .int .u64 (wholeV y3 y4), .int .i64 y5, .int .i64 y6, .int .i64 y7, .int .i64 y8, .int .i64 y9, .int .i64 y10] 30)) := hX6.alloc hbz _
          have hne : w4.heap.size ≠ w.heap.size := by have := lt_of_block hS6; omega
          have hne' : w.heap.size ≠ w4.heap.size := fun h => hne h.symm
          generalize w4.alloc (.cells #[.int .i64 y0, .int .i64 y1, .int .i64 y2, .int .u64 (wholeV y3 y4), .int .i64 y5, .int .i64 y6, .int .i64 y7, .int .i64 y8, .int .i64 y9, .int .i64 y10] 30) = W6 at *
          generalize w4.heap.size = Y at *
          clear hE6 hS6 hD6 hX6 hbz
          have l1 := lt_of_block hS7
          have l2 := lt_of_block hD7
          have l3 := lt_of_block hY7
          have s0 := cell_of_block hS7 0 (.int .i64 0) rfl
          have s1 := cell_of_block hS7 1 (.int .i64 0) rfl
          have s2 := cell_of_block hS7 2 (.int .i64 0) rfl
          have s3 := cell_of_block hS7 3 (.int .u64 0) rfl
          have s4 := cell_of_block hS7 4 (.int .i64 0) rfl
          have s5 := cell_of_block hS7 5 (.int .i64 0) rfl
          have s6 := cell_of_block hS7 6 (.int .i64 0) rfl
          have s7 := cell_of_block hS7 7 (.int .i64 0) rfl
          have s8 := cell_of_block hS7 8 (.int .i64 0) rfl
          have s9 := cell_of_block hS7 9 (.int .i64 0) rfl
          have sf := free_of_block hS7
          rcases hq : (halfB y3 && halfB y4 && repB y0 y1 y2 y5 y6 y7 y8 y9 y10) with _ | _
          · have HQ := Lib.hid hq
            clear hq hY7
            have d0 := cell_of_block hD7 0 (.int .i64 0) rfl
            have d1 := cell_of_block hD7 1 (.int .i64 0) rfl
            have d2 := cell_of_block hD7 2 (.int .i64 0) rfl
            have d3 := cell_of_block hD7 3 (.int .u64 0) rfl
            have d4 := cell_of_block hD7 4 (.int .i64 0) rfl
            have d5 := cell_of_block hD7 5 (.int .i64 0) rfl
            have d6 := cell_of_block hD7 6 (.int .i64 0) rfl
            have d7 := cell_of_block hD7 7 (.int .i64 0) rfl
            have d8 := cell_of_block hD7 8 (.int .i64 0) rfl
            have d9 := cell_of_block hD7 9 (.int .i64 0) rfl
            go_wp2
            refine bodyPost_ret (res_get2 _ w.heap.size rep0 7 _ (by rfl) (by rfl) (RepBlk.stored hS7 0 0 0 0 0 0 0 0 0 0)) rfl ?_
            exact getPost2_no (by rw [HL.out, HR.out]; simp [repOf, HQ.out]) rfl (by repeat' (first | with_reducible exact hX7 | with_reducible refine Below.setCell ?_ bw _))
          · have hv : wholeV y3 y4 = y3 * 4294967296 + y4 := by
              simp only [Bool.and_eq_true] at hq
              exact wholeV_eq hq.1.1 hq.1.2
            have HQ := Lib.hid hq
            have HV := Lib.hid hv
            clear hq hv
            generalize wholeV y3 y4 = V at *
            have x0 := cell_of_block hY7 0 (.int .i64 y0) rfl
            have x1 := cell_of_block hY7 1 (.int .i64 y1) rfl
            have x2 := cell_of_block hY7 2 (.int .i64 y2) rfl
            have x3 := cell_of_block hY7 3 (.int .u64 V) rfl
            have x4 := cell_of_block hY7 4 (.int .i64 y5) rfl
            have x5 := cell_of_block hY7 5 (.int .i64 y6) rfl
            have x6 := cell_of_block hY7 6 (.int .i64 y7) rfl
            have x7 := cell_of_block hY7 7 (.int .i64 y8) rfl
            have x8 := cell_of_block hY7 8 (.int .i64 y9) rfl
            have x9 := cell_of_block hY7 9 (.int .i64 y10) rfl
            go_wp2
            refine bodyPost_ret (res_get2 _ w.heap.size ⟨y0, y1, y2, V, y5, y6, y7, y8, y9, y10⟩ 0 _ (by rfl) (by rfl) (RepBlk.stored hS7 y0 y1 y2 V y5 y6 y7 y8 y9 y10)) rfl ?_
            exact getPost2_yes (by rw [HL.out, HR.out]; simp [repOf, HQ.out, HV.out]) rfl (by repeat' (first | with_reducible exact hX7 | with_reducible refine Below.setCell ?_ bw _))
        · have h5' : ((l.length : Int) != 11) = true := by simp; omega
          have HR := Lib.hid hr
          have H5 := Lib.hid h5
          clear hr h5
          go_enter Try.func34, Try.ntmps34
          go_wp2_with fail
          refine (get_any _ _ _ t _ (ht.ext hE00) (by omega)).mono ?_
          intro e w2 hp2
          rw [HR.out] at hp2
          obtain ⟨a2, c2, rfl, ho2, hE2⟩ := hp2
          have hS : RepBlk w2 w.heap.size rep0 := (hE2.block _ (by simp; omega)).trans ((Below.heap_alloc _ _ _ (by simp)).trans (World.alloc_heap_new w _))
          have hD : RepBlk w2 (w.heap.size + 1) rep0 := (hE2.block _ (by simp)).trans (alloc_at (by simp))
          have s0 := cell_of_block hS 0 (.int .i64 0) rfl
          have s1 := cell_of_block hS 1 (.int .i64 0) rfl
          have s2 := cell_of_block hS 2 (.int .i64 0) rfl
          have s3 := cell_of_block hS 3 (.int .u64 0) rfl
          have s4 := cell_of_block hS 4 (.int .i64 0) rfl
          have s5 := cell_of_block hS 5 (.int .i64 0) rfl
          have s6 := cell_of_block hS 6 (.int .i64 0) rfl
          have s7 := cell_of_block hS 7 (.int .i64 0) rfl
          have s8 := cell_of_block hS 8 (.int .i64 0) rfl
          have s9 := cell_of_block hS 9 (.int .i64 0) rfl
          have sf := free_of_block hS
          have d0 := cell_of_block hD 0 (.int .i64 0) rfl
          have d1 := cell_of_block hD 1 (.int .i64 0) rfl
          have d2 := cell_of_block hD 2 (.int .i64 0) rfl
          have d3 := cell_of_block hD 3 (.int .u64 0) rfl
          have d4 := cell_of_block hD 4 (.int .i64 0) rfl
          have d5 := cell_of_block hD 5 (.int .i64 0) rfl
          have d6 := cell_of_block hD 6 (.int .i64 0) rfl
          have d7 := cell_of_block hD 7 (.int .i64 0) rfl
          have d8 := cell_of_block hD 8 (.int .i64 0) rfl
          have d9 := cell_of_block hD 9 (.int .i64 0) rfl
          have hz := lt_of_block hS
          have hX : Below base w w2 := Below.mono (hE00.trans hE2) bw
          go_wp2
          refine bodyPost_ret (res_get2 _ w.heap.size rep0 7 _ (by rfl) (by rfl) (RepBlk.stored hS 0 0 0 0 0 0 0 0 0 0)) rfl ?_
          exact getPost2_no (by rw [HL.out, HR.out]; exact if_neg H5.out) rfl (by repeat' (first | with_reducible exact hX | with_reducible refine Below.setCell ?_ bw _))
    · have hk' : (c != 2) = true := by simpa using hk
      have HL : Hid (lrep (c :: t) = none) := by unfold Hid lrep lints; simp only [if_neg hk]; rfl
      clear e1 hk
      go_enter Try.func34, Try.ntmps34
      go_wp2
      refine bodyPost_ret (res_get2 _ w.heap.size rep0 7 _ (by rfl) (by rfl) ?_) rfl ?_
      · exact (Below.heap_alloc _ _ _ (by simp)).trans (World.alloc_heap_new w _)
      · exact getPost2_no HL.out rfl (((Below.refl base w).alloc bw _).alloc (by simp; omega) _)

end Go.Proofs.Ytcpojkodidflcaa
