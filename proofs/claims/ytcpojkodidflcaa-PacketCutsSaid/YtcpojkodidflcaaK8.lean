/-
  Reading a request: the program.
-/
import Derived.Test.YtcpojkodidflcaaK7
namespace Go.Proofs.Ytcpojkodidflcaa
open Go.RowKit Go.Sort Go.Shelf
set_option linter.unusedSimpArgs false
set_option linter.unusedVariables false
set_option maxRecDepth 100000

theorem ReqBlk.ext {W W' : World} {b : Nat} {h a r n : Int} (hb : ReqBlk W b h a r n) (he : Ext W W') : ReqBlk W' b h a r n := (he.block b (Array.getElem?_eq_some_iff.1 hb).1).trans hb
theorem ReqBlk.stored {W : World} {b : Nat} {h0 a0 r0 n0 : Int} (hb : ReqBlk W b h0 a0 r0 n0) (h a r n : Int) :
    ReqBlk ((((W.setCell ⟨b, 0, none⟩ (.int .i64 h)).setCell ⟨b, 1, none⟩ (.int .i64 a)).setCell ⟨b, 2, none⟩ (.int .i64 r)).setCell ⟨b, 3, none⟩ (.int .u64 n)) b h a r n := by
  have g1 : (W.setCell ⟨b, 0, none⟩ (.int .i64 h)).heap[b]? = some (.cells #[.int .i64 h, .int .i64 a0, .int .i64 r0, .int .u64 n0] 24 (0, 0)) := heap_setCell_same _ b 0 _ _ _ hb
  have g2 : ((W.setCell ⟨b, 0, none⟩ (.int .i64 h)).setCell ⟨b, 1, none⟩ (.int .i64 a)).heap[b]? = some (.cells #[.int .i64 h, .int .i64 a, .int .i64 r0, .int .u64 n0] 24 (0, 0)) := heap_setCell_same _ b 1 _ _ _ g1
  have g3 : (((W.setCell ⟨b, 0, none⟩ (.int .i64 h)).setCell ⟨b, 1, none⟩ (.int .i64 a)).setCell ⟨b, 2, none⟩ (.int .i64 r)).heap[b]? = some (.cells #[.int .i64 h, .int .i64 a, .int .i64 r, .int .u64 n0] 24 (0, 0)) := heap_setCell_same _ b 2 _ _ _ g2
  exact heap_setCell_same _ b 3 _ _ _ g3
theorem ReqBlk.other {W : World} {b : Nat} {h a r n : Int} (hb : ReqBlk W b h a r n) (c j : Nat) (v : Value) (hne : b ≠ c) : ReqBlk (W.setCell ⟨c, j, none⟩ v) b h a r n := (heap_setCell_other W ⟨c, j, none⟩ b v hne).trans hb

theorem res_get1 (W : World) (b : Nat) (h a r n k : Int) (tmps : Array Value) (h2 : tmps[8]?.getD undef = .pointer (some ⟨b, 0, none⟩)) (h3 : tmps[9]?.getD undef = .int .i64 k) (hb : ReqBlk W b h a r n) :
    (results Try.f27 tmps).run Try.prog W = .ok (.tuple #[.agg #[.int .i64 h, .int .i64 a, .int .i64 r, .int .u64 n], .int .i64 k]) W := by
  have c0 := cell_of_block hb 0 (.int .i64 h) rfl
  have c1 := cell_of_block hb 1 (.int .i64 a) rfl
  have c2 := cell_of_block hb 2 (.int .i64 r) rfl
  have c3 := cell_of_block hb 3 (.int .u64 n) rfl
  simp [results, Try.results27, go_sem, h2, h3, c0, c1, c2, c3]

/-- Where a request's five integers are read to. -/
def FldBlk (W : World) (F R N : Nat) : Prop := W.heap[F]? = some (.cells #[.pointer (some ⟨R, 0, none⟩), .pointer (some ⟨R, 1, none⟩), .pointer (some ⟨R, 2, none⟩), .pointer (some ⟨N, 0, none⟩), .pointer (some ⟨N, 1, none⟩)] 60 (0, 0))
theorem FldBlk.ext {W W' : World} {F R N : Nat} (hb : FldBlk W F R N) (he : Ext W W') : FldBlk W' F R N := (he.block F (Array.getElem?_eq_some_iff.1 hb).1).trans hb
theorem NonceBlk.ext {W W' : World} {b : Nat} {u l : Int} (hb : NonceBlk W b u l) (he : Ext W W') : NonceBlk W' b u l := (he.block b (Array.getElem?_eq_some_iff.1 hb).1).trans hb

def GetPost1 (base : Nat) (w w' : World) (e : Ending) (o : Option Req4) : Prop := e = .returned (.tuple #[reqV (o.getD (0, 0, 0, 0)), .int .i64 (if o.isSome then 0 else 7)]) ∧ Below base w w'
theorem getPost1_no {base : Nat} {w w' : World} {e : Ending} {o : Option Req4} (ho : o = none) (h : e = .returned (.tuple #[.agg #[.int .i64 0, .int .i64 0, .int .i64 0, .int .u64 0], .int .i64 7])) (hE : Below base w w') : GetPost1 base w w' e o := by
  subst ho; exact ⟨h, hE⟩
theorem getPost1_yes {base : Nat} {w w' : World} {e : Ending} {o : Option Req4} {h a r n : Int} (ho : o = some (h, a, r, n)) (he : e = .returned (.tuple #[.agg #[.int .i64 h, .int .i64 a, .int .i64 r, .int .u64 n], .int .i64 0])) (hE : Below base w w') : GetPost1 base w w' e o := by
  subst ho; exact ⟨he, hE⟩

set_option maxHeartbeats 1000000 in
theorem get1_any (base F R N : Nat) (a1 : Option Addr) (n1 c1 : Nat) (xs : List Int) (w : World) (h1 : Sl .u8 w a1 n1 c1 xs) (hn1 : n1 ≤ 1000000000) (hF : FldBlk w F R N) (hR : ReqBlk w R 0 0 0 0) (hN : NonceBlk w N 0 0) (hRN : R ≠ N) (hFR : F ≠ R) (hFN : F ≠ N)
    (bF : base ≤ F) (bR : base ≤ R) (bN : base ≤ N) :
    Calls Try.prog 27 #[.int .u8 1, .slice a1 n1 c1, .slice (some ⟨F, 0, none⟩) 5 5, .func (.func 28) #[] #[.pointer (some ⟨N, 0, none⟩), .pointer (some ⟨R, 0, none⟩)]] w fun e w' => GetPost1 base w w' e (lreq xs) := by
  have b1 := h1.bd
  have e1 := h1.hlen
  have lF := lt_of_block hF
  have lR := lt_of_block hR
  have lN := lt_of_block hN
  have bw : base ≤ w.heap.size := by omega
  rcases xs with _ | ⟨c, t⟩
  · obtain rfl : n1 = 0 := by simpa using e1.symm
    clear e1
    go_enter Try.func27, Try.ntmps27
    go_wp2
    refine bodyPost_ret (res_get1 _ w.heap.size 0 0 0 0 7 _ (by rfl) (by rfl) ?_) rfl ?_
    · exact (Below.heap_alloc _ _ _ (by simp)).trans (World.alloc_heap_new w _)
    · exact getPost1_no rfl rfl (((Below.refl base w).alloc bw _).alloc (by simp; omega) _)
  · have hp : 0 < n1 := by rw [← e1]; simp
    obtain ⟨x1, o1, rfl, hc⟩ := h1.at hp
    have hx0 := (hc 0 hp)
    rw [nth_cons, Nat.add_zero] at hx0
    clear hc
    have hxl : x1 < w.heap.size := lt_of_cell hx0
    have hxl2 : x1 < w.heap.size + 1 := by omega
    have hm1 : ((n1 : Int) == 0) = false := by simp; omega
    have hE00 : Ext w ((w.alloc (.cells #[.int .i64 0, .int .i64 0, .int .i64 0, .int .u64 0] 24)).alloc (.cells #[.int .i64 0, .int .i64 0, .int .i64 0, .int .u64 0] 24)) := ((Ext.refl w).alloc _).alloc _
    by_cases hk : c = 1
    · subst hk
      have ht := h1.from (m := 1) hp
      rw [List.drop_succ_cons, List.drop_zero] at ht
      have hsl : ∀ w, (Instr.slice 31 (.slice (some ⟨x1, o1, none⟩) n1 c1) (some (.int .i64 1)) none none).run Try.prog w = .ok (.slice (subA (some ⟨x1, o1, none⟩) c1 1) (n1 - 1) (c1 - 1)) w := run_from (P := Try.prog) (T := 31) (by kernel_rfl) (fun _ => by kernel_rfl) (some ⟨x1, o1, none⟩) n1 c1 1 hp
      have hl0 : lreq (1 :: t) = (match lget t with | some l => if l.length = 5 then reqOf l else none | none => none) := by
        unfold lreq lints
        simp only [if_true]
        rcases lget t with _ | l
        · rfl
        · by_cases h5 : l.length = 5
          · simp [h5]
          · simp [h5]
      have HL := Lib.hid hl0
      have E1 := Lib.hid e1
      clear hl0 e1
      rcases hr : lget t with _ | l
      · have HR := Lib.hid hr
        clear hr
        go_enter Try.func27, Try.ntmps27
        go_wp2_with fail
        refine (get_any _ _ _ t _ (ht.ext hE00) (by omega)).mono ?_
        intro e w2 hp2
        rw [HR.out] at hp2
        obtain ⟨rfl, hE2⟩ := hp2
        have hS : ReqBlk w2 w.heap.size 0 0 0 0 := (hE2.block _ (by simp; omega)).trans ((Below.heap_alloc _ _ _ (by simp)).trans (World.alloc_heap_new w _))
        have hD : ReqBlk w2 (w.heap.size + 1) 0 0 0 0 := (hE2.block _ (by simp)).trans (by have := World.alloc_heap_new (w.alloc (.cells #[.int .i64 0, .int .i64 0, .int .i64 0, .int .u64 0] 24)) (.cells #[.int .i64 0, .int .i64 0, .int .i64 0, .int .u64 0] 24); simpa using this)
        have s0 := cell_of_block hS 0 (.int .i64 0) rfl
        have s1 := cell_of_block hS 1 (.int .i64 0) rfl
        have s2 := cell_of_block hS 2 (.int .i64 0) rfl
        have s3 := cell_of_block hS 3 (.int .u64 0) rfl
        have sf := free_of_block hS
        have d0 := cell_of_block hD 0 (.int .i64 0) rfl
        have d1 := cell_of_block hD 1 (.int .i64 0) rfl
        have d2 := cell_of_block hD 2 (.int .i64 0) rfl
        have d3 := cell_of_block hD 3 (.int .u64 0) rfl
        have hz := lt_of_block hS
        have hX : Below base w w2 := Below.mono (hE00.trans hE2) bw
        go_wp2
        refine bodyPost_ret (res_get1 _ w.heap.size 0 0 0 0 7 _ (by rfl) (by rfl) (ReqBlk.stored hS 0 0 0 0)) rfl ?_
        exact getPost1_no (by rw [HL.out, HR.out]) rfl (by repeat' (first | with_reducible exact hX | with_reducible refine Below.setCell ?_ bw _))
      · by_cases h5 : l.length = 5
        · match l, h5 with
          | [y0, y1, y2, y3, y4], _ =>
          have HR := Lib.hid hr
          clear hr
          go_enter Try.func27, Try.ntmps27
          go_wp2_with fail
          refine (get_any _ _ _ t _ (ht.ext hE00) (by omega)).mono ?_
          intro e w2 hp2
          rw [HR.out] at hp2
          obtain ⟨a2, c2, rfl, ho2, hE2⟩ := hp2
          have hs2 := ho2.sl (lget_wf (i := 0) (j := t.length) ht.wf (by simpa using HR.out))
          obtain ⟨x2, o2, hx2, hcl⟩ := hs2.at (by simp)
          have hge := ho2.lt x2 (by rw [hx2]; rfl)
          subst hx2
          have f0 := hcl 0 (by simp)
          have f1 := hcl 1 (by simp)
          have f2 := hcl 2 (by simp)
          have f3 := hcl 3 (by simp)
          have f4 := hcl 4 (by simp)
          simp only [nth, List.getD_cons_zero, List.getD_cons_succ, Nat.add_zero] at f0 f1 f2 f3 f4
          simp only [World.size_alloc] at hge
          simp only [List.length_cons, List.length_nil, Nat.zero_add]
          clear hcl ho2 hs2
          have hS : ReqBlk w2 w.heap.size 0 0 0 0 := (hE2.block _ (by simp; omega)).trans ((Below.heap_alloc _ _ _ (by simp)).trans (World.alloc_heap_new w _))
          have hD : ReqBlk w2 (w.heap.size + 1) 0 0 0 0 := (hE2.block _ (by simp)).trans (by have := World.alloc_heap_new (w.alloc (.cells #[.int .i64 0, .int .i64 0, .int .i64 0, .int .u64 0] 24)) (.cells #[.int .i64 0, .int .i64 0, .int .i64 0, .int .u64 0] 24); simpa using this)
          have s0 := cell_of_block hS 0 (.int .i64 0) rfl
          have s1 := cell_of_block hS 1 (.int .i64 0) rfl
          have s2 := cell_of_block hS 2 (.int .i64 0) rfl
          have s3 := cell_of_block hS 3 (.int .u64 0) rfl
          have sf := free_of_block hS
          have d0 := cell_of_block hD 0 (.int .i64 0) rfl
          have d1 := cell_of_block hD 1 (.int .i64 0) rfl
          have d2 := cell_of_block hD 2 (.int .i64 0) rfl
          have d3 := cell_of_block hD 3 (.int .u64 0) rfl
          have hz := lt_of_block hS
          have hX : Below base w w2 := Below.mono (hE00.trans hE2) bw
          have hEw := hE00.trans hE2
          have hF2 := hF.ext hEw
          have hR2 := hR.ext hEw
          have hN2 := hN.ext hEw
          clear hE2 hE00
          have p0 := cell_of_block hF2 0 (.pointer (some ⟨R, 0, none⟩)) rfl
          have p1 := cell_of_block hF2 1 (.pointer (some ⟨R, 1, none⟩)) rfl
          have p2 := cell_of_block hF2 2 (.pointer (some ⟨R, 2, none⟩)) rfl
          have p3 := cell_of_block hF2 3 (.pointer (some ⟨N, 0, none⟩)) rfl
          have p4 := cell_of_block hF2 4 (.pointer (some ⟨N, 1, none⟩)) rfl
          have r0 := cell_of_block hR2 0 (.int .i64 0) rfl
          have r1 := cell_of_block hR2 1 (.int .i64 0) rfl
          have r2 := cell_of_block hR2 2 (.int .i64 0) rfl
          have m0 := cell_of_block hN2 0 (.int .i64 0) rfl
          have m1 := cell_of_block hN2 1 (.int .i64 0) rfl
          have rf := free_of_block hR2
          have mf := free_of_block hN2
          have q1 : R ≠ x2 := by omega
          have q2 : N ≠ x2 := by omega
          have q3 : x2 ≠ R := by omega
          have q4 : x2 ≠ N := by omega
          have q5 : N ≠ R := fun h => hRN h.symm
          have q6 : R ≠ F := fun h => hFR h.symm
          have q7 : N ≠ F := fun h => hFN h.symm
          go_wp2_with fail
          refine wp_loop_rounds 6 ?_
          rw [rounds_succ]
          go_wp2_with fail
          rw [rounds_succ]
          go_wp2_with fail
          rw [rounds_succ]
          go_wp2_with fail
          rw [rounds_succ]
          go_wp2_with fail
          rw [rounds_succ]
          go_wp2_with fail
          rw [rounds_succ]
          go_wp2_with fail
          have g1 : (w2.setCell ⟨R, 0, none⟩ (.int .i64 y0)).heap[R]? = some (.cells #[.int .i64 y0, .int .i64 0, .int .i64 0, .int .u64 0] 24 (0, 0)) := heap_setCell_same _ R 0 _ _ _ hR2
          have g2 : ((w2.setCell ⟨R, 0, none⟩ (.int .i64 y0)).setCell ⟨R, 1, none⟩ (.int .i64 y1)).heap[R]? = some (.cells #[.int .i64 y0, .int .i64 y1, .int .i64 0, .int .u64 0] 24 (0, 0)) := heap_setCell_same _ R 1 _ _ _ g1
          have g3 : ReqBlk (((w2.setCell ⟨R, 0, none⟩ (.int .i64 y0)).setCell ⟨R, 1, none⟩ (.int .i64 y1)).setCell ⟨R, 2, none⟩ (.int .i64 y2)) R y0 y1 y2 0 := heap_setCell_same _ R 2 _ _ _ g2
          have hR5 : ReqBlk (((((w2.setCell ⟨R, 0, none⟩ (.int .i64 y0)).setCell ⟨R, 1, none⟩ (.int .i64 y1)).setCell ⟨R, 2, none⟩ (.int .i64 y2)).setCell ⟨N, 0, none⟩ (.int .i64 y3)).setCell ⟨N, 1, none⟩ (.int .i64 y4)) R y0 y1 y2 0 := (g3.other N 0 (.int .i64 y3) hRN).other N 1 (.int .i64 y4) hRN
          have k3 : (((w2.setCell ⟨R, 0, none⟩ (.int .i64 y0)).setCell ⟨R, 1, none⟩ (.int .i64 y1)).setCell ⟨R, 2, none⟩ (.int .i64 y2)).heap[N]? = some (.cells #[.int .i64 0, .int .i64 0] 53 (0, 0)) := ((heap_setCell_other _ ⟨R, 2, none⟩ N _ q5).trans ((heap_setCell_other _ ⟨R, 1, none⟩ N _ q5).trans (heap_setCell_other _ ⟨R, 0, none⟩ N _ q5))).trans hN2
          have k4 : ((((w2.setCell ⟨R, 0, none⟩ (.int .i64 y0)).setCell ⟨R, 1, none⟩ (.int .i64 y1)).setCell ⟨R, 2, none⟩ (.int .i64 y2)).setCell ⟨N, 0, none⟩ (.int .i64 y3)).heap[N]? = some (.cells #[.int .i64 y3, .int .i64 0] 53 (0, 0)) := heap_setCell_same _ N 0 _ _ _ k3
          have hN5 : NonceBlk (((((w2.setCell ⟨R, 0, none⟩ (.int .i64 y0)).setCell ⟨R, 1, none⟩ (.int .i64 y1)).setCell ⟨R, 2, none⟩ (.int .i64 y2)).setCell ⟨N, 0, none⟩ (.int .i64 y3)).setCell ⟨N, 1, none⟩ (.int .i64 y4)) N y3 y4 := heap_setCell_same _ N 1 _ _ _ k4
          have hS5 : ReqBlk (((((w2.setCell ⟨R, 0, none⟩ (.int .i64 y0)).setCell ⟨R, 1, none⟩ (.int .i64 y1)).setCell ⟨R, 2, none⟩ (.int .i64 y2)).setCell ⟨N, 0, none⟩ (.int .i64 y3)).setCell ⟨N, 1, none⟩ (.int .i64 y4)) w.heap.size 0 0 0 0 := ((((hS.other R 0 _ (by omega)).other R 1 _ (by omega)).other R 2 _ (by omega)).other N 0 _ (by omega)).other N 1 _ (by omega)
          have hD5 : ReqBlk (((((w2.setCell ⟨R, 0, none⟩ (.int .i64 y0)).setCell ⟨R, 1, none⟩ (.int .i64 y1)).setCell ⟨R, 2, none⟩ (.int .i64 y2)).setCell ⟨N, 0, none⟩ (.int .i64 y3)).setCell ⟨N, 1, none⟩ (.int .i64 y4)) (w.heap.size + 1) 0 0 0 0 := ((((hD.other R 0 _ (by omega)).other R 1 _ (by omega)).other R 2 _ (by omega)).other N 0 _ (by omega)).other N 1 _ (by omega)
          have hX5 : Below base w (((((w2.setCell ⟨R, 0, none⟩ (.int .i64 y0)).setCell ⟨R, 1, none⟩ (.int .i64 y1)).setCell ⟨R, 2, none⟩ (.int .i64 y2)).setCell ⟨N, 0, none⟩ (.int .i64 y3)).setCell ⟨N, 1, none⟩ (.int .i64 y4)) := ((((hX.setCell (p := ⟨R, 0, none⟩) bR _).setCell (p := ⟨R, 1, none⟩) bR _).setCell (p := ⟨R, 2, none⟩) bR _).setCell (p := ⟨N, 0, none⟩) bN _).setCell (p := ⟨N, 1, none⟩) bN _
          generalize (((((w2.setCell ⟨R, 0, none⟩ (.int .i64 y0)).setCell ⟨R, 1, none⟩ (.int .i64 y1)).setCell ⟨R, 2, none⟩ (.int .i64 y2)).setCell ⟨N, 0, none⟩ (.int .i64 y3)).setCell ⟨N, 1, none⟩ (.int .i64 y4)) = W5 at *
          clear g1 g2 g3 k3 k4 f0 f1 f2 f3 f4 s0 s1 s2 s3 sf d0 d1 d2 d3 p0 p1 p2 p3 p4 r0 r1 r2 m0 m1 rf mf hF2 hR2 hN2 hS hD hX hEw
          refine (made1_any N R y3 y4 y0 y1 y2 0 _ hN5 hR5 q5).mono ?_
          rintro e w4 ⟨rfl, hg⟩
          have lS := lt_of_block hS5
          have lD := lt_of_block hD5
          have hS6 : ReqBlk w4 w.heap.size 0 0 0 0 := (hg.block _ lS (by intro h; cases h; omega)).trans hS5
          have hD6 : ReqBlk w4 (w.heap.size + 1) 0 0 0 0 := (hg.block _ lD (by intro h; cases h; omega)).trans hD5
          have hX6 : Below base w w4 := Below.trans hX5 (below_of_grown hg bR (by omega))
          clear hR5 hN5 hS5 hD5 hX5 hg
          have s0 := cell_of_block hS6 0 (.int .i64 0) rfl
          have s1 := cell_of_block hS6 1 (.int .i64 0) rfl
          have s2 := cell_of_block hS6 2 (.int .i64 0) rfl
          have s3 := cell_of_block hS6 3 (.int .u64 0) rfl
          have sf := free_of_block hS6
          have d0 := cell_of_block hD6 0 (.int .i64 0) rfl
          have d1 := cell_of_block hD6 1 (.int .i64 0) rfl
          have d2 := cell_of_block hD6 2 (.int .i64 0) rfl
          have d3 := cell_of_block hD6 3 (.int .u64 0) rfl
          have l1 : w.heap.size < w4.heap.size := lt_of_block hS6
          have l2 : w.heap.size + 1 < w4.heap.size := lt_of_block hD6
          rcases hq : (halfB y3 && halfB y4 && reqB y0 y1 y2) with _ | _
          · have HQ := Lib.hid hq
            clear hq
            go_wp2
            refine bodyPost_ret (res_get1 _ w.heap.size 0 0 0 0 7 _ (by rfl) (by rfl) ((ReqBlk.stored hS6 0 0 0 0).ext ((Ext.refl _).alloc _))) rfl ?_
            have hX := hX6
            have hbz : base ≤ w4.heap.size := by omega
            exact getPost1_no (by rw [HL.out, HR.out]; simp [reqOf, HQ.out]) rfl (by refine Below.alloc ?_ (by simpa using hbz) _; repeat' (first | with_reducible exact hX | with_reducible refine Below.setCell ?_ bw _))
          · have hv : wholeV y3 y4 = y3 * 4294967296 + y4 := by
              simp only [Bool.and_eq_true] at hq
              exact wholeV_eq hq.1.1 hq.1.2
            have HQ := Lib.hid hq
            clear hq
            rw [hv]
            clear hv
            go_wp2
            refine bodyPost_ret (res_get1 _ w.heap.size y0 y1 y2 (y3 * 4294967296 + y4) 0 _ (by rfl) (by rfl) ((ReqBlk.stored hS6 y0 y1 y2 (y3 * 4294967296 + y4)).ext ((Ext.refl _).alloc _))) rfl ?_
            have hX := hX6
            have hbz : base ≤ w4.heap.size := by omega
            exact getPost1_yes (by rw [HL.out, HR.out]; simp [reqOf, HQ.out]) rfl (by refine Below.alloc ?_ (by simpa using hbz) _; repeat' (first | with_reducible exact hX | with_reducible refine Below.setCell ?_ bw _))
        · have h5' : ((l.length : Int) != 5) = true := by simp; omega
          have HR := Lib.hid hr
          have H5 := Lib.hid h5
          clear hr h5
          go_enter Try.func27, Try.ntmps27
          go_wp2_with fail
          refine (get_any _ _ _ t _ (ht.ext hE00) (by omega)).mono ?_
          intro e w2 hp2
          rw [HR.out] at hp2
          obtain ⟨a2, c2, rfl, ho2, hE2⟩ := hp2
          have hS : ReqBlk w2 w.heap.size 0 0 0 0 := (hE2.block _ (by simp; omega)).trans ((Below.heap_alloc _ _ _ (by simp)).trans (World.alloc_heap_new w _))
          have hD : ReqBlk w2 (w.heap.size + 1) 0 0 0 0 := (hE2.block _ (by simp)).trans (by have := World.alloc_heap_new (w.alloc (.cells #[.int .i64 0, .int .i64 0, .int .i64 0, .int .u64 0] 24)) (.cells #[.int .i64 0, .int .i64 0, .int .i64 0, .int .u64 0] 24); simpa using this)
          have s0 := cell_of_block hS 0 (.int .i64 0) rfl
          have s1 := cell_of_block hS 1 (.int .i64 0) rfl
          have s2 := cell_of_block hS 2 (.int .i64 0) rfl
          have s3 := cell_of_block hS 3 (.int .u64 0) rfl
          have sf := free_of_block hS
          have d0 := cell_of_block hD 0 (.int .i64 0) rfl
          have d1 := cell_of_block hD 1 (.int .i64 0) rfl
          have d2 := cell_of_block hD 2 (.int .i64 0) rfl
          have d3 := cell_of_block hD 3 (.int .u64 0) rfl
          have hz := lt_of_block hS
          have hX : Below base w w2 := Below.mono (hE00.trans hE2) bw
          go_wp2
          refine bodyPost_ret (res_get1 _ w.heap.size 0 0 0 0 7 _ (by rfl) (by rfl) (ReqBlk.stored hS 0 0 0 0)) rfl ?_
          exact getPost1_no (by rw [HL.out, HR.out]; exact if_neg H5.out) rfl (by repeat' (first | with_reducible exact hX | with_reducible refine Below.setCell ?_ bw _))
    · have hk' : (c != 1) = true := by simpa using hk
      have HL : Hid (lreq (c :: t) = none) := by unfold Hid lreq lints; simp only [if_neg hk]; rfl
      clear e1 hk
      go_enter Try.func27, Try.ntmps27
      go_wp2
      refine bodyPost_ret (res_get1 _ w.heap.size 0 0 0 0 7 _ (by rfl) (by rfl) ?_) rfl ?_
      · exact (Below.heap_alloc _ _ _ (by simp)).trans (World.alloc_heap_new w _)
      · exact getPost1_no HL.out rfl (((Below.refl base w).alloc bw _).alloc (by simp; omega) _)

end Go.Proofs.Ytcpojkodidflcaa
