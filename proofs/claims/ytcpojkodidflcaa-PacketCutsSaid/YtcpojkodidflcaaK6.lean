/-
  Reading a reply: the reference.
-/
import Derived.Test.YtcpojkodidflcaaK5
namespace Go.Proofs.Ytcpojkodidflcaa
open Go.RowKit Go.Sort Go.Shelf
set_option linter.unusedSimpArgs false
set_option linter.unusedVariables false
set_option maxRecDepth 100000

structure Rep where
  a : Int
  h : Int
  r : Int
  n : Int
  lo : Int
  hi : Int
  k : Int
  t : Int
  c : Int
  s : Int
deriving DecidableEq
def rep0 : Rep := ⟨0, 0, 0, 0, 0, 0, 0, 0, 0, 0⟩
/-- The reply of integers. -/
def repOf : List Int → Option Rep
  | [a, h, r, u, l, lo, hi, k, t, c, s] => if (halfB u && halfB l && repB a h r lo hi k t c s) = true then some ⟨a, h, r, u * 4294967296 + l, lo, hi, k, t, c, s⟩ else none
  | _ => none
def lrep (xs : List Int) : Option Rep := (lints 2 11 xs).bind repOf

def repV (q : Rep) : Value := .agg #[.int .i64 q.a, .int .i64 q.h, .int .i64 q.r, .int .u64 q.n, .int .i64 q.lo, .int .i64 q.hi, .int .i64 q.k, .int .i64 q.t, .int .i64 q.c, .int .i64 q.s]
def RepPost (w w' : World) (e : Ending) (o : Option Rep) : Prop := e = .returned (.tuple #[repV (o.getD rep0), .int .i64 (if o.isSome then 0 else 7)]) ∧ Ext w w'

theorem repPost_no {w w' : World} {e : Ending} {o : Option Rep} (ho : o = none) (h : e = .returned (.tuple #[.agg #[.int .i64 0, .int .i64 0, .int .i64 0, .int .u64 0, .int .i64 0, .int .i64 0, .int .i64 0, .int .i64 0, .int .i64 0, .int .i64 0], .int .i64 7])) (hE : Ext w w') : RepPost w w' e o := by
  subst ho; exact ⟨h, hE⟩
theorem repPost_yes {w w' : World} {e : Ending} {o : Option Rep} {q : Rep} (ho : o = some q) (he : e = .returned (.tuple #[repV q, .int .i64 0])) (hE : Ext w w') : RepPost w w' e o := by
  subst ho; exact ⟨he, hE⟩

def RepBlk (W : World) (b : Nat) (q : Rep) : Prop := W.heap[b]? = some (.cells #[.int .i64 q.a, .int .i64 q.h, .int .i64 q.r, .int .u64 q.n, .int .i64 q.lo, .int .i64 q.hi, .int .i64 q.k, .int .i64 q.t, .int .i64 q.c, .int .i64 q.s] 30 (0, 0))
theorem RepBlk.stored {W : World} {b : Nat} {q : Rep} (hb : RepBlk W b q) (a h r n lo hi k t c s : Int) : RepBlk ((((((((((W.setCell ⟨b, 0, none⟩ (.int .i64 a)).setCell ⟨b, 1, none⟩ (.int .i64 h)).setCell ⟨b, 2, none⟩ (.int .i64 r)).setCell ⟨b, 3, none⟩ (.int .u64 n)).setCell ⟨b, 4, none⟩ (.int .i64 lo)).setCell ⟨b, 5, none⟩ (.int .i64 hi)).setCell ⟨b, 6, none⟩ (.int .i64 k)).setCell ⟨b, 7, none⟩ (.int .i64 t)).setCell ⟨b, 8, none⟩ (.int .i64 c)).setCell ⟨b, 9, none⟩ (.int .i64 s)) b ⟨a, h, r, n, lo, hi, k, t, c, s⟩ := by
  have g1 : (W.setCell ⟨b, 0, none⟩ (.int .i64 a)).heap[b]? = some (.cells #[.int .i64 a, .int .i64 q.h, .int .i64 q.r, .int .u64 q.n, .int .i64 q.lo, .int .i64 q.hi, .int .i64 q.k, .int .i64 q.t, .int .i64 q.c, .int .i64 q.s] 30 (0, 0)) := heap_setCell_same _ b 0 _ _ _ hb
  have g2 : ((W.setCell ⟨b, 0, none⟩ (.int .i64 a)).setCell ⟨b, 1, none⟩ (.int .i64 h)).heap[b]? = some (.cells #[.int .i64 a, .int .i64 h, .int .i64 q.r, .int .u64 q.n, .int .i64 q.lo, .int .i64 q.hi, .int .i64 q.k, .int .i64 q.t, .int .i64 q.c, .int .i64 q.s] 30 (0, 0)) := heap_setCell_same _ b 1 _ _ _ g1
  have g3 : (((W.setCell ⟨b, 0, none⟩ (.int .i64 a)).setCell ⟨b, 1, none⟩ (.int .i64 h)).setCell ⟨b, 2, none⟩ (.int .i64 r)).heap[b]? = some (.cells #[.int .i64 a, .int .i64 h, .int .i64 r, .int .u64 q.n, .int .i64 q.lo, .int .i64 q.hi, .int .i64 q.k, .int .i64 q.t, .int .i64 q.c, .int .i64 q.s] 30 (0, 0)) := heap_setCell_same _ b 2 _ _ _ g2
  have g4 : ((((W.setCell ⟨b, 0, none⟩ (.int .i64 a)).setCell ⟨b, 1, none⟩ (.int .i64 h)).setCell ⟨b, 2, none⟩ (.int .i64 r)).setCell ⟨b, 3, none⟩ (.int .u64 n)).heap[b]? = some (.cells #[.int .i64 a, .int .i64 h, .int .i64 r, .int .u64 n, .int .i64 q.lo, .int .i64 q.hi, .int .i64 q.k, .int .i64 q.t, .int .i64 q.c, .int .i64 q.s] 30 (0, 0)) := heap_setCell_same _ b 3 _ _ _ g3
  have g5 : (((((W.setCell ⟨b, 0, none⟩ (.int .i64 a)).setCell ⟨b, 1, none⟩ (.int .i64 h)).setCell ⟨b, 2, none⟩ (.int .i64 r)).setCell ⟨b, 3, none⟩ (.int .u64 n)).setCell ⟨b, 4, none⟩ (.int .i64 lo)).heap[b]? = some (.cells #[.int .i64 a, .int .i64 h, .int .i64 r, .int .u64 n, .int .i64 lo, .int .i64 q.hi, .int .i64 q.k, .int .i64 q.t, .int .i64 q.c, .int .i64 q.s] 30 (0, 0)) := heap_setCell_same _ b 4 _ _ _ g4
  have g6 : ((((((W.setCell ⟨b, 0, none⟩ (.int .i64 a)).setCell ⟨b, 1, none⟩ (.int .i64 h)).setCell ⟨b, 2, none⟩ (.int .i64 r)).setCell ⟨b, 3, none⟩ (.int .u64 n)).setCell ⟨b, 4, none⟩ (.int .i64 lo)).setCell ⟨b, 5, none⟩ (.int .i64 hi)).heap[b]? = some (.cells #[.int .i64 a, .int .i64 h, .int .i64 r, .int .u64 n, .int .i64 lo, .int .i64 hi, .int .i64 q.k, .int .i64 q.t, .int .i64 q.c, .int .i64 q.s] 30 (0, 0)) := heap_setCell_same _ b 5 _ _ _ g5
  have g7 : (((((((W.setCell ⟨b, 0, none⟩ (.int .i64 a)).setCell ⟨b, 1, none⟩ (.int .i64 h)).setCell ⟨b, 2, none⟩ (.int .i64 r)).setCell ⟨b, 3, none⟩ (.int .u64 n)).setCell ⟨b, 4, none⟩ (.int .i64 lo)).setCell ⟨b, 5, none⟩ (.int .i64 hi)).setCell ⟨b, 6, none⟩ (.int .i64 k)).heap[b]? = some (.cells #[.int .i64 a, .int .i64 h, .int .i64 r, .int .u64 n, .int .i64 lo, .int .i64 hi, .int .i64 k, .int .i64 q.t, .int .i64 q.c, .int .i64 q.s] 30 (0, 0)) := heap_setCell_same _ b 6 _ _ _ g6
  have g8 : ((((((((W.setCell ⟨b, 0, none⟩ (.int .i64 a)).setCell ⟨b, 1, none⟩ (.int .i64 h)).setCell ⟨b, 2, none⟩ (.int .i64 r)).setCell ⟨b, 3, none⟩ (.int .u64 n)).setCell ⟨b, 4, none⟩ (.int .i64 lo)).setCell ⟨b, 5, none⟩ (.int .i64 hi)).setCell ⟨b, 6, none⟩ (.int .i64 k)).setCell ⟨b, 7, none⟩ (.int .i64 t)).heap[b]? = some (.cells #[.int .i64 a, .int .i64 h, .int .i64 r, .int .u64 n, .int .i64 lo, .int .i64 hi, .int .i64 k, .int .i64 t, .int .i64 q.c, .int .i64 q.s] 30 (0, 0)) := heap_setCell_same _ b 7 _ _ _ g7
  have g9 : (((((((((W.setCell ⟨b, 0, none⟩ (.int .i64 a)).setCell ⟨b, 1, none⟩ (.int .i64 h)).setCell ⟨b, 2, none⟩ (.int .i64 r)).setCell ⟨b, 3, none⟩ (.int .u64 n)).setCell ⟨b, 4, none⟩ (.int .i64 lo)).setCell ⟨b, 5, none⟩ (.int .i64 hi)).setCell ⟨b, 6, none⟩ (.int .i64 k)).setCell ⟨b, 7, none⟩ (.int .i64 t)).setCell ⟨b, 8, none⟩ (.int .i64 c)).heap[b]? = some (.cells #[.int .i64 a, .int .i64 h, .int .i64 r, .int .u64 n, .int .i64 lo, .int .i64 hi, .int .i64 k, .int .i64 t, .int .i64 c, .int .i64 q.s] 30 (0, 0)) := heap_setCell_same _ b 8 _ _ _ g8
  have g10 : ((((((((((W.setCell ⟨b, 0, none⟩ (.int .i64 a)).setCell ⟨b, 1, none⟩ (.int .i64 h)).setCell ⟨b, 2, none⟩ (.int .i64 r)).setCell ⟨b, 3, none⟩ (.int .u64 n)).setCell ⟨b, 4, none⟩ (.int .i64 lo)).setCell ⟨b, 5, none⟩ (.int .i64 hi)).setCell ⟨b, 6, none⟩ (.int .i64 k)).setCell ⟨b, 7, none⟩ (.int .i64 t)).setCell ⟨b, 8, none⟩ (.int .i64 c)).setCell ⟨b, 9, none⟩ (.int .i64 s)).heap[b]? = some (.cells #[.int .i64 a, .int .i64 h, .int .i64 r, .int .u64 n, .int .i64 lo, .int .i64 hi, .int .i64 k, .int .i64 t, .int .i64 c, .int .i64 s] 30 (0, 0)) := heap_setCell_same _ b 9 _ _ _ g9
  exact g10
theorem RepBlk.ext {W W' : World} {b : Nat} {q : Rep} (h : RepBlk W b q) (he : Ext W W') : RepBlk W' b q := (he.block b (Array.getElem?_eq_some_iff.1 h).1).trans h

theorem res_rget (W : World) (b : Nat) (q : Rep) (k : Int) (tmps : Array Value) (h2 : tmps[2]?.getD undef = .pointer (some ⟨b, 0, none⟩)) (h3 : tmps[3]?.getD undef = .int .i64 k) (hb : RepBlk W b q) :
    (results Try.f19 tmps).run Try.prog W = .ok (.tuple #[repV q, .int .i64 k]) W := by
  have c0 := cell_of_block hb 0 _ rfl
  have c1 := cell_of_block hb 1 _ rfl
  have c2 := cell_of_block hb 2 _ rfl
  have c3 := cell_of_block hb 3 _ rfl
  have c4 := cell_of_block hb 4 _ rfl
  have c5 := cell_of_block hb 5 _ rfl
  have c6 := cell_of_block hb 6 _ rfl
  have c7 := cell_of_block hb 7 _ rfl
  have c8 := cell_of_block hb 8 _ rfl
  have c9 := cell_of_block hb 9 _ rfl
  simp [results, Try.results19, go_sem, h2, h3, c0, c1, c2, c3, c4, c5, c6, c7, c8, c9, repV]

set_option maxHeartbeats 1000000 in
theorem rgetReply_any (a1 : Option Addr) (n1 c1 : Nat) (xs : List Int) (w : World) (h1 : Sl .u8 w a1 n1 c1 xs) (hn1 : n1 ≤ 1000000000) :
    Calls Try.prog 19 #[.slice a1 n1 c1] w fun e w' => RepPost w w' e (lrep xs) := by
  have b1 := h1.bd
  have e1 := h1.hlen
  rcases xs with _ | ⟨c, t⟩
  · obtain rfl : n1 = 0 := by simpa using e1.symm
    clear e1
    go_enter Try.func19, Try.ntmps19
    go_wp2
    go_returns
    exact repPost_no rfl (by simp) (((Ext.refl w).alloc _))
  · have hp : 0 < n1 := by rw [← e1]; simp
    obtain ⟨x1, o1, rfl, hc⟩ := h1.at hp
    have hx0 := (hc 0 hp)
    rw [nth_cons, Nat.add_zero] at hx0
    clear hc
    have hxl : x1 < w.heap.size := lt_of_cell hx0
    have hm1 : ((n1 : Int) == 0) = false := by simp; omega
    by_cases hk : c = 2
    · subst hk
      have ht := h1.from (m := 1) hp
      rw [List.drop_succ_cons, List.drop_zero] at ht
      have hsl : ∀ w, (Instr.slice 31 (.slice (some ⟨x1, o1, none⟩) n1 c1) (some (.int .i64 1)) none none).run Try.prog w = .ok (.slice (subA (some ⟨x1, o1, none⟩) c1 1) (n1 - 1) (c1 - 1)) w := run_from (P := Try.prog) (T := 31) (by kernel_rfl) (fun _ => by kernel_rfl) (some ⟨x1, o1, none⟩) n1 c1 1 hp
      have hl0 : lrep (2 :: t) = (match lget t with | some l => if l.length = 11 then repOf l else none | none => none) := by
        unfold lrep lints
        simp only [if_true]
        rcases lget t with _ | l
        · rfl
        · by_cases h5 : l.length = 11
          · simp [h5]
          · simp [h5]
      have HL := Lib.hid hl0
      have E1 := Lib.hid e1
      clear hl0 e1
      rcases hr : lget t with _ | l
      · have HR := Lib.hid hr
        clear hr
        go_enter Try.func19, Try.ntmps19
        go_wp2_with fail
        refine (rget_any _ _ _ t _ (ht.ext ((Ext.refl w).alloc _))).mono ?_
        intro e w2 hp2
        rw [HR.out] at hp2
        obtain ⟨rfl, hE2⟩ := hp2
        obtain ⟨hc2, hf2⟩ := hE2.rules
        have hz2 := hE2.sz1
        have hb0 : RepBlk w2 w.heap.size ⟨0, 0, 0, 0, 0, 0, 0, 0, 0, 0⟩ := RepBlk.ext (World.alloc_heap_new w _) hE2
        go_wp2
        refine bodyPost_ret (v := .tuple #[repV ⟨0, 0, 0, 0, 0, 0, 0, 0, 0, 0⟩, .int .i64 7]) (by first | exact res_rget _ _ _ _ _ rfl rfl (RepBlk.stored hb0 0 0 0 0 0 0 0 0 0 0)) rfl ?_
        exact repPost_no (by rw [HL.out, HR.out]) rfl (by have hX := ((Ext.refl w).alloc _).trans hE2; repeat' (first | with_reducible exact hX | with_reducible refine Ext.setCell ?_ (Nat.le_refl _) _))
      · by_cases h5 : l.length = 11
        · match l, h5 with
          | [y0, y1, y2, y3, y4, y5, y6, y7, y8, y9, y10], _ =>
          have HR := Lib.hid hr
          clear hr
          go_enter Try.func19, Try.ntmps19
          go_wp2_with fail
          refine (rget_any _ _ _ t _ (ht.ext ((Ext.refl w).alloc _))).mono ?_
          intro e w2 hp2
          rw [HR.out] at hp2
          obtain ⟨a2, c2, rfl, ho2, hE2⟩ := hp2
          have hs2 := ho2.sl (lget_wf (i := 0) (j := t.length) ht.wf (by simpa using HR.out))
          obtain ⟨x2, o2, rfl, hcl⟩ := hs2.at (by simp)
          have f0 := hcl 0 (by simp)
          have f1 := hcl 1 (by simp)
          have f2 := hcl 2 (by simp)
          have f3 := hcl 3 (by simp)
          have f4 := hcl 4 (by simp)
          have f5 := hcl 5 (by simp)
          have f6 := hcl 6 (by simp)
          have f7 := hcl 7 (by simp)
          have f8 := hcl 8 (by simp)
          have f9 := hcl 9 (by simp)
          have f10 := hcl 10 (by simp)
          have v3 := wf_i64 (hs2.wf y3 (by simp))
          have v4 := wf_i64 (hs2.wf y4 (by simp))
          simp only [nth, List.getD_cons_zero, List.getD_cons_succ, Nat.add_zero] at f0 f1 f2 f3 f4 f5 f6 f7 f8 f9 f10
          obtain ⟨hc2, hf2⟩ := hE2.rules
          have hz2 := hE2.sz1
          have hb0 : RepBlk w2 w.heap.size ⟨0, 0, 0, 0, 0, 0, 0, 0, 0, 0⟩ := RepBlk.ext (World.alloc_heap_new w _) hE2
          simp only [List.length_cons, List.length_nil, Nat.zero_add]
          have hx2l : x2 < w2.heap.size := lt_of_cell f0
          clear hcl ho2 hs2
          rcases q3 : halfB y3 with _ | _
          · have Q3 := Lib.hid q3
            clear q3
            go_wp2_with (first | (go_at_call 31; refine (half_any _ _).mono ?_; rintro e w' ⟨rfl, rfl⟩; try rw [Q3.out]))
            all_goals (refine bodyPost_ret (v := .tuple #[repV ⟨0, 0, 0, 0, 0, 0, 0, 0, 0, 0⟩, .int .i64 7]) (by first | exact res_rget _ _ _ _ _ rfl rfl (RepBlk.stored hb0 0 0 0 0 0 0 0 0 0 0)) rfl ?_; exact repPost_no (by rw [HL.out, HR.out]; simp [repOf, Q3.out]) rfl (by have hX := ((Ext.refl w).alloc _).trans hE2; repeat' (first | with_reducible exact hX | with_reducible refine Ext.setCell ?_ (Nat.le_refl _) _)))
          · rcases q4 : halfB y4 with _ | _
            · have Q3 := Lib.hid q3
              have Q4 := Lib.hid q4
              clear q3 q4
              go_wp2_with (first | (go_at_call 31; refine (half_any _ _).mono ?_; rintro e w' ⟨rfl, rfl⟩; first | rw [Q3.out] | rw [Q4.out]))
              refine bodyPost_ret (v := .tuple #[repV ⟨0, 0, 0, 0, 0, 0, 0, 0, 0, 0⟩, .int .i64 7]) (by first | exact res_rget _ _ _ _ _ rfl rfl (RepBlk.stored hb0 0 0 0 0 0 0 0 0 0 0)) rfl ?_
              exact repPost_no (by rw [HL.out, HR.out]; simp [repOf, Q3.out, Q4.out]) rfl (by have hX := ((Ext.refl w).alloc _).trans hE2; repeat' (first | with_reducible exact hX | with_reducible refine Ext.setCell ?_ (Nat.le_refl _) _))
            · have r3 := inB_iff.1 q3
              have r4 := inB_iff.1 q4
              have Q3 := Lib.hid q3
              have Q4 := Lib.hid q4
              clear q3 q4
              go_wp2_with (first | (go_at_call 31; refine (half_any _ _).mono ?_; rintro e w' ⟨rfl, rfl⟩; first | rw [Q3.out] | rw [Q4.out]))
              have w3a : IntKind.u64.wrap y3 = y3 := IntWalk.u64_in _ ⟨by omega, by omega⟩
              have w4a : IntKind.u64.wrap y4 = y4 := IntWalk.u64_in _ ⟨by omega, by omega⟩
              have w3b : IntKind.u64.wrap (y3 * 4294967296) = y3 * 4294967296 := IntWalk.u64_in _ ⟨by omega, by omega⟩
              have w34 : IntKind.u64.wrap (y3 * 4294967296 + y4) = y3 * 4294967296 + y4 := IntWalk.u64_in _ ⟨by omega, by omega⟩
              refine region_mk 40 _ 8 #[.int .i64 0, .int .i64 0, .int .i64 0, .int .u64 0, .int .i64 0, .int .i64 0, .int .i64 0, .int .i64 0, .int .i64 0, .int .i64 0] 30 _ (by kernel_rfl) (by kernel_rfl) rfl rfl (fun _ => rfl) (fun a W => by simp [execOp, go_sem]) rfl (by kernel_rfl) ?_
              apply Exists.intro
              refine ⟨fun W0 hE0 => ?_, fun b W hE3 hb hblk => ?_⟩
              · have g0 := cellG (hE0.cell f0)
                have g1 := cellG (hE0.cell f1)
                have g2 := cellG (hE0.cell f2)
                have g3 := cellG (hE0.cell f3)
                have g4 := cellG (hE0.cell f4)
                have g5 := cellG (hE0.cell f5)
                have g6 := cellG (hE0.cell f6)
                have g7 := cellG (hE0.cell f7)
                have g8 := cellG (hE0.cell f8)
                have g9 := cellG (hE0.cell f9)
                have g10 := cellG (hE0.cell f10)
                simp only [List.take_succ_cons, List.take_zero]
                repeat (go_big_quiet_step (fail))
                refine wpQuiet_nil ?_
                rfl
              · clear w3a w4a w3b w34
                simp only [List.drop_succ_cons, List.drop_zero, Act.put, List.setIfInBounds_toArray, List.set_cons_zero, List.set_cons_succ]
                have hz3 := lt_of_block hblk
                have k0 := cell_of_block hblk 0 _ rfl
                have k1 := cell_of_block hblk 1 _ rfl
                have k2 := cell_of_block hblk 2 _ rfl
                have k3 := cell_of_block hblk 3 _ rfl
                have k4 := cell_of_block hblk 4 _ rfl
                have k5 := cell_of_block hblk 5 _ rfl
                have k6 := cell_of_block hblk 6 _ rfl
                have k7 := cell_of_block hblk 7 _ rfl
                have k8 := cell_of_block hblk 8 _ rfl
                have k9 := cell_of_block hblk 9 _ rfl
                have kf := free_of_block hblk
                go_wp2_with fail
                refine (rreply_any _ _ _ _ _ _ _ _ _ _ _).mono ?_
                rintro e w4 ⟨rfl, hE4⟩
                have hE5 : Ext w2 w4 := Ext.trans (by repeat' (first | with_reducible exact hE3 | with_reducible refine Ext.setCell ?_ hb _)) hE4
                have m0 := hE4.cell (a := ⟨b, 0, none⟩) (v := .int .i64 y0) (by go_cell)
                have m1 := hE4.cell (a := ⟨b, 1, none⟩) (v := .int .i64 y1) (by go_cell)
                have m2 := hE4.cell (a := ⟨b, 2, none⟩) (v := .int .i64 y2) (by go_cell)
                have m3 := hE4.cell (a := ⟨b, 3, none⟩) (v := .int .u64 (y3 * 4294967296 + y4)) (by go_cell)
                have m4 := hE4.cell (a := ⟨b, 4, none⟩) (v := .int .i64 y5) (by go_cell)
                have m5 := hE4.cell (a := ⟨b, 5, none⟩) (v := .int .i64 y6) (by go_cell)
                have m6 := hE4.cell (a := ⟨b, 6, none⟩) (v := .int .i64 y7) (by go_cell)
                have m7 := hE4.cell (a := ⟨b, 7, none⟩) (v := .int .i64 y8) (by go_cell)
                have m8 := hE4.cell (a := ⟨b, 8, none⟩) (v := .int .i64 y9) (by go_cell)
                have m9 := hE4.cell (a := ⟨b, 9, none⟩) (v := .int .i64 y10) (by go_cell)
                obtain ⟨hc5, hf5⟩ := hE5.rules
                have hb4 := hb0.ext hE5
                clear hE3 hE4 k0 k1 k2 k3 k4 k5 k6 k7 k8 k9 kf hblk
                rcases hq : repB y0 y1 y2 y5 y6 y7 y8 y9 y10 with _ | _
                · have HQ := Lib.hid hq
                  clear hq
                  go_wp2
                  refine bodyPost_ret (v := .tuple #[repV ⟨0, 0, 0, 0, 0, 0, 0, 0, 0, 0⟩, .int .i64 7]) (by first | exact res_rget _ _ _ _ _ rfl rfl (RepBlk.stored hb4 0 0 0 0 0 0 0 0 0 0)) rfl ?_
                  exact repPost_no (by rw [HL.out, HR.out]; simp [repOf, Q3.out, Q4.out, HQ.out]) rfl (by have hX := (((Ext.refl w).alloc _).trans hE2).trans hE5; repeat' (first | with_reducible exact hX | with_reducible refine Ext.setCell ?_ (Nat.le_refl _) _))
                · have HQ := Lib.hid hq
                  clear hq
                  go_wp2
                  refine bodyPost_ret (v := .tuple #[repV ⟨y0, y1, y2, y3 * 4294967296 + y4, y5, y6, y7, y8, y9, y10⟩, .int .i64 0]) (by first | exact res_rget _ _ _ _ _ rfl rfl (RepBlk.stored hb4 y0 y1 y2 (y3 * 4294967296 + y4) y5 y6 y7 y8 y9 y10)) rfl ?_
                  exact repPost_yes (by rw [HL.out, HR.out]; simp [repOf, Q3.out, Q4.out, HQ.out]) rfl (by have hX := (((Ext.refl w).alloc _).trans hE2).trans hE5; repeat' (first | with_reducible exact hX | with_reducible refine Ext.setCell ?_ (Nat.le_refl _) _))
        · have h5' : ((l.length : Int) != 11) = true := by simp; omega
          have HR := Lib.hid hr
          have H5 := Lib.hid h5
          clear hr h5
          go_enter Try.func19, Try.ntmps19
          go_wp2_with fail
          refine (rget_any _ _ _ t _ (ht.ext ((Ext.refl w).alloc _))).mono ?_
          intro e w2 hp2
          rw [HR.out] at hp2
          obtain ⟨a2, c2, rfl, ho2, hE2⟩ := hp2
          obtain ⟨hc2, hf2⟩ := hE2.rules
          have hz2 := hE2.sz1
          have hb0 : RepBlk w2 w.heap.size ⟨0, 0, 0, 0, 0, 0, 0, 0, 0, 0⟩ := RepBlk.ext (World.alloc_heap_new w _) hE2
          go_wp2
          refine bodyPost_ret (v := .tuple #[repV ⟨0, 0, 0, 0, 0, 0, 0, 0, 0, 0⟩, .int .i64 7]) (by first | exact res_rget _ _ _ _ _ rfl rfl (RepBlk.stored hb0 0 0 0 0 0 0 0 0 0 0)) rfl ?_
          exact repPost_no (by rw [HL.out, HR.out]; exact if_neg H5.out) rfl (by have hX := ((Ext.refl w).alloc _).trans hE2; repeat' (first | with_reducible exact hX | with_reducible refine Ext.setCell ?_ (Nat.le_refl _) _))
    · have hk' : (c != 2) = true := by simpa using hk
      have HL : Hid (lrep (c :: t) = none) := by unfold Hid lrep lints; simp only [if_neg hk]; rfl
      clear e1 hk
      go_enter Try.func19, Try.ntmps19
      go_wp2
      go_returns
      exact repPost_no HL.out (by simp) (((Ext.refl w).alloc _))

end Go.Proofs.Ytcpojkodidflcaa
