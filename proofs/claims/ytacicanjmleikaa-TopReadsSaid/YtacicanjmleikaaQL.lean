/-
  Put of package versions, walked. Written by wip/gen_ql.py.
-/
import Derived.Test.YtacicanjmleikaaQJ
import Derived.Test.YtacicanjmleikaaLibB
namespace Go.Proofs.Ytacicanjmleikaa
open Go.RowKit Go.Sort Go.Shelf
set_option linter.unusedSimpArgs false
set_option linter.unusedVariables false
set_option maxRecDepth 100000

/-- A row of its own, somewhere. -/
def RelRow (base n : Nat) (l : List Vn) : RelL Ext := ⟨none, fun _ v W => ∃ a c, v = .slice a n c ∧ OwR 47 base W a n c l, fun _ v W W' ⟨a, c, h1, h2⟩ hE => ⟨a, c, h1, h2.ext hE⟩⟩

/-- The same as another slot. -/
def RelSame (j : Nat) : RelL Ext := ⟨some j, fun u v _ => v = u, fun _ _ _ _ h _ => h⟩

theorem row_ne {W : World} {base : Nat} {a : Option Addr} {n c : Nat} {l : List Vn} {x : Vn} {vb : Nat} (hown : OwR 47 base W a n c l) (hv : W.heap[vb]? = some (.cells #[.int .i64 x.k, .int .i64 x.t, .int .i64 x.v, .bool x.g] 47 (0, 0))) (hx : x ∉ l) : 0 < n → ∀ g, a = some ⟨g, 0, none⟩ → vb ≠ g := by
  intro h0 g hg he
  subst he
  obtain ⟨g', cur, h1, h2, _, hle, _, hcl, hct⟩ := hown.row h0
  rw [hg] at h1
  simp only [Option.some.injEq, Addr.mk.injEq, and_true] at h1
  subst h1
  rw [hv] at h2
  simp only [Option.some.injEq, Obj.cells.injEq, and_true] at h2
  have h3 : cur = [.int .i64 x.k, .int .i64 x.t, .int .i64 x.v, .bool x.g] := by
    have := congrArg Array.toList h2
    simpa using this.symm
  rw [sz_vn] at hcl hct
  subst h3
  simp only [List.length_cons, List.length_nil] at hcl
  obtain rfl : c = 1 := by omega
  obtain rfl : n = 1 := by omega
  have hl := hown.1
  match l, hl with
  | [y], _ =>
    obtain ⟨yk, yt, yv, yg⟩ := y
    simp [Cel.enc, Vn.enc] at hct
    obtain ⟨e1, e2, e3, e4⟩ := hct
    apply hx
    obtain ⟨xk, xt, xv, xg⟩ := x
    simp only at e1 e2 e3 e4
    subst e1 e2 e3 e4
    exact List.mem_singleton.2 rfl

theorem wfV_ok {x : Vn} (h : wfV x = true) : x.Ok := by
  simp only [wfV, Bool.and_eq_true, inT_iff] at h
  exact ⟨by simp [Lit.wf, IntKind.min, IntKind.max, IntKind.bits, IntKind.signed]; omega, by simp [Lit.wf, IntKind.min, IntKind.max, IntKind.bits, IntKind.signed]; omega, by simp [Lit.wf, IntKind.min, IntKind.max, IntKind.bits, IntKind.signed]; omega⟩

theorem field_vt (v0 v1 v2 : Int) (b : Bool) (w : World) : (Instr.field 47 (.agg #[.int .i64 v0, .int .i64 v1, .int .i64 v2, .bool b]) 1).run Try.prog w = .ok (.int .i64 v1) w := by
  simp [Instr.field, go_sem, Try.underlying47, asAgg]

theorem putE_facts {l : List Vn} {v : Vn} (h : putE l v = 0) : validV l = true ∧ wfV v = true ∧ (lastV l v.k 3000000000000000).t < v.t ∧ l.length < 4000 ∧ v ∉ l := by
  unfold putE at h
  split at h
  · rename_i hv
    split at h
    · omega
    · rename_i ht
      have hV := validV_iff.1 hv.1
      refine ⟨hv.1, hv.2, by omega, ?_, fun hm => ?_⟩
      · split at h
        · omega
        · have := hV.2.2; omega
      · have hw := hV.1 v hm
        simp only [wfV, Bool.and_eq_true, inT_iff] at hw
        rcases lastV_isP hV.2.1 v.k 3000000000000000 with ⟨e, h2⟩ | ⟨h1, h2, h3, h4⟩
        · have := h2 v hm rfl; omega
        · have := h4 v hm rfl; omega
  · omega

set_option maxHeartbeats 4000000 in
theorem vput_any (a : Option Addr) (n c : Nat) (l : List Vn) (x : Vn) (w : World) (h1 : Rw w a n c l) (hP : putE l x = 0) :
    Calls Try.prog 22 #[.slice a n c, valV x] w fun e w' => ∃ a' c', e = .returned (.tuple #[.slice a' (n + 1) c', .int .i64 0]) ∧ OwR 47 w.heap.size w' a' (n + 1) c' (insV l x) ∧ Ext w w' := by
  obtain ⟨g1, g2, g3, g4, g5⟩ := putE_facts hP
  have hs := (validV_iff.1 g1).2.1
  have bd := h1.bd
  have hn4 : n < 4000 := by rw [← h1.hlen]; exact g4
  have hxo : x.Ok := wfV_ok g2
  have hva := fun (V : World) (hx : Ext w V) => vvalid_any a n c l V (h1.ext hx)
  rw [g1] at hva
  have hwe := fun (V : World) => vwell_any x V
  rw [g2] at hwe
  have hla := fun (V : World) (hx : Ext w V) => vlast_any a n c l x.k 3000000000000000 V (h1.ext hx) hs
  have hle : decide (x.t ≤ (lastV l x.k 3000000000000000).t) = false := decide_eq_false (by omega)
  have hup := fun (V W : World) (hx : Ext w V) (hy : Ext V W) => vupto_any a n c l x.k x.t W ((h1.ext hx).ext hy) hs
  have hcl : cntV l x.k x.t ≤ n := by have := cntV_le l x.k x.t; rw [h1.hlen] at this; exact this
  have hcn := fun (V W : World) (hx : Ext w V) (hy : Ext V W) => cloneV_any a n c l W ((h1.ext hx).ext hy) (by omega)
  have hin := fun (base : Nat) (a1 : Option Addr) (c1 b9 : Nat) (W : World) (ho : OwR 47 base W a1 n c1 l) (hb : base ≤ W.heap.size) (hv : W.heap[b9]? = some (.cells #[.int .i64 x.k, .int .i64 x.t, .int .i64 x.v, .bool x.g] 47 (0, 0))) => vinsert_any a1 n c1 l (cntV l x.k x.t) x b9 base W ho h1.wf hb (by omega) hcl hxo hv (row_ne ho hv g5)
  have HIL : Hid (insV l x = l.take (cntV l x.k x.t) ++ x :: l.drop (cntV l x.k x.t)) := Lib.hid rfl
  obtain ⟨L, hL⟩ : ∃ L, l.take (cntV l x.k x.t) ++ x :: l.drop (cntV l x.k x.t) = L := ⟨_, rfl⟩
  rw [hL] at HIL hin
  clear hL
  generalize cntV l x.k x.t = i at *
  generalize lastV l x.k 3000000000000000 = y at *
  obtain ⟨k, t, v, g⟩ := x
  obtain ⟨yk, yt, yv, yg⟩ := y
  simp only at *
  unfold valV at *
  simp only at *
  have HVA := Lib.hid hva
  have HWE := Lib.hid hwe
  have HLA := Lib.hid hla
  have HUP0 := Lib.hid hup
  have HCL0 := Lib.hid hcn
  have HIN0 := Lib.hid hin
  have hn5 : ((n : Int) == 4000) = false := by simp; omega
  have hn6 : ¬ ((n : Int) = 4000) := by omega
  have hle2 : ¬ (t ≤ yt) := by omega
  clear hva hwe hla hup hcn hin g1 g2 g3 g4 g5 hs hP hn4
  have hE : Ext w (w.alloc (.cells #[.int .i64 k, .int .i64 t, .int .i64 v, .bool g] 47)) := (Ext.refl w).alloc _
  have hB := Bk.new w 47 #[.int .i64 k, .int .i64 t, .int .i64 v, .bool g]
  go_enter Try.func22, Try.ntmps22
  go_upto_region 1 with fail
  generalize w.alloc (.cells #[.int .i64 k, .int .i64 t, .int .i64 v, .bool g] 47) = V at *
  obtain ⟨vb, hvb⟩ : ∃ vb, w.heap.size = vb := ⟨_, rfl⟩
  rw [hvb] at hB ⊢
  have c0 := hB.c 0 _ rfl
  have c1 := hB.c 1 _ rfl
  have c2 := hB.c 2 _ rfl
  have c3 := hB.c 3 _ rfl
  go_wp2_with (go_at_call 33; refine (HVA.out V hE).mono ?_; rintro e V1 ⟨rfl, hx⟩; refine hold ?_)
  refine held ?_
  replace hB := hB.ext hx
  replace hE := hE.trans hx
  clear hx c0 c1 c2 c3
  have c0 := hB.c 0 _ rfl
  have c1 := hB.c 1 _ rfl
  have c2 := hB.c 2 _ rfl
  have c3 := hB.c 3 _ rfl
  go_wp2_with (go_at_call 43; refine (HWE.out V1).mono ?_; rintro e V2 ⟨rfl, hx⟩; refine hold ?_)
  refine held ?_
  replace hB := hB.ext hx
  replace hE := hE.trans hx
  clear hx c0 c1 c2 c3
  have c0 := hB.c 0 _ rfl
  have c1 := hB.c 1 _ rfl
  have c2 := hB.c 2 _ rfl
  have c3 := hB.c 3 _ rfl
  have lb := hB.lt
  go_upto_region 3 with fail
  have hg := @grow_cell
  have hfv := fun W => field_vt yk yt yv yg W
  refine region_ext (by kernel_rfl) (by kernel_rfl) ?_
  repeat (go_big_quiet_step ((go_at_call 39; exact Calls.regrown_of (HLA.out _ (hE.trans (ext_grow _ _ _))))))
  refine wpQuiet_nil ?_
  intro V hx
  replace hB := hB.ext hx
  replace hE := hE.trans hx
  clear hx c0 c1 c2 c3 hg
  go_upto_region 7 with fail
  have C0 := Lib.hid (hB.c 0 _ rfl)
  have C1 := Lib.hid (hB.c 1 _ rfl)
  have C2 := Lib.hid (hB.c 2 _ rfl)
  have C3 := Lib.hid (hB.c 3 _ rfl)
  have HUP := Lib.hid (fun W hy => HUP0.out V W hE hy)
  have HCL := Lib.hid (fun W hy => HCL0.out V W hE hy)
  have HIN := Lib.hid (HIN0.out V.heap.size)
  have HEE := Lib.hid hE
  have HSZ := Lib.hid hE.sz
  clear hE hB HVA HWE HLA HUP0 HCL0 HIN0
  refine region_relyL (S := Ext) (fun W' => Ext V W') [some 28, some 29, some 30, some 31, some 32, some 33, some 34, some 35, some 36, some 37, some 38, some 4, some 5] [[], [0], [], [], [3], [], [5], [0, 1, 2, 3, 4, 5, 6], [], [8], [0, 1, 2, 3, 4, 5, 6, 7, 8, 9], [0, 1, 2, 3, 4, 5, 6, 7, 8, 9, 10], [0, 1, 2, 3, 4, 5, 6, 7, 8, 9, 10, 11]] [[], [0], [], [], [3], [], [5], [2, 4, 6], [], [8], [1, 7, 9], [10], []] [none, none, none, none, none, none, none, none, none, none, none, some 10, none] [[], [], [], [], [], [], [], [], [], [], [1, 9, 10], [], []] [10, 11, 12] [.one ((.slice a n c)), RelRow V.heap.size n l, .one ((.slice a n c)), .one ((.pointer (some ⟨vb, 0, none⟩))), .one ((.int .i64 k)), .one ((.pointer (some ⟨vb, 1, none⟩))), .one ((.int .i64 t)), .one ((.int .i64 (i : Nat))), .one ((.agg #[.int .i64 k, .int .i64 t, .int .i64 v, .bool g])), .blk #[.int .i64 k, .int .i64 t, .int .i64 v, .bool g] 47 (fun b => .slice (some ⟨b, 0, none⟩) 1 1), RelRow V.heap.size (n + 1) L, RelSame 10, .one ((.int .i64 0))] (by kernel_rfl) (by kernel_rfl) rfl (by kernel_rfl) (Ext.refl V).drew ?_ ?_
  · refine stepsL_cons ?_ ?_
    · intro vs W' hl hI hd
      refine hold ?_
      obtain ⟨x0, x1, x2, x3, x4, x5, x6, x7, x8, x9, x10, x11, x12, rfl⟩ := lenlit13 hl; clear hl
      refine held ?_
      simp only [putAll, Act.put, List.setIfInBounds_toArray, List.set_cons_succ, List.set_cons_zero]
      go_wp2_with fail
      exact relyL_done _ rfl rfl (Ext.refl _) hI
    refine stepsL_cons ?_ ?_
    · intro vs W' hl hI hd
      refine hold ?_
      obtain ⟨x0, x1, x2, x3, x4, x5, x6, x7, x8, x9, x10, x11, x12, rfl⟩ := lenlit13 hl; clear hl
      simp only [factsL, atL, refV, List.getElem?_cons_succ, List.getElem?_cons_zero, List.getD_cons_succ, List.getD_cons_zero, RelL.one, RelL.any, RelL.blk, RelL.law, RelRow, RelSame] at hd
      obtain ⟨rfl, -⟩ := hd
      refine held ?_
      simp only [putAll, Act.put, List.setIfInBounds_toArray, List.set_cons_succ, List.set_cons_zero]
      go_wp2_with fail
      refine (HCL.out W' hI).mono ?_
      rintro e w' ⟨a', c', rfl, ho, hx⟩
      go_wp2_with fail
      exact relyL_done _ rfl ⟨a', c', rfl, ho.monoB hI.sz⟩ hx (hI.trans hx)
    refine stepsL_cons ?_ ?_
    · intro vs W' hl hI hd
      refine hold ?_
      obtain ⟨x0, x1, x2, x3, x4, x5, x6, x7, x8, x9, x10, x11, x12, rfl⟩ := lenlit13 hl; clear hl
      refine held ?_
      simp only [putAll, Act.put, List.setIfInBounds_toArray, List.set_cons_succ, List.set_cons_zero]
      go_wp2_with fail
      exact relyL_done _ rfl rfl (Ext.refl _) hI
    refine stepsL_cons ?_ ?_
    · intro vs W' hl hI hd
      refine hold ?_
      obtain ⟨x0, x1, x2, x3, x4, x5, x6, x7, x8, x9, x10, x11, x12, rfl⟩ := lenlit13 hl; clear hl
      refine held ?_
      simp only [putAll, Act.put, List.setIfInBounds_toArray, List.set_cons_succ, List.set_cons_zero]
      go_wp2_with fail
      exact relyL_done _ rfl rfl (Ext.refl _) hI
    refine stepsL_cons ?_ ?_
    · intro vs W' hl hI hd
      refine hold ?_
      obtain ⟨x0, x1, x2, x3, x4, x5, x6, x7, x8, x9, x10, x11, x12, rfl⟩ := lenlit13 hl; clear hl
      simp only [factsL, atL, refV, List.getElem?_cons_succ, List.getElem?_cons_zero, List.getD_cons_succ, List.getD_cons_zero, RelL.one, RelL.any, RelL.blk, RelL.law, RelRow, RelSame] at hd
      obtain ⟨rfl, -⟩ := hd
      refine held ?_
      simp only [putAll, Act.put, List.setIfInBounds_toArray, List.set_cons_succ, List.set_cons_zero]
      have d0 := hI.cell C0.out
      go_wp2_with fail
      exact relyL_done _ rfl rfl (Ext.refl _) hI
    refine stepsL_cons ?_ ?_
    · intro vs W' hl hI hd
      refine hold ?_
      obtain ⟨x0, x1, x2, x3, x4, x5, x6, x7, x8, x9, x10, x11, x12, rfl⟩ := lenlit13 hl; clear hl
      refine held ?_
      simp only [putAll, Act.put, List.setIfInBounds_toArray, List.set_cons_succ, List.set_cons_zero]
      go_wp2_with fail
      exact relyL_done _ rfl rfl (Ext.refl _) hI
    refine stepsL_cons ?_ ?_
    · intro vs W' hl hI hd
      refine hold ?_
      obtain ⟨x0, x1, x2, x3, x4, x5, x6, x7, x8, x9, x10, x11, x12, rfl⟩ := lenlit13 hl; clear hl
      simp only [factsL, atL, refV, List.getElem?_cons_succ, List.getElem?_cons_zero, List.getD_cons_succ, List.getD_cons_zero, RelL.one, RelL.any, RelL.blk, RelL.law, RelRow, RelSame] at hd
      obtain ⟨rfl, -⟩ := hd
      refine held ?_
      simp only [putAll, Act.put, List.setIfInBounds_toArray, List.set_cons_succ, List.set_cons_zero]
      have d1 := hI.cell C1.out
      go_wp2_with fail
      exact relyL_done _ rfl rfl (Ext.refl _) hI
    refine stepsL_cons ?_ ?_
    · intro vs W' hl hI hd
      refine hold ?_
      obtain ⟨x0, x1, x2, x3, x4, x5, x6, x7, x8, x9, x10, x11, x12, rfl⟩ := lenlit13 hl; clear hl
      simp only [factsL, atL, refV, List.getElem?_cons_succ, List.getElem?_cons_zero, List.getD_cons_succ, List.getD_cons_zero, RelL.one, RelL.any, RelL.blk, RelL.law, RelRow, RelSame] at hd
      obtain ⟨rfl, rfl, rfl, -⟩ := hd
      refine held ?_
      simp only [putAll, Act.put, List.setIfInBounds_toArray, List.set_cons_succ, List.set_cons_zero]
      go_wp2_with fail
      refine (HUP.out W' hI).mono ?_
      rintro e w' ⟨rfl, hx⟩
      go_wp2_with fail
      exact relyL_done _ rfl rfl hx (hI.trans hx)
    refine stepsL_cons ?_ ?_
    · intro vs W' hl hI hd
      refine hold ?_
      obtain ⟨x0, x1, x2, x3, x4, x5, x6, x7, x8, x9, x10, x11, x12, rfl⟩ := lenlit13 hl; clear hl
      refine held ?_
      simp only [putAll, Act.put, List.setIfInBounds_toArray, List.set_cons_succ, List.set_cons_zero]
      have d0 := hI.cell C0.out
      have d1 := hI.cell C1.out
      have d2 := hI.cell C2.out
      have d3 := hI.cell C3.out
      go_wp2_with fail
      exact relyL_done _ rfl rfl (Ext.refl _) hI
    refine stepsL_cons ?_ ?_
    · intro vs W' hl hI hd
      refine hold ?_
      obtain ⟨x0, x1, x2, x3, x4, x5, x6, x7, x8, x9, x10, x11, x12, rfl⟩ := lenlit13 hl; clear hl
      simp only [factsL, atL, refV, List.getElem?_cons_succ, List.getElem?_cons_zero, List.getD_cons_succ, List.getD_cons_zero, RelL.one, RelL.any, RelL.blk, RelL.law, RelRow, RelSame] at hd
      obtain ⟨rfl, -⟩ := hd
      refine held ?_
      simp only [putAll, Act.put, List.setIfInBounds_toArray, List.set_cons_succ, List.set_cons_zero]
      go_wp2_with fail
      exact relyL_done _ rfl ⟨_, rfl, World.alloc_heap_new _ _⟩ ((Ext.refl _).alloc _) (hI.alloc _)
    refine stepsL_cons ?_ ?_
    · intro vs W' hl hI hd
      refine hold ?_
      obtain ⟨x0, x1, x2, x3, x4, x5, x6, x7, x8, x9, x10, x11, x12, rfl⟩ := lenlit13 hl; clear hl
      simp only [factsL, atL, refV, List.getElem?_cons_succ, List.getElem?_cons_zero, List.getD_cons_succ, List.getD_cons_zero, RelL.one, RelL.any, RelL.blk, RelL.law, RelRow, RelSame] at hd
      obtain ⟨⟨a1, c1, rfl, ho1⟩, rfl, ⟨b9, rfl, hb9⟩, -⟩ := hd
      refine held ?_
      simp only [putAll, Act.put, List.setIfInBounds_toArray, List.set_cons_succ, List.set_cons_zero]
      go_wp2_with fail
      refine (HIN.out a1 c1 b9 W' ho1 hI.sz hb9).mono ?_
      rintro e w' ⟨g', c', rfl, ho, hB⟩
      go_wp2_with fail
      exact relyL_lose _ rfl ⟨_, c', rfl, ho⟩ (keepsL_of ⟨.inr (fun _ _ h => h), .inl (by decide), .inr (fun _ _ h => h), .inr (fun _ _ h => h), .inr (fun _ _ h => h), .inr (fun _ _ h => h), .inr (fun _ _ h => h), .inr (fun _ _ h => h), .inr (fun _ _ h => h), .inl (by decide), .inl (by decide), .inr (fun _ _ h => h), .inr (fun _ _ h => h), trivial⟩) (Below.trans hI hB)
    refine stepsL_cons ?_ ?_
    · intro vs W' hl hI hd
      refine hold ?_
      obtain ⟨x0, x1, x2, x3, x4, x5, x6, x7, x8, x9, x10, x11, x12, rfl⟩ := lenlit13 hl; clear hl
      simp only [factsL, atL, refV, List.getElem?_cons_succ, List.getElem?_cons_zero, List.getD_cons_succ, List.getD_cons_zero, RelL.one, RelL.any, RelL.blk, RelL.law, RelRow, RelSame] at hd
      obtain ⟨⟨a2, c2, rfl, ho2⟩, -⟩ := hd
      refine held ?_
      simp only [putAll, Act.put, List.setIfInBounds_toArray, List.set_cons_succ, List.set_cons_zero]
      go_wp2_with fail
      exact relyL_done _ rfl rfl (Ext.refl _) hI
    refine stepsL_cons ?_ ?_
    · intro vs W' hl hI hd
      refine hold ?_
      obtain ⟨x0, x1, x2, x3, x4, x5, x6, x7, x8, x9, x10, x11, x12, rfl⟩ := lenlit13 hl; clear hl
      refine held ?_
      simp only [putAll, Act.put, List.setIfInBounds_toArray, List.set_cons_succ, List.set_cons_zero]
      go_wp2_with fail
      exact relyL_done _ rfl rfl (Ext.refl _) hI
    exact trivial
  · intro vs W' hl hI hd
    obtain ⟨x0, x1, x2, x3, x4, x5, x6, x7, x8, x9, x10, x11, x12, rfl⟩ := lenlit13 hl; clear hl
    simp only [factsL, atL, refV, List.getElem?_cons_succ, List.getElem?_cons_zero, List.getD_cons_succ, List.getD_cons_zero, RelL.one, RelL.any, RelL.blk, RelL.law, RelRow, RelSame] at hd
    obtain ⟨⟨a2, c2, rfl, ho2⟩, rfl, rfl, -⟩ := hd
    simp only [putAll, Act.put, List.setIfInBounds_toArray, List.set_cons_succ, List.set_cons_zero]
    go_wp2_with fail
    go_ret2
    exact ⟨a2, c2, rfl, by rw [HIL.out]; exact ho2.monoB HSZ.out, HEE.out.trans hI⟩
end Go.Proofs.Ytacicanjmleikaa
