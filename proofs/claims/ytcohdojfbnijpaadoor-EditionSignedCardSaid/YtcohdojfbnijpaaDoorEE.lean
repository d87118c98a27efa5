/-
  Same, Right, Sign, by both, walked. Written by wip/gen_ee.py.
-/
import Derived.Test.YtcohdojfbnijpaaDoorED
import Derived.Test.YtcohdojfbnijpaaDoorTB
import Derived.ArgAppend
import Derived.Deep.Upon
namespace Go.Proofs.YtcohdojfbnijpaaDoor
open Go.RowKit Go.Sort Go.Shelf
set_option linter.unusedSimpArgs false
set_option linter.unusedVariables false
set_option maxRecDepth 100000

theorem lenlit10 {vs : List Value} (h : vs.length = 10) : ∃ x0 x1 x2 x3 x4 x5 x6 x7 x8 x9 : Value, vs = [x0, x1, x2, x3, x4, x5, x6, x7, x8, x9] := by
  obtain ⟨x0, v0, rfl, h0⟩ := len_cons h
  obtain ⟨x1, v1, rfl, h1⟩ := len_cons h0
  obtain ⟨x2, v2, rfl, h2⟩ := len_cons h1
  obtain ⟨x3, v3, rfl, h3⟩ := len_cons h2
  obtain ⟨x4, v4, rfl, h4⟩ := len_cons h3
  obtain ⟨x5, v5, rfl, h5⟩ := len_cons h4
  obtain ⟨x6, v6, rfl, h6⟩ := len_cons h5
  obtain ⟨x7, v7, rfl, h7⟩ := len_cons h6
  obtain ⟨x8, v8, rfl, h8⟩ := len_cons h7
  obtain ⟨x9, v9, rfl, h9⟩ := len_cons h8
  obtain rfl := len_nil h9
  exact ⟨x0, x1, x2, x3, x4, x5, x6, x7, x8, x9, rfl⟩

theorem lenlit8 {vs : List Value} (h : vs.length = 8) : ∃ x0 x1 x2 x3 x4 x5 x6 x7 : Value, vs = [x0, x1, x2, x3, x4, x5, x6, x7] := by
  obtain ⟨x0, v0, rfl, h0⟩ := len_cons h
  obtain ⟨x1, v1, rfl, h1⟩ := len_cons h0
  obtain ⟨x2, v2, rfl, h2⟩ := len_cons h1
  obtain ⟨x3, v3, rfl, h3⟩ := len_cons h2
  obtain ⟨x4, v4, rfl, h4⟩ := len_cons h3
  obtain ⟨x5, v5, rfl, h5⟩ := len_cons h4
  obtain ⟨x6, v6, rfl, h6⟩ := len_cons h5
  obtain ⟨x7, v7, rfl, h7⟩ := len_cons h6
  obtain rfl := len_nil h7
  exact ⟨x0, x1, x2, x3, x4, x5, x6, x7, rfl⟩


theorem wf_of {z : Int} (h0 : -9223372036854775808 ≤ z) (h9 : z ≤ 9223372036854775807) : (Lit.int .i64 z).wf = true := by simp [Lit.wf, IntKind.min, IntKind.max, IntKind.signed, IntKind.bits]; omega
theorem msgE_wf {v f u : Int} {l : List Lp} (hv : (Lit.int .i64 v).wf = true) (hf : (Lit.int .i64 f).wf = true) (hu : (Lit.int .i64 u).wf = true) (hl : ∀ x ∈ l, Cel.ok x) : ∀ x ∈ msgE v f u l, (Lit.int .i64 x).wf = true := by
  intro x hx
  simp only [msgE, List.mem_cons] at hx
  rcases hx with rfl | rfl | rfl | hx
  · exact hv
  · exact hf
  · exact hu
  · simp only [msgL, List.mem_flatMap] at hx
    obtain ⟨y, hy, hxy⟩ := hx
    exact lp_wf (hl y hy) x hxy
/-- The slot holds a slice that reads as these integers. -/
def RMs (k : Nat) (ms : List Int) : Rel Ext := ⟨fun v W => ∃ a n c, v = .slice a n c ∧ n = k ∧ Sl .i64 W a n c ms, fun v W W' ⟨a, n, c, h1, h2, h3⟩ hE => ⟨a, n, c, h1, h2, h3.ext hE⟩⟩
def RClo (b : Nat) (l : List Lp) : RelL Ext := ⟨none, fun _ v W => ∃ a n c, v = .slice a n c ∧ OwR 52 b W a n c l ∧ n = l.length, fun _ v W W' ⟨a, n, c, h1, h2, h3⟩ hE => ⟨a, n, c, h1, h2.ext hE, h3⟩⟩
theorem updE_ne {listed : Nat → Bool} {i k : Nat} (h : i ≠ k) : updE listed i k = listed k := by
  unfold updE
  simp [show ¬ k = i from fun e => h e.symm]
theorem Bk.set6 {W : World} {b : Nat} {T : TypeId} {u0 u1 u2 u3 u4 u5 : Value} (h : Bk W b T #[u0, u1, u2, u3, u4, u5]) (v0 v1 v2 v3 v4 v5 : Value) : Bk ((((((W.setCell ⟨b, 0, none⟩ v0).setCell ⟨b, 1, none⟩ v1).setCell ⟨b, 2, none⟩ v2).setCell ⟨b, 3, none⟩ v3).setCell ⟨b, 4, none⟩ v4).setCell ⟨b, 5, none⟩ v5) b T #[v0, v1, v2, v3, v4, v5] := (((((h.set 0 v0).set 1 v1).set 2 v2).set 3 v3).set 4 v4).set 5 v5
theorem Bk.set45 {W : World} {b : Nat} {T : TypeId} {u0 u1 u2 u3 u4 u5 : Value} (h : Bk W b T #[u0, u1, u2, u3, u4, u5]) (v4 v5 : Value) : Bk ((W.setCell ⟨b, 4, none⟩ v4).setCell ⟨b, 5, none⟩ v5) b T #[u0, u1, u2, u3, v4, v5] := (h.set 4 v4).set 5 v5
theorem Bk.set3x {W : World} {b : Nat} {T : TypeId} {u0 u1 u2 u3 u4 u5 : Value} (h : Bk W b T #[u0, u1, u2, u3, u4, u5]) (v3 : Value) : Bk (W.setCell ⟨b, 3, none⟩ v3) b T #[u0, u1, u2, v3, u4, u5] := h.set 3 v3
theorem Bk.otherE {W : World} {b : Nat} {T : TypeId} {cs : Array Value} (h : Bk W b T cs) {p : Nat} (hne : p ≠ b) (i : Nat) (v : Value) : Bk (W.setCell ⟨p, i, none⟩ v) b T cs :=
  (heap_setCell_other W ⟨p, i, none⟩ b v (fun e => hne e.symm)).trans h
theorem grownBy_set (W : World) (p i : Nat) (v : Value) : W.grownBy (W.setCell ⟨p, i, none⟩ v) (some p) :=
  ⟨rfl, rfl, rfl, by simp, fun k _ hk => heap_setCell_other W ⟨p, i, none⟩ k v (fun e => hk (by rw [e]))⟩
theorem OwR.setOther {E : TypeId} {base : Nat} {W : World} {a : Option Addr} {n c : Nat} {xs : List Lp} (h : OwR E base W a n c xs) {p : Nat} (hp : p < base) (i : Nat) (v : Value) : OwR E base (W.setCell ⟨p, i, none⟩ v) a n c xs := by
  refine ⟨h.1, World.ownsRow.kept (row := some p) h.2 (grownBy_set W p i v) ?_⟩
  rcases h.2.2 with ⟨hv, _⟩ | ⟨g, cap, cur, hv, hg, _⟩
  · simp only [Value.slice.injEq] at hv; obtain ⟨rfl, _, _⟩ := hv; exact .inl rfl
  · simp only [Value.slice.injEq] at hv; obtain ⟨rfl, _, _⟩ := hv
    refine .inr ?_
    simp only [Value.ownBlock, ne_eq, Option.some.injEq]
    omega
theorem OwR.baseLe {E : TypeId} {base base' : Nat} {W : World} {a : Option Addr} {n c : Nat} {xs : List Lp} (h : OwR E base W a n c xs) (hb : base' ≤ base) : OwR E base' W a n c xs := by
  obtain ⟨h0, h1, h2⟩ := h
  refine ⟨h0, h1, ?_⟩
  rcases h2 with h2 | ⟨g, cap, cur, hv, hg, r⟩
  · exact .inl h2
  · exact .inr ⟨g, cap, cur, hv, by omega, r⟩
theorem RClo_set {b pb : Nat} {l : List Lp} {W : World} {u v z4 z5 : Value} (h : (RClo (b + 1) l).r u v W) (hb : pb + 1 = b) : (RClo (b + 1) l).r u v ((W.setCell ⟨pb, 4, none⟩ z4).setCell ⟨pb, 5, none⟩ z5) := by
  obtain ⟨a, n, c, h1, h2, h3⟩ := h
  exact ⟨a, n, c, h1, (h2.setOther (by omega) 4 z4).setOther (by omega) 5 z5, h3⟩
theorem RClo_set1 {b pb : Nat} {l : List Lp} {W : World} {u v z : Value} (h : (RClo (b + 1) l).r u v W) (hb : pb + 1 = b) : (RClo (b + 1) l).r u v (W.setCell ⟨pb, 3, none⟩ z) := by
  obtain ⟨a, n, c, h1, h2, h3⟩ := h
  exact ⟨a, n, c, h1, h2.setOther (by omega) 3 z, h3⟩
theorem OwR.six {b : Nat} {l : List Lp} {W : World} {a : Option Addr} {n c : Nat} (h : OwR 52 (b + 1) W a n c l) (v0 v1 v2 v3 v4 v5 : Value) (hn : n ≤ 17592186044416) (hw : ∀ x ∈ l, Cel.ok x) :
    Rw ((((((W.setCell ⟨b, 0, none⟩ v0).setCell ⟨b, 1, none⟩ v1).setCell ⟨b, 2, none⟩ v2).setCell ⟨b, 3, none⟩ v3).setCell ⟨b, 4, none⟩ v4).setCell ⟨b, 5, none⟩ v5) a n c l :=
  ((((((h.setOther (by omega) 0 v0).setOther (by omega) 1 v1).setOther (by omega) 2 v2).setOther (by omega) 3 v3).setOther (by omega) 4 v4).setOther (by omega) 5 v5).rw hn hw
theorem el_lp : ElS Tryd.prog 23 52 (.agg #[.int .i64 0, .int .i64 0]) (Cel.sz Lp) 16 := ⟨by kernel_rfl, by kernel_rfl, by kernel_rfl, by decide⟩
theorem OwR.litNilL {base : Nat} (w : World) (hb : base ≤ w.heap.size) : OwR 52 base (w.alloc (.cells #[] 52)) (some ⟨w.heap.size, 0, none⟩) 0 0 ([] : List Lp) := by
  have := World.ownsRow_lit (e := 52) (size := Cel.sz Lp) w #[] 0 hb (by simp) (by simp)
  exact ⟨rfl, by simpa using this⟩
theorem cloneL_any (a : Option Addr) (n c : Nat) (xs : List Lp) (w : World) (h1 : Rw w a n c xs) (hs : n ≤ 1000) :
    Calls Tryd.prog 42 #[.slice a n c] w fun e w' => ∃ a' c', e = .returned (.slice a' n c') ∧ OwR 52 w.heap.size w' a' n c' xs ∧ Ext w w' := by
  have bd := h1.bd
  have hnil := fun (W : World) => Lib.run_eql_slice_nil (P := Tryd.prog) W 23 52 a n c 0 0 Tryd.underlying23
  rcases a with _ | ad
  · obtain rfl : n = 0 := by
      rcases Nat.eq_zero_or_pos n with h | h
      · exact h
      · obtain ⟨_, _, e, _⟩ := h1.at h; cases e
    obtain rfl := h1.isnil
    go_enter Tryd.func42, Tryd.ntmps42
    go_wp2_with fail
    go_ret
    exact ⟨none, 0, rfl, OwR.nil _ _ _, Ext.refl w⟩
  · have ho0 := OwR.litNilL (base := w.heap.size) w (Nat.le_refl _)
    have h2 := h1.ext ((Ext.refl w).alloc (.cells #[] 52))
    go_enter Tryd.func42, Tryd.ntmps42
    go_wp2_with (at_builtin; refine appRs el_lp rfl _ _ rfl _ w.heap.size _ _ _ _ rfl ho0 _ _ _ _ rfl h2 (by simp) (by unfold maxLen; omega) (by omega) ?_; intro a' c' w' ho hB; refine hold ?_)
    refine held ?_
    simp only [Nat.zero_add, List.nil_append] at ho ⊢
    go_wp2_with fail
    go_ret
    exact ⟨a', c', rfl, ho, Below.trans ((Ext.refl w).alloc _) hB⟩

/-- What Sign leaves. -/
def SgP (key once v f u : Int) (l : List Lp) (w : World) : Ending → World → Prop := fun e w' => Ext w w' ∧
  ((frmB v f u l = true ∧ sgOk key once = true ∧ ∃ a' n' c', e = .returned (.tuple #[.agg #[.int .i64 v, .int .i64 f, .int .i64 u, .slice a' n' c', .int .i64 (sgC key once (msgE v f u l)), .int .i64 (sgS key once (msgE v f u l))], .int .i64 0]) ∧ Rw w' a' n' c' l) ∨
   ((frmB v f u l = false ∨ sgOk key once = false) ∧ e = .returned (.tuple #[.agg #[.int .i64 0, .int .i64 0, .int .i64 0, .slice none 0 0, .int .i64 0, .int .i64 0], .int .i64 1])))

set_option maxHeartbeats 4000000 in
theorem ergt_any (pub : Int) (pv pf pu : Int) (pa : Option Addr) (pn pc : Nat) (pl : List Lp) (pC pS : Int) (w : World) (hp : Rw w pa pn pc pl) (ht : TB w) :
    Calls Tryd.prog 15 #[.int .i64 pub, .agg #[.int .i64 pv, .int .i64 pf, .int .i64 pu, .slice pa pn pc, .int .i64 pC, .int .i64 pS]] w fun e w' => e = .returned (.tuple #[.bool (rgtF pub pv pf pu pl pC pS).1, .int .i64 (rgtF pub pv pf pu pl pC pS).2]) ∧ Ext w w' := by
  have HT := Lib.hid ht
  clear ht
  have hP := Bk.new w 27 #[.int .i64 pv, .int .i64 pf, .int .i64 pu, .slice pa pn pc, .int .i64 pC, .int .i64 pS]
  have hE : Ext w (w.alloc (.cells #[.int .i64 pv, .int .i64 pf, .int .i64 pu, .slice pa pn pc, .int .i64 pC, .int .i64 pS] 27)) := (Ext.refl w).alloc _
  go_enter Tryd.func15, Tryd.ntmps15
  go_upto_region 1 with fail
  generalize w.alloc (.cells #[.int .i64 pv, .int .i64 pf, .int .i64 pu, .slice pa pn pc, .int .i64 pC, .int .i64 pS] 27) = W at *
  generalize w.heap.size = pb at hP ⊢
  have p0 := hP.c 0 _ rfl
  have p1 := hP.c 1 _ rfl
  have p2 := hP.c 2 _ rfl
  have p3 := hP.c 3 _ rfl
  have p4 := hP.c 4 _ rfl
  have p5 := hP.c 5 _ rfl
  go_wp2_with fail
  refine (eformed_any pv pf pu pa pn pc pl pC pS W (hp.ext hE)).mono ?_
  rintro e V ⟨rfl, hx⟩
  replace hP := hP.ext hx
  replace hE := hE.trans hx
  clear hx
  clear p0 p1 p2 p3 p4 p5
  rcases hv : frmB pv pf pu pl with _ | _
  · have HR : Hid (rgtF pub pv pf pu pl pC pS = (false, 1)) := Lib.hid (by unfold rgtF; rw [if_neg (by rw [hv]; decide)])
    clear hv
    go_wp2_with fail
    go_ret2
    exact ⟨by rw [HR.out]; rfl, hE⟩
  have HPF := Lib.hid hv
  clear hv
  obtain ⟨pv1, pv2, pf1, pf2, pf3, pvl⟩ := frmB_iff.1 HPF.out
  have hwv : (Lit.int .i64 pv).wf = true := wf_of (by omega) (by omega)
  have hwf : (Lit.int .i64 pf).wf = true := wf_of (by omega) (by omega)
  have hwu : (Lit.int .i64 pu).wf = true := wf_of (by omega) (by omega)
  have hn9 : pl.length ≤ 100 := validL_len pvl
  have hn8 : pn ≤ 100 := by rw [← hp.hlen]; exact hn9
  have HMW := Lib.hid (msgE_wf hwv hwf hwu hp.wf)
  clear pvl
  have HWV := Lib.hid hwv
  have HWF := Lib.hid hwf
  have HWU := Lib.hid hwu
  have HR : Hid (rgtF pub pv pf pu pl pC pS = (verB pub pC pS (msgE pv pf pu pl), verE pub pC pS)) := Lib.hid (by unfold rgtF; rw [if_pos HPF.out])
  obtain ⟨VB, hVB⟩ : ∃ z, verB pub pC pS (msgE pv pf pu pl) = z := ⟨_, rfl⟩
  obtain ⟨VE, hVE⟩ : ∃ z, verE pub pC pS = z := ⟨_, rfl⟩
  rw [hVB, hVE] at HR
  have HVB := Lib.hid hVB
  have HVE := Lib.hid hVE
  clear hwv hwf hwu hVB hVE HPF
  go_upto_region 3 with fail
  have p0 := hP.c 0 _ rfl
  have p1 := hP.c 1 _ rfl
  have p2 := hP.c 2 _ rfl
  have p3 := hP.c 3 _ rfl
  have p4 := hP.c 4 _ rfl
  have p5 := hP.c 5 _ rfl
  refine region_rely (S := Ext) (fun W' => Ext V W') [some 9, some 10, some 11, some 12, some 13, some 14, some 15, some 16, some 4, some 5] [[], [], [1], [], [3], [0, 2, 4], [5], [5], [6], [7]] [[], [], [], [], [], [], [], [], [], []] [.one (.int .i64 pub), .one (.pointer (some ⟨pb, 4, none⟩)), .one (.agg #[.int .i64 pC, .int .i64 pS]), .one (.agg #[.int .i64 pv, .int .i64 pf, .int .i64 pu, .slice pa pn pc, .int .i64 pC, .int .i64 pS]), RMs (3 + 2 * pl.length) (msgE pv pf pu pl), .one (.tuple #[.bool VB, .int .i64 VE]), .one (.bool VB), .one (.int .i64 VE), .one (.bool VB), .one (.int .i64 VE)] (by kernel_rfl) (by kernel_rfl) (Ext.refl V).drew ?_ ?_
  · refine stepsR_cons ?_ ?_
    · intro vs W' hl hI hd ho
      refine hold ?_
      obtain ⟨x0, x1, x2, x3, x4, x5, x6, x7, x8, x9, rfl⟩ := lenlit10 hl; clear hl
      refine held ?_
      simp only [putAll, Act.put, List.setIfInBounds_toArray, List.set_cons_succ, List.set_cons_zero]
      go_wp2_with fail
      exact rely_done _ rfl rfl (Ext.refl _) hI
    refine stepsR_cons ?_ ?_
    · intro vs W' hl hI hd ho
      refine hold ?_
      obtain ⟨x0, x1, x2, x3, x4, x5, x6, x7, x8, x9, rfl⟩ := lenlit10 hl; clear hl
      refine held ?_
      simp only [putAll, Act.put, List.setIfInBounds_toArray, List.set_cons_succ, List.set_cons_zero]
      go_wp2_with fail
      exact rely_done _ rfl rfl (Ext.refl _) hI
    refine stepsR_cons ?_ ?_
    · intro vs W' hl hI hd ho
      refine hold ?_
      obtain ⟨x0, x1, x2, x3, x4, x5, x6, x7, x8, x9, rfl⟩ := lenlit10 hl; clear hl
      simp only [factsR, atR, List.getElem?_cons_succ, List.getElem?_cons_zero, Rel.one, Rel.blk, RMs] at hd
      obtain ⟨rfl, -⟩ := hd
      refine held ?_
      simp only [putAll, Act.put, List.setIfInBounds_toArray, List.set_cons_succ, List.set_cons_zero]
      have q4 := hI.cell p4
      have q5 := hI.cell p5
      go_wp2_with fail
      exact rely_done _ rfl rfl (Ext.refl _) hI
    refine stepsR_cons ?_ ?_
    · intro vs W' hl hI hd ho
      refine hold ?_
      obtain ⟨x0, x1, x2, x3, x4, x5, x6, x7, x8, x9, rfl⟩ := lenlit10 hl; clear hl
      refine held ?_
      simp only [putAll, Act.put, List.setIfInBounds_toArray, List.set_cons_succ, List.set_cons_zero]
      have q0 := hI.cell p0
      have q1 := hI.cell p1
      have q2 := hI.cell p2
      have q3 := hI.cell p3
      have q4 := hI.cell p4
      have q5 := hI.cell p5
      go_wp2_with fail
      exact rely_done _ rfl rfl (Ext.refl _) hI
    refine stepsR_cons ?_ ?_
    · intro vs W' hl hI hd ho
      refine hold ?_
      obtain ⟨x0, x1, x2, x3, x4, x5, x6, x7, x8, x9, rfl⟩ := lenlit10 hl; clear hl
      simp only [factsR, atR, List.getElem?_cons_succ, List.getElem?_cons_zero, Rel.one, Rel.blk, RMs] at hd
      obtain ⟨rfl, -⟩ := hd
      refine held ?_
      simp only [putAll, Act.put, List.setIfInBounds_toArray, List.set_cons_succ, List.set_cons_zero]
      go_wp2_with fail
      refine (emsg_any pv pf pu pa pn pc pl pC pS W' ((hp.ext hE).ext hI) (by omega) HWV.out HWF.out HWU.out).mono ?_
      rintro e w4 ⟨a4, n4, c4, rfl, hn4, ho4, hx4⟩
      obtain ⟨hq, HN4⟩ : True ∧ Hid (n4 = 3 + 2 * pl.length) := ⟨trivial, Lib.hid hn4⟩
      clear hq hn4
      go_wp2_with fail
      exact rely_done _ rfl ⟨_, _, _, rfl, HN4.out, ho4.sl HMW.out⟩ hx4 (hI.trans hx4)
    refine stepsR_cons ?_ ?_
    · intro vs W' hl hI hd ho
      refine hold ?_
      obtain ⟨x0, x1, x2, x3, x4, x5, x6, x7, x8, x9, rfl⟩ := lenlit10 hl; clear hl
      simp only [factsR, atR, List.getElem?_cons_succ, List.getElem?_cons_zero, Rel.one, Rel.blk, RMs] at hd
      obtain ⟨rfl, rfl, ⟨a4, _, c4, rfl, rfl, hs4⟩, -⟩ := hd
      refine held ?_
      simp only [putAll, Act.put, List.setIfInBounds_toArray, List.set_cons_succ, List.set_cons_zero]
      go_wp2_with fail
      refine (verify_any pub pC pS a4 _ c4 (msgE pv pf pu pl) W' hs4 (by omega) (TB.ext HT.out (hE.trans hI))).mono ?_
      rintro e w5 ⟨rfl, hx5⟩
      rw [HVB.out, HVE.out]
      go_wp2_with fail
      exact rely_done _ rfl rfl hx5 (hI.trans hx5)
    refine stepsR_cons ?_ ?_
    · intro vs W' hl hI hd ho
      refine hold ?_
      obtain ⟨x0, x1, x2, x3, x4, x5, x6, x7, x8, x9, rfl⟩ := lenlit10 hl; clear hl
      simp only [factsR, atR, List.getElem?_cons_succ, List.getElem?_cons_zero, Rel.one, Rel.blk, RMs] at hd
      obtain ⟨rfl, -⟩ := hd
      refine held ?_
      simp only [putAll, Act.put, List.setIfInBounds_toArray, List.set_cons_succ, List.set_cons_zero]
      go_wp2_with fail
      exact rely_done _ rfl rfl (Ext.refl _) hI
    refine stepsR_cons ?_ ?_
    · intro vs W' hl hI hd ho
      refine hold ?_
      obtain ⟨x0, x1, x2, x3, x4, x5, x6, x7, x8, x9, rfl⟩ := lenlit10 hl; clear hl
      simp only [factsR, atR, List.getElem?_cons_succ, List.getElem?_cons_zero, Rel.one, Rel.blk, RMs] at hd
      obtain ⟨rfl, -⟩ := hd
      refine held ?_
      simp only [putAll, Act.put, List.setIfInBounds_toArray, List.set_cons_succ, List.set_cons_zero]
      go_wp2_with fail
      exact rely_done _ rfl rfl (Ext.refl _) hI
    refine stepsR_cons ?_ ?_
    · intro vs W' hl hI hd ho
      refine hold ?_
      obtain ⟨x0, x1, x2, x3, x4, x5, x6, x7, x8, x9, rfl⟩ := lenlit10 hl; clear hl
      simp only [factsR, atR, List.getElem?_cons_succ, List.getElem?_cons_zero, Rel.one, Rel.blk, RMs] at hd
      obtain ⟨rfl, -⟩ := hd
      refine held ?_
      simp only [putAll, Act.put, List.setIfInBounds_toArray, List.set_cons_succ, List.set_cons_zero]
      go_wp2_with fail
      exact rely_done _ rfl rfl (Ext.refl _) hI
    refine stepsR_cons ?_ ?_
    · intro vs W' hl hI hd ho
      refine hold ?_
      obtain ⟨x0, x1, x2, x3, x4, x5, x6, x7, x8, x9, rfl⟩ := lenlit10 hl; clear hl
      simp only [factsR, atR, List.getElem?_cons_succ, List.getElem?_cons_zero, Rel.one, Rel.blk, RMs] at hd
      obtain ⟨rfl, -⟩ := hd
      refine held ?_
      simp only [putAll, Act.put, List.setIfInBounds_toArray, List.set_cons_succ, List.set_cons_zero]
      go_wp2_with fail
      exact rely_done _ rfl rfl (Ext.refl _) hI
    exact trivial
  · intro vs W' hl hI hd
    obtain ⟨x0, x1, x2, x3, x4, x5, x6, x7, x8, x9, rfl⟩ := lenlit10 hl; clear hl
    simp only [List.length_cons, List.length_nil, List.range, List.range.loop, Nat.zero_add, Nat.reduceAdd, factsR, atR, List.getElem?_cons_succ, List.getElem?_cons_zero, Rel.one, Rel.blk, RMs] at hd
    obtain ⟨rfl, rfl, rfl, rfl, ⟨a4, _, c4, rfl, rfl, hs4⟩, rfl, rfl, rfl, rfl, rfl, -⟩ := hd
    simp only [putAll, Act.put, List.setIfInBounds_toArray, List.set_cons_succ, List.set_cons_zero]
    have hE2 := hE.trans hI
    go_wp2_with fail
    go_ret2
    exact ⟨by rw [HR.out]; rfl, hE2⟩

set_option maxHeartbeats 4000000 in
theorem rrgt_any (pub : Int) (pv pf pu : Int) (pa : Option Addr) (pn pc : Nat) (pl : List Lp) (pC pS : Int) (w : World) (hp : Rw w pa pn pc pl) :
    Calls Tryd.prog 16 #[.int .i64 pub, .agg #[.int .i64 pv, .int .i64 pf, .int .i64 pu, .slice pa pn pc, .int .i64 pC, .int .i64 pS]] w fun e w' => e = .returned (.tuple #[.bool (rgtF pub pv pf pu pl pC pS).1, .int .i64 (rgtF pub pv pf pu pl pC pS).2]) ∧ Ext w w' := by
  have hP := Bk.new w 27 #[.int .i64 pv, .int .i64 pf, .int .i64 pu, .slice pa pn pc, .int .i64 pC, .int .i64 pS]
  have hE : Ext w (w.alloc (.cells #[.int .i64 pv, .int .i64 pf, .int .i64 pu, .slice pa pn pc, .int .i64 pC, .int .i64 pS] 27)) := (Ext.refl w).alloc _
  go_enter Tryd.func16, Tryd.ntmps16
  go_upto_region 1 with fail
  generalize w.alloc (.cells #[.int .i64 pv, .int .i64 pf, .int .i64 pu, .slice pa pn pc, .int .i64 pC, .int .i64 pS] 27) = W at *
  generalize w.heap.size = pb at hP ⊢
  have p0 := hP.c 0 _ rfl
  have p1 := hP.c 1 _ rfl
  have p2 := hP.c 2 _ rfl
  have p3 := hP.c 3 _ rfl
  have p4 := hP.c 4 _ rfl
  have p5 := hP.c 5 _ rfl
  go_wp2_with fail
  refine (rformed_any pv pf pu pa pn pc pl pC pS W (hp.ext hE)).mono ?_
  rintro e V ⟨rfl, hx⟩
  replace hP := hP.ext hx
  replace hE := hE.trans hx
  clear hx
  clear p0 p1 p2 p3 p4 p5
  rcases hv : frmB pv pf pu pl with _ | _
  · have HR : Hid (rgtF pub pv pf pu pl pC pS = (false, 1)) := Lib.hid (by unfold rgtF; rw [if_neg (by rw [hv]; decide)])
    clear hv
    go_wp2_with fail
    go_ret2
    exact ⟨by rw [HR.out]; rfl, hE⟩
  have HPF := Lib.hid hv
  clear hv
  obtain ⟨pv1, pv2, pf1, pf2, pf3, pvl⟩ := frmB_iff.1 HPF.out
  have hwv : (Lit.int .i64 pv).wf = true := wf_of (by omega) (by omega)
  have hwf : (Lit.int .i64 pf).wf = true := wf_of (by omega) (by omega)
  have hwu : (Lit.int .i64 pu).wf = true := wf_of (by omega) (by omega)
  have hn9 : pl.length ≤ 100 := validL_len pvl
  have hn8 : pn ≤ 100 := by rw [← hp.hlen]; exact hn9
  have HMW := Lib.hid (msgE_wf hwv hwf hwu hp.wf)
  clear pvl
  have HWV := Lib.hid hwv
  have HWF := Lib.hid hwf
  have HWU := Lib.hid hwu
  have HR : Hid (rgtF pub pv pf pu pl pC pS = (verB pub pC pS (msgE pv pf pu pl), verE pub pC pS)) := Lib.hid (by unfold rgtF; rw [if_pos HPF.out])
  obtain ⟨VB, hVB⟩ : ∃ z, verB pub pC pS (msgE pv pf pu pl) = z := ⟨_, rfl⟩
  obtain ⟨VE, hVE⟩ : ∃ z, verE pub pC pS = z := ⟨_, rfl⟩
  rw [hVB, hVE] at HR
  have HVB := Lib.hid hVB
  have HVE := Lib.hid hVE
  clear hwv hwf hwu hVB hVE HPF
  go_upto_region 4 with fail
  have p0 := hP.c 0 _ rfl
  have p1 := hP.c 1 _ rfl
  have p2 := hP.c 2 _ rfl
  have p3 := hP.c 3 _ rfl
  have p4 := hP.c 4 _ rfl
  have p5 := hP.c 5 _ rfl
  refine region_rely (S := Ext) (fun W' => Ext V W') [some 11, some 12, some 13, some 14, some 15, some 16, some 17, some 18, some 4, some 5] [[], [], [1], [], [3], [0, 2, 4], [5], [5], [6], [7]] [[], [], [], [], [], [], [], [], [], []] [.one (.int .i64 pub), .one (.pointer (some ⟨pb, 4, none⟩)), .one (.agg #[.int .i64 pC, .int .i64 pS]), .one (.agg #[.int .i64 pv, .int .i64 pf, .int .i64 pu, .slice pa pn pc, .int .i64 pC, .int .i64 pS]), RMs (3 + 2 * pl.length) (msgE pv pf pu pl), .one (.tuple #[.bool VB, .int .i64 VE]), .one (.bool VB), .one (.int .i64 VE), .one (.bool VB), .one (.int .i64 VE)] (by kernel_rfl) (by kernel_rfl) (Ext.refl V).drew ?_ ?_
  · refine stepsR_cons ?_ ?_
    · intro vs W' hl hI hd ho
      refine hold ?_
      obtain ⟨x0, x1, x2, x3, x4, x5, x6, x7, x8, x9, rfl⟩ := lenlit10 hl; clear hl
      refine held ?_
      simp only [putAll, Act.put, List.setIfInBounds_toArray, List.set_cons_succ, List.set_cons_zero]
      go_wp2_with fail
      exact rely_done _ rfl rfl (Ext.refl _) hI
    refine stepsR_cons ?_ ?_
    · intro vs W' hl hI hd ho
      refine hold ?_
      obtain ⟨x0, x1, x2, x3, x4, x5, x6, x7, x8, x9, rfl⟩ := lenlit10 hl; clear hl
      refine held ?_
      simp only [putAll, Act.put, List.setIfInBounds_toArray, List.set_cons_succ, List.set_cons_zero]
      go_wp2_with fail
      exact rely_done _ rfl rfl (Ext.refl _) hI
    refine stepsR_cons ?_ ?_
    · intro vs W' hl hI hd ho
      refine hold ?_
      obtain ⟨x0, x1, x2, x3, x4, x5, x6, x7, x8, x9, rfl⟩ := lenlit10 hl; clear hl
      simp only [factsR, atR, List.getElem?_cons_succ, List.getElem?_cons_zero, Rel.one, Rel.blk, RMs] at hd
      obtain ⟨rfl, -⟩ := hd
      refine held ?_
      simp only [putAll, Act.put, List.setIfInBounds_toArray, List.set_cons_succ, List.set_cons_zero]
      have q4 := hI.cell p4
      have q5 := hI.cell p5
      go_wp2_with fail
      exact rely_done _ rfl rfl (Ext.refl _) hI
    refine stepsR_cons ?_ ?_
    · intro vs W' hl hI hd ho
      refine hold ?_
      obtain ⟨x0, x1, x2, x3, x4, x5, x6, x7, x8, x9, rfl⟩ := lenlit10 hl; clear hl
      refine held ?_
      simp only [putAll, Act.put, List.setIfInBounds_toArray, List.set_cons_succ, List.set_cons_zero]
      have q0 := hI.cell p0
      have q1 := hI.cell p1
      have q2 := hI.cell p2
      have q3 := hI.cell p3
      have q4 := hI.cell p4
      have q5 := hI.cell p5
      go_wp2_with fail
      exact rely_done _ rfl rfl (Ext.refl _) hI
    refine stepsR_cons ?_ ?_
    · intro vs W' hl hI hd ho
      refine hold ?_
      obtain ⟨x0, x1, x2, x3, x4, x5, x6, x7, x8, x9, rfl⟩ := lenlit10 hl; clear hl
      simp only [factsR, atR, List.getElem?_cons_succ, List.getElem?_cons_zero, Rel.one, Rel.blk, RMs] at hd
      obtain ⟨rfl, -⟩ := hd
      refine held ?_
      simp only [putAll, Act.put, List.setIfInBounds_toArray, List.set_cons_succ, List.set_cons_zero]
      go_wp2_with fail
      refine (rmsg_any pv pf pu pa pn pc pl pC pS W' ((hp.ext hE).ext hI) (by omega) HWV.out HWF.out HWU.out).mono ?_
      rintro e w4 ⟨a4, n4, c4, rfl, hn4, ho4, hx4⟩
      obtain ⟨hq, HN4⟩ : True ∧ Hid (n4 = 3 + 2 * pl.length) := ⟨trivial, Lib.hid hn4⟩
      clear hq hn4
      go_wp2_with fail
      exact rely_done _ rfl ⟨_, _, _, rfl, HN4.out, ho4.sl HMW.out⟩ hx4 (hI.trans hx4)
    refine stepsR_cons ?_ ?_
    · intro vs W' hl hI hd ho
      refine hold ?_
      obtain ⟨x0, x1, x2, x3, x4, x5, x6, x7, x8, x9, rfl⟩ := lenlit10 hl; clear hl
      simp only [factsR, atR, List.getElem?_cons_succ, List.getElem?_cons_zero, Rel.one, Rel.blk, RMs] at hd
      obtain ⟨rfl, rfl, ⟨a4, _, c4, rfl, rfl, hs4⟩, -⟩ := hd
      refine held ?_
      simp only [putAll, Act.put, List.setIfInBounds_toArray, List.set_cons_succ, List.set_cons_zero]
      go_wp2_with fail
      refine (rverify_any pub pC pS a4 _ c4 (msgE pv pf pu pl) W' hs4 (by omega)).mono ?_
      rintro e w5 ⟨rfl, hx5⟩
      rw [HVB.out, HVE.out]
      go_wp2_with fail
      exact rely_done _ rfl rfl hx5 (hI.trans hx5)
    refine stepsR_cons ?_ ?_
    · intro vs W' hl hI hd ho
      refine hold ?_
      obtain ⟨x0, x1, x2, x3, x4, x5, x6, x7, x8, x9, rfl⟩ := lenlit10 hl; clear hl
      simp only [factsR, atR, List.getElem?_cons_succ, List.getElem?_cons_zero, Rel.one, Rel.blk, RMs] at hd
      obtain ⟨rfl, -⟩ := hd
      refine held ?_
      simp only [putAll, Act.put, List.setIfInBounds_toArray, List.set_cons_succ, List.set_cons_zero]
      go_wp2_with fail
      exact rely_done _ rfl rfl (Ext.refl _) hI
    refine stepsR_cons ?_ ?_
    · intro vs W' hl hI hd ho
      refine hold ?_
      obtain ⟨x0, x1, x2, x3, x4, x5, x6, x7, x8, x9, rfl⟩ := lenlit10 hl; clear hl
      simp only [factsR, atR, List.getElem?_cons_succ, List.getElem?_cons_zero, Rel.one, Rel.blk, RMs] at hd
      obtain ⟨rfl, -⟩ := hd
      refine held ?_
      simp only [putAll, Act.put, List.setIfInBounds_toArray, List.set_cons_succ, List.set_cons_zero]
      go_wp2_with fail
      exact rely_done _ rfl rfl (Ext.refl _) hI
    refine stepsR_cons ?_ ?_
    · intro vs W' hl hI hd ho
      refine hold ?_
      obtain ⟨x0, x1, x2, x3, x4, x5, x6, x7, x8, x9, rfl⟩ := lenlit10 hl; clear hl
      simp only [factsR, atR, List.getElem?_cons_succ, List.getElem?_cons_zero, Rel.one, Rel.blk, RMs] at hd
      obtain ⟨rfl, -⟩ := hd
      refine held ?_
      simp only [putAll, Act.put, List.setIfInBounds_toArray, List.set_cons_succ, List.set_cons_zero]
      go_wp2_with fail
      exact rely_done _ rfl rfl (Ext.refl _) hI
    refine stepsR_cons ?_ ?_
    · intro vs W' hl hI hd ho
      refine hold ?_
      obtain ⟨x0, x1, x2, x3, x4, x5, x6, x7, x8, x9, rfl⟩ := lenlit10 hl; clear hl
      simp only [factsR, atR, List.getElem?_cons_succ, List.getElem?_cons_zero, Rel.one, Rel.blk, RMs] at hd
      obtain ⟨rfl, -⟩ := hd
      refine held ?_
      simp only [putAll, Act.put, List.setIfInBounds_toArray, List.set_cons_succ, List.set_cons_zero]
      go_wp2_with fail
      exact rely_done _ rfl rfl (Ext.refl _) hI
    exact trivial
  · intro vs W' hl hI hd
    obtain ⟨x0, x1, x2, x3, x4, x5, x6, x7, x8, x9, rfl⟩ := lenlit10 hl; clear hl
    simp only [List.length_cons, List.length_nil, List.range, List.range.loop, Nat.zero_add, Nat.reduceAdd, factsR, atR, List.getElem?_cons_succ, List.getElem?_cons_zero, Rel.one, Rel.blk, RMs] at hd
    obtain ⟨rfl, rfl, rfl, rfl, ⟨a4, _, c4, rfl, rfl, hs4⟩, rfl, rfl, rfl, rfl, rfl, -⟩ := hd
    simp only [putAll, Act.put, List.setIfInBounds_toArray, List.set_cons_succ, List.set_cons_zero]
    have hE2 := hE.trans hI
    go_wp2_with fail
    go_ret2
    exact ⟨by rw [HR.out]; rfl, hE2⟩
end Go.Proofs.YtcohdojfbnijpaaDoor
