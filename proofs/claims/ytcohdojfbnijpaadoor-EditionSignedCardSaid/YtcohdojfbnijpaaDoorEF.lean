/-
  Sign, by both, walked. Written by wip/gen_ee.py.
-/
import Derived.Test.YtcohdojfbnijpaaDoorEE
namespace Go.Proofs.YtcohdojfbnijpaaDoor
open Go.RowKit Go.Sort Go.Shelf
set_option linter.unusedSimpArgs false
set_option linter.unusedVariables false
set_option maxRecDepth 100000

/-- A slice of records in a block behind b. -/
def RwF (W : World) (a : Option Addr) (n c : Nat) (xs : List Lp) (b : Nat) : Prop := Rw W a n c xs ∧ ∀ bb off, a = some ⟨bb, off, none⟩ → 0 < n → b < bb
theorem RwF.set {W : World} {a : Option Addr} {n c : Nat} {xs : List Lp} {b p : Nat} (h : RwF W a n c xs b) (hp : p ≤ b) (i : Nat) (v : Value) : RwF (W.setCell ⟨p, i, none⟩ v) a n c xs b :=
  ⟨h.1.below (fun bb off ha hn => heap_setCell_other W ⟨p, i, none⟩ bb v (by have := h.2 bb off ha hn; simp only; omega)), h.2⟩
theorem RwF.of {W : World} {a : Option Addr} {n c : Nat} {xs : List Lp} {b : Nat} (h : OwR 52 (b + 1) W a n c xs) (hn : n ≤ 17592186044416) (hw : ∀ x ∈ xs, Cel.ok x) : RwF W a n c xs b := by
  refine ⟨h.rw hn hw, fun bb off ha h0 => ?_⟩
  rcases h.2.2 with ⟨hv, _⟩ | ⟨g, cap, cur, hv, hg, _⟩
  · simp only [Value.slice.injEq] at hv; rw [ha] at hv; cases hv.1
  · simp only [Value.slice.injEq] at hv; rw [ha] at hv
    have := hv.1
    simp only [Option.some.injEq, Addr.mk.injEq] at this
    omega
/-- 'append(s[:0:0], t...)', t of records and not empty: a new row. -/
theorem appG0 {P : Program} {T E : TypeId} {z : Value} {by_ : Nat} (hE : ElS P T E z (Cel.sz Lp) by_) {ops : Array Oper} {rest : List Oper} {o : Oper} {a : Act} {Q : Exit → Act → World → Prop} (hgd : o.guard = none) (s x : Operand)
    (ho : o.op = .call { callee := .builtin .append, args := #[s, x], argTypes := #[T, T] }) (w : World) (b0 : Addr) (hs : a.eval s = .slice (some b0) 0 0) (b off m tc : Nat) (ys : List Lp) (hx : a.eval x = .slice (some ⟨b, off, none⟩) m tc) (ht : Rw w (some ⟨b, off, none⟩) m tc ys) (hm : 0 < m) (h63 : m ≤ maxLen) (hbytes : m * by_ ≤ 140737488355328)
    (h : ∀ g cap w', OwR E w.heap.size w' (some ⟨g, 0, none⟩) m cap ys → Ext w w' → wpList P ops Q rest (a.put o.dst (.slice (some ⟨g, 0, none⟩) m cap)) w') :
    wpList P ops Q (o :: rest) a w := by
  obtain ⟨hT, hI, hzs, hsz⟩ := hE
  obtain ⟨i, hi, hz, hsz', hby⟩ := info_parts hI
  refine wpList_append_grows w hgd s x T ho E i z _ by_ hT hi hz hsz' hby hzs hsz (some b0) 0 0 [] hs (fun h => by cases h) (by simp) (fun _ _ j u hu => by simp at hu) ⟨b, off, none⟩ m tc (ys.flatMap Cel.enc) hx (by rw [flat_len, ht.hlen]) (fun j u hu => by rw [Addr.add_mid]; exact ht.flat j u hu) (flat_one ys) (by omega) (by omega) (by simpa using hbytes) ?_
  intro v' w' h2 h3
  simp only [Nat.zero_add, List.nil_append] at h2
  rcases h2.2 with ⟨hv, h0⟩ | ⟨g, cap, cur, hv, hr⟩
  · omega
  · subst hv
    refine h g cap w' ⟨ht.hlen, h2⟩ ⟨h3.os, h3.tape, h3.output, h3.size, fun k hk => h3.block k hk (by simp)⟩
/-- 'append(s, t...)', both empty. -/
theorem app0 {P : Program} {T E : TypeId} {z : Value} {sz by_ : Nat} (hE : ElS P T E z sz by_) {ops : Array Oper} {rest : List Oper} {o : Oper} {a : Act} {Q : Exit → Act → World → Prop} (hgd : o.guard = none) (s x : Operand)
    (ho : o.op = .call { callee := .builtin .append, args := #[s, x], argTypes := #[T, T] }) (w : World) (sa : Option Addr) (sc : Nat) (hs : a.eval s = .slice sa 0 sc) (xa : Option Addr) (xc : Nat) (hx : a.eval x = .slice xa 0 xc)
    (h : wpList P ops Q rest (a.put o.dst (.slice sa 0 sc)) w) : wpList P ops Q (o :: rest) a w := by
  obtain ⟨hT, hI, hzs, hsz⟩ := hE
  obtain ⟨i, hi, hz, hsz', hby⟩ := info_parts hI
  refine wpList_plain hgd fun K hK => ?_
  have hrun : (Builtin.append_ #[T, T] o.type #[.slice sa 0 sc, .slice xa 0 xc]).run P w = .ok (.slice sa 0 sc) w := by
    rcases xa with _ | xa
    · exact run_append_nothing w T T o.type E i hT hi sa 0 sc (Nat.zero_le _) _ (Src.ofNil w hT xc)
    · exact run_append_nothing w T T o.type E i hT hi sa 0 sc (Nat.zero_le _) _ (Src.ofSlice w hT xa 0 xc [] (by simp) (fun j u hu => by simp at hu) (by simp))
  unfold Oper.wp
  simp only [execOp, ho, resolve, invoke, builtin, Sem.run_bind, Sem.run_pure, Result.andThen_ok, List.map_toArray, List.map_cons, List.map_nil, hs, hx, hrun]
  exact hK _ _ h

theorem res_esgn (W : World) (b : Nat) (v0 v1 v2 v3 v4 v5 z : Value) (tmps : Array Value) (h4 : tmps[6]?.getD undef = .pointer (some ⟨b, 0, none⟩)) (h5 : tmps[7]?.getD undef = z) (h : Bk W b 27 #[v0, v1, v2, v3, v4, v5]) :
    (results Tryd.f12 tmps).run Tryd.prog W = .ok (.tuple #[.agg #[v0, v1, v2, v3, v4, v5], z]) W := by
  have c0 := h.c 0 _ rfl
  have c1 := h.c 1 _ rfl
  have c2 := h.c 2 _ rfl
  have c3 := h.c 3 _ rfl
  have c4 := h.c 4 _ rfl
  have c5 := h.c 5 _ rfl
  simp [results, Tryd.results12, go_sem, h4, h5, c0, c1, c2, c3, c4, c5]
set_option maxHeartbeats 8000000 in
theorem esgn_any (key once : Int) (pv pf pu : Int) (pa : Option Addr) (pn pc : Nat) (pl : List Lp) (pC pS : Int) (w : World) (hp : Rw w pa pn pc pl) (ht : TB w) :
    Calls Tryd.prog 12 #[.int .i64 key, .int .i64 once, .agg #[.int .i64 pv, .int .i64 pf, .int .i64 pu, .slice pa pn pc, .int .i64 pC, .int .i64 pS]] w (SgP key once pv pf pu pl w) := by
  have HT := Lib.hid ht
  clear ht
  have hP := Bk.new w 27 #[.int .i64 pv, .int .i64 pf, .int .i64 pu, .slice pa pn pc, .int .i64 pC, .int .i64 pS]
  have hB := Bk.new (w.alloc (.cells #[.int .i64 pv, .int .i64 pf, .int .i64 pu, .slice pa pn pc, .int .i64 pC, .int .i64 pS] 27)) 27 #[.int .i64 0, .int .i64 0, .int .i64 0, .slice none 0 0, .int .i64 0, .int .i64 0]
  replace hP := hP.ext ((Ext.refl _).alloc (.cells #[.int .i64 0, .int .i64 0, .int .i64 0, .slice none 0 0, .int .i64 0, .int .i64 0] 27))
  rw [World.size_alloc] at hB
  have hE : Ext w ((w.alloc (.cells #[.int .i64 pv, .int .i64 pf, .int .i64 pu, .slice pa pn pc, .int .i64 pC, .int .i64 pS] 27)).alloc (.cells #[.int .i64 0, .int .i64 0, .int .i64 0, .slice none 0 0, .int .i64 0, .int .i64 0] 27)) := ((Ext.refl w).alloc _).alloc _
  go_enter Tryd.func12, Tryd.ntmps12
  go_upto_region 1 with fail
  generalize (w.alloc (.cells #[.int .i64 pv, .int .i64 pf, .int .i64 pu, .slice pa pn pc, .int .i64 pC, .int .i64 pS] 27)).alloc (.cells #[.int .i64 0, .int .i64 0, .int .i64 0, .slice none 0 0, .int .i64 0, .int .i64 0] 27) = W at *
  obtain ⟨b, hbe⟩ : ∃ b, w.heap.size + 1 = b := ⟨_, rfl⟩
  obtain ⟨pb, hpe⟩ : ∃ b, w.heap.size = b := ⟨_, rfl⟩
  rw [hbe] at hB ⊢
  rw [hpe] at hP ⊢
  have hbs : w.heap.size ≤ b := by omega
  have hpbs : w.heap.size ≤ pb := by omega
  have hpb : pb + 1 = b := by omega
  clear hbe hpe
  have p0 := hP.c 0 _ rfl
  have p1 := hP.c 1 _ rfl
  have p2 := hP.c 2 _ rfl
  have p3 := hP.c 3 _ rfl
  have p4 := hP.c 4 _ rfl
  have p5 := hP.c 5 _ rfl
  go_wp2_with fail
  refine (eformed_any pv pf pu pa pn pc pl pC pS W (hp.ext hE)).mono ?_
  rintro e V ⟨rfl, hx⟩
  replace hP := hP.ext hx
  replace hB := hB.ext hx
  replace hE := hE.trans hx
  clear hx
  clear p0 p1 p2 p3 p4 p5
  rcases hv : frmB pv pf pu pl with _ | _
  · have HR := Lib.hid hv
    clear hv
    have b0 := hB.c 0 _ rfl
    have f0 := hB.free 0
    have b1 := hB.c 1 _ rfl
    have f1 := hB.free 1
    have b2 := hB.c 2 _ rfl
    have f2 := hB.free 2
    have b3 := hB.c 3 _ rfl
    have f3 := hB.free 3
    have b4 := hB.c 4 _ rfl
    have f4 := hB.free 4
    have b5 := hB.c 5 _ rfl
    have f5 := hB.free 5
    go_wp2_with fail
    exact bodyPost_ret (res_esgn _ b (.int .i64 0) (.int .i64 0) (.int .i64 0) (.slice none 0 0) (.int .i64 0) (.int .i64 0) (.int .i64 1) _ (by rfl) (by rfl) (hB.set6 _ _ _ _ _ _)) rfl ⟨((((((hE.setCell (p := ⟨b, 0, none⟩) hbs _).setCell (p := ⟨b, 1, none⟩) hbs _).setCell (p := ⟨b, 2, none⟩) hbs _).setCell (p := ⟨b, 3, none⟩) hbs _).setCell (p := ⟨b, 4, none⟩) hbs _).setCell (p := ⟨b, 5, none⟩) hbs _), .inr ⟨.inl HR.out, rfl⟩⟩
  have HPF := Lib.hid hv
  clear hv
  obtain ⟨pv1, pv2, pf1, pf2, pf3, pvl⟩ := frmB_iff.1 HPF.out
  have hwv : (Lit.int .i64 pv).wf = true := wf_of (by omega) (by omega)
  have hwf : (Lit.int .i64 pf).wf = true := wf_of (by omega) (by omega)
  have hwu : (Lit.int .i64 pu).wf = true := wf_of (by omega) (by omega)
  have hn9 : pl.length ≤ 100 := validL_len pvl
  have hn8 : pn ≤ 100 := by rw [← hp.hlen]; exact hn9
  have HMW := Lib.hid (msgE_wf hwv hwf hwu hp.wf)
  clear pvl
  have p0 := hP.c 0 _ rfl
  have p1 := hP.c 1 _ rfl
  have p2 := hP.c 2 _ rfl
  have p3 := hP.c 3 _ rfl
  have p4 := hP.c 4 _ rfl
  have p5 := hP.c 5 _ rfl
  go_wp2_with fail
  refine (emsg_any pv pf pu pa pn pc pl pC pS V (hp.ext hE) (by omega) hwv hwf hwu).mono ?_
  rintro e w4 ⟨a4, n4, c4, rfl, hn4, ho4, hx4⟩
  have hs4 := ho4.sl HMW.out
  have hn5 : n4 ≤ 500 := by omega
  clear ho4 hn4
  go_wp2_with fail
  refine (sign_any key once a4 n4 c4 (msgE pv pf pu pl) w4 hs4 hn5 (TB.ext HT.out (hE.trans hx4))).mono ?_
  rintro e w5 ⟨rfl, hx5⟩
  have hx := hx4.trans hx5
  replace hP := hP.ext hx
  replace hB := hB.ext hx
  replace hE := hE.trans hx
  clear hx
  clear p0 p1 p2 p3 p4 p5
  clear hs4 hx4 hx5
  have hEE : (sgE key once = 0 ∧ sgOk key once = true) ∨ (sgE key once = 1 ∧ sgOk key once = false) := by
    unfold sgE
    rcases h : sgOk key once with _ | _
    · exact .inr ⟨rfl, rfl⟩
    · exact .inl ⟨rfl, rfl⟩
  obtain ⟨SC, hSC⟩ : ∃ z, sgC key once (msgE pv pf pu pl) = z := ⟨_, rfl⟩
  obtain ⟨SS, hSS⟩ : ∃ z, sgS key once (msgE pv pf pu pl) = z := ⟨_, rfl⟩
  rw [hSC, hSS]
  have HSC := Lib.hid hSC
  have HSS := Lib.hid hSS
  clear hSC hSS
  generalize sgE key once = EE at *
  have hgb := hB.lt
  have hG := Bk.new w5 25 #[.int .i64 SC, .int .i64 SS]
  have hx := (Ext.refl w5).alloc (.cells #[.int .i64 SC, .int .i64 SS] 25)
  go_upto_region 4 with fail
  generalize w5.alloc (.cells #[.int .i64 SC, .int .i64 SS] 25) = V6 at *
  generalize w5.heap.size = gb at *
  replace hP := hP.ext hx
  replace hB := hB.ext hx
  replace hE := hE.trans hx
  clear hx
  rcases hEE with ⟨rfl, hok⟩ | ⟨rfl, hok⟩
  rotate_left
  · have HR := Lib.hid hok
    clear hok
    have b0 := hB.c 0 _ rfl
    have f0 := hB.free 0
    have b1 := hB.c 1 _ rfl
    have f1 := hB.free 1
    have b2 := hB.c 2 _ rfl
    have f2 := hB.free 2
    have b3 := hB.c 3 _ rfl
    have f3 := hB.free 3
    have b4 := hB.c 4 _ rfl
    have f4 := hB.free 4
    have b5 := hB.c 5 _ rfl
    have f5 := hB.free 5
    go_wp2_with fail
    exact bodyPost_ret (res_esgn _ b (.int .i64 0) (.int .i64 0) (.int .i64 0) (.slice none 0 0) (.int .i64 0) (.int .i64 0) (.int .i64 1) _ (by rfl) (by rfl) (hB.set6 _ _ _ _ _ _)) rfl ⟨((((((hE.setCell (p := ⟨b, 0, none⟩) hbs _).setCell (p := ⟨b, 1, none⟩) hbs _).setCell (p := ⟨b, 2, none⟩) hbs _).setCell (p := ⟨b, 3, none⟩) hbs _).setCell (p := ⟨b, 4, none⟩) hbs _).setCell (p := ⟨b, 5, none⟩) hbs _), .inr ⟨.inr HR.out, rfl⟩⟩
  have HSG := Lib.hid hok
  clear hok
  have hBlt := hB.lt
  go_upto_region 6 with fail
  refine region_relyF (fun listed W' => (Ext w W' ∧ Bk W' b 27 #[.int .i64 0, .int .i64 0, .int .i64 0, .slice none 0 0, .int .i64 0, .int .i64 0]) ∧ (listed 5 = false → Ext V6 W') ∧ (listed 5 = true → listed 7 = false → Bk W' pb 27 #[.int .i64 pv, .int .i64 pf, .int .i64 pu, .slice pa pn pc, .int .i64 SC, .int .i64 SS]) ∧ (listed 7 = true → ∃ a' n' c', Bk W' pb 27 #[.int .i64 pv, .int .i64 pf, .int .i64 pu, .slice a' n' c', .int .i64 SC, .int .i64 SS] ∧ OwR 52 (b + 1) W' a' n' c' pl)) [some 26, some 27, some 28, some 29, some 30, none, some 31, none] [[], [], [1], [1, 2], [0, 1, 2], [0, 1, 2, 3, 4], [0, 1, 2, 3, 4, 5], [0, 1, 2, 3, 4, 5, 6]] [[], [], [1], [2], [], [0, 4], [], [3, 6]] [none, none, none, none, none, none, none, none] [false, false, false, false, false, false, false, false] [.one (.agg #[.int .i64 SC, .int .i64 SS]), .one (.pointer (some ⟨pb, 3, none⟩)), .one (.slice pa pn pc), RClo (b + 1) pl, .one (.pointer (some ⟨pb, 4, none⟩)), .any, .one (.pointer (some ⟨pb, 3, none⟩)), .any] (by kernel_rfl) (by kernel_rfl) rfl ⟨⟨hE.drew, hB⟩, fun _ => (Ext.refl V6).drew, fun h => absurd h (by decide), fun h => absurd h (by decide)⟩ ?_ ?_
  · refine stepsF_cons ?_ ?_
    · intro listed vs W' hl hI hd hs hn hu hz ho9
      refine hold ?_
      obtain ⟨x0, x1, x2, x3, x4, x5, x6, x7, rfl⟩ := lenlit8 hl; clear hl
      refine held ?_
      simp only [putAll, Act.put, List.setIfInBounds_toArray, List.set_cons_succ, List.set_cons_zero]
      have h5z : listed 5 = false := by cases h : listed 5 with | false => rfl | true => exact absurd (by decide) (hu 5 h)
      have hEV := hI.2.1 h5z
      have g0 := (hG.ext hEV).c 0 _ rfl
      have g1 := (hG.ext hEV).c 1 _ rfl
      go_wp2_with fail
      exact relyE_done _ rfl rfl (Ext.refl _) ⟨hI.1, fun h => hI.2.1 (updE_false2 h), fun h h' => hI.2.2.1 (by rwa [updE_ne (by decide)] at h) (updE_false2 h'), fun h => hI.2.2.2 (by rwa [updE_ne (by decide)] at h)⟩
    refine stepsF_cons ?_ ?_
    · intro listed vs W' hl hI hd hs hn hu hz ho9
      refine hold ?_
      obtain ⟨x0, x1, x2, x3, x4, x5, x6, x7, rfl⟩ := lenlit8 hl; clear hl
      refine held ?_
      simp only [putAll, Act.put, List.setIfInBounds_toArray, List.set_cons_succ, List.set_cons_zero]
      go_wp2_with fail
      exact relyE_done _ rfl rfl (Ext.refl _) ⟨hI.1, fun h => hI.2.1 (updE_false2 h), fun h h' => hI.2.2.1 (by rwa [updE_ne (by decide)] at h) (updE_false2 h'), fun h => hI.2.2.2 (by rwa [updE_ne (by decide)] at h)⟩
    refine stepsF_cons ?_ ?_
    · intro listed vs W' hl hI hd hs hn hu hz ho9
      refine hold ?_
      obtain ⟨x0, x1, x2, x3, x4, x5, x6, x7, rfl⟩ := lenlit8 hl; clear hl
      simp only [factsL, atL, refV, List.getElem?_cons_succ, List.getElem?_cons_zero, List.getD_cons_succ, List.getD_cons_zero, RelL.one, RelL.any, RelL.blk, RelL.law, RClo] at hd
      obtain ⟨rfl, -⟩ := hd
      refine held ?_
      simp only [putAll, Act.put, List.setIfInBounds_toArray, List.set_cons_succ, List.set_cons_zero]
      have h5z : listed 5 = false := by cases h : listed 5 with | false => rfl | true => exact absurd (by decide) (hu 5 h)
      have hEV := hI.2.1 h5z
      have p3 := (hP.ext hEV).c 3 _ rfl
      go_wp2_with fail
      exact relyE_done _ rfl rfl (Ext.refl _) ⟨hI.1, fun h => hI.2.1 (updE_false2 h), fun h h' => hI.2.2.1 (by rwa [updE_ne (by decide)] at h) (updE_false2 h'), fun h => hI.2.2.2 (by rwa [updE_ne (by decide)] at h)⟩
    refine stepsF_cons ?_ ?_
    · intro listed vs W' hl hI hd hs hn hu hz ho9
      refine hold ?_
      obtain ⟨x0, x1, x2, x3, x4, x5, x6, x7, rfl⟩ := lenlit8 hl; clear hl
      simp only [factsL, atL, refV, List.getElem?_cons_succ, List.getElem?_cons_zero, List.getD_cons_succ, List.getD_cons_zero, RelL.one, RelL.any, RelL.blk, RelL.law, RClo] at hd
      obtain ⟨rfl, -⟩ := hd
      refine held ?_
      simp only [putAll, Act.put, List.setIfInBounds_toArray, List.set_cons_succ, List.set_cons_zero]
      have h5z : listed 5 = false := by cases h : listed 5 with | false => rfl | true => exact absurd (by decide) (hu 5 h)
      have h7z : listed 7 = false := by cases h : listed 7 with | false => rfl | true => exact absurd (by decide) (hu 7 h)
      have hEV := hI.2.1 h5z
      go_wp2_with fail
      refine (cloneL_any pa pn pc pl W' ((hp.ext hE).ext hEV) (by omega)).mono ?_
      rintro e w3 ⟨a3, c3, rfl, ho3, hx3⟩
      go_wp2_with fail
      exact relyE_done _ rfl ⟨a3, pn, c3, rfl, ho3.baseLe (by have := hEV.sz; have := hBlt; omega), hp.hlen.symm⟩ hx3 ⟨⟨hI.1.1.trans hx3, hI.1.2.ext hx3⟩, fun h => (hI.2.1 (updE_false2 h)).trans hx3, fun h _ => (by rw [updE_ne (by decide), h5z] at h; cases h), fun h => (by rw [updE_ne (by decide), h7z] at h; cases h)⟩
    refine stepsF_cons ?_ ?_
    · intro listed vs W' hl hI hd hs hn hu hz ho9
      refine hold ?_
      obtain ⟨x0, x1, x2, x3, x4, x5, x6, x7, rfl⟩ := lenlit8 hl; clear hl
      refine held ?_
      simp only [putAll, Act.put, List.setIfInBounds_toArray, List.set_cons_succ, List.set_cons_zero]
      go_wp2_with fail
      exact relyE_done _ rfl rfl (Ext.refl _) ⟨hI.1, fun h => hI.2.1 (updE_false2 h), fun h h' => hI.2.2.1 (by rwa [updE_ne (by decide)] at h) (updE_false2 h'), fun h => hI.2.2.2 (by rwa [updE_ne (by decide)] at h)⟩
    refine stepsF_cons ?_ ?_
    · intro listed vs W' hl hI hd hs hn hu hz ho9
      refine hold ?_
      obtain ⟨x0, x1, x2, x3, x4, x5, x6, x7, rfl⟩ := lenlit8 hl; clear hl
      simp only [factsL, atL, refV, List.getElem?_cons_succ, List.getElem?_cons_zero, List.getD_cons_succ, List.getD_cons_zero, RelL.one, RelL.any, RelL.blk, RelL.law, RClo] at hd
      obtain ⟨rfl, rfl, -⟩ := hd
      refine held ?_
      simp only [putAll, Act.put, List.setIfInBounds_toArray, List.set_cons_succ, List.set_cons_zero]
      have hEV := hI.2.1 hz
      have hPp := hP.ext hEV
      have p4 := hPp.c 4 _ rfl
      have p5 := hPp.c 5 _ rfl
      have f4 := hPp.free 4
      have f5 := hPp.free 5
      have h7z : listed 7 = false := by cases h : listed 7 with | false => rfl | true => exact absurd (by decide) (hu 7 h)
      go_wp2_with fail
      exact relyE_store undef rfl trivial (by simp) ⟨fun _ _ h => h, fun _ _ h => h, fun _ _ h => h, fun _ _ h => RClo_set h hpb, fun _ _ h => h, fun _ _ h => h, fun _ _ h => h, fun _ _ h => h, trivial⟩ ⟨⟨((hI.1.1.setCell (p := ⟨pb, 4, none⟩) hpbs (.int .i64 SC)).setCell (p := ⟨pb, 5, none⟩) hpbs (.int .i64 SS)), (hI.1.2.otherE (by omega) 4 _).otherE (by omega) 5 _⟩, fun h => by simp [updE] at h, fun _ _ => hPp.set45 _ _, fun h => (by rw [updE_ne (by decide), h7z] at h; cases h)⟩
    refine stepsF_cons ?_ ?_
    · intro listed vs W' hl hI hd hs hn hu hz ho9
      refine hold ?_
      obtain ⟨x0, x1, x2, x3, x4, x5, x6, x7, rfl⟩ := lenlit8 hl; clear hl
      refine held ?_
      simp only [putAll, Act.put, List.setIfInBounds_toArray, List.set_cons_succ, List.set_cons_zero]
      go_wp2_with fail
      exact relyE_done _ rfl rfl (Ext.refl _) ⟨hI.1, fun h => hI.2.1 (updE_false2 h), fun h h' => hI.2.2.1 (by rwa [updE_ne (by decide)] at h) (updE_false2 h'), fun h => hI.2.2.2 (by rwa [updE_ne (by decide)] at h)⟩
    refine stepsF_cons ?_ ?_
    · intro listed vs W' hl hI hd hs hn hu hz ho9
      refine hold ?_
      obtain ⟨x0, x1, x2, x3, x4, x5, x6, x7, rfl⟩ := lenlit8 hl; clear hl
      simp only [factsL, atL, refV, List.getElem?_cons_succ, List.getElem?_cons_zero, List.getD_cons_succ, List.getD_cons_zero, RelL.one, RelL.any, RelL.blk, RelL.law, RClo] at hd
      obtain ⟨⟨a3, _, c3, rfl, ho3, rfl⟩, rfl, -⟩ := hd
      refine held ?_
      simp only [putAll, Act.put, List.setIfInBounds_toArray, List.set_cons_succ, List.set_cons_zero]
      have h5y : listed 5 = true := hs 5 (by decide)
      have hP1 := hI.2.2.1 h5y hz
      have p3 := hP1.c 3 _ rfl
      have f3 := hP1.free 3
      go_wp2_with fail
      exact relyE_store undef rfl trivial (by simp) ⟨fun _ _ h => h, fun _ _ h => h, fun _ _ h => h, fun _ _ h => RClo_set1 h hpb, fun _ _ h => h, fun _ _ h => h, fun _ _ h => h, fun _ _ h => h, trivial⟩ ⟨⟨hI.1.1.setCell (p := ⟨pb, 3, none⟩) hpbs _, hI.1.2.otherE (by omega) 3 _⟩, fun h => (by rw [updE_ne (by decide), h5y] at h; cases h), fun _ h => by simp [updE] at h, fun _ => ⟨a3, pl.length, c3, hP1.set3x _, ho3.setOther (by omega) 3 _⟩⟩
    exact trivial
  · intro listed vs W' hl hall hI hd hn
    obtain ⟨x0, x1, x2, x3, x4, x5, x6, x7, rfl⟩ := lenlit8 hl; clear hl
    simp only [List.length_cons, List.length_nil, List.range, List.range.loop, Nat.zero_add, Nat.reduceAdd, factsL, atL, refV, List.getElem?_cons_succ, List.getElem?_cons_zero, List.getD_cons_succ, List.getD_cons_zero, RelL.one, RelL.any, RelL.blk, RelL.law, RClo] at hd
    obtain ⟨rfl, rfl, rfl, -, rfl, -, rfl, -, -⟩ := hd
    simp only [putAll, Act.put, List.setIfInBounds_toArray, List.set_cons_succ, List.set_cons_zero]
    obtain ⟨a7, n7, c7, hP7, hrw⟩ := hI.2.2.2 (hall 7 (by decide))
    have hE := hI.1.1
    have hB := hI.1.2
    clear hI
    have q0 := hP7.c 0 _ rfl
    have q1 := hP7.c 1 _ rfl
    have q2 := hP7.c 2 _ rfl
    have q3 := hP7.c 3 _ rfl
    have q4 := hP7.c 4 _ rfl
    have q5 := hP7.c 5 _ rfl
    have b0 := hB.c 0 _ rfl
    have f0 := hB.free 0
    have b1 := hB.c 1 _ rfl
    have f1 := hB.free 1
    have b2 := hB.c 2 _ rfl
    have f2 := hB.free 2
    have b3 := hB.c 3 _ rfl
    have f3 := hB.free 3
    have b4 := hB.c 4 _ rfl
    have f4 := hB.free 4
    have b5 := hB.c 5 _ rfl
    have f5 := hB.free 5
    go_wp2_with fail
    exact bodyPost_ret (res_esgn _ b (.int .i64 pv) (.int .i64 pf) (.int .i64 pu) (.slice a7 n7 c7) (.int .i64 SC) (.int .i64 SS) (.int .i64 0) _ (by rfl) (by rfl) (hB.set6 _ _ _ _ _ _)) rfl ⟨((((((hE.setCell (p := ⟨b, 0, none⟩) hbs _).setCell (p := ⟨b, 1, none⟩) hbs _).setCell (p := ⟨b, 2, none⟩) hbs _).setCell (p := ⟨b, 3, none⟩) hbs _).setCell (p := ⟨b, 4, none⟩) hbs _).setCell (p := ⟨b, 5, none⟩) hbs _), .inl ⟨HPF.out, HSG.out, a7, n7, c7, by rw [HSC.out, HSS.out], hrw.six _ _ _ _ _ _ (by have := hrw.1; have := hp.hlen; have := hp.lim; omega) hp.wf⟩⟩
theorem res_rsgn (W : World) (b : Nat) (v0 v1 v2 v3 v4 v5 z : Value) (tmps : Array Value) (h4 : tmps[6]?.getD undef = .pointer (some ⟨b, 0, none⟩)) (h5 : tmps[7]?.getD undef = z) (h : Bk W b 27 #[v0, v1, v2, v3, v4, v5]) :
    (results Tryd.f13 tmps).run Tryd.prog W = .ok (.tuple #[.agg #[v0, v1, v2, v3, v4, v5], z]) W := by
  have c0 := h.c 0 _ rfl
  have c1 := h.c 1 _ rfl
  have c2 := h.c 2 _ rfl
  have c3 := h.c 3 _ rfl
  have c4 := h.c 4 _ rfl
  have c5 := h.c 5 _ rfl
  simp [results, Tryd.results13, go_sem, h4, h5, c0, c1, c2, c3, c4, c5]
set_option maxHeartbeats 8000000 in
theorem rsgn_any (key once : Int) (pv pf pu : Int) (pa : Option Addr) (pn pc : Nat) (pl : List Lp) (pC pS : Int) (w : World) (hp : Rw w pa pn pc pl) :
    Calls Tryd.prog 13 #[.int .i64 key, .int .i64 once, .agg #[.int .i64 pv, .int .i64 pf, .int .i64 pu, .slice pa pn pc, .int .i64 pC, .int .i64 pS]] w (SgP key once pv pf pu pl w) := by
  have hP := Bk.new w 27 #[.int .i64 pv, .int .i64 pf, .int .i64 pu, .slice pa pn pc, .int .i64 pC, .int .i64 pS]
  have hB := Bk.new (w.alloc (.cells #[.int .i64 pv, .int .i64 pf, .int .i64 pu, .slice pa pn pc, .int .i64 pC, .int .i64 pS] 27)) 27 #[.int .i64 0, .int .i64 0, .int .i64 0, .slice none 0 0, .int .i64 0, .int .i64 0]
  replace hP := hP.ext ((Ext.refl _).alloc (.cells #[.int .i64 0, .int .i64 0, .int .i64 0, .slice none 0 0, .int .i64 0, .int .i64 0] 27))
  rw [World.size_alloc] at hB
  have hE : Ext w ((w.alloc (.cells #[.int .i64 pv, .int .i64 pf, .int .i64 pu, .slice pa pn pc, .int .i64 pC, .int .i64 pS] 27)).alloc (.cells #[.int .i64 0, .int .i64 0, .int .i64 0, .slice none 0 0, .int .i64 0, .int .i64 0] 27)) := ((Ext.refl w).alloc _).alloc _
  go_enter Tryd.func13, Tryd.ntmps13
  go_upto_region 1 with fail
  generalize (w.alloc (.cells #[.int .i64 pv, .int .i64 pf, .int .i64 pu, .slice pa pn pc, .int .i64 pC, .int .i64 pS] 27)).alloc (.cells #[.int .i64 0, .int .i64 0, .int .i64 0, .slice none 0 0, .int .i64 0, .int .i64 0] 27) = W at *
  obtain ⟨b, hbe⟩ : ∃ b, w.heap.size + 1 = b := ⟨_, rfl⟩
  obtain ⟨pb, hpe⟩ : ∃ b, w.heap.size = b := ⟨_, rfl⟩
  rw [hbe] at hB ⊢
  rw [hpe] at hP ⊢
  have hbs : w.heap.size ≤ b := by omega
  have hpbs : w.heap.size ≤ pb := by omega
  have hpb : pb + 1 = b := by omega
  clear hbe hpe
  have p0 := hP.c 0 _ rfl
  have p1 := hP.c 1 _ rfl
  have p2 := hP.c 2 _ rfl
  have p3 := hP.c 3 _ rfl
  have p4 := hP.c 4 _ rfl
  have p5 := hP.c 5 _ rfl
  go_wp2_with fail
  refine (rformed_any pv pf pu pa pn pc pl pC pS W (hp.ext hE)).mono ?_
  rintro e V ⟨rfl, hx⟩
  replace hP := hP.ext hx
  replace hB := hB.ext hx
  replace hE := hE.trans hx
  clear hx
  clear p0 p1 p2 p3 p4 p5
  go_wp2_with fail
  refine (rkey_any key V).mono ?_
  rintro e V' ⟨rfl, rfl⟩
  go_wp2_with fail
  refine (rkey_any once _).mono ?_
  rintro e V1 ⟨rfl, rfl⟩
  rcases hv : frmB pv pf pu pl with _ | _
  · have HR := Lib.hid hv
    clear hv
    have b0 := hB.c 0 _ rfl
    have f0 := hB.free 0
    have b1 := hB.c 1 _ rfl
    have f1 := hB.free 1
    have b2 := hB.c 2 _ rfl
    have f2 := hB.free 2
    have b3 := hB.c 3 _ rfl
    have f3 := hB.free 3
    have b4 := hB.c 4 _ rfl
    have f4 := hB.free 4
    have b5 := hB.c 5 _ rfl
    have f5 := hB.free 5
    go_wp2_with fail
    exact bodyPost_ret (res_rsgn _ b (.int .i64 0) (.int .i64 0) (.int .i64 0) (.slice none 0 0) (.int .i64 0) (.int .i64 0) (.int .i64 1) _ (by rfl) (by rfl) (hB.set6 _ _ _ _ _ _)) rfl ⟨((((((hE.setCell (p := ⟨b, 0, none⟩) hbs _).setCell (p := ⟨b, 1, none⟩) hbs _).setCell (p := ⟨b, 2, none⟩) hbs _).setCell (p := ⟨b, 3, none⟩) hbs _).setCell (p := ⟨b, 4, none⟩) hbs _).setCell (p := ⟨b, 5, none⟩) hbs _), .inr ⟨.inl HR.out, rfl⟩⟩
  have HPF := Lib.hid hv
  clear hv
  rcases hk : inQ key 1 with _ | _
  · have HR : Hid (sgOk key once = false) := Lib.hid (by unfold sgOk; rw [hk]; rfl)
    clear hk
    have b0 := hB.c 0 _ rfl
    have f0 := hB.free 0
    have b1 := hB.c 1 _ rfl
    have f1 := hB.free 1
    have b2 := hB.c 2 _ rfl
    have f2 := hB.free 2
    have b3 := hB.c 3 _ rfl
    have f3 := hB.free 3
    have b4 := hB.c 4 _ rfl
    have f4 := hB.free 4
    have b5 := hB.c 5 _ rfl
    have f5 := hB.free 5
    go_wp2_with fail
    exact bodyPost_ret (res_rsgn _ b (.int .i64 0) (.int .i64 0) (.int .i64 0) (.slice none 0 0) (.int .i64 0) (.int .i64 0) (.int .i64 1) _ (by rfl) (by rfl) (hB.set6 _ _ _ _ _ _)) rfl ⟨((((((hE.setCell (p := ⟨b, 0, none⟩) hbs _).setCell (p := ⟨b, 1, none⟩) hbs _).setCell (p := ⟨b, 2, none⟩) hbs _).setCell (p := ⟨b, 3, none⟩) hbs _).setCell (p := ⟨b, 4, none⟩) hbs _).setCell (p := ⟨b, 5, none⟩) hbs _), .inr ⟨.inr HR.out, rfl⟩⟩
  rcases ho : inQ once 1 with _ | _
  · have HR : Hid (sgOk key once = false) := Lib.hid (by unfold sgOk; rw [hk, ho]; rfl)
    clear hk ho
    have b0 := hB.c 0 _ rfl
    have f0 := hB.free 0
    have b1 := hB.c 1 _ rfl
    have f1 := hB.free 1
    have b2 := hB.c 2 _ rfl
    have f2 := hB.free 2
    have b3 := hB.c 3 _ rfl
    have f3 := hB.free 3
    have b4 := hB.c 4 _ rfl
    have f4 := hB.free 4
    have b5 := hB.c 5 _ rfl
    have f5 := hB.free 5
    go_wp2_with fail
    exact bodyPost_ret (res_rsgn _ b (.int .i64 0) (.int .i64 0) (.int .i64 0) (.slice none 0 0) (.int .i64 0) (.int .i64 0) (.int .i64 1) _ (by rfl) (by rfl) (hB.set6 _ _ _ _ _ _)) rfl ⟨((((((hE.setCell (p := ⟨b, 0, none⟩) hbs _).setCell (p := ⟨b, 1, none⟩) hbs _).setCell (p := ⟨b, 2, none⟩) hbs _).setCell (p := ⟨b, 3, none⟩) hbs _).setCell (p := ⟨b, 4, none⟩) hbs _).setCell (p := ⟨b, 5, none⟩) hbs _), .inr ⟨.inr HR.out, rfl⟩⟩
  have HSG : Hid (sgOk key once = true) := Lib.hid (by unfold sgOk; rw [hk, ho]; rfl)
  clear hk ho
  obtain ⟨pv1, pv2, pf1, pf2, pf3, pvl⟩ := frmB_iff.1 HPF.out
  have hwv : (Lit.int .i64 pv).wf = true := wf_of (by omega) (by omega)
  have hwf : (Lit.int .i64 pf).wf = true := wf_of (by omega) (by omega)
  have hwu : (Lit.int .i64 pu).wf = true := wf_of (by omega) (by omega)
  have hn9 : pl.length ≤ 100 := validL_len pvl
  have hn8 : pn ≤ 100 := by rw [← hp.hlen]; exact hn9
  have HMW := Lib.hid (msgE_wf hwv hwf hwu hp.wf)
  clear pvl
  have p0 := hP.c 0 _ rfl
  have p1 := hP.c 1 _ rfl
  have p2 := hP.c 2 _ rfl
  have p3 := hP.c 3 _ rfl
  have p4 := hP.c 4 _ rfl
  have p5 := hP.c 5 _ rfl
  go_wp2_with fail
  refine (rmsg_any pv pf pu pa pn pc pl pC pS V1 (hp.ext hE) (by omega) hwv hwf hwu).mono ?_
  rintro e w4 ⟨a4, n4, c4, rfl, hn4, ho4, hx4⟩
  have hs4 := ho4.sl HMW.out
  have hn5 : n4 ≤ 500 := by omega
  clear ho4 hn4
  go_wp2_with fail
  refine (rsign_any key once a4 n4 c4 (msgE pv pf pu pl) w4 hs4 hn5).mono ?_
  rintro e w5 ⟨rfl, hx5⟩
  have hx := hx4.trans hx5
  replace hP := hP.ext hx
  replace hB := hB.ext hx
  replace hE := hE.trans hx
  clear hx
  clear p0 p1 p2 p3 p4 p5
  clear hs4 hx4 hx5
  obtain ⟨SC, hSC⟩ : ∃ z, sgC key once (msgE pv pf pu pl) = z := ⟨_, rfl⟩
  obtain ⟨SS, hSS⟩ : ∃ z, sgS key once (msgE pv pf pu pl) = z := ⟨_, rfl⟩
  rw [hSC, hSS]
  have HSC := Lib.hid hSC
  have HSS := Lib.hid hSS
  clear hSC hSS
  generalize sgE key once = EE at *
  have hgb := hB.lt
  have hG := Bk.new w5 25 #[.int .i64 SC, .int .i64 SS]
  have hx := (Ext.refl w5).alloc (.cells #[.int .i64 SC, .int .i64 SS] 25)
  go_upto_region 7 with fail
  generalize w5.alloc (.cells #[.int .i64 SC, .int .i64 SS] 25) = V6 at *
  generalize w5.heap.size = gb at *
  replace hP := hP.ext hx
  replace hB := hB.ext hx
  replace hE := hE.trans hx
  clear hx
  go_upto_region 7 with fail
  have p3 := hP.c 3 _ rfl
  have plt := hP.lt
  have hg := @grow_cell
  refine region_tail 5 (by kernel_rfl) (by kernel_rfl) ?_
  simp only [List.take_succ_cons, List.take_zero, List.drop_succ_cons, List.drop_zero]
  repeat (go_big_quiet_step (fail))
  refine wpQuiet_nil ?_
  intro V7 hx7
  clear hg
  have hpX := (hp.ext hE).ext hx7
  have hb7 : b + 1 ≤ V7.heap.size := by have := hx7.sz; have := hB.lt; omega
  rcases Nat.eq_zero_or_pos pn with hn0 | hn0
  · have hpl := hp.hlen
    have hrw : ∀ c8 : Nat, RwF V7 pa pn 0 pl b := fun _ => by
      subst hn0
      obtain rfl : pl = [] := List.eq_nil_of_length_eq_zero hpl
      exact ⟨⟨rfl, Nat.le_refl _, Nat.zero_le _, by omega, fun i hi => absurd hi (by omega), by simp⟩, fun _ _ _ h => absurd h (by omega)⟩
    replace hrw := hrw 0
    have hx8 : Ext V6 V7 := hx7
    obtain ⟨W8, hW8⟩ : ∃ W8, W8 = V7 := ⟨_, rfl⟩
    rw [← hW8] at hx8 hrw ⊢
    obtain ⟨c8, hc8⟩ : ∃ z : Nat, z = 0 := ⟨_, rfl⟩
    obtain ⟨a8, ha8⟩ : ∃ z, z = pa := ⟨_, rfl⟩
    rw [← ha8, ← hc8] at hrw
    have hpn : ∀ (sc : Nat), Value.slice pa 0 0 = Value.slice a8 pn c8 := fun _ => by rw [ha8, hc8, hn0]
    have HPN := Lib.hid (hpn 0)
    have HN0 := Lib.hid hn0
    clear hx7 hpX hb7 ha8 hc8 hpn hn0 hW8
    go_wp2_with (at_builtin; refine app0 el_lp rfl _ _ rfl _ _ _ (by simp only [HN0.out]; rfl) _ _ (by rw [← HN0.out]; rfl) ?_; rw [HPN.out]; refine hold ?_)
    refine held ?_
    have hP8 := hP.ext hx8
    have hG8 := hG.ext hx8
    have hP9 := hP8.set3x (.slice a8 pn c8)
    have hB9 := (hB.ext hx8).otherE (show pb ≠ b by omega) 3 (.slice a8 pn c8)
    have hG9 := hG8.otherE (show pb ≠ gb by omega) 3 (.slice a8 pn c8)
    have hR9 := hrw.set (show pb ≤ b by omega) 3 (.slice a8 pn c8)
    have hE9 := (hE.trans hx8).setCell (p := ⟨pb, 3, none⟩) hpbs (.slice a8 pn c8)
    have hP0 := hP9.set45 (.int .i64 SC) (.int .i64 SS)
    have hB0 := (hB9.otherE (show pb ≠ b by omega) 4 (.int .i64 SC)).otherE (show pb ≠ b by omega) 5 (.int .i64 SS)
    have hR0 := (hR9.set (show pb ≤ b by omega) 4 (.int .i64 SC)).set (show pb ≤ b by omega) 5 (.int .i64 SS)
    have hE0 := (hE9.setCell (p := ⟨pb, 4, none⟩) hpbs (.int .i64 SC)).setCell (p := ⟨pb, 5, none⟩) hpbs (.int .i64 SS)
    have p3 := hP8.c 3 _ rfl
    have f3 := hP8.free 3
    have g0 := hG9.c 0 _ rfl
    have g1 := hG9.c 1 _ rfl
    have p4 := hP9.c 4 _ rfl
    have p5 := hP9.c 5 _ rfl
    have f4 := hP9.free 4
    have f5 := hP9.free 5
    clear hx8 hrw hP8 hG8 hP9 hB9 hR9 hE9 hG9
    clear hB hE hP hG
    have hB := hB0
    have hE := hE0
    clear hB0 hE0
    have q0 := hP0.c 0 _ rfl
    have q1 := hP0.c 1 _ rfl
    have q2 := hP0.c 2 _ rfl
    have q3 := hP0.c 3 _ rfl
    have q4 := hP0.c 4 _ rfl
    have q5 := hP0.c 5 _ rfl
    have b0 := hB.c 0 _ rfl
    have e0 := hB.free 0
    have b1 := hB.c 1 _ rfl
    have e1 := hB.free 1
    have b2 := hB.c 2 _ rfl
    have e2 := hB.free 2
    have b3 := hB.c 3 _ rfl
    have e3 := hB.free 3
    have b4 := hB.c 4 _ rfl
    have e4 := hB.free 4
    have b5 := hB.c 5 _ rfl
    have e5 := hB.free 5
    go_wp2_with fail
    exact bodyPost_ret (res_rsgn _ b (.int .i64 pv) (.int .i64 pf) (.int .i64 pu) (.slice a8 pn c8) (.int .i64 SC) (.int .i64 SS) (.int .i64 0) _ (by rfl) (by rfl) (hB.set6 _ _ _ _ _ _)) rfl ⟨((((((hE.setCell (p := ⟨b, 0, none⟩) hbs _).setCell (p := ⟨b, 1, none⟩) hbs _).setCell (p := ⟨b, 2, none⟩) hbs _).setCell (p := ⟨b, 3, none⟩) hbs _).setCell (p := ⟨b, 4, none⟩) hbs _).setCell (p := ⟨b, 5, none⟩) hbs _), .inl ⟨HPF.out, HSG.out, a8, pn, c8, by rw [HSC.out, HSS.out], (((((hR0.set (Nat.le_refl _) 0 _).set (Nat.le_refl _) 1 _).set (Nat.le_refl _) 2 _).set (Nat.le_refl _) 3 _).set (Nat.le_refl _) 4 _).set (Nat.le_refl _) 5 _ |>.1⟩⟩
  · obtain ⟨ab, ao, rfl, hcc⟩ := hpX.at hn0
    have hpl := hp.hlen
    go_wp2_with (at_builtin; refine appG0 el_lp rfl _ _ rfl _ _ rfl _ _ _ _ _ rfl hpX hn0 (by unfold maxLen; omega) (by omega) ?_; intro g c8 W8 ho hg8; refine hold ?_)
    refine held ?_
    have hx8 : Ext V6 W8 := hx7.trans hg8
    have hrw : RwF W8 (some ⟨g, 0, none⟩) pn c8 pl b := RwF.of (ho.baseLe hb7) hp.lim hp.wf
    obtain ⟨a8, ha8⟩ : ∃ z, z = (some ⟨g, 0, none⟩ : Option Addr) := ⟨_, rfl⟩
    rw [← ha8] at hrw ⊢
    clear ha8 ho hg8 hx7 hpX hcc hb7
    have hP8 := hP.ext hx8
    have hG8 := hG.ext hx8
    have hP9 := hP8.set3x (.slice a8 pn c8)
    have hB9 := (hB.ext hx8).otherE (show pb ≠ b by omega) 3 (.slice a8 pn c8)
    have hG9 := hG8.otherE (show pb ≠ gb by omega) 3 (.slice a8 pn c8)
    have hR9 := hrw.set (show pb ≤ b by omega) 3 (.slice a8 pn c8)
    have hE9 := (hE.trans hx8).setCell (p := ⟨pb, 3, none⟩) hpbs (.slice a8 pn c8)
    have hP0 := hP9.set45 (.int .i64 SC) (.int .i64 SS)
    have hB0 := (hB9.otherE (show pb ≠ b by omega) 4 (.int .i64 SC)).otherE (show pb ≠ b by omega) 5 (.int .i64 SS)
    have hR0 := (hR9.set (show pb ≤ b by omega) 4 (.int .i64 SC)).set (show pb ≤ b by omega) 5 (.int .i64 SS)
    have hE0 := (hE9.setCell (p := ⟨pb, 4, none⟩) hpbs (.int .i64 SC)).setCell (p := ⟨pb, 5, none⟩) hpbs (.int .i64 SS)
    have p3 := hP8.c 3 _ rfl
    have f3 := hP8.free 3
    have g0 := hG9.c 0 _ rfl
    have g1 := hG9.c 1 _ rfl
    have p4 := hP9.c 4 _ rfl
    have p5 := hP9.c 5 _ rfl
    have f4 := hP9.free 4
    have f5 := hP9.free 5
    clear hx8 hrw hP8 hG8 hP9 hB9 hR9 hE9 hG9
    clear hB hE hP hG
    have hB := hB0
    have hE := hE0
    clear hB0 hE0
    have q0 := hP0.c 0 _ rfl
    have q1 := hP0.c 1 _ rfl
    have q2 := hP0.c 2 _ rfl
    have q3 := hP0.c 3 _ rfl
    have q4 := hP0.c 4 _ rfl
    have q5 := hP0.c 5 _ rfl
    have b0 := hB.c 0 _ rfl
    have e0 := hB.free 0
    have b1 := hB.c 1 _ rfl
    have e1 := hB.free 1
    have b2 := hB.c 2 _ rfl
    have e2 := hB.free 2
    have b3 := hB.c 3 _ rfl
    have e3 := hB.free 3
    have b4 := hB.c 4 _ rfl
    have e4 := hB.free 4
    have b5 := hB.c 5 _ rfl
    have e5 := hB.free 5
    go_wp2_with fail
    exact bodyPost_ret (res_rsgn _ b (.int .i64 pv) (.int .i64 pf) (.int .i64 pu) (.slice a8 pn c8) (.int .i64 SC) (.int .i64 SS) (.int .i64 0) _ (by rfl) (by rfl) (hB.set6 _ _ _ _ _ _)) rfl ⟨((((((hE.setCell (p := ⟨b, 0, none⟩) hbs _).setCell (p := ⟨b, 1, none⟩) hbs _).setCell (p := ⟨b, 2, none⟩) hbs _).setCell (p := ⟨b, 3, none⟩) hbs _).setCell (p := ⟨b, 4, none⟩) hbs _).setCell (p := ⟨b, 5, none⟩) hbs _), .inl ⟨HPF.out, HSG.out, a8, pn, c8, by rw [HSC.out, HSS.out], (((((hR0.set (Nat.le_refl _) 0 _).set (Nat.le_refl _) 1 _).set (Nat.le_refl _) 2 _).set (Nat.le_refl _) 3 _).set (Nat.le_refl _) 4 _).set (Nat.le_refl _) 5 _ |>.1⟩⟩
end Go.Proofs.YtcohdojfbnijpaaDoor
