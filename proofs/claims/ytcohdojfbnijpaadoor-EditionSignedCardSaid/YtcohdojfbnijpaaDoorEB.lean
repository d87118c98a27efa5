/-
  Small functions of editions, by both, walked. Written by wip/gen_eb.py.
-/
import Derived.Test.YtcohdojfbnijpaaDoorEA
import Derived.Test.YtcohdojfbnijpaaDoorLibB
namespace Go.Proofs.YtcohdojfbnijpaaDoor
open Go.RowKit Go.Sort Go.Shelf
set_option linter.unusedSimpArgs false
set_option linter.unusedVariables false
set_option maxRecDepth 100000

theorem litE (k : IntKind) (E : TypeId) (w : World) (b n : Nat) (xs : List Int) (cs : Array Value) (hb : w.heap.size = b) (hn : xs.length = n) (hcs : cs.toList = xs.map (Value.int k)) (hm : xs.length ≤ maxLen) (hw : ∀ x ∈ xs, (Lit.int k x).wf = true) :
    Sl k (w.alloc (.cells cs E)) (some ⟨b, 0, none⟩) n n xs := by
  subst hb hn
  exact (OwI.lit k E (base := w.heap.size) w xs (Nat.le_refl _) hm cs hcs).sl hw
theorem lp_wf {x : Lp} (h : Cel.ok x) : ∀ y ∈ [x.d, x.s], (Lit.int .i64 y).wf = true := by
  intro y hy
  simp only [List.mem_cons, List.not_mem_nil, or_false] at hy
  rcases hy with rfl | rfl
  · exact Lp.Ok.a h
  · exact Lp.Ok.b h
theorem lenlit16 {vs : List Value} (h : vs.length = 16) : ∃ x0 x1 x2 x3 x4 x5 x6 x7 x8 x9 x10 x11 x12 x13 x14 x15 : Value, vs = [x0, x1, x2, x3, x4, x5, x6, x7, x8, x9, x10, x11, x12, x13, x14, x15] := by
  obtain ⟨x0, v0, rfl, h0⟩ := len_cons h
  obtain ⟨x1, v1, rfl, h1⟩ := len_cons h0
  obtain ⟨x2, v2, rfl, h2⟩ := len_cons h1
  obtain ⟨x3, v3, rfl, h3⟩ := len_cons h2
  obtain ⟨x4, v4, rfl, h4⟩ := len_cons h3
  obtain ⟨x5, v5, rfl, h5⟩ := len_cons h4
  obtain ⟨x6, v6, rfl, h6⟩ := len_cons h5
  obtain ⟨x7, v7, rfl, h7⟩ := len_cons h6
  obtain ⟨x8, v8, rfl, h8⟩ := len_cons h7
  obtain ⟨x9, v9, rfl, h9⟩ := len_cons h8
  obtain ⟨x10, v10, rfl, h10⟩ := len_cons h9
  obtain ⟨x11, v11, rfl, h11⟩ := len_cons h10
  obtain ⟨x12, v12, rfl, h12⟩ := len_cons h11
  obtain ⟨x13, v13, rfl, h13⟩ := len_cons h12
  obtain ⟨x14, v14, rfl, h14⟩ := len_cons h13
  obtain ⟨x15, v15, rfl, h15⟩ := len_cons h14
  obtain rfl := len_nil h15
  exact ⟨x0, x1, x2, x3, x4, x5, x6, x7, x8, x9, x10, x11, x12, x13, x14, x15, rfl⟩

def RNi2 (B n : Nat) (L : List Int) : RelL Ext := ⟨none, fun _ v W => ∃ g c, v = .slice (some ⟨g, 0, none⟩) n c ∧ OwI .i64 3 B W (some ⟨g, 0, none⟩) n c L, fun u v W W' ⟨g, c, h1, h2⟩ hE => ⟨g, c, h1, h2.ext hE⟩⟩
def RLi2 (B : Nat) (cs : Array Value) : RelL Ext := ⟨none, fun _ v W => ∃ b, v = .slice (some ⟨b, 0, none⟩) 2 2 ∧ B ≤ b ∧ W.heap[b]? = some (.cells cs 3 (0, 0)), fun _ v W W' ⟨b, h1, h2, h3⟩ hE => ⟨b, h1, h2, (hE.block b (Array.getElem?_eq_some_iff.1 h3).1).trans h3⟩⟩
def RSm2 (j : Nat) : RelL Ext := ⟨some j, fun u v _ => v = u, fun _ _ _ _ h _ => h⟩
theorem updE_false2 {listed : Nat → Bool} {i k : Nat} (h : updE listed i k = false) : listed k = false := by
  unfold updE at h
  simp only [Bool.or_eq_false_iff] at h
  exact h.1
theorem sl2_of_block {W : World} {b : Nat} {E : TypeId} {x y : Int} (h : W.heap[b]? = some (.cells #[.int .i64 x, .int .i64 y] E (0, 0))) (hw : ∀ z ∈ [x, y], (Lit.int .i64 z).wf = true) : Sl .i64 W (some ⟨b, 0, none⟩) 2 2 [x, y] :=
  ⟨rfl, Nat.le_refl _, by unfold maxLen; omega, fun i hi => ⟨b, 0, rfl, by
    have : i = 0 ∨ i = 1 := by omega
    rcases this with rfl | rfl
    · exact cell_of_block h 0 _ rfl
    · exact cell_of_block h 1 _ rfl⟩, hw⟩
/-- 'append(s, t...)' of integers; it tells which blocks stay. -/
theorem appSg2 {P : Program} {T E : TypeId} {k : IntKind} {by_ : Nat} (hE : ElT P T E (.int k 0) 1 by_) {ops : Array Oper} {rest : List Oper} {o : Oper} {a : Act} {Q : Exit → Act → World → Prop} (hgd : o.guard = none) (s x : Operand)
    (ho : o.op = .call { callee := .builtin .append, args := #[s, x], argTypes := #[T, T] })
    (w : World) (base : Nat) (sa : Option Addr) (n c : Nat) (xs : List Int) (hs : a.eval s = .slice sa n c) (hown : OwI k E base w sa n c xs)
    (ta : Option Addr) (m tc : Nat) (ys : List Int) (hx : a.eval x = .slice ta m tc) (ht : Sl k w ta m tc ys) (hm : 0 < m) (hbase : base ≤ w.heap.size) (h63 : n + m ≤ maxLen) (hbytes : (n + m) * by_ ≤ 140737488355328)
    (h : ∀ g cap w', OwI k E base w' (some ⟨g, 0, none⟩) (n + m) cap (xs ++ ys) → Below base w w' → w.grownBy w' (Value.slice sa n c).ownBlock → wpList P ops Q rest (a.put o.dst (.slice (some ⟨g, 0, none⟩) (n + m) cap)) w') :
    wpList P ops Q (o :: rest) a w := by
  obtain ⟨hT, hI⟩ := hE
  obtain ⟨i, hi, hz, hsz, hby⟩ := info_parts hI
  obtain ⟨b, off, rfl, hc⟩ := ht.at hm
  have hl := ht.hlen
  refine wpList_append_lies w hgd s x T ho base E i (.int k 0) 1 by_ hT hi hz hsz hby rfl (by decide) _ n _ hs hown ⟨b, off, none⟩ m tc (ys.map (Value.int k)) hx (by simp [hl]) ?_ ?_ hm h63 hbytes hbase w.heap.size rfl ?_
  · intro j u hu
    have hj : j < m := by
      rcases Nat.lt_or_ge j m with h | h
      · exact h
      · rw [List.getElem?_eq_none (by simp; omega)] at hu; cases hu
    have hadd : (⟨b, off, none⟩ : Addr).add j = ⟨b, off + j, none⟩ := by unfold Addr.add; split <;> simp_all
    rw [hadd, hc j hj]
    have hj' : j < ys.length := by omega
    simp [hj'] at hu
    rw [← hu]
    simp [nth, List.getD_eq_getElem?_getD, hj']
  · intro u hu
    simp only [List.mem_map] at hu
    obtain ⟨x, _, rfl⟩ := hu
    simp [Value.oneCell']
  · intro g cap w' h2 h3 _ _
    refine h g cap w' ?_ (below_grown hown hbase h3) h3
    unfold OwI
    rw [List.map_append]
    exact h2
theorem eqLp (d m d' m' : Int) (w : World) : (Op.equalIn 10000 52 (.agg #[.int .i64 d, .int .i64 m]) (.agg #[.int .i64 d', .int .i64 m'])).run Tryd.prog w = .ok (decide (d = d' ∧ m = m')) w := by
  have u3 := Tryd.underlying3
  have a3 := Tryd.isAgg3
  have z3 := Tryd.sizeOf3
  have hS : Tryd.prog.underlying 52 = some (.struct (Tryd.prog.fieldsOf 52)) := by kernel_rfl
  have hp : Tryd.prog.stoodInHeld 52 = false := by kernel_rfl
  rw [show (10000 : Nat) = 9999 + 1 from rfl, run_equalIn_agg w 9999 52 _ _ hS hp]
  simp only [Program.fieldsOf, Tryd.underlying52]
  go_simp
  by_cases h1 : d = d' <;> by_cases h2 : m = m' <;> simp [h1, h2]

set_option maxHeartbeats 4000000 in
theorem eformed_any (v f u : Int) (a : Option Addr) (n c : Nat) (l : List Lp) (C S : Int) (w : World) (h1 : Rw w a n c l) :
    Calls Tryd.prog 39 #[.agg #[.int .i64 v, .int .i64 f, .int .i64 u, .slice a n c, .int .i64 C, .int .i64 S]] w fun e w' => e = .returned (.bool (frmB v f u l)) ∧ Ext w w' := by
  have hB := Bk.new w 27 #[.int .i64 v, .int .i64 f, .int .i64 u, .slice a n c, .int .i64 C, .int .i64 S]
  have hE : Ext w (w.alloc (.cells #[.int .i64 v, .int .i64 f, .int .i64 u, .slice a n c, .int .i64 C, .int .i64 S] 27)) := (Ext.refl w).alloc _
  go_enter Tryd.func39, Tryd.ntmps39
  go_upto_region 1 with fail
  generalize w.alloc (.cells #[.int .i64 v, .int .i64 f, .int .i64 u, .slice a n c, .int .i64 C, .int .i64 S] 27) = W at *
  generalize hbe : w.heap.size = b at hB ⊢
  have hbs : w.heap.size ≤ b := Nat.le_of_eq hbe
  clear hbe
  have c0 := hB.c 0 _ rfl
  have c1 := hB.c 1 _ rfl
  have c2 := hB.c 2 _ rfl
  have c3 := hB.c 3 _ rfl
  have c4 := hB.c 4 _ rfl
  have c5 := hB.c 5 _ rfl
  by_cases k0 : 1 ≤ v
  · have d0 := decide_eq_true k0
    by_cases k1 : v ≤ 1000
    · have d1 := decide_eq_true k1
      by_cases k2 : 0 ≤ f
      · have d2 := decide_eq_true k2
        by_cases k3 : f < u
        · have d3 := decide_eq_true k3
          by_cases k4 : u ≤ 3000000000000000
          · have d4 := decide_eq_true k4
            have HK := Lib.hid (And.intro k0 (And.intro k1 (And.intro k2 (And.intro k3 k4))))
            go_wp2_with fail
            refine (lvalid_any a n c l W (h1.ext hE)).mono ?_
            rintro e w2 ⟨rfl, hx⟩
            have HR : Hid (frmB v f u l = validL l) := Lib.hid (by unfold frmB; rw [decide_eq_true HK.out.1, decide_eq_true HK.out.2.1, decide_eq_true HK.out.2.2.1, decide_eq_true HK.out.2.2.2.1, decide_eq_true HK.out.2.2.2.2]; rfl)
            go_wp2_with fail
            go_ret
            exact ⟨by rw [HR.out]; rfl, hE.trans hx⟩
          · have d4 := decide_eq_false k4
            have HR : Hid (frmB v f u l = false) := Lib.hid (frmB_no (by omega))
            go_wp2_with fail
            go_ret
            exact ⟨by rw [HR.out]; rfl, hE⟩
        · have d3 := decide_eq_false k3
          have HR : Hid (frmB v f u l = false) := Lib.hid (frmB_no (by omega))
          go_wp2_with fail
          go_ret
          exact ⟨by rw [HR.out]; rfl, hE⟩
      · have d2 := decide_eq_false k2
        have HR : Hid (frmB v f u l = false) := Lib.hid (frmB_no (by omega))
        go_wp2_with fail
        go_ret
        exact ⟨by rw [HR.out]; rfl, hE⟩
    · have d1 := decide_eq_false k1
      have HR : Hid (frmB v f u l = false) := Lib.hid (frmB_no (by omega))
      go_wp2_with fail
      go_ret
      exact ⟨by rw [HR.out]; rfl, hE⟩
  · have d0 := decide_eq_false k0
    have HR : Hid (frmB v f u l = false) := Lib.hid (frmB_no (by omega))
    go_wp2_with fail
    go_ret
    exact ⟨by rw [HR.out]; rfl, hE⟩

set_option maxHeartbeats 4000000 in
theorem rformed_any (v f u : Int) (a : Option Addr) (n c : Nat) (l : List Lp) (C S : Int) (w : World) (h1 : Rw w a n c l) :
    Calls Tryd.prog 25 #[.agg #[.int .i64 v, .int .i64 f, .int .i64 u, .slice a n c, .int .i64 C, .int .i64 S]] w fun e w' => e = .returned (.bool (frmB v f u l)) ∧ Ext w w' := by
  have hB := Bk.new w 27 #[.int .i64 v, .int .i64 f, .int .i64 u, .slice a n c, .int .i64 C, .int .i64 S]
  have hE : Ext w (w.alloc (.cells #[.int .i64 v, .int .i64 f, .int .i64 u, .slice a n c, .int .i64 C, .int .i64 S] 27)) := (Ext.refl w).alloc _
  go_enter Tryd.func25, Tryd.ntmps25
  go_upto_region 1 with fail
  generalize w.alloc (.cells #[.int .i64 v, .int .i64 f, .int .i64 u, .slice a n c, .int .i64 C, .int .i64 S] 27) = W at *
  generalize hbe : w.heap.size = b at hB ⊢
  have hbs : w.heap.size ≤ b := Nat.le_of_eq hbe
  clear hbe
  have c3 := hB.c 3 _ rfl
  go_wp2_with fail
  refine (rvalid17_any a n c l W (h1.ext hE)).mono ?_
  rintro e w2 ⟨rfl, hx⟩
  replace hB := hB.ext hx
  replace hE := hE.trans hx
  clear hx c3
  have c0 := hB.c 0 _ rfl
  have c1 := hB.c 1 _ rfl
  have c2 := hB.c 2 _ rfl
  have c3 := hB.c 3 _ rfl
  have c4 := hB.c 4 _ rfl
  have c5 := hB.c 5 _ rfl
  by_cases k0 : 1 ≤ v
  · have d0 := decide_eq_true k0
    by_cases k1 : v ≤ 1000
    · have d1 := decide_eq_true k1
      by_cases k2 : 0 ≤ f
      · have d2 := decide_eq_true k2
        by_cases k3 : f < u
        · have d3 := decide_eq_true k3
          by_cases k4 : u ≤ 3000000000000000
          · have d4 := decide_eq_true k4
            have HK := Lib.hid (And.intro k0 (And.intro k1 (And.intro k2 (And.intro k3 k4))))
            have HR : Hid (frmB v f u l = validL l) := Lib.hid (by unfold frmB; rw [decide_eq_true HK.out.1, decide_eq_true HK.out.2.1, decide_eq_true HK.out.2.2.1, decide_eq_true HK.out.2.2.2.1, decide_eq_true HK.out.2.2.2.2]; rfl)
            go_wp2_with fail
            go_ret
            exact ⟨by rw [HR.out]; rfl, hE⟩
          · have d4 := decide_eq_false k4
            have HR : Hid (frmB v f u l = false) := Lib.hid (frmB_no (by omega))
            go_wp2_with fail
            go_ret
            exact ⟨by rw [HR.out]; rfl, hE⟩
        · have d3 := decide_eq_false k3
          have HR : Hid (frmB v f u l = false) := Lib.hid (frmB_no (by omega))
          go_wp2_with fail
          go_ret
          exact ⟨by rw [HR.out]; rfl, hE⟩
      · have d2 := decide_eq_false k2
        have HR : Hid (frmB v f u l = false) := Lib.hid (frmB_no (by omega))
        go_wp2_with fail
        go_ret
        exact ⟨by rw [HR.out]; rfl, hE⟩
    · have d1 := decide_eq_false k1
      have HR : Hid (frmB v f u l = false) := Lib.hid (frmB_no (by omega))
      go_wp2_with fail
      go_ret
      exact ⟨by rw [HR.out]; rfl, hE⟩
  · have d0 := decide_eq_false k0
    have HR : Hid (frmB v f u l = false) := Lib.hid (frmB_no (by omega))
    go_wp2_with fail
    go_ret
    exact ⟨by rw [HR.out]; rfl, hE⟩

set_option maxHeartbeats 4000000 in
theorem emsg_any (v f u : Int) (a : Option Addr) (n c : Nat) (l : List Lp) (C S : Int) (w : World) (h1 : Rw w a n c l) (hn : n ≤ 110) (hv : (Lit.int .i64 v).wf = true) (hf : (Lit.int .i64 f).wf = true) (hu : (Lit.int .i64 u).wf = true) :
    Calls Tryd.prog 41 #[.agg #[.int .i64 v, .int .i64 f, .int .i64 u, .slice a n c, .int .i64 C, .int .i64 S]] w fun e w' => ∃ a' n' c', e = .returned (.slice a' n' c') ∧ n' = 3 + 2 * l.length ∧ OwI .i64 3 w.heap.size w' a' n' c' (msgE v f u l) ∧ Ext w w' := by
  have bd := h1.bd
  have HL := Lib.hid h1.hlen
  have hB := Bk.new w 27 #[.int .i64 v, .int .i64 f, .int .i64 u, .slice a n c, .int .i64 C, .int .i64 S]
  have hE : Ext w (w.alloc (.cells #[.int .i64 v, .int .i64 f, .int .i64 u, .slice a n c, .int .i64 C, .int .i64 S] 27)) := (Ext.refl w).alloc _
  go_enter Tryd.func41, Tryd.ntmps41
  go_upto_region 1 with fail
  generalize w.alloc (.cells #[.int .i64 v, .int .i64 f, .int .i64 u, .slice a n c, .int .i64 C, .int .i64 S] 27) = W at *
  generalize hbe : w.heap.size = b at hB ⊢
  have hbs : w.heap.size ≤ b := Nat.le_of_eq hbe
  clear hbe
  have c0 := hB.c 0 _ rfl
  have c1 := hB.c 1 _ rfl
  have c2 := hB.c 2 _ rfl
  have c3 := hB.c 3 _ rfl
  have c4 := hB.c 4 _ rfl
  have c5 := hB.c 5 _ rfl
  have ho0 := OwI.lit .i64 3 (base := W.heap.size) W [v, f, u] (Nat.le_refl _) (by unfold maxLen; simp) #[.int .i64 v, .int .i64 f, .int .i64 u] rfl
  have hx0 : Ext W (W.alloc (.cells #[.int .i64 v, .int .i64 f, .int .i64 u] 3)) := (Ext.refl W).alloc _
  go_upto_region 2 with fail
  simp only [List.length_cons, List.length_nil, Nat.zero_add, Nat.reduceAdd] at ho0
  generalize W.alloc (.cells #[.int .i64 v, .int .i64 f, .int .i64 u] 3) = V at *
  generalize hg0 : (some ⟨W.heap.size, 0, none⟩ : Option Addr) = g0 at ho0 ⊢
  clear hg0
  have hBV := hB.ext hx0
  clear c0 c1 c2 c3 c4 c5
  have c3 := hBV.c 3 _ rfl
  go_wp2_with fail
  clear c3
  go_loopw [3, 16] (fun s i wr => ∃ (k m cc : Nat) (aa : Option Addr), k ≤ n ∧ i = .int .i64 (k : Int) ∧ s = .slice aa m cc ∧ Hid (m = 3 + 2 * k) ∧ m ≤ 400 ∧ OwI .i64 3 W.heap.size wr aa m cc (v :: f :: u :: msgL (l.take k)) ∧ Ext W wr) (fun _ i _ => n - (intOf i).toNat)
  case atStart => exact ⟨0, 3, 3, _, by omega, rfl, rfl, Lib.hid rfl, by omega, by simpa [msgL] using ho0, hx0⟩
  case round =>
    obtain ⟨k, m, cc, aa, hk, rfl, rfl, HM, hm9, ho, hx⟩ := hrel
    have hBr := hB.ext hx
    have hEr := hE.trans hx
    have c3 := hBr.c 3 _ rfl
    have hz := hx.sz
    by_cases hlt : k < n
    · obtain ⟨x1, o1, rfl, hc1⟩ := (h1.ext hE).at (by omega)
      have hr := rangeAt_ext (hc1 k hlt) hx
      have hwx := h1.wfAt hlt
      have HT := Lib.hid (msgL_take (l := l) (k := k) (by rw [HL.out]; exact hlt))
      have hm2 : m + 2 ≤ 400 := by have := HM.out; omega
      rw [sz_lp] at hr
      clear hc1
      generalize nthR l k = x at *
      obtain ⟨d0, d1⟩ := cells_lp hr
      have lx := lt_of_cell d0
      have lb := hBr.lt
      clear hr
      go_upto_region 5 with fail
      have hX := Bk.new wr 52 #[.int .i64 x.d, .int .i64 x.s]
      have hx1 : Ext wr (wr.alloc (.cells #[.int .i64 x.d, .int .i64 x.s] 52)) := (Ext.refl wr).alloc _
      generalize wr.alloc (.cells #[.int .i64 x.d, .int .i64 x.s] 52) = X at *
      generalize wr.heap.size = px at *
      have e0 := hX.c 0 _ rfl
      have e1 := hX.c 1 _ rfl
      clear d0 d1
      have hlit := litE .i64 3 X _ 2 [x.d, x.s] #[.int .i64 x.d, .int .i64 x.s] rfl rfl rfl (by simp [maxLen]) (lp_wf hwx)
      have hE4 := hx1.alloc (.cells #[.int .i64 x.d, .int .i64 x.s] 3)
      have ho4 := ho.ext hE4
      have hz4 := (hx.trans hE4).sz
      go_wp2_with (at_builtin; refine appS el_i64 rfl _ _ rfl _ W.heap.size _ _ _ _ rfl ho4 _ _ _ _ rfl hlit (by omega) (by omega) (by unfold maxLen; omega) (by omega) ?_; intro g5 c5 w5 ho5 hB5; refine hold ?_)
      refine held ?_
      have hE5 : Ext W w5 := Below.trans (hx.trans hE4) hB5
      clear hlit hE4 ho4 hz4 hB5
      go_wp2_with fail
      refine ⟨⟨k + 1, m + 2, c5, _, by omega, by go_num, rfl, Lib.hid (by rw [HM.out]; omega), hm2, ?_, hE5⟩, by simp [intOf]; omega⟩
      rw [HT.out]
      exact ho5
    · obtain rfl : k = n := by omega
      have ht1 : l.take k = l := List.take_of_length_le (Nat.le_of_eq HL.out)
      rw [ht1] at ho
      have HN : Hid (m = 3 + 2 * l.length) := Lib.hid (by rw [HM.out, HL.out])
      go_wp2_with fail
      go_ret
      exact ⟨_, _, _, rfl, HN.out, ho.mono hE.sz, hEr⟩

set_option maxHeartbeats 4000000 in
theorem rmsg_any (v f u : Int) (a : Option Addr) (n c : Nat) (l : List Lp) (C S : Int) (w : World) (h1 : Rw w a n c l) (hn : n ≤ 110) (hv : (Lit.int .i64 v).wf = true) (hf : (Lit.int .i64 f).wf = true) (hu : (Lit.int .i64 u).wf = true) :
    Calls Tryd.prog 31 #[.agg #[.int .i64 v, .int .i64 f, .int .i64 u, .slice a n c, .int .i64 C, .int .i64 S]] w fun e w' => ∃ a' n' c', e = .returned (.slice a' n' c') ∧ n' = 3 + 2 * l.length ∧ OwI .i64 3 w.heap.size w' a' n' c' (msgE v f u l) ∧ Ext w w' := by
  have bd := h1.bd
  have HL := Lib.hid h1.hlen
  have hB := Bk.new w 27 #[.int .i64 v, .int .i64 f, .int .i64 u, .slice a n c, .int .i64 C, .int .i64 S]
  have hE : Ext w (w.alloc (.cells #[.int .i64 v, .int .i64 f, .int .i64 u, .slice a n c, .int .i64 C, .int .i64 S] 27)) := (Ext.refl w).alloc _
  go_enter Tryd.func31, Tryd.ntmps31
  go_upto_region 1 with fail
  generalize w.alloc (.cells #[.int .i64 v, .int .i64 f, .int .i64 u, .slice a n c, .int .i64 C, .int .i64 S] 27) = W at *
  generalize hbe : w.heap.size = b at hB ⊢
  have hbs : w.heap.size ≤ b := Nat.le_of_eq hbe
  clear hbe
  have c0 := hB.c 0 _ rfl
  have c1 := hB.c 1 _ rfl
  have c2 := hB.c 2 _ rfl
  have c3 := hB.c 3 _ rfl
  have c4 := hB.c 4 _ rfl
  have c5 := hB.c 5 _ rfl
  have ho0 := OwI.lit .i64 3 (base := W.heap.size) W [v, f, u] (Nat.le_refl _) (by unfold maxLen; simp) #[.int .i64 v, .int .i64 f, .int .i64 u] rfl
  have hx0 : Ext W (W.alloc (.cells #[.int .i64 v, .int .i64 f, .int .i64 u] 3)) := (Ext.refl W).alloc _
  go_upto_region 2 with fail
  simp only [List.length_cons, List.length_nil, Nat.zero_add, Nat.reduceAdd] at ho0
  generalize W.alloc (.cells #[.int .i64 v, .int .i64 f, .int .i64 u] 3) = V at *
  generalize hg0 : (some ⟨W.heap.size, 0, none⟩ : Option Addr) = g0 at ho0 ⊢
  clear hg0
  have hBV := hB.ext hx0
  clear c0 c1 c2 c3 c4 c5
  have c3 := hBV.c 3 _ rfl
  go_wp2_with fail
  clear c3
  go_loopw [3, 4] (fun s i wr => ∃ (k m cc : Nat) (aa : Option Addr), k ≤ n ∧ i = .int .i64 (k : Int) ∧ s = .slice aa m cc ∧ Hid (m = 3 + 2 * k) ∧ m ≤ 400 ∧ OwI .i64 3 W.heap.size wr aa m cc (v :: f :: u :: msgL (l.take k)) ∧ Ext W wr) (fun _ i _ => n - (intOf i).toNat)
  case atStart => exact ⟨0, 3, 3, _, by omega, rfl, rfl, Lib.hid rfl, by omega, by simpa [msgL] using ho0, hx0⟩
  case round =>
    obtain ⟨k, m, cc, aa, hk, rfl, rfl, HM, hm9, ho, hx⟩ := hrel
    have hBr := hB.ext hx
    have hEr := hE.trans hx
    have c3 := hBr.c 3 _ rfl
    have hz := hx.sz
    by_cases hlt : k < n
    · obtain ⟨x1, o1, rfl, hc1⟩ := (h1.ext hE).at (by omega)
      have hr := hc1 k hlt
      have hwx := h1.wfAt hlt
      have HT := Lib.hid (msgL_take (l := l) (k := k) (by rw [HL.out]; exact hlt))
      have hm2 : m + 2 ≤ 400 := by have := HM.out; omega
      rw [sz_lp] at hr
      clear hc1
      generalize nthR l k = x at *
      obtain ⟨d0, d1⟩ := cells_lp hr
      have lx := lt_of_cell d0
      have lb := hBr.lt
      clear hr
      have HWX := Lib.hid (lp_wf hwx)
      go_upto_region 5 with fail
      clear c3
      have c3 := hB.c 3 _ rfl
      refine region_relyF (fun listed W' => Ext W W' ∧ (listed 14 = false → Ext wr W')) [some 19, some 20, some 21, some 22, some 23, some 24, some 25, some 26, some 27, some 28, some 29, some 30, some 31, some 32, some 33, some 3] [[], [], [1], [], [1, 2, 3], [1, 2, 3, 4], [1, 2, 3, 4, 5], [], [7], [], [7, 8, 9], [7, 8, 9, 10], [7, 8, 9, 10, 11], [1, 2, 3, 4, 5, 6, 7, 8, 9, 10, 11, 12], [0, 1, 2, 3, 4, 5, 6, 7, 8, 9, 10, 11, 12, 13], [0, 1, 2, 3, 4, 5, 6, 7, 8, 9, 10, 11, 12, 13, 14]] [[], [], [1], [], [2, 3], [4], [5], [], [7], [], [8, 9], [10], [11], [6, 12], [0, 13], [14]] [none, none, none, none, none, none, none, none, none, none, none, none, none, none, none, some 14] [false, false, false, false, false, false, false, false, false, false, false, false, false, false, false, false] [.one (.slice aa m cc), .one (.pointer (some ⟨b, 3, none⟩)), .one (.slice (some ⟨x1, o1, none⟩) n c), .one (.int .i64 (k : Int)), .one (.pointer (some ⟨x1, o1 + k * 2, none⟩)), .one (.pointer (some ⟨x1, o1 + k * 2, none⟩)), .one (.int .i64 x.d), .one (.pointer (some ⟨b, 3, none⟩)), .one (.slice (some ⟨x1, o1, none⟩) n c), .one (.int .i64 (k : Int)), .one (.pointer (some ⟨x1, o1 + k * 2, none⟩)), .one (.pointer (some ⟨x1, o1 + k * 2 + 1, none⟩)), .one (.int .i64 x.s), RLi2 wr.heap.size #[.int .i64 x.d, .int .i64 x.s], RNi2 W.heap.size (m + 2) (v :: f :: u :: (msgL (l.take k) ++ [x.d, x.s])), RSm2 14] (by kernel_rfl) (by kernel_rfl) rfl ⟨hx.drew, fun _ => (Ext.refl wr).drew⟩ ?_ ?_
      · refine stepsF_cons ?_ ?_
        · intro listed vs W' hl hI hd hs hn hu hz ho9
          refine hold ?_
          obtain ⟨x0, x1, x2, x3, x4, x5, x6, x7, x8, x9, x10, x11, x12, x13, x14, x15, rfl⟩ := lenlit16 hl; clear hl
          refine held ?_
          simp only [putAll, Act.put, List.setIfInBounds_toArray, List.set_cons_succ, List.set_cons_zero]
          have h15z : listed 15 = false := by cases h : listed 15 with | false => rfl | true => exact absurd (by decide) (hu 15 h)
          obtain rfl : x15 = .slice aa m cc := ho9 15 (some 3) x15 h15z rfl rfl
          go_wp2_with fail
          exact relyE_done _ rfl rfl (Ext.refl _) ⟨hI.1, fun h => hI.2 (updE_false2 h)⟩
        refine stepsF_cons ?_ ?_
        · intro listed vs W' hl hI hd hs hn hu hz ho9
          refine hold ?_
          obtain ⟨x0, x1, x2, x3, x4, x5, x6, x7, x8, x9, x10, x11, x12, x13, x14, x15, rfl⟩ := lenlit16 hl; clear hl
          refine held ?_
          simp only [putAll, Act.put, List.setIfInBounds_toArray, List.set_cons_succ, List.set_cons_zero]
          go_wp2_with fail
          exact relyE_done _ rfl rfl (Ext.refl _) ⟨hI.1, fun h => hI.2 (updE_false2 h)⟩
        refine stepsF_cons ?_ ?_
        · intro listed vs W' hl hI hd hs hn hu hz ho9
          refine hold ?_
          obtain ⟨x0, x1, x2, x3, x4, x5, x6, x7, x8, x9, x10, x11, x12, x13, x14, x15, rfl⟩ := lenlit16 hl; clear hl
          simp only [factsL, atL, refV, List.getElem?_cons_succ, List.getElem?_cons_zero, List.getD_cons_succ, List.getD_cons_zero, RelL.one, RelL.any, RelL.blk, RelL.law, RNi2, RLi2, RSm2] at hd
          obtain ⟨rfl, -⟩ := hd
          refine held ?_
          simp only [putAll, Act.put, List.setIfInBounds_toArray, List.set_cons_succ, List.set_cons_zero]
          have q := hI.1.cell c3
          go_wp2_with fail
          exact relyE_done _ rfl rfl (Ext.refl _) ⟨hI.1, fun h => hI.2 (updE_false2 h)⟩
        refine stepsF_cons ?_ ?_
        · intro listed vs W' hl hI hd hs hn hu hz ho9
          refine hold ?_
          obtain ⟨x0, x1, x2, x3, x4, x5, x6, x7, x8, x9, x10, x11, x12, x13, x14, x15, rfl⟩ := lenlit16 hl; clear hl
          refine held ?_
          simp only [putAll, Act.put, List.setIfInBounds_toArray, List.set_cons_succ, List.set_cons_zero]
          go_wp2_with fail
          exact relyE_done _ rfl rfl (Ext.refl _) ⟨hI.1, fun h => hI.2 (updE_false2 h)⟩
        refine stepsF_cons ?_ ?_
        · intro listed vs W' hl hI hd hs hn hu hz ho9
          refine hold ?_
          obtain ⟨x0, x1, x2, x3, x4, x5, x6, x7, x8, x9, x10, x11, x12, x13, x14, x15, rfl⟩ := lenlit16 hl; clear hl
          simp only [factsL, atL, refV, List.getElem?_cons_succ, List.getElem?_cons_zero, List.getD_cons_succ, List.getD_cons_zero, RelL.one, RelL.any, RelL.blk, RelL.law, RNi2, RLi2, RSm2] at hd
          obtain ⟨rfl, rfl, -⟩ := hd
          refine held ?_
          simp only [putAll, Act.put, List.setIfInBounds_toArray, List.set_cons_succ, List.set_cons_zero]
          go_wp2_with fail
          exact relyE_done _ rfl rfl (Ext.refl _) ⟨hI.1, fun h => hI.2 (updE_false2 h)⟩
        refine stepsF_cons ?_ ?_
        · intro listed vs W' hl hI hd hs hn hu hz ho9
          refine hold ?_
          obtain ⟨x0, x1, x2, x3, x4, x5, x6, x7, x8, x9, x10, x11, x12, x13, x14, x15, rfl⟩ := lenlit16 hl; clear hl
          simp only [factsL, atL, refV, List.getElem?_cons_succ, List.getElem?_cons_zero, List.getD_cons_succ, List.getD_cons_zero, RelL.one, RelL.any, RelL.blk, RelL.law, RNi2, RLi2, RSm2] at hd
          obtain ⟨rfl, -⟩ := hd
          refine held ?_
          simp only [putAll, Act.put, List.setIfInBounds_toArray, List.set_cons_succ, List.set_cons_zero]
          go_wp2_with fail
          exact relyE_done _ rfl rfl (Ext.refl _) ⟨hI.1, fun h => hI.2 (updE_false2 h)⟩
        refine stepsF_cons ?_ ?_
        · intro listed vs W' hl hI hd hs hn hu hz ho9
          refine hold ?_
          obtain ⟨x0, x1, x2, x3, x4, x5, x6, x7, x8, x9, x10, x11, x12, x13, x14, x15, rfl⟩ := lenlit16 hl; clear hl
          simp only [factsL, atL, refV, List.getElem?_cons_succ, List.getElem?_cons_zero, List.getD_cons_succ, List.getD_cons_zero, RelL.one, RelL.any, RelL.blk, RelL.law, RNi2, RLi2, RSm2] at hd
          obtain ⟨rfl, -⟩ := hd
          refine held ?_
          simp only [putAll, Act.put, List.setIfInBounds_toArray, List.set_cons_succ, List.set_cons_zero]
          have q := hI.1.cell d0
          go_wp2_with fail
          exact relyE_done _ rfl rfl (Ext.refl _) ⟨hI.1, fun h => hI.2 (updE_false2 h)⟩
        refine stepsF_cons ?_ ?_
        · intro listed vs W' hl hI hd hs hn hu hz ho9
          refine hold ?_
          obtain ⟨x0, x1, x2, x3, x4, x5, x6, x7, x8, x9, x10, x11, x12, x13, x14, x15, rfl⟩ := lenlit16 hl; clear hl
          refine held ?_
          simp only [putAll, Act.put, List.setIfInBounds_toArray, List.set_cons_succ, List.set_cons_zero]
          go_wp2_with fail
          exact relyE_done _ rfl rfl (Ext.refl _) ⟨hI.1, fun h => hI.2 (updE_false2 h)⟩
        refine stepsF_cons ?_ ?_
        · intro listed vs W' hl hI hd hs hn hu hz ho9
          refine hold ?_
          obtain ⟨x0, x1, x2, x3, x4, x5, x6, x7, x8, x9, x10, x11, x12, x13, x14, x15, rfl⟩ := lenlit16 hl; clear hl
          simp only [factsL, atL, refV, List.getElem?_cons_succ, List.getElem?_cons_zero, List.getD_cons_succ, List.getD_cons_zero, RelL.one, RelL.any, RelL.blk, RelL.law, RNi2, RLi2, RSm2] at hd
          obtain ⟨rfl, -⟩ := hd
          refine held ?_
          simp only [putAll, Act.put, List.setIfInBounds_toArray, List.set_cons_succ, List.set_cons_zero]
          have q := hI.1.cell c3
          go_wp2_with fail
          exact relyE_done _ rfl rfl (Ext.refl _) ⟨hI.1, fun h => hI.2 (updE_false2 h)⟩
        refine stepsF_cons ?_ ?_
        · intro listed vs W' hl hI hd hs hn hu hz ho9
          refine hold ?_
          obtain ⟨x0, x1, x2, x3, x4, x5, x6, x7, x8, x9, x10, x11, x12, x13, x14, x15, rfl⟩ := lenlit16 hl; clear hl
          refine held ?_
          simp only [putAll, Act.put, List.setIfInBounds_toArray, List.set_cons_succ, List.set_cons_zero]
          go_wp2_with fail
          exact relyE_done _ rfl rfl (Ext.refl _) ⟨hI.1, fun h => hI.2 (updE_false2 h)⟩
        refine stepsF_cons ?_ ?_
        · intro listed vs W' hl hI hd hs hn hu hz ho9
          refine hold ?_
          obtain ⟨x0, x1, x2, x3, x4, x5, x6, x7, x8, x9, x10, x11, x12, x13, x14, x15, rfl⟩ := lenlit16 hl; clear hl
          simp only [factsL, atL, refV, List.getElem?_cons_succ, List.getElem?_cons_zero, List.getD_cons_succ, List.getD_cons_zero, RelL.one, RelL.any, RelL.blk, RelL.law, RNi2, RLi2, RSm2] at hd
          obtain ⟨rfl, rfl, -⟩ := hd
          refine held ?_
          simp only [putAll, Act.put, List.setIfInBounds_toArray, List.set_cons_succ, List.set_cons_zero]
          go_wp2_with fail
          exact relyE_done _ rfl rfl (Ext.refl _) ⟨hI.1, fun h => hI.2 (updE_false2 h)⟩
        refine stepsF_cons ?_ ?_
        · intro listed vs W' hl hI hd hs hn hu hz ho9
          refine hold ?_
          obtain ⟨x0, x1, x2, x3, x4, x5, x6, x7, x8, x9, x10, x11, x12, x13, x14, x15, rfl⟩ := lenlit16 hl; clear hl
          simp only [factsL, atL, refV, List.getElem?_cons_succ, List.getElem?_cons_zero, List.getD_cons_succ, List.getD_cons_zero, RelL.one, RelL.any, RelL.blk, RelL.law, RNi2, RLi2, RSm2] at hd
          obtain ⟨rfl, -⟩ := hd
          refine held ?_
          simp only [putAll, Act.put, List.setIfInBounds_toArray, List.set_cons_succ, List.set_cons_zero]
          go_wp2_with fail
          exact relyE_done _ rfl rfl (Ext.refl _) ⟨hI.1, fun h => hI.2 (updE_false2 h)⟩
        refine stepsF_cons ?_ ?_
        · intro listed vs W' hl hI hd hs hn hu hz ho9
          refine hold ?_
          obtain ⟨x0, x1, x2, x3, x4, x5, x6, x7, x8, x9, x10, x11, x12, x13, x14, x15, rfl⟩ := lenlit16 hl; clear hl
          simp only [factsL, atL, refV, List.getElem?_cons_succ, List.getElem?_cons_zero, List.getD_cons_succ, List.getD_cons_zero, RelL.one, RelL.any, RelL.blk, RelL.law, RNi2, RLi2, RSm2] at hd
          obtain ⟨rfl, -⟩ := hd
          refine held ?_
          simp only [putAll, Act.put, List.setIfInBounds_toArray, List.set_cons_succ, List.set_cons_zero]
          have q := hI.1.cell d1
          go_wp2_with fail
          exact relyE_done _ rfl rfl (Ext.refl _) ⟨hI.1, fun h => hI.2 (updE_false2 h)⟩
        refine stepsF_cons ?_ ?_
        · intro listed vs W' hl hI hd hs hn hu hz ho9
          refine hold ?_
          obtain ⟨x0, x1, x2, x3, x4, x5, x6, x7, x8, x9, x10, x11, x12, x13, x14, x15, rfl⟩ := lenlit16 hl; clear hl
          simp only [factsL, atL, refV, List.getElem?_cons_succ, List.getElem?_cons_zero, List.getD_cons_succ, List.getD_cons_zero, RelL.one, RelL.any, RelL.blk, RelL.law, RNi2, RLi2, RSm2] at hd
          obtain ⟨rfl, rfl, -⟩ := hd
          refine held ?_
          simp only [putAll, Act.put, List.setIfInBounds_toArray, List.set_cons_succ, List.set_cons_zero]
          go_wp2_with fail
          have h14z : listed 14 = false := by cases h : listed 14 with | false => rfl | true => exact absurd (by decide) (hu 14 h)
          exact relyE_done _ rfl ⟨_, rfl, (hI.2 h14z).sz, World.alloc_heap_new _ _⟩ ((Ext.refl _).alloc _) ⟨hI.1.alloc _, fun h => (hI.2 (updE_false2 h)).alloc _⟩
        refine stepsF_cons ?_ ?_
        · intro listed vs W' hl hI hd hs hn hu hz ho9
          refine hold ?_
          obtain ⟨x0, x1, x2, x3, x4, x5, x6, x7, x8, x9, x10, x11, x12, x13, x14, x15, rfl⟩ := lenlit16 hl; clear hl
          simp only [factsL, atL, refV, List.getElem?_cons_succ, List.getElem?_cons_zero, List.getD_cons_succ, List.getD_cons_zero, RelL.one, RelL.any, RelL.blk, RelL.law, RNi2, RLi2, RSm2] at hd
          obtain ⟨rfl, ⟨b2, rfl, hb2, hB2⟩, -⟩ := hd
          refine held ?_
          simp only [putAll, Act.put, List.setIfInBounds_toArray, List.set_cons_succ, List.set_cons_zero]
          have hz2 := hI.2 hz
          have hbz : W.heap.size ≤ W'.heap.size := hI.1.sz
          have ho2 := ho.ext hz2
          have hlit := sl2_of_block hB2 HWX.out
          go_wp2_with (at_builtin; refine appSg2 el_i64 rfl _ _ rfl _ W.heap.size _ _ _ _ rfl ho2 _ _ _ _ rfl hlit (by omega) hbz (by unfold maxLen; omega) (by omega) ?_; intro g3 c3 w3 hop hB hg; refine hold ?_)
          refine held ?_
          exact wpList_nil (relyE_store _ rfl ⟨_, _, rfl, hop⟩ hB.size ⟨fun _ _ h => h, fun _ _ h => h, fun _ _ h => h, fun _ _ h => h, fun _ _ h => h, fun _ _ h => h, fun _ _ h => h, fun _ _ h => h, fun _ _ h => h, fun _ _ h => h, fun _ _ h => h, fun _ _ h => h, fun _ _ h => h, fun _ _ ⟨b, e1, e2, e3⟩ => ⟨b, e1, e2, (hg.block b (Array.getElem?_eq_some_iff.1 e3).1 (fun e => Nat.lt_irrefl _ (Nat.lt_of_lt_of_le (World.ownsRow.lt ho b e.symm).2 e2))).trans e3⟩, fun _ hk _ => absurd rfl hk, fun _ _ h => h, trivial⟩ ⟨Below.trans hI.1 hB, fun h => by simp [updE] at h⟩)
        refine stepsF_cons ?_ ?_
        · intro listed vs W' hl hI hd hs hn hu hz ho9
          refine hold ?_
          obtain ⟨x0, x1, x2, x3, x4, x5, x6, x7, x8, x9, x10, x11, x12, x13, x14, x15, rfl⟩ := lenlit16 hl; clear hl
          simp only [factsL, atL, refV, List.getElem?_cons_succ, List.getElem?_cons_zero, List.getD_cons_succ, List.getD_cons_zero, RelL.one, RelL.any, RelL.blk, RelL.law, RNi2, RLi2, RSm2] at hd
          obtain ⟨⟨g3, c3', rfl, h3⟩, -⟩ := hd
          refine held ?_
          simp only [putAll, Act.put, List.setIfInBounds_toArray, List.set_cons_succ, List.set_cons_zero]
          go_wp2_with fail
          exact relyE_done _ rfl rfl (Ext.refl _) ⟨hI.1, fun h => hI.2 (updE_false2 h)⟩
        exact trivial
      · intro listed vs W' hl hall hI hd hn
        obtain ⟨x0, x1, x2, x3, x4, x5, x6, x7, x8, x9, x10, x11, x12, x13, x14, x15, rfl⟩ := lenlit16 hl; clear hl
        simp only [List.length_cons, List.length_nil, List.range, List.range.loop, Nat.zero_add, Nat.reduceAdd, factsL, atL, refV, List.getElem?_cons_succ, List.getElem?_cons_zero, List.getD_cons_succ, List.getD_cons_zero, RelL.one, RelL.any, RelL.blk, RelL.law, RNi2, RLi2, RSm2] at hd
        obtain ⟨rfl, rfl, rfl, rfl, rfl, rfl, rfl, rfl, rfl, rfl, rfl, rfl, rfl, -, ⟨g3, c3', rfl, h3⟩, rfl, -⟩ := hd
        simp only [putAll, Act.put, List.setIfInBounds_toArray, List.set_cons_succ, List.set_cons_zero]
        have hE5 := hI.1
        have ho5 := h3
        clear h3
        go_wp2_with fail
        refine ⟨⟨k + 1, m + 2, c3', _, by omega, by go_num, rfl, Lib.hid (by rw [HM.out]; omega), hm2, ?_, hE5⟩, by simp [intOf]; omega⟩
        rw [HT.out]
        exact ho5
    · obtain rfl : k = n := by omega
      have ht1 : l.take k = l := List.take_of_length_le (Nat.le_of_eq HL.out)
      rw [ht1] at ho
      have HN : Hid (m = 3 + 2 * l.length) := Lib.hid (by rw [HM.out, HL.out])
      go_wp2_with fail
      go_ret
      exact ⟨_, _, _, rfl, HN.out, ho.mono hE.sz, hEr⟩

set_option maxHeartbeats 4000000 in
theorem difference_any (a : Option Addr) (n c : Nat) (l : List Lp) (a2 : Option Addr) (n2 c2 : Nat) (l2 : List Lp) (w : World) (h1 : Rw w a n c l) (h2 : Rw w a2 n2 c2 l2) :
    Calls Tryd.prog 47 #[.slice a n c, .slice a2 n2 c2] w fun e w' => e = .returned (.tuple #[.int .i64 (difD l l2), .bool (difS l l2)]) ∧ Ext w w' := by
  have bd1 := h1.bd
  have bd2 := h2.bd
  have HL := Lib.hid h1.hlen
  have HL2 := Lib.hid h2.hlen
  go_enter Tryd.func47, Tryd.ntmps47
  go_wp2_with fail
  all_goals (
    go_loopw [12] (fun i wr => ∃ (k : Nat), k ≤ n ∧ k ≤ n2 ∧ i = .int .i64 (k : Int) ∧ Hid (∀ j, j < k → nthR l j = nthR l2 j) ∧ Ext w wr) (fun i _ => n + n2 - (intOf i).toNat)
    case atStart => exact ⟨0, by omega, by omega, rfl, Lib.hid (fun j hj => by omega), Ext.refl _⟩
    case round =>
      obtain ⟨k, hk, hk2, rfl, HK, hx⟩ := hrel
      have HD : Hid (difL l l2 = difL (l.drop k) (l2.drop k)) := Lib.hid (difL_at k (by rw [HL.out]; exact hk) (by rw [HL2.out]; exact hk2) HK.out)
      by_cases hlt : k < n
      · by_cases hlt2 : k < n2
        · obtain ⟨x1, o1, rfl, hc1⟩ := h1.at (by omega)
          obtain ⟨x2, o2, rfl, hc2⟩ := h2.at (by omega)
          have hr1 := rangeAt_ext (hc1 k hlt) hx
          have hr2 := rangeAt_ext (hc2 k hlt2) hx
          have e1 : l.drop k = nthR l k :: l.drop (k + 1) := by rw [List.drop_eq_getElem_cons (by rw [HL.out]; exact hlt), nthR_get (by rw [HL.out]; exact hlt)]
          have e2 : l2.drop k = nthR l2 k :: l2.drop (k + 1) := by rw [List.drop_eq_getElem_cons (by rw [HL2.out]; exact hlt2), nthR_get (by rw [HL2.out]; exact hlt2)]
          have HE : Hid (difL l l2 = if nthR l k = nthR l2 k then difL (l.drop (k + 1)) (l2.drop (k + 1)) else some (min (nthR l k).d (nthR l2 k).d)) := Lib.hid (by rw [HD.out, e1, e2]; rfl)
          clear hc1 hc2 e1 e2
          rw [sz_lp] at hr1 hr2
          obtain ⟨d0, d1⟩ := cells_lp hr1
          obtain ⟨e0, e1⟩ := cells_lp hr2
          have lx := lt_of_cell d0
          have ly := lt_of_cell e0
          clear hr1 hr2
          have hg := @grow_cell
          by_cases he : nthR l k = nthR l2 k
          · have HK2 : Hid (∀ j, j < k + 1 → nthR l j = nthR l2 j) := Lib.hid (fun j hj => by
              by_cases hjk : j = k
              · subst hjk; exact he
              · exact HK.out j (by omega))
            generalize nthR l k = x at *
            generalize nthR l2 k = y at *
            subst he
            have q := fun W => eqLp x.d x.s x.d x.s W
            go_upto_region 8 with fail
            refine region_ext (by kernel_rfl) (by kernel_rfl) ?_
            repeat (go_big_quiet_step (fail))
            refine wpQuiet_nil ?_
            intro w6 hx6
            go_wp2_with fail
            exact ⟨⟨k + 1, by omega, by omega, by go_num, HK2, hx.trans hx6⟩, by simp [intOf]; omega⟩
          · have HR : Hid (difL l l2 = some (min (nthR l k).d (nthR l2 k).d)) := Lib.hid (by rw [HE.out, if_neg he])
            generalize nthR l k = x at *
            generalize nthR l2 k = y at *
            have hne : ¬ (x.d = y.d ∧ x.s = y.s) := fun h => he (by cases x; cases y; simp_all)
            have q : ∀ W, (Op.equalIn 10000 52 (.agg #[.int .i64 x.d, .int .i64 x.s]) (.agg #[.int .i64 y.d, .int .i64 y.s])).run Tryd.prog W = .ok false W := fun W => by rw [eqLp, decide_eq_false hne]
            clear he hne HE HD
            go_upto_region 8 with fail
            refine region_ext (by kernel_rfl) (by kernel_rfl) ?_
            repeat (go_big_quiet_step (fail))
            refine wpQuiet_nil ?_
            intro w6 hx6
            replace d0 := hx6.cell d0
            replace e0 := hx6.cell e0
            replace lx := lt_of_cell d0
            replace ly := lt_of_cell e0
            replace hx := hx.trans hx6
            clear d1 e1 q
            have HR1 : Hid (difD l l2 = min x.d y.d) := Lib.hid (by unfold difD; rw [HR.out]; rfl)
            have HR2 : Hid (difS l l2 = true) := Lib.hid (by unfold difS; rw [HR.out]; rfl)
            go_upto_region 9 with fail
            refine region_ext (by kernel_rfl) (by kernel_rfl) ?_
            repeat (go_big_quiet_step (fail))
            refine wpQuiet_nil ?_
            intro w7 hx7
            go_wp2_with fail
            go_ret2
            exact ⟨by rw [HR1.out, HR2.out]; rfl, hx.trans hx7⟩
        · obtain rfl : k = n2 := by omega
          obtain ⟨x1, o1, rfl, hc1⟩ := h1.at (by omega)
          have hr1 := rangeAt_ext (hc1 k hlt) hx
          have e1 : l.drop k = nthR l k :: l.drop (k + 1) := by rw [List.drop_eq_getElem_cons (by rw [HL.out]; exact hlt), nthR_get (by rw [HL.out]; exact hlt)]
          have e2 : l2.drop k = [] := List.drop_of_length_le (Nat.le_of_eq HL2.out)
          have HR : Hid (difL l l2 = some (nthR l k).d) := Lib.hid (by rw [HD.out, e1, e2]; rfl)
          rw [sz_lp] at hr1
          obtain ⟨d0, d1⟩ := cells_lp hr1
          clear hc1 e1 e2 hr1 d1
          generalize nthR l k = x at *
          have HR1 : Hid (difD l l2 = x.d) := Lib.hid (by unfold difD; rw [HR.out]; rfl)
          have HR2 : Hid (difS l l2 = true) := Lib.hid (by unfold difS; rw [HR.out]; rfl)
          go_wp2_with fail
          go_ret2
          exact ⟨by rw [HR1.out, HR2.out]; rfl, hx⟩
      · obtain rfl : k = n := by omega
        have e1 : l.drop k = [] := List.drop_of_length_le (Nat.le_of_eq HL.out)
        by_cases hlt2 : k < n2
        · obtain ⟨x2, o2, rfl, hc2⟩ := h2.at (by omega)
          have hr2 := rangeAt_ext (hc2 k hlt2) hx
          have e2 : l2.drop k = nthR l2 k :: l2.drop (k + 1) := by rw [List.drop_eq_getElem_cons (by rw [HL2.out]; exact hlt2), nthR_get (by rw [HL2.out]; exact hlt2)]
          have HR : Hid (difL l l2 = some (nthR l2 k).d) := Lib.hid (by rw [HD.out, e1, e2]; rfl)
          rw [sz_lp] at hr2
          obtain ⟨d0, d1⟩ := cells_lp hr2
          clear hc2 e1 e2 hr2 d1
          generalize nthR l2 k = x at *
          have HR1 : Hid (difD l l2 = x.d) := Lib.hid (by unfold difD; rw [HR.out]; rfl)
          have HR2 : Hid (difS l l2 = true) := Lib.hid (by unfold difS; rw [HR.out]; rfl)
          go_wp2_with fail
          go_ret2
          exact ⟨by rw [HR1.out, HR2.out]; rfl, hx⟩
        · obtain rfl : k = n2 := by omega
          have e2 : l2.drop k = [] := List.drop_of_length_le (Nat.le_of_eq HL2.out)
          have HR : Hid (difL l l2 = none) := Lib.hid (by rw [HD.out, e1, e2]; rfl)
          have HR1 : Hid (difD l l2 = 0) := Lib.hid (by unfold difD; rw [HR.out]; rfl)
          have HR2 : Hid (difS l l2 = false) := Lib.hid (by unfold difS; rw [HR.out]; rfl)
          clear e1 e2
          go_wp2_with fail
          go_ret2
          exact ⟨by rw [HR1.out, HR2.out]; rfl, hx⟩)

end Go.Proofs.YtcohdojfbnijpaaDoor
