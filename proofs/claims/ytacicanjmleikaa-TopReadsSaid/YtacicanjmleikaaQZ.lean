/-
  Show of package commit, walked. Written by wip/gen_qz.py.
-/
import Derived.Test.YtacicanjmleikaaQY
namespace Go.Proofs.Ytacicanjmleikaa
open Go.RowKit Go.Sort Go.Shelf
set_option linter.unusedSimpArgs false
set_option linter.unusedVariables false
set_option maxRecDepth 100000

theorem allV_one (t : Tx) : allV [t] = verT t := by simp [allV]
theorem allV_succ {op : List Tx} {k : Nat} (h : k < op.length) : allV (op.take (k + 1)) = allV (op.take k) ++ verT (nthT op k) := by rw [take_nthT_succ h, allV_app, allV_one]
theorem putE_ok {l : List Vn} {v : Vn} (h : putE l v = 0) : ∀ x ∈ l, Cel.ok x := fun x hx => wfV_ok ((validV_iff.1 (putE_facts h).1).1 x hx)
theorem putE_ins {l : List Vn} {v : Vn} (h : putE l v = 0) : ∀ x ∈ insV l v, Cel.ok x := fun x hx => by
  rcases insV_mem.1 hx with hx | rfl
  · exact putE_ok h x hx
  · exact wfV_ok (putE_facts h).2.1
theorem putE_len {l : List Vn} {v : Vn} (h : putE l v = 0) : l.length < 4000 := (putE_facts h).2.2.2.1

def subS (a : Option Addr) (c m : Nat) : Option Addr := if c = m then a else a.map (·.add (m * 4))
theorem run_sliceLo (a : Option Addr) (n c m : Nat) (h : m ≤ n) (h2 : n ≤ c) (w : World) : (Instr.sliceAt 34 (.slice a n c) (some (.int .i64 (m : Nat))) none none).run Try.prog w = .ok (.slice (subS a c m) (n - m) (c - m)) w := by
  have h3 : (0 : Int) ≤ (m : Int) ∧ (m : Int) ≤ (n : Int) := by omega
  simp [Instr.sliceAt, Instr.slice, Instr.sliceBounds, Instr.sliceBound, go_sem, Try.underlying34, h3, h, asIntOf, subS, Try.sizeOf26]
theorem run_sliceHi (a : Option Addr) (n c m : Nat) (h : m ≤ c) (w : World) : (Instr.sliceAt 34 (.slice a n c) none (some (.int .i64 (m : Nat))) none).run Try.prog w = .ok (.slice a m c) w := by
  have h3 : (0 : Int) ≤ (m : Int) ∧ (m : Int) ≤ (c : Int) := by omega
  simp [Instr.sliceAt, Instr.slice, Instr.sliceBounds, Instr.sliceBound, go_sem, Try.underlying34, h3, h, asIntOf]
theorem wpList_val {P : Program} {ops : Array Oper} {rest : List Oper} {o : Oper} {a : Act} {Q : Exit → Act → World → Prop} (hgd : o.guard = none) (w : World) {v : Value} (hrun : (execOp a.eval o).run P w = .ok (.value v) w) (h : wpList P ops Q rest (a.put o.dst v) w) : wpList P ops Q (o :: rest) a w := by
  refine wpList_plain hgd fun K hK => ?_
  unfold Oper.wp
  simp [hrun]
  exact hK _ _ h
theorem exec_slice {P : Program} {ρ : Operand → Value} {o : Oper} {T : TypeId} {x : Operand} {lo hi mx : Option Operand} {v : Value} {w : World} (ho : o.op = .slice T x lo hi mx) (hrun : (Instr.sliceAt T (ρ x) (lo.map ρ) (hi.map ρ) (mx.map ρ)).run P w = .ok v w) : (execOp ρ o).run P w = .ok (.value v) w := by
  simp [execOp, ho, hrun, Result.andThen]
theorem Txs.dropS {W : World} {a : Option Addr} {n c : Nat} {ts : List Tx} (h : Txs W a n c ts) {m : Nat} (hm : m ≤ n) : Txs W (subS a c m) (n - m) (c - m) (ts.drop m) := by
  by_cases hn : m = n
  · subst hn
    have hl : ts.drop m = [] := by rw [List.drop_of_length_le (by rw [h.hlen]; exact Nat.le_refl _)]
    have hb := h.bd
    rw [hl, Nat.sub_self]
    exact ⟨[], ⟨rfl, by omega, by unfold maxLen; omega, by omega, fun i hi => absurd hi (by omega), by simp⟩, rfl, fun i hi => absurd hi (by omega)⟩
  · have hb := h.bd
    obtain ⟨b, off, rfl, _⟩ := h.at (by omega)
    have hd := h.dropA hm
    have e : subS (some ⟨b, off, none⟩) c m = some ⟨b, off + m * 4, none⟩ := by
      unfold subS
      rw [if_neg (by omega)]
      simp only [Option.map_some]
      congr 1
      exact Addr.add_lit b off (m * 4)
    rw [e]
    exact hd

theorem lenlit17 {vs : List Value} (h : vs.length = 17) : ∃ x0 x1 x2 x3 x4 x5 x6 x7 x8 x9 x10 x11 x12 x13 x14 x15 x16 : Value, vs = [x0, x1, x2, x3, x4, x5, x6, x7, x8, x9, x10, x11, x12, x13, x14, x15, x16] := by
  obtain ⟨x0, v0, rfl, h0⟩ := len_cons h
  obtain ⟨x1, v1, rfl, h1⟩ := len_cons h0
  obtain ⟨x2, v2, rfl, h2⟩ := len_cons h1
  obtain ⟨x3, v3, rfl, h3⟩ := len_cons h2
  obtain ⟨x4, v4, rfl, h4⟩ := len_cons h3
  obtain ⟨x5, v5, rfl, h5⟩ := len_cons h4
  obtain ⟨x6, v6, rfl, h6⟩ := len_cons h5
  obtain ⟨x7, v7, rfl, h7⟩ := len_cons h6
  obtain ⟨x8, v8, rfl, h8⟩ := len_cons h7
  obtain ⟨x9, v9, rfl, h9⟩ := len_cons h8
  obtain ⟨x10, v10, rfl, h10⟩ := len_cons h9
  obtain ⟨x11, v11, rfl, h11⟩ := len_cons h10
  obtain ⟨x12, v12, rfl, h12⟩ := len_cons h11
  obtain ⟨x13, v13, rfl, h13⟩ := len_cons h12
  obtain ⟨x14, v14, rfl, h14⟩ := len_cons h13
  obtain ⟨x15, v15, rfl, h15⟩ := len_cons h14
  obtain ⟨x16, v16, rfl, h16⟩ := len_cons h15
  obtain rfl := len_nil h16
  exact ⟨x0, x1, x2, x3, x4, x5, x6, x7, x8, x9, x10, x11, x12, x13, x14, x15, x16, rfl⟩

theorem res_show (W : World) (b : Nat) (v0 v1 v2 y1 y2 : Value) (tmps : Array Value) (hb : tmps[4]?.getD undef = .pointer (some ⟨b, 0, none⟩)) (h5 : tmps[5]?.getD undef = y1) (h6 : tmps[6]?.getD undef = y2) (h : Bk W b 36 #[v0, v1, v2]) :
    (results Try.f9 tmps).run Try.prog W = .ok (.tuple #[.agg #[v0, v1, v2], y1, y2]) W := by
  have c0 := h.c 0 _ rfl
  have c1 := h.c 1 _ rfl
  have c2 := h.c 2 _ rfl
  simp [results, Try.results9, go_sem, hb, h5, h6, c0, c1, c2]

theorem ld_two {W : World} {rb : Nat} {i : Int} {a1 a2 : Option Addr} {n1 c1 n2 c2 : Nat} (hB : Bk W rb 36 #[.int .i64 i, .slice a1 n1 c1, .slice a2 n2 c2]) {o : Nat} {x y : Int} (d0 : W.cell? ⟨rb, o, none⟩ = some (.int .i64 x)) (d1 : W.cell? ⟨rb, o + 1, none⟩ = some (.int .i64 y)) : False := by
  have q1 := hB.c 1 _ rfl
  have q2 := hB.c 2 _ rfl
  by_cases h0 : o = 0
  · subst h0
    rw [show 0 + 1 = 1 from rfl] at d1
    rw [q1] at d1; cases d1
  · by_cases h1 : o = 1
    · subst h1; rw [q1] at d0; cases d0
    · by_cases h2 : o = 2
      · subst h2; rw [q2] at d0; cases d0
      · unfold Bk at hB
        simp [World.cell?, hB] at d0
        rw [List.getElem?_eq_none (by simp; omega)] at d0
        cases d0
theorem Rw.setLdS {W : World} {rb : Nat} {i : Int} {a1 a2 : Option Addr} {n1 c1 n2 c2 : Nat} (hB : Bk W rb 36 #[.int .i64 i, .slice a1 n1 c1, .slice a2 n2 c2]) {a : Option Addr} {n c : Nat} {xs : List Sn} (h : Rw W a n c xs) (j : Nat) (v : Value) : Rw (W.setCell ⟨rb, j, none⟩ v) a n c xs := by
  refine h.below (fun b off ha h0 => heap_setCell_other W ⟨rb, j, none⟩ b v (fun e => ?_))
  simp only at e
  subst e
  obtain ⟨b', off', he, hc⟩ := h.cells 0 h0
  rw [ha] at he
  simp only [Option.some.injEq, Addr.mk.injEq, and_true] at he
  obtain ⟨rfl, rfl⟩ := he
  obtain ⟨d0, d1⟩ := cells_sn hc
  exact ld_two hB d0 d1
theorem Rw.setLdW {W : World} {rb : Nat} {i : Int} {a1 a2 : Option Addr} {n1 c1 n2 c2 : Nat} (hB : Bk W rb 36 #[.int .i64 i, .slice a1 n1 c1, .slice a2 n2 c2]) {a : Option Addr} {n c : Nat} {xs : List Wr} (h : Rw W a n c xs) (j : Nat) (v : Value) : Rw (W.setCell ⟨rb, j, none⟩ v) a n c xs := by
  refine h.below (fun b off ha h0 => heap_setCell_other W ⟨rb, j, none⟩ b v (fun e => ?_))
  simp only at e
  subst e
  obtain ⟨b', off', he, hc⟩ := h.cells 0 h0
  rw [ha] at he
  simp only [Option.some.injEq, Addr.mk.injEq, and_true] at he
  obtain ⟨rfl, rfl⟩ := he
  obtain ⟨d0, d1, _⟩ := cells_wr hc
  exact ld_two hB d0 d1
theorem Rw.setLdV {W : World} {rb : Nat} {i : Int} {a1 a2 : Option Addr} {n1 c1 n2 c2 : Nat} (hB : Bk W rb 36 #[.int .i64 i, .slice a1 n1 c1, .slice a2 n2 c2]) {a : Option Addr} {n c : Nat} {xs : List Vn} (h : Rw W a n c xs) (j : Nat) (v : Value) : Rw (W.setCell ⟨rb, j, none⟩ v) a n c xs := by
  refine h.below (fun b off ha h0 => heap_setCell_other W ⟨rb, j, none⟩ b v (fun e => ?_))
  simp only at e
  subst e
  obtain ⟨b', off', he, hc⟩ := h.cells 0 h0
  rw [ha] at he
  simp only [Option.some.injEq, Addr.mk.injEq, and_true] at he
  obtain ⟨rfl, rfl⟩ := he
  obtain ⟨d0, d1, _⟩ := cells_vn hc
  exact ld_two hB d0 d1
/-- A leader's block is written: rows of transactions stay. -/
theorem OwT.setLd {base : Nat} {W : World} {rb : Nat} {i : Int} {a1 a2 : Option Addr} {n1 c1 n2 c2 : Nat} (hB : Bk W rb 36 #[.int .i64 i, .slice a1 n1 c1, .slice a2 n2 c2]) (hb : rb < base) {a : Option Addr} {n c : Nat} {ts : List Tx} (h : OwT base W a n c ts) (j : Nat) (v : Value) : OwT base (W.setCell ⟨rb, j, none⟩ v) a n c ts := by
  obtain ⟨rs, h1, h2, h3⟩ := h
  exact ⟨rs, h1.setOff hb j v, h2, fun k hk => ⟨⟨(h3 k hk).l.id, (h3 k hk).l.ts, Rw.setLdS hB (h3 k hk).l.rd j v, Rw.setLdW hB (h3 k hk).l.wr j v⟩, (h3 k hk).ok, (h3 k hk).pr, (h3 k hk).pw⟩⟩
theorem OwT.set3 {base : Nat} {W : World} {rb : Nat} {i i' : Int} {a1 a2 a1' a2' : Option Addr} {n1 c1 n2 c2 n1' c1' n2' c2' : Nat} (hB : Bk W rb 36 #[.int .i64 i, .slice a1 n1 c1, .slice a2 n2 c2]) (hb : rb < base) {a : Option Addr} {n c : Nat} {ts : List Tx} (h : OwT base W a n c ts) :
    OwT base (((W.setCell ⟨rb, 0, none⟩ (.int .i64 i')).setCell ⟨rb, 1, none⟩ (.slice a1' n1' c1')).setCell ⟨rb, 2, none⟩ (.slice a2' n2' c2')) a n c ts :=
  OwT.setLd ((hB.set 0 (.int .i64 i')).set 1 (.slice a1' n1' c1')) hb (OwT.setLd (hB.set 0 (.int .i64 i')) hb (OwT.setLd hB hb h 0 _) 1 _) 2 _
theorem Rw.set3V {W : World} {rb : Nat} {i i' : Int} {a1 a2 a1' a2' : Option Addr} {n1 c1 n2 c2 n1' c1' n2' c2' : Nat} (hB : Bk W rb 36 #[.int .i64 i, .slice a1 n1 c1, .slice a2 n2 c2]) {a : Option Addr} {n c : Nat} {xs : List Vn} (h : Rw W a n c xs) :
    Rw (((W.setCell ⟨rb, 0, none⟩ (.int .i64 i')).setCell ⟨rb, 1, none⟩ (.slice a1' n1' c1')).setCell ⟨rb, 2, none⟩ (.slice a2' n2' c2')) a n c xs :=
  Rw.setLdV ((hB.set 0 (.int .i64 i')).set 1 (.slice a1' n1' c1')) (Rw.setLdV (hB.set 0 (.int .i64 i')) (Rw.setLdV hB h 0 _) 1 _) 2 _

/-- A row of transactions of the call's own, somewhere; and a leader that has it. -/
def RelTx (base n : Nat) (l : List Tx) : RelL Ext := ⟨none, fun _ v W => ∃ a c, v = .slice a n c ∧ OwT base W a n c l, fun _ v W W' ⟨a, c, h1, h2⟩ hE => ⟨a, c, h1, h2.ext hE⟩⟩
def RelLd (base : Nat) (last : Int) (a8 : Option Addr) (m8 c8 n : Nat) (l : List Tx) : RelL Ext := ⟨none, fun _ v W => ∃ a c, v = .agg #[.int .i64 last, .slice a8 m8 c8, .slice a n c] ∧ OwT base W a n c l, fun _ v W W' ⟨a, c, h1, h2⟩ hE => ⟨a, c, h1, h2.ext hE⟩⟩
/-- What is so at the end of Show. -/
structure ShoI (w wr : World) (rb base : Nat) (last : Int) (a8 : Option Addr) (m8 c8 n7 : Nat) (st' : List Vn) (ts : List Tx) (listed : Nat → Bool) (W : World) : Prop where
  ext : listed 14 = false → Ext wr W
  r : listed 14 = false → Bk W rb 36 #[.int .i64 0, .slice none 0 0, .slice none 0 0]
  e : Ext w W
  d : listed 14 = true → ∃ a c, Bk W rb 36 #[.int .i64 last, .slice a8 m8 c8, .slice a n7 c] ∧ OwT base W a n7 c ts ∧ Rw W a8 m8 c8 st'
theorem ShoI.other {w wr : World} {rb base : Nat} {last : Int} {a8 : Option Addr} {m8 c8 n7 : Nat} {st' : List Vn} {ts : List Tx} {listed : Nat → Bool} {W W' : World} (h : ShoI w wr rb base last a8 m8 c8 n7 st' ts listed W) {i : Nat} (h1 : i ≠ 14) (hx : Ext W W') : ShoI w wr rb base last a8 m8 c8 n7 st' ts (updE listed i) W' := by
  have e1 : updE listed i 14 = listed 14 := by simp [updE, h1.symm]
  refine ⟨?_, ?_, h.e.trans hx, ?_⟩
  · rw [e1]; exact fun q => (h.ext q).trans hx
  · rw [e1]; exact fun q => (h.r q).ext hx
  · rw [e1]; exact fun q => let ⟨a, c, p1, p2, p3⟩ := h.d q; ⟨a, c, p1.ext hx, p2.ext hx, p3.ext hx⟩

set_option maxHeartbeats 8000000 in
theorem cshow_any (r : LdR) (l : Ld) (lo hi : Int) (w : World) (h : LdL w r l) (hv : ValL l) (g1 : ivB lo hi = true) :
    Calls Try.prog 9 #[valL r, .agg #[.int .i64 lo, .int .i64 hi]] w fun e w' => ∃ r' a c, e = .returned (.tuple #[valL r', .slice a (pastN l.op lo) c, .int .i64 0]) ∧ LdL w' r' (shownL l lo) ∧ Ext w w' := by
  have HVA := Lib.hid (fun (V : World) (hx : Ext w V) => cvalid_any r l V (h.ext hx) hv)
  have hiv := fun (V : World) => ivalid_any lo hi V
  rw [g1] at hiv
  have HIV := Lib.hid hiv
  have HPA := Lib.hid (fun (V : World) (hx : Ext w V) => cpast_any r l lo V (h.ext hx) hv.good)
  have HPUT := Lib.hid (fun (k j : Nat) (hk : k < l.op.length) (hj : j < (nthT l.op k).wr.length) => hv.put hk hj)
  have HFORM := Lib.hid (fun (k : Nat) (hk : k < l.op.length) => (formT (hv.good.form _ (nthT_mem hk))).nw)
  have hNle := pastN_le l.op lo
  have HVL := Lib.hid hv
  have HSH : Hid (shownL l lo = ⟨l.last, putsV l.st (allV (l.op.take (pastN l.op lo))), l.op.drop (pastN l.op lo)⟩) := Lib.hid rfl
  have hsn4 : r.sn ≤ 4000 := by rw [← h.st.hlen]; exact (validV_iff.1 hv.st).2.2
  have HCV := Lib.hid (fun (V : World) (hx : Ext w V) => cloneV_any r.sa r.sn r.sc l.st V (h.st.ext hx) (by omega))
  clear hiv g1
  obtain ⟨N, hN⟩ : ∃ N, pastN l.op lo = N := ⟨_, rfl⟩
  rw [hN] at HPA hNle HSH ⊢
  clear hN hv
  obtain ⟨last, sa, sn, sc, oa, on, oc⟩ := r
  obtain ⟨last2, st, op⟩ := l
  obtain ⟨e1, hst, hop⟩ := h
  simp only at e1 hst hop hNle HSH HPUT HFORM HCV hsn4
  subst e1
  unfold valL at HVA HPA
  rw [show valL ⟨last, sa, sn, sc, oa, on, oc⟩ = .agg #[.int .i64 last, .slice sa sn sc, .slice oa on oc] from rfl]
  simp only at HVA HPA
  have b1 := hst.bd
  have b2 := hop.bd
  have HLO := Lib.hid hop.hlen
  have HOP := Lib.hid hop
  have hNon : N ≤ on := by have := HLO.out; omega
  have hNoc : (N : Int) ≤ (oc : Int) := by omega
  have HST := Lib.hid hst
  clear hNle hst
  have hB := ((Bk.new w 36 #[.int .i64 last, .slice sa sn sc, .slice oa on oc]).ext ((Ext.refl _).alloc (.cells #[.int .i64 lo, .int .i64 hi] 41))).ext ((Ext.refl _).alloc (.cells #[.int .i64 0, .slice none 0 0, .slice none 0 0] 36))
  have hI := (Bk.new (w.alloc (.cells #[.int .i64 last, .slice sa sn sc, .slice oa on oc] 36)) 41 #[.int .i64 lo, .int .i64 hi]).ext ((Ext.refl _).alloc (.cells #[.int .i64 0, .slice none 0 0, .slice none 0 0] 36))
  have hR := Bk.new ((w.alloc (.cells #[.int .i64 last, .slice sa sn sc, .slice oa on oc] 36)).alloc (.cells #[.int .i64 lo, .int .i64 hi] 41)) 36 #[.int .i64 0, .slice none 0 0, .slice none 0 0]
  have hE : Ext w (((w.alloc (.cells #[.int .i64 last, .slice sa sn sc, .slice oa on oc] 36)).alloc (.cells #[.int .i64 lo, .int .i64 hi] 41)).alloc (.cells #[.int .i64 0, .slice none 0 0, .slice none 0 0] 36)) := (((Ext.refl w).alloc _).alloc _).alloc _
  simp only [World.size_alloc] at hI hR
  go_enter Try.func9, Try.ntmps9
  go_upto_region 1 with fail
  generalize ((w.alloc (.cells #[.int .i64 last, .slice sa sn sc, .slice oa on oc] 36)).alloc (.cells #[.int .i64 lo, .int .i64 hi] 41)).alloc (.cells #[.int .i64 0, .slice none 0 0, .slice none 0 0] 36) = V at *
  obtain ⟨tb, htb⟩ : ∃ tb, w.heap.size = tb := ⟨_, rfl⟩
  obtain ⟨ib, hib⟩ : ∃ ib, w.heap.size + 1 = ib := ⟨_, rfl⟩
  obtain ⟨rb, hrb⟩ : ∃ rb, w.heap.size + 1 + 1 = rb := ⟨_, rfl⟩
  have hwr : w.heap.size ≤ rb := by omega
  rw [hrb] at hR ⊢
  rw [hib] at hI ⊢
  rw [htb] at hB ⊢
  clear htb hib hrb
  have c0 := hB.c 0 _ rfl
  have c1 := hB.c 1 _ rfl
  have c2 := hB.c 2 _ rfl
  have i0 := hI.c 0 _ rfl
  have i1 := hI.c 1 _ rfl
  go_wp2_with (go_at_call 17; refine (HVA.out V hE).mono ?_; rintro e V1 ⟨rfl, hx⟩; refine hold ?_)
  refine held ?_
  replace hB := hB.ext hx
  replace hI := hI.ext hx
  replace hR := hR.ext hx
  replace hE := hE.trans hx
  clear hx c0 c1 c2 i0 i1
  have c0 := hB.c 0 _ rfl
  have c1 := hB.c 1 _ rfl
  have c2 := hB.c 2 _ rfl
  have i0 := hI.c 0 _ rfl
  have i1 := hI.c 1 _ rfl
  go_wp2_with (go_at_call 18; refine (HIV.out V1).mono ?_; rintro e V2 ⟨rfl, hx⟩; refine hold ?_)
  refine held ?_
  replace hB := hB.ext hx
  replace hI := hI.ext hx
  replace hR := hR.ext hx
  replace hE := hE.trans hx
  clear hx c0 c1 c2 i0 i1
  have c0 := hB.c 0 _ rfl
  have c1 := hB.c 1 _ rfl
  have c2 := hB.c 2 _ rfl
  have i0 := hI.c 0 _ rfl
  have i1 := hI.c 1 _ rfl
  go_wp2_with (go_at_call 19; refine (HPA.out _ hE).mono ?_; rintro e V3 ⟨rfl, hx⟩; refine hold ?_)
  refine held ?_
  replace hB := hB.ext hx
  replace hI := hI.ext hx
  replace hR := hR.ext hx
  replace hE := hE.trans hx
  clear hx c0 c1 c2 i0 i1
  have c0 := hB.c 0 _ rfl
  have c1 := hB.c 1 _ rfl
  have c2 := hB.c 2 _ rfl
  have i0 := hI.c 0 _ rfl
  have i1 := hI.c 1 _ rfl
  go_wp2_with (go_at_call 20; refine (HCV.out _ hE).mono ?_; rintro e V4 ⟨a4, c4, rfl, ho4, hx⟩; refine hold ?_)
  refine held ?_
  replace ho4 := ho4.monoB hE.sz
  replace hB := hB.ext hx
  replace hI := hI.ext hx
  replace hR := hR.ext hx
  replace hE := hE.trans hx
  clear hx c0 c1 c2 i0 i1
  have c0 := hB.c 0 _ rfl
  have c1 := hB.c 1 _ rfl
  have c2 := hB.c 2 _ rfl
  have i0 := hI.c 0 _ rfl
  have i1 := hI.c 1 _ rfl
  go_wp2_with fail
  have C0 := Lib.hid c0
  have C2 := Lib.hid c2
  have HBB := Lib.hid hB
  have HRR := Lib.hid hR
  clear c0 c1 c2 i0 i1 hB hI hR
  have HSN : Hid (sn = st.length) := Lib.hid HST.out.hlen.symm
  go_loopw [8, 36] (fun o i wr => ∃ (k m : Nat) (a' : Option Addr) (c' : Nat), k ≤ N ∧ o = .slice a' m c' ∧ i = .int .i64 k ∧ Rw wr a' m c' (putsV st (allV (op.take k))) ∧ Ext V4 wr) (fun _ i _ => N - (intOf i).toNat)
  case atStart => exact ⟨0, sn, a4, c4, by omega, rfl, rfl, ho4.rw (by omega) HST.out.wf, Ext.refl _⟩
  case round =>
    obtain ⟨k, m, a', c', hk, rfl, rfl, ho, hx⟩ := hrel
    by_cases hlt : k < N
    · have HKO : Hid (k < op.length) := Lib.hid (by rw [HLO.out]; omega)
      obtain ⟨x1, o1, rfl, hc1⟩ := HOP.out.at (by omega)
      obtain ⟨r, hr0, htx, hok⟩ := hc1 k (by omega)
      have hr := rangeAt_ext hr0 (hE.trans hx)
      have HS := Lib.hid (allV_succ HKO.out)
      have h8 := HFORM.out k HKO.out
      have HVT := Lib.hid (verT_len (nthT op k))
      have HWN : Hid ((nthT op k).wr.length = r.wn) := Lib.hid htx.wr.hlen
      have HPT := Lib.hid (fun (j : Nat) (hj : j < r.wn) => HPUT.out k j HKO.out (by rw [HWN.out]; exact hj))
      have HVE := Lib.hid (fun (V : World) (hv : Ext w V) => cversions_any r (nthT op k) V (htx.ext hv) (by rw [← HWN.out]; omega))
      have HWF : Hid (∀ v ∈ verT (nthT op k), Cel.ok v) := Lib.hid (fun v hv => wfV_ok (HVL.out.good.wf v (List.mem_flatMap.2 ⟨_, nthT_mem HKO.out, hv⟩)))
      have hwn8 : r.wn ≤ 8 := by rw [← HWN.out]; exact h8
      rw [HWN.out] at HVT
      clear hr0 hc1 htx hok h8 HWN
      generalize nthT op k = t at *
      obtain ⟨ri, rt, ra, rn, rc, wa, wn, wc⟩ := r
      obtain ⟨d0, d1, d2, d3⟩ := cells_tr hr
      unfold valT at HVE
      simp only at d0 d1 d2 d3 HVE hwn8 HVT HPT
      clear hr
      have hb := Bk.new wr 26 #[.int .i64 ri, .int .i64 rt, .slice ra rn rc, .slice wa wn wc]
      have hE2 : Ext wr (wr.alloc (.cells #[.int .i64 ri, .int .i64 rt, .slice ra rn rc, .slice wa wn wc] 26)) := (Ext.refl wr).alloc _
      go_upto_region 8 with fail
      replace ho := ho.ext hE2
      replace hx := hx.trans hE2
      clear hE2 d0 d1 d2 d3
      generalize wr.alloc (.cells #[.int .i64 ri, .int .i64 rt, .slice ra rn rc, .slice wa wn wc] 26) = V5 at *
      have q0 := hb.c 0 _ rfl
      have q1 := hb.c 1 _ rfl
      have q2 := hb.c 2 _ rfl
      have q3 := hb.c 3 _ rfl
      go_wp2_with (go_at_call 21; refine (HVE.out V5 (hE.trans hx)).mono ?_; rintro e V6 ⟨a6, c6, rfl, ho6, hx6⟩; refine hold ?_)
      refine held ?_
      replace ho := ho.ext hx6
      replace hx := hx.trans hx6
      have hrv := ho6.rw (by omega) HWF.out
      clear hx6 q0 q1 q2 q3 hb ho6
      go_wp2_with fail
      go_loopw [8, 44] (fun o i wr => ∃ (j m : Nat) (a' : Option Addr) (c' : Nat), j ≤ wn ∧ o = .slice a' m c' ∧ i = .int .i64 j ∧ Rw wr a' m c' (putsV st (allV (op.take k) ++ (verT t).take j)) ∧ Ext V4 wr ∧ Ext V6 wr) (fun _ i _ => wn - (intOf i).toNat)
      case atStart => exact ⟨0, m, a', c', by omega, rfl, rfl, by rw [List.take_zero, List.append_nil]; exact ho, hx, Ext.refl _⟩
      case round =>
        clear ho hx
        obtain ⟨j, m, a', c', hj, rfl, rfl, ho, hx, hy⟩ := hrel
        by_cases hlt2 : j < wn
        · obtain ⟨x6, o6, rfl, hc6⟩ := hrv.at (by omega)
          have hr6 := rangeAt_ext (hc6 j hlt2) hy
          rw [sz_vn] at hr6
          have HPJ := Lib.hid (HPT.out j hlt2)
          have HT2 : Hid ((verT t).take (j + 1) = (verT t).take j ++ [nthR (verT t) j]) := Lib.hid (take_nthR_succ (by rw [HVT.out]; exact hlt2))
          clear hc6
          generalize nthR (verT t) j = x at *
          obtain ⟨d0, d1, d2, d3⟩ := cells_vn hr6
          clear hr6
          have hb := Bk.new wr 47 #[.int .i64 x.k, .int .i64 x.t, .int .i64 x.v, .bool x.g]
          have hE2 : Ext wr (wr.alloc (.cells #[.int .i64 x.k, .int .i64 x.t, .int .i64 x.v, .bool x.g] 47)) := (Ext.refl wr).alloc _
          go_upto_region 11 with fail
          replace ho := ho.ext hE2
          replace hx := hx.trans hE2
          replace hy := hy.trans hE2
          clear hE2 d0 d1 d2 d3
          generalize wr.alloc (.cells #[.int .i64 x.k, .int .i64 x.t, .int .i64 x.v, .bool x.g] 47) = V7 at *
          have q0 := hb.c 0 _ rfl
          have q1 := hb.c 1 _ rfl
          have q2 := hb.c 2 _ rfl
          have q3 := hb.c 3 _ rfl
          have hml : m < 4000 := by rw [← ho.hlen]; exact putE_len HPJ.out
          have HPC := Lib.hid (vput_any a' m c' _ x V7 ho HPJ.out)
          unfold valV at HPC
          go_wp2_with (go_at_call 22; refine HPC.out.mono ?_; rintro e V8 ⟨a8, c8, rfl, ho8, hx8⟩; refine hold ?_)
          refine held ?_
          clear q0 q1 q2 q3 hb
          go_wp2_with fail
          refine ⟨⟨j + 1, m + 1, a8, c8, by omega, rfl, by go_num, ?_, hx.trans hx8, hy.trans hx8⟩, by simp only [intOf]; omega⟩
          rw [HT2.out, ← List.append_assoc, putsV_snoc]
          exact ho8.rw (by omega) (putE_ins HPJ.out)
        · obtain rfl : wn = j := by omega
          go_wp2_with fail
          refine ⟨⟨k + 1, m, a', c', by omega, rfl, by go_num, ?_, hx⟩, by simp only [intOf]; omega⟩
          rw [HS.out]
          rw [List.take_of_length_le (l := verT t) (i := wn) (by rw [HVT.out]; exact Nat.le_refl _)] at ho
          exact ho
    · obtain rfl : N = k := by omega
      go_wp2_with fail
      have HTK := Lib.hid (HOP.out.ext (hE.trans hx))
      have HEE := Lib.hid (hE.trans hx)
      have C0p := Lib.hid (hx.cell C0.out)
      have C2p := Lib.hid (hx.cell C2.out)
      have hRb := HRR.out.ext hx
      have hrb1 : rb < wr.heap.size := hRb.lt
      have HDR := Lib.hid (HTK.out.dropS hNon)
      have HTA := Lib.hid (HTK.out.take hNon)
      have HOK8 : Hid (∀ t ∈ op, t.rd.length ≤ 1000000 ∧ t.wr.length ≤ 1000000) := Lib.hid (fun t ht => by
        have h1 := HVL.out.good.form t ht
        simp only [formB, Bool.and_eq_true, decide_eq_true_iff] at h1
        omega)
      have HN8 : Hid (on ≤ 1000000) := Lib.hid (by have := HVL.out.nop; simp only at this; rw [HLO.out] at this; omega)
      have HCP1 := Lib.hid (fun (W : World) (hW : Ext wr W) => copies_any _ _ _ _ W (HDR.out.ext hW) (by have := HN8.out; omega) (fun t ht => HOK8.out t (List.mem_of_mem_drop ht)))
      have HCP2 := Lib.hid (fun (W : World) (hW : Ext wr W) => copies_any _ _ _ _ W (HTA.out.ext hW) (by have := HN8.out; omega) (fun t ht => HOK8.out t (List.mem_of_mem_take ht)))
      have HROW := Lib.hid ho
      have HRS := Lib.hid (run_sliceLo oa on oc N hNon (by omega))
      have HRT := Lib.hid (run_sliceHi oa on oc N (by omega))
      have hEr0 : Ext w wr := hE.trans hx
      have HI : ShoI w wr rb wr.heap.size last a' m c' (on - N) (putsV st (allV (op.take N))) (op.drop N) (fun _ => false) { wr with drawn := wr.drawn + 1 } := ⟨fun _ => (Ext.refl wr).drew, fun _ => hRb.ext (Ext.refl wr).drew, hEr0.drew, (fun h => by cases h)⟩
      clear hx ho hRb hEr0
      go_upto_region 17 with fail
      refine region_relyF (ShoI w wr rb wr.heap.size last a' m c' (on - N) (putsV st (allV (op.take N))) (op.drop N)) [some 61, some 62, some 63, some 64, some 65, some 66, some 67, some 68, some 69, some 70, some 71, some 72, some 73, some 74, none, some 5, some 6] [[], [0], [], [], [3], [], [3, 4, 5], [3, 4, 5, 6], [0, 1, 2, 3, 4, 5, 6, 7], [], [9], [], [9, 10, 11], [3, 4, 5, 6, 7, 9, 10, 11, 12], [0, 1, 2, 3, 4, 5, 6, 7, 8, 9, 10, 11, 12, 13], [0, 1, 2, 3, 4, 5, 6, 7, 8, 9, 10, 11, 12, 13, 14], [0, 1, 2, 3, 4, 5, 6, 7, 8, 9, 10, 11, 12, 13, 14, 15]] [[], [0], [], [], [3], [], [4, 5], [6], [1, 2, 7], [], [9], [], [10, 11], [12], [8], [13], []] [none, none, none, none, none, none, none, none, none, none, none, none, none, none, none, none, none] [false, false, false, false, false, false, false, false, false, false, false, false, false, false, false, false, false] [.one ((.pointer (some ⟨tb, 0, none⟩))), .one ((.int .i64 last)), .one ((.slice a' m c')), .one ((.pointer (some ⟨tb, 2, none⟩))), .one ((.slice oa on oc)), .one ((.int .i64 (N : Nat))), .one ((.slice (subS oa oc N) (on - N) (oc - N))), RelTx wr.heap.size (on - N) (op.drop N), RelLd wr.heap.size last a' m c' (on - N) (op.drop N), .one ((.pointer (some ⟨tb, 2, none⟩))), .one ((.slice oa on oc)), .one ((.int .i64 (N : Nat))), .one ((.slice oa N oc)), .law (fun v => ∃ a c, v = .slice a N c), .any, .law (fun v => ∃ a c, v = .slice a N c), .one ((.int .i64 0))] (by kernel_rfl) (by kernel_rfl) rfl HI ?_ ?_
      · refine stepsF_cons ?_ ?_
        · intro listed vs W' hl hI hd hs hn hu hz ho9
          refine hold ?_
          obtain ⟨x0, x1, x2, x3, x4, x5, x6, x7, x8, x9, x10, x11, x12, x13, x14, x15, x16, rfl⟩ := lenlit17 hl; clear hl
          refine held ?_
          simp only [putAll, Act.put, List.setIfInBounds_toArray, List.set_cons_succ, List.set_cons_zero]
          go_wp2_with fail
          exact relyE_done _ rfl rfl (Ext.refl _) (hI.other (by decide) (Ext.refl _))
        refine stepsF_cons ?_ ?_
        · intro listed vs W' hl hI hd hs hn hu hz ho9
          refine hold ?_
          obtain ⟨x0, x1, x2, x3, x4, x5, x6, x7, x8, x9, x10, x11, x12, x13, x14, x15, x16, rfl⟩ := lenlit17 hl; clear hl
          simp only [factsL, atL, refV, List.getElem?_cons_succ, List.getElem?_cons_zero, List.getD_cons_succ, List.getD_cons_zero, RelL.one, RelL.any, RelL.blk, RelL.law, RelTx, RelLd] at hd
          obtain ⟨rfl, -⟩ := hd
          refine held ?_
          simp only [putAll, Act.put, List.setIfInBounds_toArray, List.set_cons_succ, List.set_cons_zero]
          have h14 : listed 14 = false := by cases h : listed 14 with | false => rfl | true => exact absurd (by decide) (hu 14 h)
          have q0 := (hI.ext h14).cell C0p.out
          go_wp2_with fail
          exact relyE_done _ rfl rfl (Ext.refl _) (hI.other (by decide) (Ext.refl _))
        refine stepsF_cons ?_ ?_
        · intro listed vs W' hl hI hd hs hn hu hz ho9
          refine hold ?_
          obtain ⟨x0, x1, x2, x3, x4, x5, x6, x7, x8, x9, x10, x11, x12, x13, x14, x15, x16, rfl⟩ := lenlit17 hl; clear hl
          refine held ?_
          simp only [putAll, Act.put, List.setIfInBounds_toArray, List.set_cons_succ, List.set_cons_zero]
          go_wp2_with fail
          exact relyE_done _ rfl rfl (Ext.refl _) (hI.other (by decide) (Ext.refl _))
        refine stepsF_cons ?_ ?_
        · intro listed vs W' hl hI hd hs hn hu hz ho9
          refine hold ?_
          obtain ⟨x0, x1, x2, x3, x4, x5, x6, x7, x8, x9, x10, x11, x12, x13, x14, x15, x16, rfl⟩ := lenlit17 hl; clear hl
          refine held ?_
          simp only [putAll, Act.put, List.setIfInBounds_toArray, List.set_cons_succ, List.set_cons_zero]
          go_wp2_with fail
          exact relyE_done _ rfl rfl (Ext.refl _) (hI.other (by decide) (Ext.refl _))
        refine stepsF_cons ?_ ?_
        · intro listed vs W' hl hI hd hs hn hu hz ho9
          refine hold ?_
          obtain ⟨x0, x1, x2, x3, x4, x5, x6, x7, x8, x9, x10, x11, x12, x13, x14, x15, x16, rfl⟩ := lenlit17 hl; clear hl
          simp only [factsL, atL, refV, List.getElem?_cons_succ, List.getElem?_cons_zero, List.getD_cons_succ, List.getD_cons_zero, RelL.one, RelL.any, RelL.blk, RelL.law, RelTx, RelLd] at hd
          obtain ⟨rfl, -⟩ := hd
          refine held ?_
          simp only [putAll, Act.put, List.setIfInBounds_toArray, List.set_cons_succ, List.set_cons_zero]
          have h14 : listed 14 = false := by cases h : listed 14 with | false => rfl | true => exact absurd (by decide) (hu 14 h)
          have q2 := (hI.ext h14).cell C2p.out
          go_wp2_with fail
          exact relyE_done _ rfl rfl (Ext.refl _) (hI.other (by decide) (Ext.refl _))
        refine stepsF_cons ?_ ?_
        · intro listed vs W' hl hI hd hs hn hu hz ho9
          refine hold ?_
          obtain ⟨x0, x1, x2, x3, x4, x5, x6, x7, x8, x9, x10, x11, x12, x13, x14, x15, x16, rfl⟩ := lenlit17 hl; clear hl
          refine held ?_
          simp only [putAll, Act.put, List.setIfInBounds_toArray, List.set_cons_succ, List.set_cons_zero]
          go_wp2_with fail
          exact relyE_done _ rfl rfl (Ext.refl _) (hI.other (by decide) (Ext.refl _))
        refine stepsF_cons ?_ ?_
        · intro listed vs W' hl hI hd hs hn hu hz ho9
          refine hold ?_
          obtain ⟨x0, x1, x2, x3, x4, x5, x6, x7, x8, x9, x10, x11, x12, x13, x14, x15, x16, rfl⟩ := lenlit17 hl; clear hl
          simp only [factsL, atL, refV, List.getElem?_cons_succ, List.getElem?_cons_zero, List.getD_cons_succ, List.getD_cons_zero, RelL.one, RelL.any, RelL.blk, RelL.law, RelTx, RelLd] at hd
          obtain ⟨rfl, rfl, -⟩ := hd
          refine held ?_
          simp only [putAll, Act.put, List.setIfInBounds_toArray, List.set_cons_succ, List.set_cons_zero]
          refine wpList_val rfl _ (exec_slice rfl (HRS.out _)) ?_
          go_wp2_with fail
          exact relyE_done _ rfl rfl (Ext.refl _) (hI.other (by decide) (Ext.refl _))
        refine stepsF_cons ?_ ?_
        · intro listed vs W' hl hI hd hs hn hu hz ho9
          refine hold ?_
          obtain ⟨x0, x1, x2, x3, x4, x5, x6, x7, x8, x9, x10, x11, x12, x13, x14, x15, x16, rfl⟩ := lenlit17 hl; clear hl
          simp only [factsL, atL, refV, List.getElem?_cons_succ, List.getElem?_cons_zero, List.getD_cons_succ, List.getD_cons_zero, RelL.one, RelL.any, RelL.blk, RelL.law, RelTx, RelLd] at hd
          obtain ⟨rfl, -⟩ := hd
          refine held ?_
          simp only [putAll, Act.put, List.setIfInBounds_toArray, List.set_cons_succ, List.set_cons_zero]
          have h14 : listed 14 = false := by cases h : listed 14 with | false => rfl | true => exact absurd (by decide) (hu 14 h)
          go_wp2_with fail
          refine (HCP1.out W' (hI.ext h14)).mono ?_
          rintro e w' ⟨a', c', rfl, ho, hx⟩
          go_wp2_with fail
          exact relyE_done _ rfl ⟨a', c', rfl, ho.mono (hI.ext h14).sz⟩ hx (hI.other (by decide) hx)
        refine stepsF_cons ?_ ?_
        · intro listed vs W' hl hI hd hs hn hu hz ho9
          refine hold ?_
          obtain ⟨x0, x1, x2, x3, x4, x5, x6, x7, x8, x9, x10, x11, x12, x13, x14, x15, x16, rfl⟩ := lenlit17 hl; clear hl
          simp only [factsL, atL, refV, List.getElem?_cons_succ, List.getElem?_cons_zero, List.getD_cons_succ, List.getD_cons_zero, RelL.one, RelL.any, RelL.blk, RelL.law, RelTx, RelLd] at hd
          obtain ⟨rfl, rfl, ⟨a7, c7, rfl, ho7⟩, -⟩ := hd
          refine held ?_
          simp only [putAll, Act.put, List.setIfInBounds_toArray, List.set_cons_succ, List.set_cons_zero]
          go_wp2_with fail
          exact relyE_done _ rfl ⟨_, _, rfl, ho7⟩ (Ext.refl _) (hI.other (by decide) (Ext.refl _))
        refine stepsF_cons ?_ ?_
        · intro listed vs W' hl hI hd hs hn hu hz ho9
          refine hold ?_
          obtain ⟨x0, x1, x2, x3, x4, x5, x6, x7, x8, x9, x10, x11, x12, x13, x14, x15, x16, rfl⟩ := lenlit17 hl; clear hl
          refine held ?_
          simp only [putAll, Act.put, List.setIfInBounds_toArray, List.set_cons_succ, List.set_cons_zero]
          go_wp2_with fail
          exact relyE_done _ rfl rfl (Ext.refl _) (hI.other (by decide) (Ext.refl _))
        refine stepsF_cons ?_ ?_
        · intro listed vs W' hl hI hd hs hn hu hz ho9
          refine hold ?_
          obtain ⟨x0, x1, x2, x3, x4, x5, x6, x7, x8, x9, x10, x11, x12, x13, x14, x15, x16, rfl⟩ := lenlit17 hl; clear hl
          simp only [factsL, atL, refV, List.getElem?_cons_succ, List.getElem?_cons_zero, List.getD_cons_succ, List.getD_cons_zero, RelL.one, RelL.any, RelL.blk, RelL.law, RelTx, RelLd] at hd
          obtain ⟨rfl, -⟩ := hd
          refine held ?_
          simp only [putAll, Act.put, List.setIfInBounds_toArray, List.set_cons_succ, List.set_cons_zero]
          have h14 : listed 14 = false := by cases h : listed 14 with | false => rfl | true => exact absurd (by decide) (hu 14 h)
          have q2 := (hI.ext h14).cell C2p.out
          go_wp2_with fail
          exact relyE_done _ rfl rfl (Ext.refl _) (hI.other (by decide) (Ext.refl _))
        refine stepsF_cons ?_ ?_
        · intro listed vs W' hl hI hd hs hn hu hz ho9
          refine hold ?_
          obtain ⟨x0, x1, x2, x3, x4, x5, x6, x7, x8, x9, x10, x11, x12, x13, x14, x15, x16, rfl⟩ := lenlit17 hl; clear hl
          refine held ?_
          simp only [putAll, Act.put, List.setIfInBounds_toArray, List.set_cons_succ, List.set_cons_zero]
          go_wp2_with fail
          exact relyE_done _ rfl rfl (Ext.refl _) (hI.other (by decide) (Ext.refl _))
        refine stepsF_cons ?_ ?_
        · intro listed vs W' hl hI hd hs hn hu hz ho9
          refine hold ?_
          obtain ⟨x0, x1, x2, x3, x4, x5, x6, x7, x8, x9, x10, x11, x12, x13, x14, x15, x16, rfl⟩ := lenlit17 hl; clear hl
          simp only [factsL, atL, refV, List.getElem?_cons_succ, List.getElem?_cons_zero, List.getD_cons_succ, List.getD_cons_zero, RelL.one, RelL.any, RelL.blk, RelL.law, RelTx, RelLd] at hd
          obtain ⟨rfl, rfl, -⟩ := hd
          refine held ?_
          simp only [putAll, Act.put, List.setIfInBounds_toArray, List.set_cons_succ, List.set_cons_zero]
          refine wpList_val rfl _ (exec_slice rfl (HRT.out _)) ?_
          go_wp2_with fail
          exact relyE_done _ rfl rfl (Ext.refl _) (hI.other (by decide) (Ext.refl _))
        refine stepsF_cons ?_ ?_
        · intro listed vs W' hl hI hd hs hn hu hz ho9
          refine hold ?_
          obtain ⟨x0, x1, x2, x3, x4, x5, x6, x7, x8, x9, x10, x11, x12, x13, x14, x15, x16, rfl⟩ := lenlit17 hl; clear hl
          simp only [factsL, atL, refV, List.getElem?_cons_succ, List.getElem?_cons_zero, List.getD_cons_succ, List.getD_cons_zero, RelL.one, RelL.any, RelL.blk, RelL.law, RelTx, RelLd] at hd
          obtain ⟨rfl, -⟩ := hd
          refine held ?_
          simp only [putAll, Act.put, List.setIfInBounds_toArray, List.set_cons_succ, List.set_cons_zero]
          have h14 : listed 14 = false := by cases h : listed 14 with | false => rfl | true => exact absurd (by decide) (hu 14 h)
          go_wp2_with fail
          refine (HCP2.out W' (hI.ext h14)).mono ?_
          rintro e w' ⟨a', c', rfl, ho, hx⟩
          go_wp2_with fail
          exact relyE_done _ rfl ⟨a', c', rfl⟩ hx (hI.other (by decide) hx)
        refine stepsF_cons ?_ ?_
        · intro listed vs W' hl hI hd hs hn hu hz ho9
          refine hold ?_
          obtain ⟨x0, x1, x2, x3, x4, x5, x6, x7, x8, x9, x10, x11, x12, x13, x14, x15, x16, rfl⟩ := lenlit17 hl; clear hl
          simp only [factsL, atL, refV, List.getElem?_cons_succ, List.getElem?_cons_zero, List.getD_cons_succ, List.getD_cons_zero, RelL.one, RelL.any, RelL.blk, RelL.law, RelTx, RelLd] at hd
          obtain ⟨⟨a7, c7, rfl, ho7⟩, -⟩ := hd
          refine held ?_
          simp only [putAll, Act.put, List.setIfInBounds_toArray, List.set_cons_succ, List.set_cons_zero]
          have q0 := (hI.r hz).c 0 _ rfl
          have q1 := (hI.r hz).c 1 _ rfl
          have q2 := (hI.r hz).c 2 _ rfl
          have hf := (hI.r hz).free
          go_wp2_with fail
          exact relyE_store undef rfl trivial (by simp) ⟨fun _ _ h => h, fun _ _ h => h, fun _ _ h => h, fun _ _ h => h, fun _ _ h => h, fun _ _ h => h, fun _ _ h => h, fun _ _ ⟨a, c, e, h⟩ => ⟨a, c, e, OwT.set3 (hI.r hz) hrb1 h⟩, fun _ _ ⟨a, c, e, h⟩ => ⟨a, c, e, OwT.set3 (hI.r hz) hrb1 h⟩, fun _ _ h => h, fun _ _ h => h, fun _ _ h => h, fun _ _ h => h, fun _ _ h => h, fun _ _ h => h, fun _ _ h => h, fun _ _ h => h, trivial⟩ ⟨fun h => by simp [updE] at h, fun h => by simp [updE] at h, hI.e.set3 hwr _ _ _, fun _ => ⟨a7, c7, (hI.r hz).set3 _ _ _, OwT.set3 (hI.r hz) hrb1 ho7, Rw.set3V (hI.r hz) (HROW.out.ext (hI.ext hz))⟩⟩
        refine stepsF_cons ?_ ?_
        · intro listed vs W' hl hI hd hs hn hu hz ho9
          refine hold ?_
          obtain ⟨x0, x1, x2, x3, x4, x5, x6, x7, x8, x9, x10, x11, x12, x13, x14, x15, x16, rfl⟩ := lenlit17 hl; clear hl
          simp only [factsL, atL, refV, List.getElem?_cons_succ, List.getElem?_cons_zero, List.getD_cons_succ, List.getD_cons_zero, RelL.one, RelL.any, RelL.blk, RelL.law, RelTx, RelLd] at hd
          obtain ⟨⟨a9, c9, rfl⟩, -⟩ := hd
          refine held ?_
          simp only [putAll, Act.put, List.setIfInBounds_toArray, List.set_cons_succ, List.set_cons_zero]
          go_wp2_with fail
          exact relyE_done _ rfl ⟨_, _, rfl⟩ (Ext.refl _) (hI.other (by decide) (Ext.refl _))
        refine stepsF_cons ?_ ?_
        · intro listed vs W' hl hI hd hs hn hu hz ho9
          refine hold ?_
          obtain ⟨x0, x1, x2, x3, x4, x5, x6, x7, x8, x9, x10, x11, x12, x13, x14, x15, x16, rfl⟩ := lenlit17 hl; clear hl
          refine held ?_
          simp only [putAll, Act.put, List.setIfInBounds_toArray, List.set_cons_succ, List.set_cons_zero]
          go_wp2_with fail
          exact relyE_done _ rfl rfl (Ext.refl _) (hI.other (by decide) (Ext.refl _))
        exact trivial
      · intro listed vs W' hl hall hI hd hn
        obtain ⟨x0, x1, x2, x3, x4, x5, x6, x7, x8, x9, x10, x11, x12, x13, x14, x15, x16, rfl⟩ := lenlit17 hl; clear hl
        simp only [List.length_cons, List.length_nil, List.range, List.range.loop, Nat.zero_add, Nat.reduceAdd, factsL, atL, refV, List.getElem?_cons_succ, List.getElem?_cons_zero, List.getD_cons_succ, List.getD_cons_zero, RelL.one, RelL.any, RelL.blk, RelL.law, RelTx, RelLd] at hd
        obtain ⟨rfl, rfl, rfl, rfl, rfl, rfl, rfl, ⟨a7, c7, rfl, ho7⟩, ⟨a7, c7, rfl, ho7⟩, rfl, rfl, rfl, rfl, ⟨a9, c9, rfl⟩, -, ⟨a5, c5, rfl⟩, rfl, -⟩ := hd
        simp only [putAll, Act.put, List.setIfInBounds_toArray, List.set_cons_succ, List.set_cons_zero]
        obtain ⟨aD, cD, p1, p2, p3⟩ := hI.d (hall 14 (by decide))
        have hEE := hI.e
        clear hall hn hI
        go_wp2_with fail
        refine bodyPost_ret (res_show _ rb (.int .i64 last) (.slice a' m c') (.slice aD (on - N) cD) (.slice a5 N c5) (.int .i64 0) _ (by rfl) (by rfl) (by rfl) p1) rfl ?_
        refine ⟨⟨last, a', m, c', aD, on - N, cD⟩, a5, c5, rfl, ?_, hEE⟩
        rw [HSH.out]
        exact ⟨rfl, p3, p2.txs (by have := HN8.out; omega)⟩
end Go.Proofs.Ytacicanjmleikaa
