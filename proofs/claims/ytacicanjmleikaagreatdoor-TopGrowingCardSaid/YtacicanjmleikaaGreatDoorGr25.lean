
import Derived.Test.YtacicanjmleikaaGreatDoorGr24
import Derived.Test.YtacicanjmleikaaGreatDoorGr23
/- A part of the proof. -/
namespace Go.Proofs.YtacicanjmleikaaGreatDoor
open Go.RowKit Go.Sort Go.Shelf Go.Maps
set_option linter.unusedSimpArgs false
set_option linter.unusedVariables false
set_option maxRecDepth 100000
theorem lenlit14t {vs : List Value} (h : vs.length = 14) : ∃ x0 x1 x2 x3 x4 x5 x6 x7 x8 x9 x10 x11 x12 x13 : Value, vs = [x0, x1, x2, x3, x4, x5, x6, x7, x8, x9, x10, x11, x12, x13] := by
 obtain ⟨x0, v0, rfl, h0⟩ := len_cons h
 obtain ⟨x1, v1, rfl, h1⟩ := len_cons h0
 obtain ⟨x2, v2, rfl, h2⟩ := len_cons h1
 obtain ⟨x3, v3, rfl, h3⟩ := len_cons h2
 obtain ⟨x4, v4, rfl, h4⟩ := len_cons h3
 obtain ⟨x5, v5, rfl, h5⟩ := len_cons h4
 obtain ⟨x6, v6, rfl, h6⟩ := len_cons h5
 obtain ⟨x7, v7, rfl, h7⟩ := len_cons h6
 obtain ⟨x8, v8, rfl, h8⟩ := len_cons h7
 obtain ⟨x9, v9, rfl, h9⟩ := len_cons h8
 obtain ⟨x10, v10, rfl, h10⟩ := len_cons h9
 obtain ⟨x11, v11, rfl, h11⟩ := len_cons h10
 obtain ⟨x12, v12, rfl, h12⟩ := len_cons h11
 obtain ⟨x13, v13, rfl, h13⟩ := len_cons h12
 obtain rfl := len_nil h13
 exact ⟨x0, x1, x2, x3, x4, x5, x6, x7, x8, x9, x10, x11, x12, x13, rfl⟩
theorem res_app (W : World) (b : Nat) (v0 v1 y0 : Value) (tmps : Array Value) (hb : tmps[4]?.getD undef = .pointer (some ⟨b, 0, none⟩)) (h5 : tmps[5]?.getD undef = y0) (h : Bk W b 24 #[v0, v1]) :
  (results Tryz.f50 tmps).run Tryz.prog W = .ok (.tuple #[.agg #[v0, v1], y0]) W := by
 have c0 := h.c 0 _ rfl
 have c1 := h.c 1 _ rfl
 simp [results, Tryz.results50, go_sem, hb, h5, c0, c1]
theorem el_en : ElS Tryz.prog 22 41 (.agg #[.int .u64 0, .int .i64 0, .int .i64 0]) 3 24 := ⟨by kernel_rfl, by kernel_rfl, rfl, by decide⟩
theorem Rw.oneE {w : World} {vb : Nat} {e : En} (hx : Cel.ok e) (hb : Bk w vb 41 #[.int .u64 e.d, .int .i64 e.lo, .int .i64 e.hi]) : Rw w (some ⟨vb, 0, none⟩) 1 1 [e] := by
 refine ⟨rfl, Nat.le_refl _, by unfold maxLen; omega, by omega, fun i hi => ⟨vb, 0, rfl, ?_⟩, fun y hy => ?_⟩
 ·obtain rfl : i = 0 := by omega
  intro j v hv
  rw [Nat.zero_mul]
  simp only [Nat.zero_add]
  exact hb.c j v (by rw [← hv]; simp [nthR, Cel.enc, En.enc])
 ·rw [List.mem_singleton.1 hy]; exact hx
theorem en_flat (es : List En) : (es.flatMap Cel.enc).length = es.length * 3 := flat_len es
theorem appIn {P : Program} {T : TypeId} {z : Value} {by_ : Nat} (hE : ElS P T 41 z 3 by_) {ops : Array Oper} {rest : List Oper} {o : Oper} {a : Act} {Q : Exit → Act → World → Prop} (hgd : o.guard = none) (s x : Operand)
  (ho : o.op = .call { callee := .builtin .append, args := #[s, x], argTypes := #[T, T] }) (w : World) (g n cap : Nat) (C : Array Value) (hB : Bk w g 41 C) (hs : a.eval s = .slice (some ⟨g, 0, none⟩) n cap) (hC : C.size = cap * 3)
  (ta : Option Addr) (m tc : Nat) (ys : List En) (hx : a.eval x = .slice ta m tc) (ht : Rw w ta m tc ys) (hroom : n + m ≤ cap) (h63 : cap ≤ maxLen)
  (h : wpList P ops Q rest (a.put o.dst (.slice (some ⟨g, 0, none⟩) (n + m) cap)) (w.setCells g (n * 3) (ys.flatMap Cel.enc))) : wpList P ops Q (o :: rest) a w := by
 obtain ⟨hT, hI, hzs, hsz⟩ := hE
 obtain ⟨i, hi, hz, hsz', hby⟩ := info_parts hI
 have hyl := ht.hlen
 rcases ta with _ | ad
 ·obtain rfl : m = 0 := by
   rcases Nat.eq_zero_or_pos m with h | h
   ·exact h
   ·obtain ⟨_, _, e, _⟩ := ht.at h; cases e
  obtain rfl := ht.isnil
  refine wpList_plain hgd fun K hK => ?_
  have hown : w.ownsRow 0 41 3 (.slice (some ⟨g, 0, none⟩) n cap) n (C.toList.take (n * 3)) := ⟨by rw [List.length_take, Array.length_toList, hC]; omega, .inr ⟨g, cap, C, rfl, Nat.zero_le _, hB, by omega, h63, hC, rfl⟩⟩
  have hrun := run_append_none (P := P) (w := w) 0 T o.type 41 i 3 hT hi _ n _ hown tc
  unfold Oper.wp
  simp [execOp, ho, resolve, invoke, builtin, hs, hx, hrun, Result.andThen]
  exact hK _ _ h
 ·have hth := hB.there (n := C.size) (Nat.le_refl _)
  have hnl : (ys.flatMap Cel.enc).length = m * 3 := by rw [en_flat, hyl]
  have hrun := run_append_room_cells (P := P) w T o.type 41 i hT hi g 0 n cap ad m tc (ys.flatMap Cel.enc) (by rw [hnl, hsz']) (fun j u hj => by
   rcases Nat.eq_zero_or_pos m with h0 | h0
   ·have := (List.getElem?_eq_some_iff.1 hj).1; rw [hnl] at this; omega
   ·obtain ⟨b, off, e, _⟩ := ht.at h0
    cases e
    rw [Addr.add_mid]
    exact ht.flat j u hj) (fun u hu => by
     obtain ⟨y, _, hy⟩ := List.mem_flatMap.1 hu
     exact Cel.one y u hy) hroom (fun j hj => by rw [hsz']; exact (by have := (hth (n * 3 + j) (by rw [hC]; rw [hnl] at hj; omega)).1; rw [Nat.zero_add] at this; rw [Nat.zero_add]; exact this)) (fun j hj => by rw [hsz']; exact (by have := (hth (n * 3 + j) (by rw [hC]; rw [hnl] at hj; omega)).2; rw [Nat.zero_add] at this; rw [Nat.zero_add]; exact this))
  rw [hsz', Nat.zero_add] at hrun
  refine wpList_plain hgd fun K hK => ?_
  unfold Oper.wp
  simp [execOp, ho, resolve, invoke, builtin, hs, hx, hrun, Result.andThen]
  exact hK _ _ h
theorem mk_cells {w : World} {base g n : Nat} (h : w.ownsRow base 41 3 (.slice (some ⟨g, 0, none⟩) 0 n) 0 []) : ∃ C, Bk w g 41 C ∧ C.size = n * 3 := by
 obtain ⟨_, h1⟩ := h
 rcases h1 with ⟨e, _⟩ | ⟨g', cap, cur, e, _, h2, _, _, h3, _⟩
 ·cases e
 ·simp only [Value.slice.injEq, Option.some.injEq, Addr.mk.injEq, and_true, true_and] at e
  obtain ⟨rfl, rfl⟩ := e
  exact ⟨cur, h2, h3⟩
theorem mk_app {W : World} {g n : Nat} {C : Array Value} {es : List En} (hB : Bk W g 41 C) (hC : C.size = (n + 1) * 3) (hl : es.length = n) :
  Bk (W.setCells g 0 (es.flatMap Cel.enc)) g 41 (es.flatMap Cel.enc ++ C.toList.drop (n * 3)).toArray ∧ (C.toList.drop (n * 3)).length = 3 := by
 refine ⟨?_, by rw [List.length_drop, Array.length_toList, hC]; omega⟩
 have := Bk.midCells (es.flatMap Cel.enc) (C.toList.take (n * 3)) [] (C.toList.drop (n * 3)) W (by rw [List.nil_append, List.take_append_drop]; simpa using hB) (by rw [List.length_take, Array.length_toList, hC, en_flat, hl]; omega)
 simpa using this
theorem app_fin {W : World} {B g n : Nat} {es : List En} {suf : List Value} (hB : Bk W g 41 (es.flatMap Cel.enc ++ suf).toArray) (hl : es.length = n) (hs : suf.length = 3) (hg : B ≤ g) (hm : n + 1 ≤ maxLen) {e : En} :
  OwR 41 B (W.setCells g (n * 3) ([e].flatMap Cel.enc)) (some ⟨g, 0, none⟩) (n + 1) (n + 1) (es ++ [e]) := by
 have hf : ([e].flatMap Cel.enc).length = 3 := en_flat [e]
 have h1 := Bk.midCells ([e].flatMap Cel.enc) suf (es.flatMap Cel.enc) [] W (by rw [List.append_nil]; exact hB) (by rw [hs, hf])
 rw [en_flat, hl, List.append_nil] at h1
 refine OwR.ofRow (by rw [List.length_append, hl]; rfl) h1 hg (Nat.le_refl _) hm (by rw [List.length_append, en_flat, hl, hf, sz_en]; omega) ?_
 rw [List.flatMap_append]
 exact List.take_of_length_le (by rw [List.length_append, en_flat, hl, hf, sz_en]; omega)
theorem keepE {W : World} {g n B : Nat} {C : Array Value} {es : List En} {e : En} {v : Value} (h : ∃ p, v = .slice (some ⟨p, 0, none⟩) 1 1 ∧ B ≤ p ∧ Bk W p 41 #[.int .u64 e.d, .int .i64 e.lo, .int .i64 e.hi]) (hB : Bk W g 41 C) (hC : C.size = (n + 1) * 3) (hl : es.length = n) :
  ∃ p, v = .slice (some ⟨p, 0, none⟩) 1 1 ∧ B ≤ p ∧ Bk (W.setCells g 0 (es.flatMap Cel.enc)) p 41 #[.int .u64 e.d, .int .i64 e.lo, .int .i64 e.hi] := by
 obtain ⟨p, h1, h2, h3⟩ := h
 refine ⟨p, h1, h2, ?_⟩
 by_cases e9 : g = p
 ·subst e9
  have h4 := hB.symm.trans h3
  simp only [Option.some.injEq, Obj.cells.injEq] at h4
  have h5 := congrArg Array.size h4.1
  rw [hC] at h5
  have h6 : (n + 1) * 3 = 3 := h5
  obtain rfl : es = [] := List.eq_nil_of_length_eq_zero (by omega)
  exact h3
 ·exact Bk.otherCells e9 _ 0 h3
def RMk (B n : Nat) : RelL Ext := ⟨none, fun _ v W => ∃ g C, v = .slice (some ⟨g, 0, none⟩) 0 (n + 1) ∧ B ≤ g ∧ Bk W g 41 C ∧ C.size = (n + 1) * 3, fun _ _ _ _ ⟨g, C, h1, h2, h3, h4⟩ hE => ⟨g, C, h1, h2, h3.ext hE, h4⟩⟩
def RAp (B n : Nat) (es : List En) : RelL Ext := ⟨none, fun _ v W => ∃ g suf, v = .slice (some ⟨g, 0, none⟩) n (n + 1) ∧ B ≤ g ∧ Bk W g 41 (es.flatMap Cel.enc ++ suf).toArray ∧ suf.length = 3, fun _ _ _ _ ⟨g, C, h1, h2, h3, h4⟩ hE => ⟨g, C, h1, h2, h3.ext hE, h4⟩⟩
def REn (B : Nat) (e : En) : RelL Ext := ⟨none, fun _ v W => ∃ p, v = .slice (some ⟨p, 0, none⟩) 1 1 ∧ B ≤ p ∧ Bk W p 41 #[.int .u64 e.d, .int .i64 e.lo, .int .i64 e.hi], fun _ _ _ _ ⟨p, h1, h2, h3⟩ hE => ⟨p, h1, h2, h3.ext hE⟩⟩
def ROw (B n : Nat) (xs : List En) : RelL Ext := ⟨none, fun _ v W => ∃ g, v = .slice (some ⟨g, 0, none⟩) (n + 1) (n + 1) ∧ OwR 41 B W (some ⟨g, 0, none⟩) (n + 1) (n + 1) xs, fun _ _ _ _ ⟨g, h1, h2⟩ hE => ⟨g, h1, h2.ext hE⟩⟩
def ROv (B : Nat) (id : Int) (n : Nat) (xs : List En) : RelL Ext := ⟨none, fun _ v W => ∃ g, v = .agg #[.int .i64 id, .slice (some ⟨g, 0, none⟩) (n + 1) (n + 1)] ∧ OwR 41 B W (some ⟨g, 0, none⟩) (n + 1) (n + 1) xs, fun _ _ _ _ ⟨g, h1, h2⟩ hE => ⟨g, h1, h2.ext hE⟩⟩
theorem OwR.keepW {E : TypeId} {base : Nat} {W W' : World} {a : Option Addr} {n c : Nat} {xs : List En} (h : OwR E base W a n c xs) (hk : ∀ g, base ≤ g → W'.heap[g]? = W.heap[g]?) : OwR E base W' a n c xs := by
 obtain ⟨h0, h1, h2⟩ := h
 refine ⟨h0, h1, ?_⟩
 rcases h2 with h2 | ⟨g, cap, cur, hv, hg, hh, r⟩
 ·exact .inl h2
 ·exact .inr ⟨g, cap, cur, hv, hg, (hk g hg).trans hh, r⟩
structure ApI (w U : World) (b2 b3 b4 : Nat) (id : Int) (a : Option Addr) (n c : Nat) (e : En) (es : List En) (listed : Nat → Bool) (W : World) : Prop where
 wu : w.heap.size ≤ U.heap.size
 l2 : b2 < U.heap.size
 l3 : b3 < U.heap.size
 l4 : b4 < U.heap.size
 ex : Ext w W
 sz : U.heap.size ≤ W.heap.size
 o2 : Bk W b2 24 #[.int .i64 id, .slice a n c]
 o3 : Bk W b3 41 #[.int .u64 e.d, .int .i64 e.lo, .int .i64 e.hi]
 o4 : listed 12 = false → Bk W b4 24 #[.int .i64 0, .slice none 0 0]
 done : listed 12 = true → ∃ g, Bk W b4 24 #[.int .i64 id, .slice (some ⟨g, 0, none⟩) (n + 1) (n + 1)] ∧ OwR 41 U.heap.size W (some ⟨g, 0, none⟩) (n + 1) (n + 1) (es ++ [e])
section
variable {w U : World} {b2 b3 b4 : Nat} {id : Int} {a : Option Addr} {n c : Nat} {e : En} {es : List En} {listed : Nat → Bool} {W W' : World}
theorem ApI.other (h : ApI w U b2 b3 b4 id a n c e es listed W) {j : Nat} (hj : j ≠ 12) (hx : Ext W W') : ApI w U b2 b3 b4 id a n c e es (updE listed j) W' := by
 have e9 : updE listed j 12 = listed 12 := by simp [updE, hj.symm]
 refine ⟨h.wu, h.l2, h.l3, h.l4, h.ex.trans hx, Nat.le_trans h.sz hx.sz, h.o2.ext hx, h.o3.ext hx, ?_, ?_⟩
 ·rw [e9]; exact fun h9 => (h.o4 h9).ext hx
 ·rw [e9]; exact fun h9 => let ⟨g, h1, h2⟩ := h.done h9; ⟨g, h1.ext hx, h2.ext hx⟩
theorem ApI.low (h : ApI w U b2 b3 b4 id a n c e es listed W) (n12 : listed 12 = false) {j : Nat} (hj : j ≠ 12) {g : Nat} (hg : U.heap.size ≤ g) (vs : List Value) (o : Nat) : ApI w U b2 b3 b4 id a n c e es (updE listed j) (W.setCells g o vs) := by
 have e9 : updE listed j 12 = listed 12 := by simp [updE, hj.symm]
 have := h.l2; have := h.l3; have := h.l4
 refine ⟨h.wu, h.l2, h.l3, h.l4, Ext.cells (Nat.le_trans h.wu hg) vs o h.ex, by rw [size_setCells]; exact h.sz, Bk.otherCells (by omega) vs o h.o2, Bk.otherCells (by omega) vs o h.o3, ?_, ?_⟩
 ·rw [e9]; exact fun h9 => Bk.otherCells (by omega) vs o (h.o4 h9)
 ·rw [e9, n12]; exact fun h9 => by cases h9
theorem ApI.fin (h : ApI w U b2 b3 b4 id a n c e es listed W) (h24 : b2 ≠ b4 ∧ b3 ≠ b4) (hw : w.heap.size ≤ b4) (hb : Bk W b4 24 #[.int .i64 0, .slice none 0 0]) {g : Nat} (ho : OwR 41 U.heap.size W (some ⟨g, 0, none⟩) (n + 1) (n + 1) (es ++ [e])) :
  ApI w U b2 b3 b4 id a n c e es (updE listed 12) ((W.setCell ⟨b4, 0, none⟩ (.int .i64 id)).setCell ⟨b4, 1, none⟩ (.slice (some ⟨g, 0, none⟩) (n + 1) (n + 1))) := by
 have := h.l4
 refine ⟨h.wu, h.l2, h.l3, h.l4, (h.ex.setCell (p := ⟨b4, 0, none⟩) hw _).setCell (p := ⟨b4, 1, none⟩) hw _, by simp [World.setCell]; exact h.sz, (h.o2.otherB h24.1.symm 0 _).otherB h24.1.symm 1 _, (h.o3.otherB h24.2.symm 0 _).otherB h24.2.symm 1 _, fun h9 => by simp [updE] at h9, fun _ => ⟨g, hb.set2 _ _, ho.keepW fun k hk => ?_⟩⟩
 rw [heap_setCell_other _ ⟨b4, 1, none⟩ k _ (by show k ≠ b4; omega), heap_setCell_other _ ⟨b4, 0, none⟩ k _ (by show k ≠ b4; omega)]
end
set_option maxHeartbeats 8000000 in
theorem oappend_yes {id : Int} {a : Option Addr} {n c : Nat} {es : List En} {e : En} {w : World} (h : Rw w a n c es) (hv : offB id es = true) (he : Cel.ok e) (hiv : ivOk e.lo e.hi = true) (hn : n < 4096) (hord : 0 < n → (nthR es (n - 1)).lo ≤ e.lo) :
  Calls Tryz.prog 50 #[.agg #[.int .i64 id, .slice a n c], enV e] w fun e9 w' => ∃ a' c', e9 = .returned (.tuple #[.agg #[.int .i64 id, .slice a' (n + 1) c'], .int .i64 0]) ∧ OwR 41 w.heap.size w' a' (n + 1) c' (es ++ [e]) ∧ Ext w w' := by
 have HVL := Lib.hid (fun (W : World) (hx : Ext w W) => ovalid_yes id a n c es W (h.ext hx) hv)
 have HFM := Lib.hid (fun W => lformed_any e W)
 rw [hiv] at HFM
 unfold enV at HFM ⊢
 have HR := Lib.hid h
 have HE := Lib.hid he
 have bd := h.bd
 clear h hv he hiv
 have O2 := Bk.new w 24 #[.int .i64 id, .slice a n c]
 have hx1 : Ext w (w.alloc (.cells #[.int .i64 id, .slice a n c] 24)) := (Ext.refl w).alloc _
 have O3 := Bk.new (w.alloc (.cells #[.int .i64 id, .slice a n c] 24)) 41 #[.int .u64 e.d, .int .i64 e.lo, .int .i64 e.hi]
 have hx2 : Ext w ((w.alloc (.cells #[.int .i64 id, .slice a n c] 24)).alloc (.cells #[.int .u64 e.d, .int .i64 e.lo, .int .i64 e.hi] 41)) := hx1.alloc _
 have O4 := Bk.new ((w.alloc (.cells #[.int .i64 id, .slice a n c] 24)).alloc (.cells #[.int .u64 e.d, .int .i64 e.lo, .int .i64 e.hi] 41)) 24 #[.int .i64 0, .slice none 0 0]
 have hx : Ext w (((w.alloc (.cells #[.int .i64 id, .slice a n c] 24)).alloc (.cells #[.int .u64 e.d, .int .i64 e.lo, .int .i64 e.hi] 41)).alloc (.cells #[.int .i64 0, .slice none 0 0] 24)) := hx2.alloc _
 replace O2 := (O2.ext ((Ext.refl _).alloc (.cells #[.int .u64 e.d, .int .i64 e.lo, .int .i64 e.hi] 41))).ext ((Ext.refl _).alloc (.cells #[.int .i64 0, .slice none 0 0] 24))
 replace O3 := O3.ext ((Ext.refl _).alloc (.cells #[.int .i64 0, .slice none 0 0] 24))
 rw [show (w.alloc (.cells #[.int .i64 id, .slice a n c] 24)).heap.size = w.heap.size + 1 from Array.size_push _] at O3
 rw [show ((w.alloc (.cells #[.int .i64 id, .slice a n c] 24)).alloc (.cells #[.int .u64 e.d, .int .i64 e.lo, .int .i64 e.hi] 41)).heap.size = w.heap.size + 1 + 1 from (Array.size_push _).trans (congrArg (· + 1) (Array.size_push _))] at O4
 clear hx1 hx2
 go_enter Tryz.func50, Tryz.ntmps50
 go_upto_region 1 with fail
 generalize (((w.alloc (.cells #[.int .i64 id, .slice a n c] 24)).alloc (.cells #[.int .u64 e.d, .int .i64 e.lo, .int .i64 e.hi] 41)).alloc (.cells #[.int .i64 0, .slice none 0 0] 24)) = V at *
 obtain ⟨b2, hb2⟩ : ∃ b, w.heap.size = b := ⟨_, rfl⟩
 have HB2 := Lib.hid hb2
 rw [hb2] at O2 O3 O4 ⊢
 obtain ⟨b3, hb3⟩ : ∃ b, b2 + 1 = b := ⟨_, rfl⟩
 have HB3 := Lib.hid hb3
 rw [hb3] at O3 O4 ⊢
 obtain ⟨b4, hb4⟩ : ∃ b, b3 + 1 = b := ⟨_, rfl⟩
 have HB4 := Lib.hid hb4
 rw [hb4] at O4 ⊢
 clear hb2 hb3 hb4
 have p0 := O2.c 0 _ rfl
 have p1 := O2.c 1 _ rfl
 go_wp2_with (go_at_call 26; refine (HVL.out _ hx).mono ?_; rintro e9 w1 ⟨rfl, hx1⟩; refine hold ?_)
 refine held ?_
 clear p0 p1
 replace hx := hx.trans hx1
 replace O2 := O2.ext hx1
 replace O3 := O3.ext hx1
 replace O4 := O4.ext hx1
 clear hx1
 have q0 := O3.c 0 _ rfl
 have q1 := O3.c 1 _ rfl
 have q2 := O3.c 2 _ rfl
 go_wp2_with (go_at_call 57; refine (HFM.out _).mono ?_; rintro e9 w2 ⟨rfl, hx1⟩; refine hold ?_)
 refine held ?_
 clear q0 q1 q2
 replace hx := hx.trans hx1
 replace O2 := O2.ext hx1
 replace O3 := O3.ext hx1
 replace O4 := O4.ext hx1
 clear hx1
 have hn9 : ((n : Int) == 4096) = false := by simp; omega
 go_upto_region 6 with fail
 clear hn9
 rcases Nat.eq_zero_or_pos n with hn0 | hn0
 ·have hk0 : ¬ (0 < n) := by omega
  have hk1 : ¬ ((0 : Int) < (n : Int)) := by omega
  have hk2 : decide ((0 : Int) < (n : Int)) = false := decide_eq_false hk1
  have hk3 : decide (0 < n) = false := decide_eq_false hk0
  clear hn0
  have hg := @grow_cell
  refine region_ext (by kernel_rfl) (by kernel_rfl) ?_
  repeat (go_big_quiet_step (fail))
  refine wpQuiet_nil ?_
  intro U hE2
  replace hx := hx.trans hE2
  replace O2 := O2.ext hE2
  replace O3 := O3.ext hE2
  replace O4 := O4.ext hE2
  clear hE2 hg
  clear hk0 hk1 hk2 hk3
  go_upto_region 8 with fail
  obtain ⟨hT0, hI0, hzs0, hsz0⟩ := el_en
  obtain ⟨i0, hi0, hz0, hs0, hb0⟩ := info_parts hI0
  have HNE : Hid (b2 ≠ b4 ∧ b3 ≠ b4) := Lib.hid ⟨by have := HB3.out; have := HB4.out; omega, by have := HB4.out; omega⟩
  have HB4W : Hid (w.heap.size ≤ b4) := Lib.hid (by have := HB2.out; have := HB3.out; have := HB4.out; omega)
  have HII : ApI w U b2 b3 b4 id a n c e es (fun _ => false) { U with drawn := U.drawn + 1 } := ⟨hx.sz, O2.lt, O3.lt, O4.lt, hx.drew, Nat.le_refl _, O2.ext (Ext.refl U).drew, O3.ext (Ext.refl U).drew, fun _ => O4.ext (Ext.refl U).drew, fun h9 => by cases h9⟩
  clear O2 O3 O4 hx hT0 hI0 hzs0 hsz0
  refine region_relyG (ApI w U b2 b3 b4 id a n c e es) [some 43, some 44, some 45, some 46, some 47, some 48, some 49, some 50, some 51, some 52, some 53, some 54, none, some 5] [[], [0], [], [2], [2, 3], [], [5], [2, 3, 4, 5, 6], [], [8], [2, 3, 4, 5, 6, 7, 8, 9], [0, 1, 2, 3, 4, 5, 6, 7, 8, 9, 10], [0, 1, 2, 3, 4, 5, 6, 7, 8, 9, 10, 11], [0, 1, 2, 3, 4, 5, 6, 7, 8, 9, 10, 11, 12]] [[], [0], [], [2], [3], [], [5], [4, 6], [], [8], [7, 9], [1, 10], [11], []] [none, none, none, none, none, none, none, none, none, none, none, none, none, none] [false, false, false, false, false, false, false, false, false, false, false, false, false, false] [[], [], [], [], [], [], [], [4], [], [], [4, 7, 9], [], [4, 7, 9, 10, 11], []] [13] [.one ((.pointer (some ⟨b2, 0, none⟩))), .one ((.int .i64 id)), .one ((.int .i64 (n : Nat))), .one ((.int .i64 ((n : Int) + 1))), RMk U.heap.size n, .one ((.pointer (some ⟨b2, 1, none⟩))), .one ((.slice a n c)), RAp U.heap.size n es, .one ((.agg #[.int .u64 e.d, .int .i64 e.lo, .int .i64 e.hi])), REn U.heap.size e, ROw U.heap.size n (es ++ [e]), ROv U.heap.size id n (es ++ [e]), .any, .one ((.int .i64 0))] (by kernel_rfl) (by kernel_rfl) (by kernel_rfl) rfl HII ?_ ?_
  ·refine stepsG_cons ?_ ?_
   ·intro listed vs W' hl hI hd hs hn hu hz ho9
    refine hold ?_
    obtain ⟨x0, x1, x2, x3, x4, x5, x6, x7, x8, x9, x10, x11, x12, x13, rfl⟩ := lenlit14t hl; clear hl
    refine held ?_
    simp only [putAll, Act.put, List.setIfInBounds_toArray, List.set_cons_succ, List.set_cons_zero]
    go_wp2_with fail
    exact relyG_done _ rfl rfl (Ext.refl _) (hI.other (by decide) (Ext.refl _))
   refine stepsG_cons ?_ ?_
   ·intro listed vs W' hl hI hd hs hn hu hz ho9
    refine hold ?_
    obtain ⟨x0, x1, x2, x3, x4, x5, x6, x7, x8, x9, x10, x11, x12, x13, rfl⟩ := lenlit14t hl; clear hl
    simp only [factsL, atL, refV, List.getElem?_cons_succ, List.getElem?_cons_zero, List.getD_cons_succ, List.getD_cons_zero, RelL.one, RelL.any, RelL.blk, RelL.law, RMk, RAp, REn, ROw, ROv] at hd
    obtain ⟨rfl, -⟩ := hd
    refine held ?_
    simp only [putAll, Act.put, List.setIfInBounds_toArray, List.set_cons_succ, List.set_cons_zero]
    have o0 := hI.o2.c 0 _ rfl
    have o1 := hI.o2.c 1 _ rfl
    go_wp2_with fail
    exact relyG_done _ rfl rfl (Ext.refl _) (hI.other (by decide) (Ext.refl _))
   refine stepsG_cons ?_ ?_
   ·intro listed vs W' hl hI hd hs hn hu hz ho9
    refine hold ?_
    obtain ⟨x0, x1, x2, x3, x4, x5, x6, x7, x8, x9, x10, x11, x12, x13, rfl⟩ := lenlit14t hl; clear hl
    refine held ?_
    simp only [putAll, Act.put, List.setIfInBounds_toArray, List.set_cons_succ, List.set_cons_zero]
    go_wp2_with fail
    exact relyG_done _ rfl rfl (Ext.refl _) (hI.other (by decide) (Ext.refl _))
   refine stepsG_cons ?_ ?_
   ·intro listed vs W' hl hI hd hs hn hu hz ho9
    refine hold ?_
    obtain ⟨x0, x1, x2, x3, x4, x5, x6, x7, x8, x9, x10, x11, x12, x13, rfl⟩ := lenlit14t hl; clear hl
    simp only [factsL, atL, refV, List.getElem?_cons_succ, List.getElem?_cons_zero, List.getD_cons_succ, List.getD_cons_zero, RelL.one, RelL.any, RelL.blk, RelL.law, RMk, RAp, REn, ROw, ROv] at hd
    obtain ⟨rfl, -⟩ := hd
    refine held ?_
    simp only [putAll, Act.put, List.setIfInBounds_toArray, List.set_cons_succ, List.set_cons_zero]
    go_wp2_with fail
    exact relyG_done _ rfl rfl (Ext.refl _) (hI.other (by decide) (Ext.refl _))
   refine stepsG_cons ?_ ?_
   ·intro listed vs W' hl hI hd hs hn hu hz ho9
    refine hold ?_
    obtain ⟨x0, x1, x2, x3, x4, x5, x6, x7, x8, x9, x10, x11, x12, x13, rfl⟩ := lenlit14t hl; clear hl
    simp only [factsL, atL, refV, List.getElem?_cons_succ, List.getElem?_cons_zero, List.getD_cons_succ, List.getD_cons_zero, RelL.one, RelL.any, RelL.blk, RelL.law, RMk, RAp, REn, ROw, ROv] at hd
    obtain ⟨rfl, -⟩ := hd
    refine held ?_
    simp only [putAll, Act.put, List.setIfInBounds_toArray, List.set_cons_succ, List.set_cons_zero]
    go_wp2_with (at_make; refine wpList_make_own _ rfl _ _ 22 rfl U.heap.size 41 i0 _ 3 Tryz.underlying22 hi0 hz0 hs0 .i64 .i64 _ (n + 1) rfl rfl (by omega) (by rw [hb0]; omega) (by unfold maxLen; omega) hI.sz ?_; intro w4 hm4 hg4; refine hold ?_)
    obtain ⟨C4, hB4, hC4⟩ := mk_cells hm4
    refine held ?_
    go_wp2_with fail
    have hx4 : Ext W' w4 := Below.grown (Ext.refl W') hg4 (Nat.le_refl _) (fun k e => by cases e)
    exact relyG_done _ rfl ⟨_, C4, rfl, hI.sz, hB4, hC4⟩ hx4 (hI.other (by decide) hx4)
   refine stepsG_cons ?_ ?_
   ·intro listed vs W' hl hI hd hs hn hu hz ho9
    refine hold ?_
    obtain ⟨x0, x1, x2, x3, x4, x5, x6, x7, x8, x9, x10, x11, x12, x13, rfl⟩ := lenlit14t hl; clear hl
    refine held ?_
    simp only [putAll, Act.put, List.setIfInBounds_toArray, List.set_cons_succ, List.set_cons_zero]
    go_wp2_with fail
    exact relyG_done _ rfl rfl (Ext.refl _) (hI.other (by decide) (Ext.refl _))
   refine stepsG_cons ?_ ?_
   ·intro listed vs W' hl hI hd hs hn hu hz ho9
    refine hold ?_
    obtain ⟨x0, x1, x2, x3, x4, x5, x6, x7, x8, x9, x10, x11, x12, x13, rfl⟩ := lenlit14t hl; clear hl
    simp only [factsL, atL, refV, List.getElem?_cons_succ, List.getElem?_cons_zero, List.getD_cons_succ, List.getD_cons_zero, RelL.one, RelL.any, RelL.blk, RelL.law, RMk, RAp, REn, ROw, ROv] at hd
    obtain ⟨rfl, -⟩ := hd
    refine held ?_
    simp only [putAll, Act.put, List.setIfInBounds_toArray, List.set_cons_succ, List.set_cons_zero]
    have o0 := hI.o2.c 0 _ rfl
    have o1 := hI.o2.c 1 _ rfl
    go_wp2_with fail
    exact relyG_done _ rfl rfl (Ext.refl _) (hI.other (by decide) (Ext.refl _))
   refine stepsG_cons ?_ ?_
   ·intro listed vs W' hl hI hd hs hn hu hz ho9
    refine hold ?_
    obtain ⟨x0, x1, x2, x3, x4, x5, x6, x7, x8, x9, x10, x11, x12, x13, rfl⟩ := lenlit14t hl; clear hl
    simp only [factsL, atL, refV, List.getElem?_cons_succ, List.getElem?_cons_zero, List.getD_cons_succ, List.getD_cons_zero, RelL.one, RelL.any, RelL.blk, RelL.law, RMk, RAp, REn, ROw, ROv] at hd
    obtain ⟨⟨g4, C4, rfl, hg4, hB4, hC4⟩, rfl, -⟩ := hd
    refine held ?_
    simp only [putAll, Act.put, List.setIfInBounds_toArray, List.set_cons_succ, List.set_cons_zero]
    go_wp2_with (at_builtin; refine appIn el_en rfl _ _ rfl _ g4 0 (n + 1) C4 hB4 rfl hC4 a n c es rfl (HR.out.ext hI.ex) (by omega) (by unfold maxLen; omega) ?_; refine hold ?_)
    refine held ?_
    go_wp2_with fail
    exact relyG_store _ rfl ⟨g4, _, by simp, hg4, mk_app hB4 hC4 (by rw [HR.out.hlen])⟩ (Nat.le_of_eq (size_setCells _ _ _ _).symm) ⟨(fun _ _ _ h9 => h9), (fun _ _ _ h9 => h9), (fun _ _ _ h9 => h9), (fun _ _ _ h9 => h9), (fun h9 => by simp at h9), (fun _ _ _ h9 => h9), (fun _ _ _ h9 => h9), (fun _ _ h9 _ => absurd rfl h9), (fun _ _ _ h9 => h9), (fun _ _ _ h9 => keepE h9 hB4 hC4 HR.out.hlen), (fun _ hl9 _ _ => absurd (by decide) (hu 10 hl9)), (fun _ hl9 _ _ => absurd (by decide) (hu 11 hl9)), (fun _ hl9 _ _ => absurd (by decide) (hu 12 hl9)), (fun _ hl9 _ _ => absurd (by decide) (hu 13 hl9)), trivial⟩ (hI.low (notL hu 12 (by decide)) (by decide) hg4 _ 0)
   refine stepsG_cons ?_ ?_
   ·intro listed vs W' hl hI hd hs hn hu hz ho9
    refine hold ?_
    obtain ⟨x0, x1, x2, x3, x4, x5, x6, x7, x8, x9, x10, x11, x12, x13, rfl⟩ := lenlit14t hl; clear hl
    refine held ?_
    simp only [putAll, Act.put, List.setIfInBounds_toArray, List.set_cons_succ, List.set_cons_zero]
    have o0 := hI.o3.c 0 _ rfl
    have o1 := hI.o3.c 1 _ rfl
    have o2 := hI.o3.c 2 _ rfl
    go_wp2_with fail
    exact relyG_done _ rfl rfl (Ext.refl _) (hI.other (by decide) (Ext.refl _))
   refine stepsG_cons ?_ ?_
   ·intro listed vs W' hl hI hd hs hn hu hz ho9
    refine hold ?_
    obtain ⟨x0, x1, x2, x3, x4, x5, x6, x7, x8, x9, x10, x11, x12, x13, rfl⟩ := lenlit14t hl; clear hl
    simp only [factsL, atL, refV, List.getElem?_cons_succ, List.getElem?_cons_zero, List.getD_cons_succ, List.getD_cons_zero, RelL.one, RelL.any, RelL.blk, RelL.law, RMk, RAp, REn, ROw, ROv] at hd
    obtain ⟨rfl, -⟩ := hd
    refine held ?_
    simp only [putAll, Act.put, List.setIfInBounds_toArray, List.set_cons_succ, List.set_cons_zero]
    go_wp2_with fail
    exact relyG_done _ rfl ⟨_, rfl, hI.sz, Bk.new W' _ _⟩ ((Ext.refl _).alloc _) (hI.other (by decide) ((Ext.refl _).alloc _))
   refine stepsG_cons ?_ ?_
   ·intro listed vs W' hl hI hd hs hn hu hz ho9
    refine hold ?_
    obtain ⟨x0, x1, x2, x3, x4, x5, x6, x7, x8, x9, x10, x11, x12, x13, rfl⟩ := lenlit14t hl; clear hl
    simp only [factsL, atL, refV, List.getElem?_cons_succ, List.getElem?_cons_zero, List.getD_cons_succ, List.getD_cons_zero, RelL.one, RelL.any, RelL.blk, RelL.law, RMk, RAp, REn, ROw, ROv] at hd
    obtain ⟨⟨g7, C7, rfl, hg7, hB7, hC7⟩, ⟨p9, rfl, hp9, hB9⟩, -⟩ := hd
    refine held ?_
    simp only [putAll, Act.put, List.setIfInBounds_toArray, List.set_cons_succ, List.set_cons_zero]
    have hr9 := Rw.oneE HE.out hB9
    go_wp2_with (at_builtin; refine appIn el_en rfl _ _ rfl _ g7 n (n + 1) _ hB7 rfl (by rw [List.size_toArray, List.length_append, en_flat, HR.out.hlen, hC7]; omega) _ 1 1 [e] rfl hr9 (by omega) (by unfold maxLen; omega) ?_; refine hold ?_)
    have hfin := app_fin hB7 (by rw [HR.out.hlen]) hC7 hg7 (by unfold maxLen; omega) (e := e)
    refine held ?_
    go_wp2_with fail
    exact relyG_store _ rfl ⟨g7, rfl, hfin⟩ (Nat.le_of_eq (size_setCells _ _ _ _).symm) ⟨(fun _ _ _ h9 => h9), (fun _ _ _ h9 => h9), (fun _ _ _ h9 => h9), (fun _ _ _ h9 => h9), (fun h9 => by simp at h9), (fun _ _ _ h9 => h9), (fun _ _ _ h9 => h9), (fun h9 => by simp at h9), (fun _ _ _ h9 => h9), (fun h9 => by simp at h9), (fun _ _ h9 _ => absurd rfl h9), (fun _ hl9 _ _ => absurd (by decide) (hu 11 hl9)), (fun _ hl9 _ _ => absurd (by decide) (hu 12 hl9)), (fun _ hl9 _ _ => absurd (by decide) (hu 13 hl9)), trivial⟩ (hI.low (notL hu 12 (by decide)) (by decide) hg7 _ _)
   refine stepsG_cons ?_ ?_
   ·intro listed vs W' hl hI hd hs hn hu hz ho9
    refine hold ?_
    obtain ⟨x0, x1, x2, x3, x4, x5, x6, x7, x8, x9, x10, x11, x12, x13, rfl⟩ := lenlit14t hl; clear hl
    simp only [factsL, atL, refV, List.getElem?_cons_succ, List.getElem?_cons_zero, List.getD_cons_succ, List.getD_cons_zero, RelL.one, RelL.any, RelL.blk, RelL.law, RMk, RAp, REn, ROw, ROv] at hd
    obtain ⟨rfl, ⟨g10, rfl, ho10⟩, -⟩ := hd
    refine held ?_
    simp only [putAll, Act.put, List.setIfInBounds_toArray, List.set_cons_succ, List.set_cons_zero]
    go_wp2_with fail
    exact relyG_done _ rfl ⟨g10, rfl, ho10⟩ (Ext.refl _) (hI.other (by decide) (Ext.refl _))
   refine stepsG_cons ?_ ?_
   ·intro listed vs W' hl hI hd hs hn hu hz ho9
    refine hold ?_
    obtain ⟨x0, x1, x2, x3, x4, x5, x6, x7, x8, x9, x10, x11, x12, x13, rfl⟩ := lenlit14t hl; clear hl
    simp only [factsL, atL, refV, List.getElem?_cons_succ, List.getElem?_cons_zero, List.getD_cons_succ, List.getD_cons_zero, RelL.one, RelL.any, RelL.blk, RelL.law, RMk, RAp, REn, ROw, ROv] at hd
    obtain ⟨⟨g11, rfl, ho11⟩, -⟩ := hd
    refine held ?_
    simp only [putAll, Act.put, List.setIfInBounds_toArray, List.set_cons_succ, List.set_cons_zero]
    have o0 := (hI.o4 hz).c 0 _ rfl
    have o1 := (hI.o4 hz).c 1 _ rfl
    have of := (hI.o4 hz).free
    go_wp2_with fail
    exact relyG_store undef rfl trivial (by simp [World.setCell]) ⟨(fun _ _ _ h9 => h9), (fun _ _ _ h9 => h9), (fun _ _ _ h9 => h9), (fun _ _ _ h9 => h9), (fun h9 => by simp at h9), (fun _ _ _ h9 => h9), (fun _ _ _ h9 => h9), (fun h9 => by simp at h9), (fun _ _ _ h9 => h9), (fun h9 => by simp at h9), (fun h9 => by simp at h9), (fun h9 => by simp at h9), (fun _ _ h9 _ => absurd rfl h9), (fun _ hl9 _ _ => absurd (by decide) (hu 13 hl9)), trivial⟩ (hI.fin HNE.out HB4W.out (hI.o4 hz) ho11)
   refine stepsG_cons ?_ ?_
   ·intro listed vs W' hl hI hd hs hn hu hz ho9
    refine hold ?_
    obtain ⟨x0, x1, x2, x3, x4, x5, x6, x7, x8, x9, x10, x11, x12, x13, rfl⟩ := lenlit14t hl; clear hl
    refine held ?_
    simp only [putAll, Act.put, List.setIfInBounds_toArray, List.set_cons_succ, List.set_cons_zero]
    go_wp2_with fail
    exact relyG_done _ rfl rfl (Ext.refl _) (hI.other (by decide) (Ext.refl _))
   exact trivial
  ·intro listed vs W' hl hall hI hd hn
   obtain ⟨x0, x1, x2, x3, x4, x5, x6, x7, x8, x9, x10, x11, x12, x13, rfl⟩ := lenlit14t hl; clear hl
   simp only [List.length_cons, List.length_nil, factsL, atL, refV, List.getElem?_cons_succ, List.getElem?_cons_zero, List.getD_cons_succ, List.getD_cons_zero, RelL.one, RelL.any, RelL.blk, RelL.law, RMk, RAp, REn, ROw, ROv] at hd
   obtain ⟨rfl, -⟩ := hd
   simp only [putAll, Act.put, List.setIfInBounds_toArray, List.set_cons_succ, List.set_cons_zero]
   obtain ⟨g9, hq9, ho9⟩ := hI.done (hall 12 (by decide))
   have hex := hI.ex
   have hwu := hI.wu
   clear hI hn hall
   go_wp2_with fail
   exact bodyPost_ret (res_app _ b4 _ _ (.int .i64 0) _ (by rfl) (by rfl) hq9) rfl ⟨_, _, rfl, ho9.monoB hwu, hex⟩
 ·obtain ⟨x1, o1, rfl, hc1⟩ := HR.out.at hn0
  have hr := rangeAt_ext (hc1 (n - 1) (by omega)) hx
  rw [sz_en] at hr
  have HOL := Lib.hid (hord hn0)
  generalize nthR es (n - 1) = y at *
  obtain ⟨_, e1, _⟩ := cells_en hr
  clear hr hc1
  have hwr : IntKind.i64.wrap ((n : Int) - 1) = ((n - 1 : Nat) : Int) := by rw [IntKind.wrap_i64]; omega
  have hk1 : (0 : Int) < (n : Int) := by omega
  have hk2 : decide ((0 : Int) < (n : Int)) = true := decide_eq_true hk1
  have hk4 : decide (0 < n) = true := by simp [hn0]
  have hol := HOL.out
  have hk5 : ¬ (e.lo < y.lo) := by omega
  have hk6 : decide (e.lo < y.lo) = false := decide_eq_false hk5
  have hl1 := lt_of_cell e1
  have hmn : n - 1 < n := by omega
  simp only at hl1
  have p1 := O2.c 1 _ rfl
  have q1 := O3.c 1 _ rfl
  have hl2 := O2.lt
  have hl3 := O3.lt
  have hg := @grow_cell
  refine region_ext (by kernel_rfl) (by kernel_rfl) ?_
  repeat (go_big_quiet_step (fail))
  refine wpQuiet_nil ?_
  intro U hE2
  replace hx := hx.trans hE2
  replace O2 := O2.ext hE2
  replace O3 := O3.ext hE2
  replace O4 := O4.ext hE2
  clear hE2 hg
  clear e1 hwr hk1 hk2 hk4 hk5 hk6 hl1 hmn p1 q1 hl2 hl3 hol
  generalize (some (⟨x1, o1, none⟩ : Addr)) = a at *
  go_upto_region 8 with fail
  obtain ⟨hT0, hI0, hzs0, hsz0⟩ := el_en
  obtain ⟨i0, hi0, hz0, hs0, hb0⟩ := info_parts hI0
  have HNE : Hid (b2 ≠ b4 ∧ b3 ≠ b4) := Lib.hid ⟨by have := HB3.out; have := HB4.out; omega, by have := HB4.out; omega⟩
  have HB4W : Hid (w.heap.size ≤ b4) := Lib.hid (by have := HB2.out; have := HB3.out; have := HB4.out; omega)
  have HII : ApI w U b2 b3 b4 id a n c e es (fun _ => false) { U with drawn := U.drawn + 1 } := ⟨hx.sz, O2.lt, O3.lt, O4.lt, hx.drew, Nat.le_refl _, O2.ext (Ext.refl U).drew, O3.ext (Ext.refl U).drew, fun _ => O4.ext (Ext.refl U).drew, fun h9 => by cases h9⟩
  clear O2 O3 O4 hx hT0 hI0 hzs0 hsz0
  refine region_relyG (ApI w U b2 b3 b4 id a n c e es) [some 43, some 44, some 45, some 46, some 47, some 48, some 49, some 50, some 51, some 52, some 53, some 54, none, some 5] [[], [0], [], [2], [2, 3], [], [5], [2, 3, 4, 5, 6], [], [8], [2, 3, 4, 5, 6, 7, 8, 9], [0, 1, 2, 3, 4, 5, 6, 7, 8, 9, 10], [0, 1, 2, 3, 4, 5, 6, 7, 8, 9, 10, 11], [0, 1, 2, 3, 4, 5, 6, 7, 8, 9, 10, 11, 12]] [[], [0], [], [2], [3], [], [5], [4, 6], [], [8], [7, 9], [1, 10], [11], []] [none, none, none, none, none, none, none, none, none, none, none, none, none, none] [false, false, false, false, false, false, false, false, false, false, false, false, false, false] [[], [], [], [], [], [], [], [4], [], [], [4, 7, 9], [], [4, 7, 9, 10, 11], []] [13] [.one ((.pointer (some ⟨b2, 0, none⟩))), .one ((.int .i64 id)), .one ((.int .i64 (n : Nat))), .one ((.int .i64 ((n : Int) + 1))), RMk U.heap.size n, .one ((.pointer (some ⟨b2, 1, none⟩))), .one ((.slice a n c)), RAp U.heap.size n es, .one ((.agg #[.int .u64 e.d, .int .i64 e.lo, .int .i64 e.hi])), REn U.heap.size e, ROw U.heap.size n (es ++ [e]), ROv U.heap.size id n (es ++ [e]), .any, .one ((.int .i64 0))] (by kernel_rfl) (by kernel_rfl) (by kernel_rfl) rfl HII ?_ ?_
  ·refine stepsG_cons ?_ ?_
   ·intro listed vs W' hl hI hd hs hn hu hz ho9
    refine hold ?_
    obtain ⟨x0, x1, x2, x3, x4, x5, x6, x7, x8, x9, x10, x11, x12, x13, rfl⟩ := lenlit14t hl; clear hl
    refine held ?_
    simp only [putAll, Act.put, List.setIfInBounds_toArray, List.set_cons_succ, List.set_cons_zero]
    go_wp2_with fail
    exact relyG_done _ rfl rfl (Ext.refl _) (hI.other (by decide) (Ext.refl _))
   refine stepsG_cons ?_ ?_
   ·intro listed vs W' hl hI hd hs hn hu hz ho9
    refine hold ?_
    obtain ⟨x0, x1, x2, x3, x4, x5, x6, x7, x8, x9, x10, x11, x12, x13, rfl⟩ := lenlit14t hl; clear hl
    simp only [factsL, atL, refV, List.getElem?_cons_succ, List.getElem?_cons_zero, List.getD_cons_succ, List.getD_cons_zero, RelL.one, RelL.any, RelL.blk, RelL.law, RMk, RAp, REn, ROw, ROv] at hd
    obtain ⟨rfl, -⟩ := hd
    refine held ?_
    simp only [putAll, Act.put, List.setIfInBounds_toArray, List.set_cons_succ, List.set_cons_zero]
    have o0 := hI.o2.c 0 _ rfl
    have o1 := hI.o2.c 1 _ rfl
    go_wp2_with fail
    exact relyG_done _ rfl rfl (Ext.refl _) (hI.other (by decide) (Ext.refl _))
   refine stepsG_cons ?_ ?_
   ·intro listed vs W' hl hI hd hs hn hu hz ho9
    refine hold ?_
    obtain ⟨x0, x1, x2, x3, x4, x5, x6, x7, x8, x9, x10, x11, x12, x13, rfl⟩ := lenlit14t hl; clear hl
    refine held ?_
    simp only [putAll, Act.put, List.setIfInBounds_toArray, List.set_cons_succ, List.set_cons_zero]
    go_wp2_with fail
    exact relyG_done _ rfl rfl (Ext.refl _) (hI.other (by decide) (Ext.refl _))
   refine stepsG_cons ?_ ?_
   ·intro listed vs W' hl hI hd hs hn hu hz ho9
    refine hold ?_
    obtain ⟨x0, x1, x2, x3, x4, x5, x6, x7, x8, x9, x10, x11, x12, x13, rfl⟩ := lenlit14t hl; clear hl
    simp only [factsL, atL, refV, List.getElem?_cons_succ, List.getElem?_cons_zero, List.getD_cons_succ, List.getD_cons_zero, RelL.one, RelL.any, RelL.blk, RelL.law, RMk, RAp, REn, ROw, ROv] at hd
    obtain ⟨rfl, -⟩ := hd
    refine held ?_
    simp only [putAll, Act.put, List.setIfInBounds_toArray, List.set_cons_succ, List.set_cons_zero]
    go_wp2_with fail
    exact relyG_done _ rfl rfl (Ext.refl _) (hI.other (by decide) (Ext.refl _))
   refine stepsG_cons ?_ ?_
   ·intro listed vs W' hl hI hd hs hn hu hz ho9
    refine hold ?_
    obtain ⟨x0, x1, x2, x3, x4, x5, x6, x7, x8, x9, x10, x11, x12, x13, rfl⟩ := lenlit14t hl; clear hl
    simp only [factsL, atL, refV, List.getElem?_cons_succ, List.getElem?_cons_zero, List.getD_cons_succ, List.getD_cons_zero, RelL.one, RelL.any, RelL.blk, RelL.law, RMk, RAp, REn, ROw, ROv] at hd
    obtain ⟨rfl, -⟩ := hd
    refine held ?_
    simp only [putAll, Act.put, List.setIfInBounds_toArray, List.set_cons_succ, List.set_cons_zero]
    go_wp2_with (at_make; refine wpList_make_own _ rfl _ _ 22 rfl U.heap.size 41 i0 _ 3 Tryz.underlying22 hi0 hz0 hs0 .i64 .i64 _ (n + 1) rfl rfl (by omega) (by rw [hb0]; omega) (by unfold maxLen; omega) hI.sz ?_; intro w4 hm4 hg4; refine hold ?_)
    obtain ⟨C4, hB4, hC4⟩ := mk_cells hm4
    refine held ?_
    go_wp2_with fail
    have hx4 : Ext W' w4 := Below.grown (Ext.refl W') hg4 (Nat.le_refl _) (fun k e => by cases e)
    exact relyG_done _ rfl ⟨_, C4, rfl, hI.sz, hB4, hC4⟩ hx4 (hI.other (by decide) hx4)
   refine stepsG_cons ?_ ?_
   ·intro listed vs W' hl hI hd hs hn hu hz ho9
    refine hold ?_
    obtain ⟨x0, x1, x2, x3, x4, x5, x6, x7, x8, x9, x10, x11, x12, x13, rfl⟩ := lenlit14t hl; clear hl
    refine held ?_
    simp only [putAll, Act.put, List.setIfInBounds_toArray, List.set_cons_succ, List.set_cons_zero]
    go_wp2_with fail
    exact relyG_done _ rfl rfl (Ext.refl _) (hI.other (by decide) (Ext.refl _))
   refine stepsG_cons ?_ ?_
   ·intro listed vs W' hl hI hd hs hn hu hz ho9
    refine hold ?_
    obtain ⟨x0, x1, x2, x3, x4, x5, x6, x7, x8, x9, x10, x11, x12, x13, rfl⟩ := lenlit14t hl; clear hl
    simp only [factsL, atL, refV, List.getElem?_cons_succ, List.getElem?_cons_zero, List.getD_cons_succ, List.getD_cons_zero, RelL.one, RelL.any, RelL.blk, RelL.law, RMk, RAp, REn, ROw, ROv] at hd
    obtain ⟨rfl, -⟩ := hd
    refine held ?_
    simp only [putAll, Act.put, List.setIfInBounds_toArray, List.set_cons_succ, List.set_cons_zero]
    have o0 := hI.o2.c 0 _ rfl
    have o1 := hI.o2.c 1 _ rfl
    go_wp2_with fail
    exact relyG_done _ rfl rfl (Ext.refl _) (hI.other (by decide) (Ext.refl _))
   refine stepsG_cons ?_ ?_
   ·intro listed vs W' hl hI hd hs hn hu hz ho9
    refine hold ?_
    obtain ⟨x0, x1, x2, x3, x4, x5, x6, x7, x8, x9, x10, x11, x12, x13, rfl⟩ := lenlit14t hl; clear hl
    simp only [factsL, atL, refV, List.getElem?_cons_succ, List.getElem?_cons_zero, List.getD_cons_succ, List.getD_cons_zero, RelL.one, RelL.any, RelL.blk, RelL.law, RMk, RAp, REn, ROw, ROv] at hd
    obtain ⟨⟨g4, C4, rfl, hg4, hB4, hC4⟩, rfl, -⟩ := hd
    refine held ?_
    simp only [putAll, Act.put, List.setIfInBounds_toArray, List.set_cons_succ, List.set_cons_zero]
    go_wp2_with (at_builtin; refine appIn el_en rfl _ _ rfl _ g4 0 (n + 1) C4 hB4 rfl hC4 a n c es rfl (HR.out.ext hI.ex) (by omega) (by unfold maxLen; omega) ?_; refine hold ?_)
    refine held ?_
    go_wp2_with fail
    exact relyG_store _ rfl ⟨g4, _, by simp, hg4, mk_app hB4 hC4 (by rw [HR.out.hlen])⟩ (Nat.le_of_eq (size_setCells _ _ _ _).symm) ⟨(fun _ _ _ h9 => h9), (fun _ _ _ h9 => h9), (fun _ _ _ h9 => h9), (fun _ _ _ h9 => h9), (fun h9 => by simp at h9), (fun _ _ _ h9 => h9), (fun _ _ _ h9 => h9), (fun _ _ h9 _ => absurd rfl h9), (fun _ _ _ h9 => h9), (fun _ _ _ h9 => keepE h9 hB4 hC4 HR.out.hlen), (fun _ hl9 _ _ => absurd (by decide) (hu 10 hl9)), (fun _ hl9 _ _ => absurd (by decide) (hu 11 hl9)), (fun _ hl9 _ _ => absurd (by decide) (hu 12 hl9)), (fun _ hl9 _ _ => absurd (by decide) (hu 13 hl9)), trivial⟩ (hI.low (notL hu 12 (by decide)) (by decide) hg4 _ 0)
   refine stepsG_cons ?_ ?_
   ·intro listed vs W' hl hI hd hs hn hu hz ho9
    refine hold ?_
    obtain ⟨x0, x1, x2, x3, x4, x5, x6, x7, x8, x9, x10, x11, x12, x13, rfl⟩ := lenlit14t hl; clear hl
    refine held ?_
    simp only [putAll, Act.put, List.setIfInBounds_toArray, List.set_cons_succ, List.set_cons_zero]
    have o0 := hI.o3.c 0 _ rfl
    have o1 := hI.o3.c 1 _ rfl
    have o2 := hI.o3.c 2 _ rfl
    go_wp2_with fail
    exact relyG_done _ rfl rfl (Ext.refl _) (hI.other (by decide) (Ext.refl _))
   refine stepsG_cons ?_ ?_
   ·intro listed vs W' hl hI hd hs hn hu hz ho9
    refine hold ?_
    obtain ⟨x0, x1, x2, x3, x4, x5, x6, x7, x8, x9, x10, x11, x12, x13, rfl⟩ := lenlit14t hl; clear hl
    simp only [factsL, atL, refV, List.getElem?_cons_succ, List.getElem?_cons_zero, List.getD_cons_succ, List.getD_cons_zero, RelL.one, RelL.any, RelL.blk, RelL.law, RMk, RAp, REn, ROw, ROv] at hd
    obtain ⟨rfl, -⟩ := hd
    refine held ?_
    simp only [putAll, Act.put, List.setIfInBounds_toArray, List.set_cons_succ, List.set_cons_zero]
    go_wp2_with fail
    exact relyG_done _ rfl ⟨_, rfl, hI.sz, Bk.new W' _ _⟩ ((Ext.refl _).alloc _) (hI.other (by decide) ((Ext.refl _).alloc _))
   refine stepsG_cons ?_ ?_
   ·intro listed vs W' hl hI hd hs hn hu hz ho9
    refine hold ?_
    obtain ⟨x0, x1, x2, x3, x4, x5, x6, x7, x8, x9, x10, x11, x12, x13, rfl⟩ := lenlit14t hl; clear hl
    simp only [factsL, atL, refV, List.getElem?_cons_succ, List.getElem?_cons_zero, List.getD_cons_succ, List.getD_cons_zero, RelL.one, RelL.any, RelL.blk, RelL.law, RMk, RAp, REn, ROw, ROv] at hd
    obtain ⟨⟨g7, C7, rfl, hg7, hB7, hC7⟩, ⟨p9, rfl, hp9, hB9⟩, -⟩ := hd
    refine held ?_
    simp only [putAll, Act.put, List.setIfInBounds_toArray, List.set_cons_succ, List.set_cons_zero]
    have hr9 := Rw.oneE HE.out hB9
    go_wp2_with (at_builtin; refine appIn el_en rfl _ _ rfl _ g7 n (n + 1) _ hB7 rfl (by rw [List.size_toArray, List.length_append, en_flat, HR.out.hlen, hC7]; omega) _ 1 1 [e] rfl hr9 (by omega) (by unfold maxLen; omega) ?_; refine hold ?_)
    have hfin := app_fin hB7 (by rw [HR.out.hlen]) hC7 hg7 (by unfold maxLen; omega) (e := e)
    refine held ?_
    go_wp2_with fail
    exact relyG_store _ rfl ⟨g7, rfl, hfin⟩ (Nat.le_of_eq (size_setCells _ _ _ _).symm) ⟨(fun _ _ _ h9 => h9), (fun _ _ _ h9 => h9), (fun _ _ _ h9 => h9), (fun _ _ _ h9 => h9), (fun h9 => by simp at h9), (fun _ _ _ h9 => h9), (fun _ _ _ h9 => h9), (fun h9 => by simp at h9), (fun _ _ _ h9 => h9), (fun h9 => by simp at h9), (fun _ _ h9 _ => absurd rfl h9), (fun _ hl9 _ _ => absurd (by decide) (hu 11 hl9)), (fun _ hl9 _ _ => absurd (by decide) (hu 12 hl9)), (fun _ hl9 _ _ => absurd (by decide) (hu 13 hl9)), trivial⟩ (hI.low (notL hu 12 (by decide)) (by decide) hg7 _ _)
   refine stepsG_cons ?_ ?_
   ·intro listed vs W' hl hI hd hs hn hu hz ho9
    refine hold ?_
    obtain ⟨x0, x1, x2, x3, x4, x5, x6, x7, x8, x9, x10, x11, x12, x13, rfl⟩ := lenlit14t hl; clear hl
    simp only [factsL, atL, refV, List.getElem?_cons_succ, List.getElem?_cons_zero, List.getD_cons_succ, List.getD_cons_zero, RelL.one, RelL.any, RelL.blk, RelL.law, RMk, RAp, REn, ROw, ROv] at hd
    obtain ⟨rfl, ⟨g10, rfl, ho10⟩, -⟩ := hd
    refine held ?_
    simp only [putAll, Act.put, List.setIfInBounds_toArray, List.set_cons_succ, List.set_cons_zero]
    go_wp2_with fail
    exact relyG_done _ rfl ⟨g10, rfl, ho10⟩ (Ext.refl _) (hI.other (by decide) (Ext.refl _))
   refine stepsG_cons ?_ ?_
   ·intro listed vs W' hl hI hd hs hn hu hz ho9
    refine hold ?_
    obtain ⟨x0, x1, x2, x3, x4, x5, x6, x7, x8, x9, x10, x11, x12, x13, rfl⟩ := lenlit14t hl; clear hl
    simp only [factsL, atL, refV, List.getElem?_cons_succ, List.getElem?_cons_zero, List.getD_cons_succ, List.getD_cons_zero, RelL.one, RelL.any, RelL.blk, RelL.law, RMk, RAp, REn, ROw, ROv] at hd
    obtain ⟨⟨g11, rfl, ho11⟩, -⟩ := hd
    refine held ?_
    simp only [putAll, Act.put, List.setIfInBounds_toArray, List.set_cons_succ, List.set_cons_zero]
    have o0 := (hI.o4 hz).c 0 _ rfl
    have o1 := (hI.o4 hz).c 1 _ rfl
    have of := (hI.o4 hz).free
    go_wp2_with fail
    exact relyG_store undef rfl trivial (by simp [World.setCell]) ⟨(fun _ _ _ h9 => h9), (fun _ _ _ h9 => h9), (fun _ _ _ h9 => h9), (fun _ _ _ h9 => h9), (fun h9 => by simp at h9), (fun _ _ _ h9 => h9), (fun _ _ _ h9 => h9), (fun h9 => by simp at h9), (fun _ _ _ h9 => h9), (fun h9 => by simp at h9), (fun h9 => by simp at h9), (fun h9 => by simp at h9), (fun _ _ h9 _ => absurd rfl h9), (fun _ hl9 _ _ => absurd (by decide) (hu 13 hl9)), trivial⟩ (hI.fin HNE.out HB4W.out (hI.o4 hz) ho11)
   refine stepsG_cons ?_ ?_
   ·intro listed vs W' hl hI hd hs hn hu hz ho9
    refine hold ?_
    obtain ⟨x0, x1, x2, x3, x4, x5, x6, x7, x8, x9, x10, x11, x12, x13, rfl⟩ := lenlit14t hl; clear hl
    refine held ?_
    simp only [putAll, Act.put, List.setIfInBounds_toArray, List.set_cons_succ, List.set_cons_zero]
    go_wp2_with fail
    exact relyG_done _ rfl rfl (Ext.refl _) (hI.other (by decide) (Ext.refl _))
   exact trivial
  ·intro listed vs W' hl hall hI hd hn
   obtain ⟨x0, x1, x2, x3, x4, x5, x6, x7, x8, x9, x10, x11, x12, x13, rfl⟩ := lenlit14t hl; clear hl
   simp only [List.length_cons, List.length_nil, factsL, atL, refV, List.getElem?_cons_succ, List.getElem?_cons_zero, List.getD_cons_succ, List.getD_cons_zero, RelL.one, RelL.any, RelL.blk, RelL.law, RMk, RAp, REn, ROw, ROv] at hd
   obtain ⟨rfl, -⟩ := hd
   simp only [putAll, Act.put, List.setIfInBounds_toArray, List.set_cons_succ, List.set_cons_zero]
   obtain ⟨g9, hq9, ho9⟩ := hI.done (hall 12 (by decide))
   have hex := hI.ex
   have hwu := hI.wu
   clear hI hn hall
   go_wp2_with fail
   exact bodyPost_ret (res_app _ b4 _ _ (.int .i64 0) _ (by rfl) (by rfl) hq9) rfl ⟨_, _, rfl, ho9.monoB hwu, hex⟩
open Go.RowKit Go.Sort Go.Shelf Go.Maps
def Tag (W : World) (p : Nat) (T : TypeId) : Prop := ∃ C fr, W.heap[p]? = some (.cells C T fr)
theorem Bk.tag {W : World} {b : Nat} {T : TypeId} {C : Array Value} (h : Bk W b T C) : Tag W b T := ⟨C, (0, 0), h⟩
section
variable {α : Type} [Cel α]
theorem OwR.tag {E : TypeId} {base : Nat} {W : World} {g n c : Nat} {xs : List α} (h : OwR E base W (some ⟨g, 0, none⟩) n c xs) : Tag W g E := by
 obtain ⟨_, _, h2⟩ := h
 rcases h2 with ⟨e, _⟩ | ⟨g', cap, cur, hv, _, hh, _⟩
 ·cases e
 ·simp only [Value.slice.injEq, Option.some.injEq, Addr.mk.injEq, and_true, true_and] at hv
  obtain ⟨rfl, _⟩ := hv
  exact ⟨cur, (0, 0), hh⟩
theorem OwR.tagNe {E T : TypeId} {base : Nat} {W : World} {a : Option Addr} {n c p : Nat} {xs : List α} (h : OwR E base W a n c xs) (hp : Tag W p T) (hne : E ≠ T) : ∀ g, a = some ⟨g, 0, none⟩ → g ≠ p := by
 rintro g rfl rfl
 obtain ⟨C, fr, h1⟩ := h.tag
 obtain ⟨C', fr', h2⟩ := hp
 rw [h1] at h2
 simp only [Option.some.injEq, Obj.cells.injEq] at h2
 exact hne h2.2.1
theorem OwR.blocks {E : TypeId} {base : Nat} {W W' : World} {a : Option Addr} {n c : Nat} {xs : List α} (h : OwR E base W a n c xs) (hk : ∀ g, a = some ⟨g, 0, none⟩ → W'.heap[g]? = W.heap[g]?) : OwR E base W' a n c xs := by
 obtain ⟨h0, h1, h2⟩ := h
 refine ⟨h0, h1, ?_⟩
 rcases h2 with h2 | ⟨g, cap, cur, hv, hg, hh, r⟩
 ·exact .inl h2
 ·have e : a = some ⟨g, 0, none⟩ := by simp only [Value.slice.injEq] at hv; exact hv.1
  exact .inr ⟨g, cap, cur, hv, hg, (hk g e).trans hh, r⟩
theorem OwR.setTag {E T : TypeId} {base : Nat} {W : World} {a : Option Addr} {n c p : Nat} {xs : List α} (h : OwR E base W a n c xs) (hp : Tag W p T) (hne : E ≠ T) (i : Nat) (v : Value) : OwR E base (W.setCell ⟨p, i, none⟩ v) a n c xs :=
 h.blocks fun g e => heap_setCell_other W ⟨p, i, none⟩ g v (h.tagNe hp hne g e)
theorem OwR.growTag {E T : TypeId} {base : Nat} {W W' : World} {a : Option Addr} {n c p : Nat} {xs : List α} (h : OwR E base W a n c xs) (hg : W.grownBy W' (some p)) (hp : Tag W p T) (hne : E ≠ T) : OwR E base W' a n c xs :=
 h.blocks fun g e => hg.block g (by
  obtain ⟨C, fr, h1⟩ := (show Tag W g E by subst e; exact h.tag)
  exact (Array.getElem?_eq_some_iff.1 h1).1) (fun e2 => h.tagNe hp hne g e (Option.some.inj e2))
theorem OwR.growNone {E : TypeId} {base : Nat} {W W' : World} {a : Option Addr} {n c : Nat} {xs : List α} (h : OwR E base W a n c xs) (hg : W.grownBy W' none) : OwR E base W' a n c xs :=
 h.blocks fun g e => hg.block g (by
  obtain ⟨C, fr, h1⟩ := (show Tag W g E by subst e; exact h.tag)
  exact (Array.getElem?_eq_some_iff.1 h1).1) (fun e2 => by cases e2)
end
theorem OwI.tag {k : IntKind} {E : TypeId} {base : Nat} {W : World} {g n c : Nat} {xs : List Int} (h : OwI k E base W (some ⟨g, 0, none⟩) n c xs) : Tag W g E := by
 obtain ⟨_, h2⟩ := h
 rcases h2 with ⟨e, _⟩ | ⟨g', cap, cur, hv, _, hh, _⟩
 ·cases e
 ·simp only [Value.slice.injEq, Option.some.injEq, Addr.mk.injEq, and_true, true_and] at hv
  obtain ⟨rfl, _⟩ := hv
  exact ⟨cur, (0, 0), hh⟩
theorem OwI.tagNe {k : IntKind} {E T : TypeId} {base : Nat} {W : World} {a : Option Addr} {n c p : Nat} {xs : List Int} (h : OwI k E base W a n c xs) (hp : Tag W p T) (hne : E ≠ T) : ∀ g, a = some ⟨g, 0, none⟩ → g ≠ p := by
 rintro g rfl rfl
 obtain ⟨C, fr, h1⟩ := h.tag
 obtain ⟨C', fr', h2⟩ := hp
 rw [h1] at h2
 simp only [Option.some.injEq, Obj.cells.injEq] at h2
 exact hne h2.2.1
theorem OwI.blocks {k : IntKind} {E : TypeId} {base : Nat} {W W' : World} {a : Option Addr} {n c : Nat} {xs : List Int} (h : OwI k E base W a n c xs) (hk : ∀ g, a = some ⟨g, 0, none⟩ → W'.heap[g]? = W.heap[g]?) : OwI k E base W' a n c xs := by
 obtain ⟨h1, h2⟩ := h
 refine ⟨h1, ?_⟩
 rcases h2 with h2 | ⟨g, cap, cur, hv, hg, hh, r⟩
 ·exact .inl h2
 ·have e : a = some ⟨g, 0, none⟩ := by simp only [Value.slice.injEq] at hv; exact hv.1
  exact .inr ⟨g, cap, cur, hv, hg, (hk g e).trans hh, r⟩
theorem OwI.setTag {k : IntKind} {E T : TypeId} {base : Nat} {W : World} {a : Option Addr} {n c p : Nat} {xs : List Int} (h : OwI k E base W a n c xs) (hp : Tag W p T) (hne : E ≠ T) (i : Nat) (v : Value) : OwI k E base (W.setCell ⟨p, i, none⟩ v) a n c xs :=
 h.blocks fun g e => heap_setCell_other W ⟨p, i, none⟩ g v (h.tagNe hp hne g e)
theorem OwI.growTag {k : IntKind} {E T : TypeId} {base : Nat} {W W' : World} {a : Option Addr} {n c p : Nat} {xs : List Int} (h : OwI k E base W a n c xs) (hg : W.grownBy W' (some p)) (hp : Tag W p T) (hne : E ≠ T) : OwI k E base W' a n c xs :=
 h.blocks fun g e => hg.block g (by
  obtain ⟨C, fr, h1⟩ := (show Tag W g E by subst e; exact h.tag)
  exact (Array.getElem?_eq_some_iff.1 h1).1) (fun e2 => h.tagNe hp hne g e (Option.some.inj e2))
theorem OwI.growNone {k : IntKind} {E : TypeId} {base : Nat} {W W' : World} {a : Option Addr} {n c : Nat} {xs : List Int} (h : OwI k E base W a n c xs) (hg : W.grownBy W' none) : OwI k E base W' a n c xs :=
 h.blocks fun g e => hg.block g (by
  obtain ⟨C, fr, h1⟩ := (show Tag W g E by subst e; exact h.tag)
  exact (Array.getElem?_eq_some_iff.1 h1).1) (fun e2 => by cases e2)
theorem OwI.growNe {k : IntKind} {E : TypeId} {base : Nat} {W W' : World} {a : Option Addr} {n c p : Nat} {xs : List Int} (h : OwI k E base W a n c xs) (hg : W.grownBy W' (some p)) (hne : a ≠ some ⟨p, 0, none⟩) : OwI k E base W' a n c xs :=
 h.blocks fun g e => hg.block g (by
  obtain ⟨C, fr, h1⟩ := (show Tag W g E by subst e; exact h.tag)
  exact (Array.getElem?_eq_some_iff.1 h1).1) (fun e2 => hne (by rw [e, Option.some.inj e2]))
theorem Tag.lt {W : World} {p : Nat} {T : TypeId} (h : Tag W p T) : p < W.heap.size := by
 obtain ⟨C, fr, h1⟩ := h
 exact (Array.getElem?_eq_some_iff.1 h1).1
theorem Bk.growTag {W W' : World} {b p : Nat} {T T' : TypeId} {C : Array Value} (h : Bk W b T C) (hg : W.grownBy W' (some p)) (hp : Tag W p T') (hne : T ≠ T') : Bk W' b T C :=
 (hg.block b h.lt (fun e => by
  obtain rfl := Option.some.inj e
  obtain ⟨C', fr, h2⟩ := hp
  have h3 := h.symm.trans h2
  simp only [Option.some.injEq, Obj.cells.injEq] at h3
  exact hne h3.2.1)).trans h
theorem log_rw {base n : Nat} {W : World} {a : Option Addr} {c : Nat} {es : List En} (h : OwR 41 base W a n c es) (hn : n ≤ 4096) (hok : ∀ x, x < n → (nthR es x).Ok) : Rw W a n c es := by
 have hl := h.1
 refine h.rw (by omega) (fun x hx => ?_)
 obtain ⟨i, hi, rfl⟩ := List.mem_iff_getElem.1 hx
 rw [← nthR_get hi]
 exact hok i (by omega)
open Go.RowKit Go.Sort Go.Shelf Go.Maps
structure TsR where
 a : Option Addr
 n : Nat
 c : Nat
def TsR.enc (x : TsR) : List Value := [.slice x.a x.n x.c]
instance : Cel TsR where
 dflt := ⟨none, 0, 0⟩
 sz := 1
 enc := TsR.enc
 ok := fun _ => True
 len := fun _ => rfl
 pos := by decide
 one := by intro x v hv; simp [TsR.enc] at hv; rw [hv]; rfl
theorem sz_ts : Cel.sz TsR = 1 := rfl
abbrev RO : TypeId := 24
abbrev RE : TypeId := 41
abbrev RH : TypeId := 34
abbrev RI : TypeId := 3
abbrev RIS : TypeId := 55
abbrev RPs : TypeId := 67
structure PRep (base : Nat) (W : World) (b6 key : Nat) (s : Ps) (oa : Option Addr) (oc : Nat) (ta : Option Addr) (tc : Nat) (ha : Option Addr) (hn hc : Nat) (ka : Option Addr) (kc : Nat) (os : List OfR) (ts : List TsR) : Prop where
 blk : Bk W b6 RPs #[.slice oa 3 oc, .slice ta 3 tc, .slice ha hn hc, .slice ka 3 kc]
 off : OwR RO base W oa 3 oc os
 ids : ∀ j, j < 3 → (nthR os j).id = (j : Int) + 1 ∧ (nthR os j).n = (s.lg j).length ∧ OwR RE base W (nthR os j).a (nthR os j).n (nthR os j).c (s.lg j)
 tim : OwR RIS base W ta 3 tc ts
 tms : ∀ j, j < 3 → OwI .i64 RI base W (nthR ts j).a (nthR ts j).n (nthR ts j).c (s.tm j)
 hed : OwR RH base W ha hn hc s.hs
 key_ : OwI .i64 RI base W ka 3 kc (psK key)
 far : ∀ i j, i < 3 → j < 3 → i ≠ j → ∀ g, (nthR ts i).a = some ⟨g, 0, none⟩ → (nthR ts j).a ≠ some ⟨g, 0, none⟩
 fark : ∀ i, i < 3 → ∀ g, (nthR ts i).a = some ⟨g, 0, none⟩ → ka ≠ some ⟨g, 0, none⟩
section
variable {base : Nat} {W W' : World} {b6 key : Nat} {s : Ps} {oa : Option Addr} {oc : Nat} {ta : Option Addr} {tc : Nat} {ha : Option Addr} {hn hc : Nat} {ka : Option Addr} {kc : Nat} {os : List OfR} {ts : List TsR}
theorem PRep.ext (h : PRep base W b6 key s oa oc ta tc ha hn hc ka kc os ts) (hx : Ext W W') : PRep base W' b6 key s oa oc ta tc ha hn hc ka kc os ts :=
 ⟨h.blk.ext hx, h.off.ext hx, fun j hj => ⟨(h.ids j hj).1, (h.ids j hj).2.1, (h.ids j hj).2.2.ext hx⟩, h.tim.ext hx, fun j hj => (h.tms j hj).ext hx, h.hed.ext hx, h.key_.ext hx, h.far, h.fark⟩
theorem PRep.time (h : PRep base W b6 key s oa oc ta tc ha hn hc ka kc os ts) (t : Int) : PRep base W b6 key ⟨t, s.lg, s.tm, s.hs, s.st⟩ oa oc ta tc ha hn hc ka kc os ts :=
 ⟨h.blk, h.off, h.ids, h.tim, h.tms, h.hed, h.key_, h.far, h.fark⟩
theorem PRep.head (h : PRep base W b6 key s oa oc ta tc ha hn hc ka kc os ts) (hg : W.grownBy W' (Value.slice ha hn hc).ownBlock) {ha' : Option Addr} {hc' : Nat} {g : Hd} (hown : OwR RH base W' ha' (hn + 1) hc' (s.hs ++ [g])) (t : Int) :
  PRep base (W'.setCell ⟨b6, 2, none⟩ (.slice ha' (hn + 1) hc')) b6 key ⟨t, s.lg, s.tm, s.hs ++ [g], s.st ++ [t]⟩ oa oc ta tc ha' (hn + 1) hc' ka kc os ts := by
 have tg : ∀ {α : Type} [Cel α] {E : TypeId} {a : Option Addr} {n c : Nat} {xs : List α}, OwR E base W a n c xs → E ≠ RH → OwR E base W' a n c xs := by
  intro α _ E a n c xs ho hne
  rcases h.hed.headAt with ⟨e, _⟩ | ⟨q, e, _⟩
  ·rw [e] at hg; exact ho.growNone hg
  ·have ht := h.hed
   rw [e] at hg ht
   exact ho.growTag hg ht.tag hne
 have tgi : ∀ {a : Option Addr} {n c : Nat} {xs : List Int}, OwI .i64 RI base W a n c xs → OwI .i64 RI base W' a n c xs := by
  intro a n c xs ho
  rcases h.hed.headAt with ⟨e, _⟩ | ⟨q, e, _⟩
  ·rw [e] at hg; exact ho.growNone hg
  ·have ht := h.hed
   rw [e] at hg ht
   exact ho.growTag hg ht.tag (by decide)
 have hb : Bk W' b6 RPs #[.slice oa 3 oc, .slice ta 3 tc, .slice ha hn hc, .slice ka 3 kc] := by
  rcases h.hed.headAt with ⟨e, _⟩ | ⟨q, e, _⟩
  ·rw [e] at hg; exact (hg.block b6 h.blk.lt (fun e2 => by cases e2)).trans h.blk
  ·have ht := h.hed
   rw [e] at hg ht
   exact h.blk.growTag hg ht.tag (by decide)
 have ht := hb.tag
 exact ⟨hb.set 2 _, (tg h.off (by decide)).setTag ht (by decide) 2 _, fun j hj => ⟨(h.ids j hj).1, (h.ids j hj).2.1, (tg (h.ids j hj).2.2 (by decide)).setTag ht (by decide) 2 _⟩, (tg h.tim (by decide)).setTag ht (by decide) 2 _, fun j hj => (tgi (h.tms j hj)).setTag ht (by decide) 2 _, hown.setTag ht (by decide) 2 _, (tgi h.key_).setTag ht (by decide) 2 _, h.far, h.fark⟩
end
end Go.Proofs.YtacicanjmleikaaGreatDoor
