/-
  Package reclaim, walked: Reclaim and Read. Written by wip/gen_qp.py.
-/
import Derived.Test.YtacicanjmleikaaQO
namespace Go.Proofs.Ytacicanjmleikaa
open Go.RowKit Go.Sort Go.Shelf
set_option linter.unusedSimpArgs false
set_option linter.unusedVariables false
set_option maxRecDepth 100000
attribute [local go_sem] Oper.semAt_some

section
variable {α : Type} [Cel α]
/-- 'append(s, x)' of a record, at a step of a walk with a fence. -/
theorem appR1In {F : Fence} {n' : Nat} {P : Program} {T E : TypeId} {z : Value} {by_ : Nat} (hE : ElS P T E z (Cel.sz α) by_) {ops : Array Oper} {rest : List Oper} {o : Oper} {a : Act} {Q : Exit → Act → World → Prop} (hgd : o.guard = none) (s x : Operand)
    (ho : o.op = .call { callee := .builtin .append, args := #[s, x], argTypes := #[T, T] })
    (w : World) (base : Nat) (sa : Option Addr) (n c : Nat) (xs : List α) (y : α) (cs : Array Value) (hcs : cs.toList = Cel.enc y) (hs : a.eval s = .slice sa n c) (hown : OwR E base w sa n c xs)
    (hx : a.eval x = .slice (some ⟨w.heap.size, 0, none⟩) 1 1) (hbase : base ≤ w.heap.size) (h63 : n + 1 ≤ maxLen) (hbytes : (n + 1) * by_ ≤ 140737488355328)
    (h : ∀ g cap w', OwR E base w' (some ⟨g, 0, none⟩) (n + 1) cap (xs ++ [y]) → Below base w w' → KeepsOthers w w' → wpListIn F n' P ops Q rest (a.put o.dst (.slice (some ⟨g, 0, none⟩) (n + 1) cap)) w') :
    wpListIn F n' P ops Q (o :: rest) a (w.alloc (.cells cs E)) := by
  have hE0 : Ext w (w.alloc (.cells cs E)) := (Ext.refl w).alloc _
  have hr : (w.alloc (.cells cs E)).rangeAt w.heap.size 0 (Cel.enc y) := by
    intro j v hv
    rw [cell_of_row (w.alloc (.cells cs E)) w.heap.size (0 + j) cs E (0, 0) (World.alloc_heap_new w _), ← Array.getElem?_toList, hcs, Nat.zero_add]
    exact hv
  obtain ⟨hT, hI, hzs, hsz⟩ := hE
  obtain ⟨i, hi, hz, hsz', hby⟩ := info_parts hI
  have ho2 := (hown.ext hE0).2
  have hb2 : base ≤ (w.alloc (.cells cs E)).heap.size := by simp; omega
  refine wpListIn_append_own (w.alloc (.cells cs E)) hgd s x T ho base E i z (Cel.sz α) by_ hT hi hz hsz' hby hzs hsz _ n _ hs ho2 ⟨w.heap.size, 0, none⟩ 1 1 (Cel.enc y) hx (by rw [Cel.len, Nat.one_mul]) (fun j u hu => by rw [Addr.add_mid]; exact hr j u hu) (fun u hu => Cel.one y u hu) h63 hbytes hb2 ?_
  intro v' w' h2 h3 _
  have hv : ∃ g cap, v' = .slice (some ⟨g, 0, none⟩) (n + 1) cap := by
    rcases h2.2 with ⟨hv, h0⟩ | ⟨g, cap, cur, hv, _⟩
    · omega
    · exact ⟨g, cap, by simpa using hv⟩
  obtain ⟨g, cap, rfl⟩ := hv
  refine h g cap w' ⟨by simp [hown.1], by rw [List.flatMap_append]; simpa using h2⟩ (((Below.refl base w).alloc hbase _).grown h3 hb2 fun k hk => (ho2.lt k hk).1) ((KeepsOthers.alloc w _).trans (KeepsOthers.of_grownBy h3 ?_))
  intro j o' hj ho'
  rcases ho2.2 with ⟨hv, _⟩ | ⟨g', cap', cur, hv, _, hb, _⟩
  · rw [hv] at hj; cases hj
  · simp only [Value.slice.injEq] at hv
    obtain ⟨rfl, _, rfl⟩ := hv
    have : j = g' := by simp [Value.ownBlock] at hj; exact hj.symm
    subst this
    rw [ho'] at hb
    cases hb
    rfl
theorem OwR.setOther {E : TypeId} {base : Nat} {W : World} {a : Option Addr} {n c : Nat} {xs : List α} (h : OwR E base W a n c xs) {b : Nat} (hb : b < base) (v : Value) : OwR E base (W.setCell ⟨b, 0, none⟩ v) a n c xs := by
  obtain ⟨h0, h1, h2⟩ := h
  refine ⟨h0, h1, ?_⟩
  rcases h2 with h2 | ⟨g, cap, cur, hv, hg, hh, r⟩
  · exact .inl h2
  · exact .inr ⟨g, cap, cur, hv, hg, (heap_setCell_other W ⟨b, 0, none⟩ g v (by simp only; omega)).trans hh, r⟩
theorem OwR.grow {E : TypeId} {base : Nat} {W W' : World} {row : Option Nat} {a : Option Addr} {n c : Nat} {xs : List α} (h : OwR E base W a n c xs) (hg : W.grownBy W' row) (hr : ∀ r, row = some r → ∃ o : Obj, W.heap[r]? = some o ∧ o.isCells = false) : OwR E base W' a n c xs := by
  obtain ⟨h0, h1, h2⟩ := h
  refine ⟨h0, h1, ?_⟩
  rcases h2 with h2 | ⟨g, cap, cur, hv, hb, hh, r⟩
  · exact .inl h2
  · refine .inr ⟨g, cap, cur, hv, hb, (hg.block g (Array.getElem?_eq_some_iff.1 hh).1 ?_).trans hh, r⟩
    intro e
    obtain ⟨o, ho, hn⟩ := hr g e.symm
    rw [hh] at ho; cases ho; cases hn
end

theorem recTo_mem (l : List Vn) (h : Int) : ∀ i, ∀ x ∈ (recTo l h i).2, x ∈ l
  | 0, x, hx => by rw [recTo_zero] at hx; simp at hx
  | i + 1, x, hx => by
    by_cases hi : i < l.length
    · rw [recTo_succ hi] at hx
      have hm : nthR l (l.length - 1 - i) ∈ l := nthR_mem (by omega)
      unfold recStep at hx
      split at hx
      · simp only at hx
        split at hx
        · exact recTo_mem l h i x hx
        · rcases List.mem_append.1 hx with h1 | h1
          · exact recTo_mem l h i x h1
          · rw [List.mem_singleton.1 h1]; exact hm
      · rcases List.mem_append.1 hx with h1 | h1
        · exact recTo_mem l h i x h1
        · rw [List.mem_singleton.1 h1]; exact hm
    · have e : recTo l h (i + 1) = recTo l h i := by
        unfold recTo
        rw [List.take_of_length_le (by rw [List.length_reverse]; omega), List.take_of_length_le (by rw [List.length_reverse]; omega)]
      rw [e] at hx
      exact recTo_mem l h i x hx
theorem OwR.put0 {base D : Nat} {W : World} {a : Option Addr} {n c : Nat} {l : List Vn} {o o' : Obj} (h : OwR 47 base W a n c l) (hD : W.heap[D]? = some o) (hc : o.isCells = false := by rfl) : OwR 47 base (W.putObj D o') a n c l := by
  obtain ⟨h0, h1, h2⟩ := h
  refine ⟨h0, h1, ?_⟩
  rcases h2 with h2 | ⟨g, cap, cur, hv, hb, hh, r⟩
  · exact .inl h2
  · refine .inr ⟨g, cap, cur, hv, hb, (World.putObj_heap_other ?_).trans hh, r⟩
    intro e
    subst e
    rw [hD] at hh; cases hh; cases hc
theorem boxGrow {W W' : World} {B : Nat} {t : TypeId} {v : Value} {row : Option Nat} (h : Boxed W B t v) (hg : W.grownBy W' row) (hr : ∀ r, row = some r → ∃ o : Obj, W.heap[r]? = some o ∧ o.isCells = false) : Boxed W' B t v := by
  refine h.kept hg ?_
  intro e
  obtain ⟨o, ho, hn⟩ := hr B e.symm
  have h1' : W.heap[B]? = some (.cells #[_] t (0, 0)) := h
  rw [ho] at h1'; cases h1'; cases hn
theorem boxExt {W W' : World} {B : Nat} {t : TypeId} {v : Value} (h : Boxed W B t v) (hx : Ext W W') : Boxed W' B t v := (hx.block _ h.lt).trans h
theorem boxBelow {W W' : World} {B base : Nat} {t : TypeId} {v : Value} (h : Boxed W B t v) (hx : Below base W W') (hb : B < base) : Boxed W' B t v := (hx.block _ hb).trans h

theorem staying_any (a : Option Addr) (n c : Nat) (l : List Vn) (h : Int) (w : World) :
    Calls Try.prog 35 #[.slice a n c, .int .i64 h] w fun e w' => ∃ Bs Bh Bc kb, e = .returned (.func (.func 51) #[] #[.pointer (some ⟨kb, 0, none⟩), .pointer (some ⟨Bs, 0, none⟩), .pointer (some ⟨Bh, 0, none⟩), .pointer (some ⟨Bc, 0, none⟩)]) ∧ CapS Bs Bh Bc kb a n c h w w' ∧ Boxed w' kb 3 (.int .i64 0) ∧ w.heap.size ≤ kb ∧ kb ≠ Bs ∧ kb ≠ Bh ∧ kb ≠ Bc ∧ w.heap.size ≤ Bs ∧ w.heap.size ≤ Bh ∧ w.heap.size ≤ Bc := by
  have hmf : ∀ (fn : Fn) (first cap : Array Value) (w : World), (Instr.makeFunc fn first cap).run Try.prog w = .ok (.func fn first cap) w := fun _ _ _ _ => rfl
  have hsf : ∀ (ad : Addr) (f : Fn) (fs cs : Array Value) (m : Mode) (W : World), (store ad (.func f fs cs) m).run Try.prog W = stored Try.prog W ad (.func f fs cs) m := fun ad f fs cs m W => run_store Try.prog W ad _ m rfl
  have hb1 := Boxed.new w 33 (.slice a n c)
  have hb2 := Boxed.new (w.alloc (.cells #[.slice a n c] 33)) 3 (.int .i64 h)
  have hb3 := Boxed.new ((w.alloc (.cells #[.slice a n c] 33)).alloc (.cells #[.int .i64 h] 3)) 3 (.int .i64 0)
  go_enter Try.func35, Try.ntmps35
  have hb4 := Boxed.new (((w.alloc (.cells #[.slice a n c] 33)).alloc (.cells #[.int .i64 h] 3)).alloc (.cells #[.int .i64 0] 3)) 89 (.func (.func 50) #[] #[.pointer (some ⟨w.heap.size + 1 + 1, 0, none⟩)])
  simp only [World.size_alloc] at hb2 hb3 hb4
  go_wp2_with fail
  go_ret
  exact ⟨_, _, _, _, rfl, ⟨((hb1.alloc _).alloc _).alloc _, (hb2.alloc _).alloc _, hb4, ((((Ext.refl w).alloc _).alloc _).alloc _).alloc _⟩, hb3.alloc _, by omega, by omega, by omega, by omega, by omega, by omega, by omega⟩

theorem redge_any (n : Int) (w : World) : Calls Try.prog 34 #[.int .i64 n] w fun e w' => e = .returned (.bool (inT n 0 3000000000000000)) ∧ w = w' := by
  by_cases h1 : (0 : Int) ≤ n
  · by_cases h2 : n ≤ 3000000000000000
    · have e : inT n 0 3000000000000000 = true := inT_iff.2 ⟨h1, h2⟩
      rw [e]; clear e
      go_enter Try.func34, Try.ntmps34
      go_wp2
      go_ret
      exact ⟨rfl, rfl⟩
    · have e : inT n 0 3000000000000000 = false := inT_no (by omega)
      rw [e]; clear e
      go_enter Try.func34, Try.ntmps34
      go_wp2
      go_ret
      exact ⟨ret_bool (by simp), rfl⟩
  · have e : inT n 0 3000000000000000 = false := inT_no (by omega)
    rw [e]; clear e
    go_enter Try.func34, Try.ntmps34
    go_wp2
    go_ret
    exact ⟨rfl, rfl⟩
theorem rstamp_any (n : Int) (w : World) : Calls Try.prog 37 #[.int .i64 n] w fun e w' => e = .returned (.bool (inT n 1 3000000000000000)) ∧ w = w' := by
  by_cases h1 : (1 : Int) ≤ n
  · by_cases h2 : n ≤ 3000000000000000
    · have e : inT n 1 3000000000000000 = true := inT_iff.2 ⟨h1, h2⟩
      rw [e]; clear e
      go_enter Try.func37, Try.ntmps37
      go_wp2
      go_ret
      exact ⟨rfl, rfl⟩
    · have e : inT n 1 3000000000000000 = false := inT_no (by omega)
      rw [e]; clear e
      go_enter Try.func37, Try.ntmps37
      go_wp2
      go_ret
      exact ⟨ret_bool (by simp), rfl⟩
  · have e : inT n 1 3000000000000000 = false := inT_no (by omega)
    rw [e]; clear e
    go_enter Try.func37, Try.ntmps37
    go_wp2
    go_ret
    exact ⟨rfl, rfl⟩

/-- What is so at each round of Reclaim's loop. -/
structure RecI (Bo Bs Bh Bc kb base : Nat) (a : Option Addr) (n c : Nat) (h : Int) (w w0 : World) (pre : List Vn) (W : World) : Prop where
  row : ∃ a' c', Boxed W Bo 33 (.slice a' pre.length c') ∧ OwR 47 base W a' pre.length c' pre
  cap : CapS Bs Bh Bc kb a n c h w0 W
  ext : Ext w W
  sz : base ≤ W.heap.size
theorem RecI.own {Bo Bs Bh Bc kb base : Nat} {a : Option Addr} {n c : Nat} {h : Int} {w w0 : World} (hb0 : w0.heap.size ≤ base) (hb : w.heap.size ≤ base) : OwnFrom base (RecI Bo Bs Bh Bc kb base a n c h w w0) := by
  rintro pre W W' row ⟨⟨a', c', h1, h2⟩, h3, h4, h5⟩ hg hr
  have hne : ∀ r, row = some r → ∃ o : Obj, W.heap[r]? = some o ∧ o.isCells = false := fun r e => (hr r e).2
  refine ⟨⟨a', c', boxGrow h1 hg hne, h2.grow hg hne⟩, ⟨boxGrow h3.s hg hne, boxGrow h3.h hg hne, boxGrow h3.c hg hne, ?_⟩, ?_, Nat.le_trans h5 hg.size⟩
  · exact Below.grown h3.e hg (by omega) (fun k e => by have := (hr k e).1; omega)
  · exact Below.grown h4 hg (by omega) (fun k e => by have := (hr k e).1; omega)
theorem RecI.set {Bo Bs Bh Bc kb base : Nat} {a : Option Addr} {n c : Nat} {h : Int} {w w0 : World} {pre : List Vn} {W : World} (h1 : RecI Bo Bs Bh Bc kb base a n c h w w0 pre W) (hk : kb < base) (hw : w.heap.size ≤ kb) (hw0 : w0.heap.size ≤ kb) (hs : kb ≠ Bs) (hh : kb ≠ Bh) (hc : kb ≠ Bc) (ho : kb ≠ Bo) (v : Value) :
    RecI Bo Bs Bh Bc kb base a n c h w w0 pre (W.setCell ⟨kb, 0, none⟩ v) := by
  obtain ⟨⟨a', c', h2, h3⟩, h4, h5, h6⟩ := h1
  exact ⟨⟨a', c', h2.other (by omega) v, h3.setOther hk v⟩, ⟨h4.s.other (by omega) v, h4.h.other (by omega) v, h4.c.other (by omega) v, h4.e.setCell (p := ⟨kb, 0, none⟩) hw0 v⟩, h5.setCell (p := ⟨kb, 0, none⟩) hw v, by simp [World.setCell]; omega⟩
theorem RecI.ex {Bo Bs Bh Bc kb base : Nat} {a : Option Addr} {n c : Nat} {h : Int} {w w0 : World} {pre : List Vn} {W W' : World} (h1 : RecI Bo Bs Bh Bc kb base a n c h w w0 pre W) (hx : Ext W W') : RecI Bo Bs Bh Bc kb base a n c h w w0 pre W' := by
  obtain ⟨⟨a', c', h2, h3⟩, h4, h5, h6⟩ := h1
  exact ⟨⟨a', c', boxExt h2 hx, h3.ext hx⟩, ⟨boxExt h4.s hx, boxExt h4.h hx, boxExt h4.c hx, h4.e.trans hx⟩, h5.trans hx, Nat.le_trans h6 hx.sz⟩

set_option maxHeartbeats 4000000 in
theorem reclaim_any (a : Option Addr) (n c : Nat) (l : List Vn) (h : Int) (w : World) (h1 : Rw w a n c l) (g1 : validV l = true) (g2 : inT h 0 3000000000000000 = true) :
    Calls Try.prog 13 #[.slice a n c, .int .i64 h] w fun e w' => ∃ a' m c', e = .returned (.tuple #[.slice a' m c', .int .i64 0]) ∧ OwR 47 w.heap.size w' a' m c' (recV l h) ∧ Ext w w' := by
  have hV := validV_iff.1 g1
  have bd := h1.bd
  have HL := Lib.hid h1.hlen
  have hn4 : n ≤ 4000 := by rw [← HL.out]; exact hV.2.2
  have hva := vvalid_any a n c l w h1
  rw [g1] at hva
  have HVA := Lib.hid hva
  have hst := fun V => redge_any h V
  rw [g2] at hst
  have HST := Lib.hid hst
  have HOK := Lib.hid h1.wf
  clear hV g1 g2 hva hst
  refine (callsIn_wide (n := 6)).1 ?_
  refine callsIn_of_wp_marks Try.func13 rfl trivial ?_ rfl
  simp only [Try.ntmps13, List.size_toArray, List.length_cons, List.length_nil, Nat.reduceAdd, Nat.reduceSub, Array.replicate_succ, Array.replicate_zero, List.push_toArray, List.append_toArray, List.nil_append, List.cons_append]
  gi_wp2_with (refine ⟨trivial, ?_⟩; gi_at_call 33; refine (callsIn_wide.2 HVA.out).mono ?_; rintro e w1 ⟨rfl, hx1⟩; refine hold ?_)
  refine held ?_
  have hbo := Boxed.new w1 33 (.slice none 0 0)
  have hx2 : Ext w (w1.alloc (.cells #[.slice none 0 0] 33)) := hx1.trans ((Ext.refl w1).alloc _)
  gi_wp2_with (refine ⟨trivial, ?_⟩; gi_at_call 34; refine (callsIn_wide.2 (HST.out _)).mono ?_; rintro _ _ ⟨rfl, rfl⟩)
  refine ⟨trivial, ?_⟩
  refine (callsIn_wide.2 (staying_any a n c l h _)).mono ?_
  rintro e W0 ⟨Bs, Bh, Bc, kb, rfl, hcap, hkb, hk1, hk2, hk3, hk4, hs2, hs3, hs4⟩
  have hbo2 := boxExt hbo hcap.e
  obtain ⟨Bo, hBo⟩ : ∃ Bo, w1.heap.size = Bo := ⟨_, rfl⟩
  rw [hBo] at hbo2 ⊢
  have hs1 : w1.heap.size + 1 ≤ kb := by simpa using hk1
  have hs2' : w1.heap.size + 1 ≤ Bs := by simpa using hs2
  have hs3' : w1.heap.size + 1 ≤ Bh := by simpa using hs3
  have hs4' : w1.heap.size + 1 ≤ Bc := by simpa using hs4
  clear hs2 hs3 hs4
  have hwB : w.heap.size ≤ Bo := by have := hx1.sz; omega
  have hoB := hbo2.lt
  have hkB := hkb.lt
  have hE0 : Ext w W0 := hx2.trans hcap.e
  have hRw := h1.ext hx2
  generalize w1.alloc (.cells #[.slice none 0 0] 33) = w2 at *
  clear hbo hx1 HVA HST
  have hAok : ∀ x ∈ l, Cel.ok x := HOK.out
  have hNil : RecI Bo Bs Bh Bc kb W0.heap.size a n c h w w [] W0 := ⟨⟨none, 0, hbo2, OwR.nil _ _ _⟩, ⟨hcap.s, hcap.h, hcap.c, hE0⟩, hE0, Nat.le_refl _⟩
  gi_wp2
  refine wpIn_rangeW rfl (by omega) (gf := 51) (lb := #[.pointer (some ⟨kb, 0, none⟩), .pointer (some ⟨Bs, 0, none⟩), .pointer (some ⟨Bh, 0, none⟩), .pointer (some ⟨Bc, 0, none⟩)]) rfl trivial (enters_of Try.func51 (by kernel_rfl) rfl)
    (staying2_in (6 - 1) (by omega) Bs Bh Bc kb a n c l h w h1 hn4) rfl
    (RecI Bo Bs Bh Bc kb W0.heap.size a n c h w w) (RecI.own hE0.sz hE0.sz)
    (fun pre A v v' hI hb => hI.set hkB (by omega) (by omega) hk2 hk3 hk4 (by omega) v')
    (fun pre A A' hI hx => hI.ex hx) (fun pre A hI => hI.cap) hNil hkb
    (fun x a' W => ∃ Bx, W0.heap.size ≤ Bx ∧ Bk W Bx 47 #[.int .i64 x.k, .int .i64 x.t, .int .i64 x.v, .bool x.g] ∧ a' = { tmps := #[.slice a n c, .int .i64 h, undef, undef, .slice none 0 0, .int .i64 0, .pointer (some ⟨Bo, 0, none⟩), .pointer (some ⟨Bx, 0, none⟩), .slice a n c, .bool true, .bool false, .bool false, .int .i64 h, .bool true, .bool false, .bool false, .slice a n c, .int .i64 h, .func (.func 51) #[] #[.pointer (some ⟨kb, 0, none⟩), .pointer (some ⟨Bs, 0, none⟩), .pointer (some ⟨Bh, 0, none⟩), .pointer (some ⟨Bc, 0, none⟩)], valV x, undef, undef, undef, undef, undef, undef, undef], defers := [] })
    ?hAx ?assign ?body ?done
  case hAx =>
    rintro x a' _ X Y row ⟨Bx, h1, h2, h3⟩ hg hr
    refine ⟨Bx, h1, ?_, h3⟩
    refine (hg.block Bx h2.lt ?_).trans h2
    intro e
    obtain ⟨o, ho, hn⟩ := (hr Bx e.symm).2
    unfold Bk at h2
    rw [h2] at ho; cases ho; cases hn
  case assign =>
    rintro lp pre x W K hI hK
    unfold valV at hK ⊢
    gi_wp2
    exact hK _ _ ((Ext.refl W).alloc _) ⟨W.heap.size, hI.sz, Bk.new W _ _, rfl⟩
  case body =>
    rintro lp pre x v a' W hI hbp ⟨Bx, hBx, bX, rfl⟩ hlt
    obtain ⟨⟨a', c', r1, r2⟩, hcap1, hE1, hsz1⟩ := hI
    have cX0 := bX.c 0 _ rfl
    have cX1 := bX.c 1 _ rfl
    have cX2 := bX.c 2 _ rfl
    have cX3 := bX.c 3 _ rfl
    have cO := r1.cell
    have fO := r1.frozen
    have HPL : Hid (pre.length ≤ 4000) := Lib.hid (by have := HL.out; omega)
    have HOWN := Lib.hid r2
    have hpl1 : pre.length + 1 ≤ maxLen := by have := HPL.out; unfold maxLen; omega
    have hpl2 : (pre.length + 1) * 32 ≤ 140737488355328 := by have := HPL.out; omega
    unfold valV
    gi_wp2_with (gi_at_builtin; refine appR1In (α := Vn) el_vn rfl _ _ rfl W W0.heap.size _ _ _ _ x _ rfl rfl HOWN.out rfl hsz1 hpl1 hpl2 ?_; intro g3 c3 w3 ho3 hB3 hK3; have hO3 := boxBelow r1 hB3 hoB; have cO3 := hO3.cell; have fO3 := hO3.frozen)
    have el : (pre ++ [x]).length = pre.length + 1 := by simp
    have hwb : w.heap.size ≤ W0.heap.size := hE0.sz
    have hs := hcap.s.lt
    have hh := hcap.h.lt
    have hc := hcap.c.lt
    have hEn := (Below.trans hE1 (Below.mono hB3 hwb)).setCell (p := ⟨Bo, 0, none⟩) hwB (.slice (some ⟨g3, 0, none⟩) (pre.length + 1) c3)
    refine ⟨hK3.trans (KeepsOthers.setCell _ _ _), ⟨⟨some ⟨g3, 0, none⟩, c3, ?_, ?_⟩, ⟨(boxBelow hcap1.s hB3 hs).other (by omega) _, (boxBelow hcap1.h hB3 hh).other (by omega) _, (boxBelow hcap1.c hB3 hc).other (by omega) _, hEn⟩, hEn, ?_⟩, (boxBelow hbp hB3 hkB).other (by omega) _⟩
    · rw [el]; exact hO3.set _
    · rw [el]; exact ho3.setOther hoB _
    · have := hB3.size
      simp [World.setCell]; omega
  case done =>
    rintro D ys W hD rfl ⟨⟨a', c', r1, r2⟩, hcap1, hE1, hsz1⟩ hK
    have cO := r1.cell
    have HM := Lib.hid (recTo_len l h l.length (Nat.le_refl _))
    have HRV : Hid (recV l h = (recTo l h l.length).2.reverse) := Lib.hid rfl
    have hok2 := fun x hx => hAok x (recTo_mem l h l.length x hx)
    generalize (recTo l h l.length).2 = R at *
    gi_wp2
    refine ⟨trivial, ?_⟩
    refine (callsIn_wide.2 (vreverse_any a' _ c' R W0.heap.size W r2 hok2 (by have := HM.out; have := HL.out; omega))).mono ?_
    rintro e W3 ⟨⟨v, rfl⟩, ho, hB, hko⟩
    have cO3 := (boxBelow r1 hB hoB).cell
    have hK3 := hko.same _ _ hK rfl
    gi_wp2
    refine ⟨by simp, .inl ⟨_, _, rfl, run_takeDeferred hK3, ?_⟩⟩
    refine ⟨_, results_tmp2 rfl _ _ _, a', R.length, c', rfl, ?_, ?_⟩
    · rw [HRV.out]
      exact OwR.put0 (ho.monoB hE0.sz) hK3
    · exact (Below.trans hE1 (Below.mono hB hE0.sz)).trans (belowK_b (w := w) (Nat.le_refl _) W3 D _ _ (by have := hE0.sz; omega) hK3 rfl rfl)
end Go.Proofs.Ytacicanjmleikaa
