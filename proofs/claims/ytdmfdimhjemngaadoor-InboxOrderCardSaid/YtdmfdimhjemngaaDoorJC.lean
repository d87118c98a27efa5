/-
  Relations for the drawn region of InboxOrder. Written by wip/gen_jb2.py.
-/
import Derived.Test.YtdmfdimhjemngaaDoorJA
namespace Go.Proofs.YtdmfdimhjemngaaDoor
open Go.RowKit Go.Sort Go.Shelf
set_option linter.unusedSimpArgs false
set_option linter.unusedVariables false
set_option maxRecDepth 100000

theorem lenlit18 {vs : List Value} (h : vs.length = 18) : ∃ x0 x1 x2 x3 x4 x5 x6 x7 x8 x9 x10 x11 x12 x13 x14 x15 x16 x17 : Value, vs = [x0, x1, x2, x3, x4, x5, x6, x7, x8, x9, x10, x11, x12, x13, x14, x15, x16, x17] := by
  obtain ⟨x0, v0, rfl, h0⟩ := len_cons h
  obtain ⟨x1, v1, rfl, h1⟩ := len_cons h0
  obtain ⟨x2, v2, rfl, h2⟩ := len_cons h1
  obtain ⟨x3, v3, rfl, h3⟩ := len_cons h2
  obtain ⟨x4, v4, rfl, h4⟩ := len_cons h3
  obtain ⟨x5, v5, rfl, h5⟩ := len_cons h4
  obtain ⟨x6, v6, rfl, h6⟩ := len_cons h5
  obtain ⟨x7, v7, rfl, h7⟩ := len_cons h6
  obtain ⟨x8, v8, rfl, h8⟩ := len_cons h7
  obtain ⟨x9, v9, rfl, h9⟩ := len_cons h8
  obtain ⟨x10, v10, rfl, h10⟩ := len_cons h9
  obtain ⟨x11, v11, rfl, h11⟩ := len_cons h10
  obtain ⟨x12, v12, rfl, h12⟩ := len_cons h11
  obtain ⟨x13, v13, rfl, h13⟩ := len_cons h12
  obtain ⟨x14, v14, rfl, h14⟩ := len_cons h13
  obtain ⟨x15, v15, rfl, h15⟩ := len_cons h14
  obtain ⟨x16, v16, rfl, h16⟩ := len_cons h15
  obtain ⟨x17, v17, rfl, h17⟩ := len_cons h16
  obtain rfl := len_nil h17
  exact ⟨x0, x1, x2, x3, x4, x5, x6, x7, x8, x9, x10, x11, x12, x13, x14, x15, x16, x17, rfl⟩

def RLi0 (B : Nat) : RelL Ext := ⟨none, fun _ v W => ∃ g, v = .slice (some ⟨g, 0, none⟩) 0 0 ∧ B ≤ g ∧ W.heap[g]? = some (.cells #[] 3 (0, 0)), fun _ v W W' ⟨g, h1, h2, h3⟩ hE => ⟨g, h1, h2, (hE.block g (Array.getElem?_eq_some_iff.1 h3).1).trans h3⟩⟩
def ROwi (B n : Nat) (L : List Int) : RelL Ext := ⟨none, fun _ v W => ∃ g c, v = .slice (some ⟨g, 0, none⟩) n c ∧ OwI .i64 3 B W (some ⟨g, 0, none⟩) n c L, fun _ v W W' ⟨g, c, h1, h2⟩ hE => ⟨g, c, h1, h2.ext hE⟩⟩
def RTk (X : Bx) : RelL Ext := ⟨none, fun _ v W => ∃ sa sn sc ga gn gc, v = .tuple #[.agg #[.int .i64 X.host, .int .i64 X.round, .int .u64 X.head, .int .i64 X.sent, .int .i64 X.wait, .slice sa sn sc, .slice ga gn gc], .bool true] ∧ BxF W X sa sn sc ga gn gc, fun _ v W W' ⟨sa, sn, sc, ga, gn, gc, h1, h2⟩ hE => ⟨sa, sn, sc, ga, gn, gc, h1, h2.ext hE⟩⟩
def RBox (X : Bx) : RelL Ext := ⟨none, fun _ v W => ∃ sa sn sc ga gn gc, v = .agg #[.int .i64 X.host, .int .i64 X.round, .int .u64 X.head, .int .i64 X.sent, .int .i64 X.wait, .slice sa sn sc, .slice ga gn gc] ∧ BxF W X sa sn sc ga gn gc, fun _ v W W' ⟨sa, sn, sc, ga, gn, gc, h1, h2⟩ hE => ⟨sa, sn, sc, ga, gn, gc, h1, h2.ext hE⟩⟩
def RPtr (B : Nat) (X : Bx) : RelL Ext := ⟨none, fun _ v W => ∃ b, v = .pointer (some ⟨b, 0, none⟩) ∧ B ≤ b ∧ BxSt W b X, fun _ v W W' ⟨b, h1, h2, h3⟩ hE => ⟨b, h1, h2, h3.ext hE⟩⟩
def RStd (B : Nat) (X : Bx) : RelL Ext := ⟨some 15, fun u _ W => ∃ b sa sn sc ga gn gc, u = .pointer (some ⟨b, 0, none⟩) ∧ B ≤ b ∧ Bk W b 33 #[.int .i64 X.host, .int .i64 X.round, .int .u64 X.head, .int .i64 X.sent, .int .i64 X.wait, .slice sa sn sc, .slice ga gn gc] ∧ BxF W X sa sn sc ga gn gc, fun _ v W W' ⟨b, sa, sn, sc, ga, gn, gc, h1, h2, h3, h4⟩ hE => ⟨b, sa, sn, sc, ga, gn, gc, h1, h2, h3.ext hE, h4.ext hE⟩⟩
theorem li0_ow {B g : Nat} {W : World} (h2 : B ≤ g) (h3 : W.heap[g]? = some (.cells #[] 3 (0, 0))) : OwI .i64 3 B W (some ⟨g, 0, none⟩) 0 0 [] := ⟨rfl, .inr ⟨g, 0, #[], rfl, h2, h3, Nat.le_refl _, Nat.zero_le _, rfl, rfl⟩⟩
theorem ow_li0 {B g : Nat} {W : World} (h : OwI .i64 3 B W (some ⟨g, 0, none⟩) 0 0 []) : W.heap[g]? = some (.cells #[] 3 (0, 0)) := by
  rcases h.2 with ⟨hv, _⟩ | ⟨g2, cap, cur, hv, _, hc, _, _, hs, _⟩
  · simp at hv
  · simp only [Value.slice.injEq, Option.some.injEq, Addr.mk.injEq, and_true] at hv
    obtain ⟨rfl, _, rfl⟩ := hv
    rw [hc, Array.eq_empty_of_size_eq_zero (by omega : cur.size = 0)]
theorem li0_ne {B g g2 n c : Nat} {L : List Int} {W : World} (h3 : W.heap[g]? = some (.cells #[] 3 (0, 0))) (h : OwI .i64 3 B W (some ⟨g2, 0, none⟩) n c L) (hn : 0 < n) : some g ≠ some g2 := by
  intro e
  simp only [Option.some.injEq] at e
  subst e
  rcases h.2 with ⟨hv, _⟩ | ⟨g2, cap, cur, hv, _, hc, hnc, _, hs, _⟩
  · simp at hv
  · simp only [Value.slice.injEq, Option.some.injEq, Addr.mk.injEq, and_true] at hv
    obtain ⟨rfl, _, rfl⟩ := hv
    rw [h3] at hc
    simp only [Option.some.injEq, Obj.cells.injEq] at hc
    have := hc.1
    subst this
    simp at hs
    omega
theorem BxSt.by {W W' : World} {b : Nat} {X : Bx} (h : BxSt W b X) {row : Option Nat} (hg : W.grownBy W' row) (hr : row ≠ some b) : BxSt W' b X := by
  have e := hg.block b h.lt (fun e => hr e.symm)
  rcases h with h | ⟨a1, n1, c1, a2, n2, c2, h⟩
  · exact .inl (e.trans h)
  · exact .inr ⟨a1, n1, c1, a2, n2, c2, e.trans h⟩
theorem BxSt.ne {W : World} {b g n c base : Nat} {X : Bx} {L : List Int} (h : BxSt W b X) (ho : OwI .i64 3 base W (some ⟨g, 0, none⟩) n c L) : some g ≠ some b := by
  obtain ⟨_, _, _, _, _, _, _, h7⟩ := h.seven
  exact OwI.other ho h7
theorem grown1 (W : World) (b i : Nat) (v : Value) : W.grownBy (W.setCell ⟨b, i, none⟩ v) (some b) := ⟨rfl, rfl, rfl, (KeepsOthers.setCell W _ _).size, fun k hk hkb => heap_setCell_other W ⟨b, i, none⟩ k v (fun e => hkb (by rw [e]))⟩
theorem grown_tr {W W1 W2 : World} {b : Nat} (h1 : W.grownBy W1 (some b)) (h2 : W1.grownBy W2 (some b)) : W.grownBy W2 (some b) := ⟨h2.os.trans h1.os, h2.tape.trans h1.tape, h2.output.trans h1.output, Nat.le_trans h1.size h2.size, fun k hk hn => (h2.block k (Nat.lt_of_lt_of_le hk h1.size) hn).trans (h1.block k hk hn)⟩
theorem grown7 (W : World) (b : Nat) (v0 v1 v2 v3 v4 v5 v6 : Value) : W.grownBy (((((((W.setCell ⟨b, 0, none⟩ (v0)).setCell ⟨b, 1, none⟩ (v1)).setCell ⟨b, 2, none⟩ (v2)).setCell ⟨b, 3, none⟩ (v3)).setCell ⟨b, 4, none⟩ (v4)).setCell ⟨b, 5, none⟩ (v5)).setCell ⟨b, 6, none⟩ (v6)) (some b) :=
  grown_tr (grown_tr (grown_tr (grown_tr (grown_tr (grown_tr (grown1 _ _ _ _) (grown1 _ _ _ _)) (grown1 _ _ _ _)) (grown1 _ _ _ _)) (grown1 _ _ _ _)) (grown1 _ _ _ _)) (grown1 _ _ _ _)
theorem ans_at {B : Bx} {ord : List Int} (h : OrdP B ord) (ha : ∀ i j, i < j → j < ord.length → nth ord i < nth ord j) {i : Nat} (hi : i < ord.length) : nthR (ansU B ord) i = rpU B (nth ord i) := by
  have := ansU_rise h ha (Nat.le_refl ord.length)
  rw [List.take_length] at this
  rw [this, nthR_get (by rw [List.length_map]; exact hi), List.getElem_map]
  rw [show nth ord i = ord[i] by simp [nth, List.getD_eq_getElem?_getD, hi]]
theorem asked_pos {B : Bx} (h : frmX B = true) : ∀ x ∈ B.asked, 1 ≤ x := fun x hx => by
  have := ascI_gt (frmX_iff.1 h).asked x hx
  omega
theorem cells_g {W : World} {b o : Nat} {x : Rp} (h : W.rangeAt b o (Cel.enc x)) : W.cell? ⟨b, o, none⟩ = some (.int .i64 x.a) ∧ W.cell? ⟨b, o + 4, none⟩ = some (.int .i64 x.lo) := ⟨h 0 _ rfl, h 4 _ rfl⟩
end Go.Proofs.YtdmfdimhjemngaaDoor
