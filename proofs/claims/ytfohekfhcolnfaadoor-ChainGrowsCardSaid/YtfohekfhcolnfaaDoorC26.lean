/-
  Rows of rounds of the call's own while a region draws its order: the row, the chain that holds it, the variable that holds the chain; append of rounds that says which blocks stay.
-/
import Derived.Test.YtfohekfhcolnfaaDoorC25
namespace Go.Proofs.YtfohekfhcolnfaaDoor
open Go.RowKit Go.Sort Go.Shelf
set_option linter.unusedSimpArgs false
set_option linter.unusedVariables false
set_option maxRecDepth 100000

/-- 'append(s, t...)' of rounds, at a step; it tells which blocks stay. -/
theorem appRssG {P : Program} {T T1 : TypeId} {z : Value} (hE : ElS P T T1 z 1 24) {ops : Array Oper} {rest : List Oper} {o : Oper} {a : Act} {Q : Exit → Act → World → Prop} (hgd : o.guard = none) (s x : Operand)
    (ho : o.op = .call { callee := .builtin .append, args := #[s, x], argTypes := #[T, T] })
    (w : World) (base : Nat) (sa : Option Addr) (n c : Nat) (xss : List (List Rp)) (hs : a.eval s = .slice sa n c) (hown : OwRs T1 base w sa n c xss)
    (b off m tc : Nat) (yss : List (List Rp)) (vs' : List Value) (hx : a.eval x = .slice (some ⟨b, off, none⟩) m tc) (hl : vs'.length = m) (hyl : yss.length = m) (hn : w.rangeAt b off vs')
    (hin : ∀ i, i < m → ∃ a' n' c', vs'[i]? = some (.slice a' n' c') ∧ Rw w a' n' c' (nthS yss i) ∧ (∀ b off, a' = some ⟨b, off, none⟩ → 0 < n' → sa ≠ some ⟨b, 0, none⟩))
    (hm : 0 < m) (hbase : base ≤ w.heap.size) (h63 : n + m ≤ maxLen) (hbytes : (n + m) * 24 ≤ 140737488355328)
    (h : ∀ g cap w', OwRs T1 base w' (some ⟨g, 0, none⟩) (n + m) cap (xss ++ yss) → Below base w w' → w.grownBy w' (Value.slice sa n c).ownBlock → wpList P ops Q rest (a.put o.dst (.slice (some ⟨g, 0, none⟩) (n + m) cap)) w') :
    wpList P ops Q (o :: rest) a w := by
  obtain ⟨hlen, vs, hrow, hvs⟩ := hown
  refine appC hE hgd s x ho w base sa n c vs hs hrow b off m tc vs' hx (by omega) hn ?_ hm hbase h63 hbytes ?_
  · intro u hu
    obtain ⟨i, hi, rfl⟩ := List.mem_iff_getElem.mp hu
    obtain ⟨a', n', c', h1, _⟩ := hin i (by omega)
    rw [List.getElem?_eq_getElem hi] at h1
    rw [Option.some.inj h1]; rfl
  intro g cap w' h2 h3 hg h4
  have hvl : vs.length = n := by have := hrow.1; omega
  refine h g cap w' ⟨by simp [hlen, hyl], _, h2, fun i hi => ?_⟩ h3 hg
  have key : ∀ (a' : Option Addr) (n' c' : Nat) (zs : List Rp), Rw w a' n' c' zs → (∀ b off, a' = some ⟨b, off, none⟩ → 0 < n' → sa ≠ some ⟨b, 0, none⟩) → Rw w' a' n' c' zs ∧ (∀ b off, a' = some ⟨b, off, none⟩ → 0 < n' → (some ⟨g, 0, none⟩ : Option Addr) ≠ some ⟨b, 0, none⟩) := by
    intro a' n' c' zs hz hzne
    have hrowne : ∀ b off, a' = some ⟨b, off, none⟩ → 0 < n' → some b ≠ (Value.slice sa n c).ownBlock := by
      intro b off ha hn e
      rcases hrow.2 with ⟨hv, _⟩ | ⟨g', cap', cur, hv, _⟩
      · simp only [Value.slice.injEq] at hv; obtain ⟨rfl, _, _⟩ := hv; cases e
      · simp only [Value.slice.injEq] at hv; obtain ⟨rfl, _, _⟩ := hv
        simp only [Value.ownBlock, Option.some.injEq] at e
        subst e
        exact hzne b off ha hn rfl
    refine ⟨hz.below (fun b off ha hn => hg.block b (hz.lt ha hn) (hrowne b off ha hn)), fun b off ha hn e => ?_⟩
    simp only [Option.some.injEq, Addr.mk.injEq, and_true] at e
    subst e
    rcases h4 with h4 | h4
    · exact hrowne g off ha hn h4.symm
    · have := hz.lt ha hn
      omega
  by_cases hi1 : i < n
  · obtain ⟨a', n', c', h5, h6, h7⟩ := hvs i hi1
    refine ⟨a', n', c', by rw [List.getElem?_append_left (by omega)]; exact h5, ?_⟩
    rw [show nthS (xss ++ yss) i = nthS xss i by simp [nthS, List.getD_eq_getElem?_getD, List.getElem?_append_left (show i < xss.length by omega)]]
    exact key a' n' c' _ h6 h7
  · obtain ⟨a', n', c', h5, h6, h7⟩ := hin (i - n) (by omega)
    refine ⟨a', n', c', by rw [List.getElem?_append_right (by omega), hvl]; exact h5, ?_⟩
    rw [show nthS (xss ++ yss) i = nthS yss (i - n) by simp [nthS, List.getD_eq_getElem?_getD, List.getElem?_append_right (show xss.length ≤ i by omega), hlen]]
    exact key a' n' c' _ h6 h7

/-- A row of rounds of the call's own. -/
def OwB (B : Nat) (W : World) (a : Option Addr) (n c : Nat) (L : List (List Rp)) : Prop := OwRs 27 B W a n c L ∧ n ≤ 1000
theorem OwB.ext {B : Nat} {W W' : World} {a : Option Addr} {n c : Nat} {L : List (List Rp)} (h : OwB B W a n c L) (he : Ext W W') : OwB B W' a n c L := ⟨h.1.ext he, h.2⟩
theorem OwB.rws {B : Nat} {W : World} {a : Option Addr} {n c : Nat} {L : List (List Rp)} (h : OwB B W a n c L) : Rws W a n c L := h.1.rws (by have := h.2; omega)
theorem OwB.set {B : Nat} {W : World} {a : Option Addr} {n c : Nat} {L : List (List Rp)} (h : OwB B W a n c L) {b : Nat} {x : Int} {a1 : Option Addr} {n1 c1 : Nat} (hC : ChB W b x a1 n1 c1) (x' : Int) (a' : Option Addr) (n' c' : Nat) : OwB B ((W.setCell ⟨b, 0, none⟩ (.int .i64 x')).setCell ⟨b, 1, none⟩ (.slice a' n' c')) a n c L :=
  ⟨(h.1.setT hC 0 (.int .i64 x')).setT (heap_setCell_same _ b 0 _ _ _ hC) 1 (.slice a' n' c'), h.2⟩
theorem OwB.lit0 {B : Nat} (W : World) (hb : B ≤ W.heap.size) : OwB B (W.alloc (.cells #[] 27)) (some ⟨W.heap.size, 0, none⟩) 0 0 [] :=
  ⟨⟨rfl, [], World.ownsRow_lit (e := 27) (size := 1) W #[] 0 hb (Nat.zero_le _) rfl, fun i hi => absurd hi (Nat.not_lt_zero _)⟩, Nat.zero_le _⟩

def OwV (B : Nat) (L : List (List Rp)) (v : Value) (W : World) : Prop := ∃ a n c, v = .slice a n c ∧ OwB B W a n c L
def ROw (B : Nat) (L : List (List Rp)) : RelL Ext := ⟨none, fun _ v W => OwV B L v W, fun _ v W W' ⟨a, n, c, h1, h2⟩ hE => ⟨a, n, c, h1, h2.ext hE⟩⟩
def CnV (B : Nat) (H : Int) (L : List (List Rp)) (v : Value) (W : World) : Prop := ∃ a n c, v = .agg #[.int .i64 H, .slice a n c] ∧ OwB B W a n c L
def RCn (B : Nat) (H : Int) (L : List (List Rp)) : RelL Ext := ⟨none, fun _ v W => CnV B H L v W, fun _ v W W' ⟨a, n, c, h1, h2⟩ hE => ⟨a, n, c, h1, h2.ext hE⟩⟩
def StB (B : Nat) (H : Int) (L : List (List Rp)) (u : Value) (W : World) : Prop := ∃ b a n c, u = .pointer (some ⟨b, 0, none⟩) ∧ B ≤ b ∧ ChB W b H a n c ∧ OwB B W a n c L
def RSt (j B : Nat) (H : Int) (L : List (List Rp)) : RelL Ext := ⟨some j, fun u _ W => StB B H L u W, fun u v W W' ⟨b, a, n, c, h1, h2, h3, h4⟩ hE => ⟨b, a, n, c, h1, h2, h3.ext hE, h4.ext hE⟩⟩

/-- A variable that holds a chain stays where a row of rounds grows. -/
theorem VarV.grown {B B' : Nat} {W W' : World} {v : Value} {a : Option Addr} {n c : Nat} {L : List (List Rp)} (h : VarV B v W) (ho : OwB B' W a n c L) (hg : W.grownBy W' (Value.slice a n c).ownBlock) : VarV B v W' := by
  obtain ⟨b, x, a1, n1, c1, h1, h2, h3⟩ := h
  refine ⟨b, x, a1, n1, c1, h1, h2, ?_⟩
  unfold ChB at h3 ⊢
  rw [hg.block b (Array.getElem?_eq_some_iff.1 h3).1 (fun e => ?_)]
  · exact h3
  obtain ⟨_, vs, hrow, _⟩ := ho.1
  rcases hrow.2 with ⟨hv, _⟩ | ⟨g, cap, cur, hv, _, hgb, _⟩
  · simp only [Value.slice.injEq] at hv; obtain ⟨rfl, _, _⟩ := hv; cases e
  · simp only [Value.slice.injEq] at hv; obtain ⟨rfl, _, _⟩ := hv
    simp only [Value.ownBlock, Option.some.injEq] at e
    subst e
    rw [h3] at hgb
    simp only [Option.some.injEq, Obj.cells.injEq] at hgb
    exact absurd hgb.2.1 (by decide)

/-- A row that is not empty stays where an empty literal's row grows. -/
theorem OwB.grown {B : Nat} {W W' : World} {a : Option Addr} {n c b : Nat} {L : List (List Rp)} {T : TypeId} (h : OwB B W a n c L) (hL : L ≠ []) (hb : W.heap[b]? = some (.cells #[] T (0, 0))) (hg : W.grownBy W' (some b)) : OwB B W' a n c L := by
  obtain ⟨⟨h0, vs, h1, h2⟩, h9⟩ := h
  have hno : ∀ o v, W.cell? ⟨b, o, none⟩ ≠ some v := by
    intro o v e
    rw [cell_of_row W b o _ _ _ hb] at e
    simp at e
  have hn0 : 0 < n := by
    rcases Nat.eq_zero_or_pos n with h | h
    · exact absurd (List.eq_nil_of_length_eq_zero (h0.trans h)) hL
    · exact h
  refine ⟨⟨h0, vs, World.ownsRow.kept (row := some b) h1 hg (.inr (fun e => ?_)), fun i hi => ?_⟩, h9⟩
  · rcases h1.2 with ⟨hv, h⟩ | ⟨g, cap, cur, hv, _, hgb, hn, _, hs, _⟩
    · omega
    · simp only [Value.slice.injEq] at hv; obtain ⟨rfl, _, _⟩ := hv
      simp only [Value.ownBlock, Option.some.injEq] at e
      subst e
      rw [hb] at hgb
      simp only [Option.some.injEq, Obj.cells.injEq] at hgb
      rw [← hgb.1] at hs
      simp at hs
      omega
  · obtain ⟨a', n', c', h3, h4, h5⟩ := h2 i hi
    refine ⟨a', n', c', h3, h4.below (fun b' off ha hn => hg.block b' (h4.lt ha hn) (fun e => ?_)), h5⟩
    simp only [Option.some.injEq] at e
    subst e
    obtain ⟨b1, off1, ha1, hr⟩ := h4.cells 0 hn
    rw [ha] at ha1
    simp only [Option.some.injEq, Addr.mk.injEq] at ha1
    obtain ⟨rfl, rfl, _⟩ := ha1
    exact hno _ _ (hr 0 _ rfl)

/-- An empty literal of rounds. -/
def EmV (B : Nat) (v : Value) (W : World) : Prop := ∃ b, v = .slice (some ⟨b, 0, none⟩) 0 0 ∧ B ≤ b ∧ W.heap[b]? = some (.cells #[] 27 (0, 0))
def REm (B : Nat) : RelL Ext := ⟨none, fun _ v W => EmV B v W, fun _ v W W' ⟨b, h1, h2, h3⟩ hE => ⟨b, h1, h2, (hE.block b (Array.getElem?_eq_some_iff.1 h3).1).trans h3⟩⟩
theorem OwRs.em {B b : Nat} {W : World} (hb : B ≤ b) (h : W.heap[b]? = some (.cells #[] 27 (0, 0))) : OwRs 27 B W (some ⟨b, 0, none⟩) 0 0 ([] : List (List Rp)) :=
  ⟨rfl, [], ⟨rfl, .inr ⟨b, 0, #[], rfl, hb, h, Nat.le_refl _, Nat.zero_le _, rfl, rfl⟩⟩, fun i hi => absurd hi (Nat.not_lt_zero _)⟩
theorem ChB.grown {W W' : World} {b b' : Nat} {x : Int} {a : Option Addr} {n c : Nat} (h : ChB W b x a n c) (hb : W.heap[b']? = some (.cells #[] 27 (0, 0))) (hg : W.grownBy W' (some b')) : ChB W' b x a n c := by
  unfold ChB at h ⊢
  rw [hg.block b (Array.getElem?_eq_some_iff.1 h).1 (fun e => ?_)]
  · exact h
  simp only [Option.some.injEq] at e
  subst e
  rw [h] at hb
  simp at hb
theorem VarV.gr {B b : Nat} {W W' : World} {v : Value} (h : VarV B v W) (hb : W.heap[b]? = some (.cells #[] 27 (0, 0))) (hg : W.grownBy W' (some b)) : VarV B v W' := by
  obtain ⟨b1, x, a1, n1, c1, h1, h2, h3⟩ := h
  exact ⟨b1, x, a1, n1, c1, h1, h2, h3.grown hb hg⟩
theorem CnV.gr {B b : Nat} {H : Int} {L : List (List Rp)} {W W' : World} {v : Value} (h : CnV B H L v W) (hL : L ≠ []) (hb : W.heap[b]? = some (.cells #[] 27 (0, 0))) (hg : W.grownBy W' (some b)) : CnV B H L v W' := by
  obtain ⟨a1, n1, c1, h1, h2⟩ := h
  exact ⟨a1, n1, c1, h1, h2.grown hL hb hg⟩
theorem StB.gr {B b : Nat} {H : Int} {L : List (List Rp)} {W W' : World} {v : Value} (h : StB B H L v W) (hL : L ≠ []) (hb : W.heap[b]? = some (.cells #[] 27 (0, 0))) (hg : W.grownBy W' (some b)) : StB B H L v W' := by
  obtain ⟨b1, a1, n1, c1, h1, h2, h3, h4⟩ := h
  exact ⟨b1, a1, n1, c1, h1, h2, h3.grown hb hg, h4.grown hL hb hg⟩
end Go.Proofs.YtfohekfhcolnfaaDoor
