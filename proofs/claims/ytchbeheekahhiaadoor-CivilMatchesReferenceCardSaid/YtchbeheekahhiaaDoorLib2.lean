/-
  A region whose operations only read and whose callees leave what was there: walked once, in the order of the text.
-/
import Derived.Test.YtchbeheekahhiaaDoorLib
namespace Go.Proofs.YtchbeheekahhiaaDoor
open Go.RowKit Go.Sort

theorem region_ext {P : Program} {id : Nat} {Q : Exit → Act → World → Prop} {a : Act} {w : World} {l : List Oper} (hm : P.follows .mixedOrders = true) (hB : Region.lexB .any l.toArray = true)
    (h : wpQuiet P l.toArray (fun w' => ∃ p : Regrown, w' = grow (redrawn w p.d) p.os) (fun a' => ∀ w', Ext w w' → Q .normal a' w') l a) : (Code.region id l.toArray true).wp P Q a w := by
  refine wp_region_quiet_below hm hB ?_
  have key : ∀ (l' : List Oper) (a : Act), wpQuiet P l.toArray (fun w' => ∃ p : Regrown, w' = grow (redrawn w p.d) p.os) (fun a' => ∀ w', Ext w w' → Q .normal a' w') l' a →
      wpQuiet P l.toArray (fun w' => ∃ p : Regrown, w' = grow (redrawn w p.d) p.os) (fun a' => ∀ w', (∃ p : Regrown, w' = grow (redrawn w p.d) p.os) → Q .normal a' w') l' a := by
    intro l'
    induction l' with
    | nil => exact fun a h w' ⟨p, hp⟩ => h w' (by rw [hp]; exact below_regrown w p.d p.os)
    | cons o rest ih =>
      intro a h
      unfold wpQuiet at h ⊢
      split
      · rename_i hw
        rw [if_pos hw] at h
        obtain ⟨v, h1, h2⟩ := h
        exact ⟨v, h1, ih _ h2⟩
      · rename_i hw
        rw [if_neg hw] at h
        exact ih _ h
  exact key l a h

theorem ext_grow (w : World) (d : Nat) (os : Array Obj) : Ext w (grow (redrawn w d) os) := below_regrown w d os

/-- A cell that lies here, in every later world. -/
theorem cellG {w : World} {a : Addr} {v : Value} (h : w.cell? a = some v) : ∀ (d : Nat) (os : Array Obj), (grow (redrawn w d) os).cell? a = some v := fun d os => cell_regrown h d os

theorem Sl.grown {k : IntKind} {w w' : World} {row : Option Nat} {a : Option Addr} {n c : Nat} {xs : List Int} (h : Sl k w a n c xs) (hg : w.grownBy w' row)
    (hv : ∀ b off, a = some ⟨b, off, none⟩ → 0 < n → some b ≠ row) : Sl k w' a n c xs := by
  refine h.below fun b off ha hn => ?_
  obtain ⟨x, hx⟩ := h.not_row ha hn
  exact hg.block b (lt_of_cell hx) (hv b off ha hn)

theorem nthL_append_left {xs ys : List (List Int)} {i : Nat} (h : i < xs.length) : nthL (xs ++ ys) i = nthL xs i := by
  simp [nthL, List.getD_eq_getElem?_getD, List.getElem?_append_left h]
theorem nthL_append_last (xs : List (List Int)) (y : List Int) : nthL (xs ++ [y]) xs.length = y := by
  simp [nthL, List.getD_eq_getElem?_getD]

/-- 'append(s, l)', l a slice of integers that has been put into a block of its own. -/
theorem appL {P : Program} {T T1 : TypeId} {k : IntKind} (hE : ElT P T T1 (.slice none 0 0) 1 24) {ops : Array Oper} {rest : List Oper} {o : Oper} {a : Act} {Q : Exit → Act → World → Prop} (hgd : o.guard = none) (s x : Operand)
    (ho : o.op = .call { callee := .builtin .append, args := #[s, x], argTypes := #[T, T] })
    (w : World) (base : Nat) (sa : Option Addr) (n c : Nat) (xss : List (List Int)) (hs : a.eval s = .slice sa n c) (hown : OwL k T1 base w sa n c xss)
    (la : Option Addr) (ln lc : Nat) (ys : List Int) (hl : Sl k w la ln lc ys) (hne : ∀ b off, la = some ⟨b, off, none⟩ → 0 < ln → sa ≠ some ⟨b, 0, none⟩)
    (hx : a.eval x = .slice (some ⟨w.heap.size, 0, none⟩) 1 1) (hbase : base ≤ w.heap.size) (h63 : n + 1 ≤ maxLen) (hbytes : (n + 1) * 24 ≤ 140737488355328)
    (h : ∀ g cap w', OwL k T1 base w' (some ⟨g, 0, none⟩) (n + 1) cap (xss ++ [ys]) → Below base w w' → wpList P ops Q rest (a.put o.dst (.slice (some ⟨g, 0, none⟩) (n + 1) cap)) w') :
    wpList P ops Q (o :: rest) a (w.alloc (.cells #[.slice la ln lc] T1)) := by
  obtain ⟨hT, hI⟩ := hE
  obtain ⟨i, hi, hz, hsz, hby⟩ := info_parts hI
  obtain ⟨hlen, vs, hrow, hvs⟩ := hown
  have hrow' : (w.alloc (.cells #[.slice la ln lc] T1)).ownsRow base T1 1 (.slice sa n c) n vs := World.ownsRow.alloc hrow _
  refine wpList_append_lies (w.alloc (.cells #[.slice la ln lc] T1)) hgd s x T ho base T1 i (.slice none 0 0) 1 24 hT hi hz hsz hby rfl (by decide) _ n _ hs hrow' ⟨w.heap.size, 0, none⟩ 1 1 [.slice la ln lc] hx rfl
    (cell_one_new _ _ _) (by simp [Value.oneCell']) (by decide) h63 hbytes (by simp; omega) (w.heap.size + 1) (by simp) ?_
  intro g cap w' h2 h3 h4 _
  have hvl : vs.length = n := by have := hrow.1; omega
  have hg0 : (Value.slice sa n c).ownBlock = sa.map (·.block) := by cases sa <;> rfl
  have hrowlt := hrow.lt
  refine h g cap w' ⟨by simp [hlen], _, h2, fun i hi => ?_⟩ (((Below.refl base w).alloc hbase _).trans (below_grown hrow' (by simp; omega) h3))
  have key : ∀ (a' : Option Addr) (n' c' : Nat) (zs : List Int), Sl k w a' n' c' zs → (∀ b off, a' = some ⟨b, off, none⟩ → 0 < n' → sa ≠ some ⟨b, 0, none⟩) → Sl k w' a' n' c' zs ∧ (∀ b off, a' = some ⟨b, off, none⟩ → 0 < n' → (some ⟨g, 0, none⟩ : Option Addr) ≠ some ⟨b, 0, none⟩) := by
    intro a' n' c' zs hz hzne
    have hrowne : ∀ b off, a' = some ⟨b, off, none⟩ → 0 < n' → some b ≠ (Value.slice sa n c).ownBlock := by
      intro b off ha hn e
      rcases hrow.2 with ⟨hv, _⟩ | ⟨g', cap', cur, hv, _⟩
      · simp only [Value.slice.injEq] at hv; obtain ⟨rfl, _, _⟩ := hv; cases e
      · simp only [Value.slice.injEq] at hv; obtain ⟨rfl, _, _⟩ := hv
        simp only [Value.ownBlock, Option.some.injEq] at e
        subst e
        exact hzne b off ha hn rfl
    refine ⟨(hz.ext ((Ext.refl w).alloc _)).grown h3 hrowne, fun b off ha hn e => ?_⟩
    simp only [Option.some.injEq, Addr.mk.injEq, and_true] at e
    subst e
    rcases h4 with h4 | h4
    · exact hrowne g off ha hn h4.symm
    · obtain ⟨x, hx⟩ := hz.not_row ha hn
      have := lt_of_cell hx
      simp at this; omega
  rcases Nat.lt_or_ge i n with hin | hin
  · obtain ⟨a', n', c', h5, h6, h7⟩ := hvs i hin
    obtain ⟨k1, k2⟩ := key a' n' c' _ h6 h7
    exact ⟨a', n', c', by rw [List.getElem?_append_left (by omega)]; exact h5, by rw [nthL_append_left (by omega)]; exact k1, k2⟩
  · obtain rfl : i = n := by omega
    obtain ⟨k1, k2⟩ := key la ln lc ys hl hne
    refine ⟨la, ln, lc, by rw [← hvl]; simp, ?_, k2⟩
    have := nthL_append_last xss ys
    rw [hlen] at this
    rw [this]; exact k1

end Go.Proofs.YtchbeheekahhiaaDoor
