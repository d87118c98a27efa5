
import Derived.Test.YtdmfdimhjemngaaGreatDoorCC
/-
  A chain with a further round, by the program; walked.
-/
namespace Go.Proofs.YtdmfdimhjemngaaGreatDoor
open Go.RowKit Go.Sort Go.Shelf
set_option linter.unusedSimpArgs false
set_option linter.unusedVariables false
set_option maxRecDepth 100000

/-- 'append(s, x)' of a round at a step of a region that draws its order: x has been put into a block of its own. -/
theorem stepRss {P : Program} {T T1 : TypeId} {z : Value} (hE : ElS P T T1 z 1 24) {ops : Array Oper} {o : Oper} {a : Act} {K : Act → World → Prop} {Q : Exit → Act → World → Prop} {Ex : Prop} (hgd : o.guard = none) (s x : Operand)
    (ho : o.op = .call { callee := .builtin .append, args := #[s, x], argTypes := #[T, T] })
    (w : World) (base : Nat) (sa : Option Addr) (n c : Nat) (xss : List (List Rp)) (hs : a.eval s = .slice sa n c) (hown : OwRs T1 base w sa n c xss)
    (la : Option Addr) (ln lc : Nat) (ys : List Rp) (hl : Rw w la ln lc ys) (hne : ∀ b off, la = some ⟨b, off, none⟩ → 0 < ln → sa ≠ some ⟨b, 0, none⟩)
    (hx : a.eval x = .slice (some ⟨w.heap.size, 0, none⟩) 1 1) (hbase : base ≤ w.heap.size) (h63 : n + 1 ≤ maxLen) (hbytes : (n + 1) * 24 ≤ 140737488355328)
    (h : ∀ g cap w', OwRs T1 base w' (some ⟨g, 0, none⟩) (n + 1) cap (xss ++ [ys]) → Below base w w' → K (a.put o.dst (.slice (some ⟨g, 0, none⟩) (n + 1) cap)) w') :
    if Region.wanted o (yielded ops a.tmps) = true then Oper.wp P o a (w.alloc (.cells #[.slice la ln lc] T1)) K Q else Ex := by
  obtain ⟨hT, hI, hzs, hsz⟩ := hE
  obtain ⟨i, hi, hz, hsz', hby⟩ := info_parts hI
  obtain ⟨hlen, vs, hrow, hvs⟩ := hown
  have hrow' : (w.alloc (.cells #[.slice la ln lc] T1)).ownsRow base T1 1 (.slice sa n c) n vs := World.ownsRow.alloc hrow _
  refine step_append_lies (w.alloc (.cells #[.slice la ln lc] T1)) hgd s x T ho base T1 i z 1 24 hT hi hz hsz' hby hzs hsz _ n _ hs hrow' ⟨w.heap.size, 0, none⟩ 1 1 [.slice la ln lc] hx rfl
    (cell_one_new _ _ _) (by simp [Value.oneCell']) (by decide) h63 hbytes (by simp; omega) (w.heap.size + 1) (by simp) ?_
  intro g cap w' h2 hg h4 _
  have hvl : vs.length = n := by have := hrow.1; omega
  refine h g cap w' ⟨by simp [hlen], _, h2, fun i hi => ?_⟩ (((Below.refl base w).alloc hbase _).trans (below_grown hrow' (by simp; omega) hg))
  have key : ∀ (a' : Option Addr) (n' c' : Nat) (zs : List Rp), Rw w a' n' c' zs → (∀ b off, a' = some ⟨b, off, none⟩ → 0 < n' → sa ≠ some ⟨b, 0, none⟩) → Rw w' a' n' c' zs ∧ (∀ b off, a' = some ⟨b, off, none⟩ → 0 < n' → (some ⟨g, 0, none⟩ : Option Addr) ≠ some ⟨b, 0, none⟩) := by
    intro a' n' c' zs hz hzne
    have hrowne : ∀ b off, a' = some ⟨b, off, none⟩ → 0 < n' → some b ≠ (Value.slice sa n c).ownBlock := by
      intro b off ha hn e
      rcases hrow.2 with ⟨hv, _⟩ | ⟨g', cap', cur, hv, _⟩
      · simp only [Value.slice.injEq] at hv; obtain ⟨rfl, _, _⟩ := hv; cases e
      · simp only [Value.slice.injEq] at hv; obtain ⟨rfl, _, _⟩ := hv
        simp only [Value.ownBlock, Option.some.injEq] at e
        subst e
        exact hzne b off ha hn rfl
    refine ⟨(hz.ext ((Ext.refl w).alloc _)).below (fun b off ha hn => hg.block b (by have := hz.lt ha hn; simp; omega) (hrowne b off ha hn)), fun b off ha hn e => ?_⟩
    simp only [Option.some.injEq, Addr.mk.injEq, and_true] at e
    subst e
    rcases h4 with h4 | h4
    · exact hrowne g off ha hn h4.symm
    · have := hz.lt ha hn
      omega
  rcases Nat.lt_or_ge i n with hin | hin
  · obtain ⟨a', n', c', h5, h6, h7⟩ := hvs i hin
    obtain ⟨k1, k2⟩ := key a' n' c' _ h6 h7
    exact ⟨a', n', c', by rw [List.getElem?_append_left (by omega)]; exact h5, by rw [nthS_app_left (by omega)]; exact k1, k2⟩
  · obtain rfl : i = n := by omega
    obtain ⟨k1, k2⟩ := key la ln lc ys hl hne
    refine ⟨la, ln, lc, by rw [← hvl]; simp, ?_, k2⟩
    rw [nthS_app hlen (Nat.le_refl _), Nat.sub_self]
    exact k1

theorem ChB.stored {W : World} {b : Nat} {x : Int} {a : Option Addr} {n c : Nat} (h : ChB W b x a n c) (x' : Int) (a' : Option Addr) (n' c' : Nat) : ChB ((W.setCell ⟨b, 0, none⟩ (.int .i64 x')).setCell ⟨b, 1, none⟩ (.slice a' n' c')) b x' a' n' c' := by
  have g1 : (W.setCell ⟨b, 0, none⟩ (.int .i64 x')).heap[b]? = some (.cells #[.int .i64 x', .slice a n c] 24 (0, 0)) := heap_setCell_same _ b 0 _ _ _ h
  exact heap_setCell_same _ b 1 _ _ _ g1

/-- No replies lie in a chain's own block. -/
theorem Rw.not_ch {W : World} {b : Nat} {v0 v1 : Value} {t : TypeId} (hC : W.heap[b]? = some (.cells #[v0, v1] t (0, 0))) {a : Option Addr} {n c : Nat} {xs : List Rp} (h : Rw W a n c xs) : ∀ b' off, a = some ⟨b', off, none⟩ → 0 < n → b' ≠ b := by
  rintro b' off rfl hn rfl
  obtain ⟨b2, off2, he, hc⟩ := h.cells 0 hn
  simp only [Option.some.injEq, Addr.mk.injEq, and_true] at he
  obtain ⟨rfl, rfl⟩ := he
  have h2 := hc 2 _ rfl
  rw [cell_of_row W b' _ _ _ _ hC] at h2
  rw [Array.getElem?_eq_none (by simp <;> omega)] at h2
  cases h2
theorem OwRs.setCh {T : TypeId} {base : Nat} {w : World} {g n c : Nat} {xss : List (List Rp)} (h : OwRs T base w (some ⟨g, 0, none⟩) n c xss) {b : Nat} {v0 v1 : Value} {t : TypeId} (hC : w.heap[b]? = some (.cells #[v0, v1] t (0, 0))) (hne : b ≠ g) (j : Nat) (v : Value) :
    OwRs T base (w.setCell ⟨b, j, none⟩ v) (some ⟨g, 0, none⟩) n c xss := by
  obtain ⟨h0, vs, h1, h2⟩ := h
  refine ⟨h0, vs, World.ownsRow.kept (row := some b) h1 ⟨rfl, rfl, rfl, (KeepsOthers.setCell w _ _).size, fun k hk hkb => heap_setCell_other w ⟨b, j, none⟩ k v (fun e => hkb (by rw [e]))⟩ (.inr (by simp [Value.ownBlock]; omega)), fun i hi => ?_⟩
  obtain ⟨a', n', c', h3, h4, h5⟩ := h2 i hi
  exact ⟨a', n', c', h3, h4.below (fun b' off ha hn => heap_setCell_other w ⟨b, j, none⟩ b' v (h4.not_ch hC b' off ha hn)), h5⟩

/-- A clone of replies lies in no row that was there before. -/
theorem clone_apart {T E : TypeId} {base : Nat} {w w' : World} {a3 : Option Addr} {n c3 : Nat} {rs : List (List Rp)} {a4 : Option Addr} {n2 c4 : Nat} {r : List Rp} (h3 : OwRs T base w a3 n c3 rs) (h4 : OwR E w.heap.size w' a4 n2 c4 r) :
    ∀ b off, a4 = some ⟨b, off, none⟩ → 0 < n2 → a3 ≠ some ⟨b, 0, none⟩ := by
  rintro b off rfl _ rfl
  have e3 := h3.ge
  have e4 := h4.2.lt b rfl
  omega

theorem validF_len {host : Int} {rs : List (List Rp)} (h : validF host rs = true) : rs.length ≤ 200 := by
  simp only [validF, Bool.and_eq_true, decide_eq_true_eq] at h
  exact h.2.1

/-- What a chain with a further round is. -/
def ApPost (w : World) (H : Int) (L : List (List Rp)) (E : Int) (e : Ending) (w' : World) : Prop := ∃ a' n' c', e = .returned (.tuple #[.agg #[.int .i64 H, .slice a' n' c'], .int .i64 E]) ∧ OwRs 45 w.heap.size w' a' n' c' L ∧ n' ≤ 1000 ∧ Ext w w'

end Go.Proofs.YtdmfdimhjemngaaGreatDoor

/-
  A chain with a further round, by the reference; walked.
-/
namespace Go.Proofs.YtdmfdimhjemngaaGreatDoor
open Go.RowKit Go.Sort Go.Shelf
set_option linter.unusedSimpArgs false
set_option linter.unusedVariables false
set_option maxRecDepth 100000

theorem OwRs.setBelow {T : TypeId} {base : Nat} {w : World} {sa : Option Addr} {n c : Nat} {xss : List (List Rp)} (h : OwRs T base w sa n c xss) {b : Nat} {v0 v1 : Value} {t : TypeId} (hC : w.heap[b]? = some (.cells #[v0, v1] t (0, 0))) (hlt : b < base) (j : Nat) (v : Value) :
    OwRs T base (w.setCell ⟨b, j, none⟩ v) sa n c xss := by
  obtain ⟨h0, vs, h1, h2⟩ := h
  refine ⟨h0, vs, World.ownsRow.kept (row := some b) h1 ⟨rfl, rfl, rfl, (KeepsOthers.setCell w _ _).size, fun k hk hkb => heap_setCell_other w ⟨b, j, none⟩ k v (fun e => hkb (by rw [e]))⟩ (.inr (fun e => ?_)), fun i hi => ?_⟩
  · have := (h1.lt b e).1; omega
  obtain ⟨a', n', c', h3, h4, h5⟩ := h2 i hi
  exact ⟨a', n', c', h3, h4.below (fun b' off ha hn => heap_setCell_other w ⟨b, j, none⟩ b' v (h4.not_ch hC b' off ha hn)), h5⟩

/-- The rounds of a chain put behind none. -/
theorem appAll {P : Program} {T T1 : TypeId} {z : Value} (hE : ElS P T T1 z 1 24) {ops : Array Oper} {rest : List Oper} {o : Oper} {a : Act} {Q : Exit → Act → World → Prop} (hgd : o.guard = none) (s x : Operand)
    (ho : o.op = .call { callee := .builtin .append, args := #[s, x], argTypes := #[T, T] })
    (w : World) (hs : a.eval s = .slice none 0 0) (ta : Option Addr) (m tc : Nat) (rs : List (List Rp)) (hx : a.eval x = .slice ta m tc) (ht : Rws w ta m tc rs) (hm : m ≤ 1000)
    (h : ∀ a' cap w', OwRs T1 w.heap.size w' a' m cap rs → Ext w w' → wpList P ops Q rest (a.put o.dst (.slice a' m cap)) w') :
    wpList P ops Q (o :: rest) a w := by
  rcases Nat.eq_zero_or_pos m with h0 | h0
  · subst h0
    obtain rfl := ht.isnil
    exact append_none hE hgd s x ho w w.heap.size none 0 hs (OwRs.nil _ _ _) ta tc hx (Nat.le_refl _) h
  · obtain ⟨b, off, rfl, _⟩ := ht.at h0
    obtain ⟨vs, hvl, hvr, hvi⟩ := ht.vals
    refine appRss hE hgd s x ho w w.heap.size none 0 0 [] hs (OwRs.nil _ _ _) b off m tc rs vs hx hvl ht.hlen hvr (fun i hi => ?_) h0 (Nat.le_refl _) (by unfold maxLen; omega) (by omega) ?_
    · obtain ⟨a1, n1, c1, g1, g2⟩ := hvi i hi
      exact ⟨a1, n1, c1, g1, g2, fun _ _ _ _ e => by cases e⟩
    · intro g cap w' h2 h3
      simp only [Nat.zero_add, List.nil_append] at h2 ⊢
      exact h _ cap w' h2 h3
/-- One round put behind rounds of the call's own. -/
theorem appOne {P : Program} {T T1 : TypeId} {z : Value} (hE : ElS P T T1 z 1 24) {ops : Array Oper} {rest : List Oper} {o : Oper} {a : Act} {Q : Exit → Act → World → Prop} (hgd : o.guard = none) (s x : Operand)
    (ho : o.op = .call { callee := .builtin .append, args := #[s, x], argTypes := #[T, T] })
    (w : World) (base : Nat) (sa : Option Addr) (n c : Nat) (xss : List (List Rp)) (hs : a.eval s = .slice sa n c) (hown : OwRs T1 base w sa n c xss)
    (la : Option Addr) (ln lc : Nat) (ys : List Rp) (hl : Rw w la ln lc ys) (hne : ∀ b off, la = some ⟨b, off, none⟩ → 0 < ln → sa ≠ some ⟨b, 0, none⟩)
    (hx : a.eval x = .slice (some ⟨w.heap.size, 0, none⟩) 1 1) (hbase : base ≤ w.heap.size) (h63 : n + 1 ≤ maxLen) (hbytes : (n + 1) * 24 ≤ 140737488355328)
    (h : ∀ g cap w', OwRs T1 base w' (some ⟨g, 0, none⟩) (n + 1) cap (xss ++ [ys]) → Below base w w' → wpList P ops Q rest (a.put o.dst (.slice (some ⟨g, 0, none⟩) (n + 1) cap)) w') :
    wpList P ops Q (o :: rest) a (w.alloc (.cells #[.slice la ln lc] T1)) := by
  have hE0 : Ext w (w.alloc (.cells #[.slice la ln lc] T1)) := (Ext.refl w).alloc _
  refine appRss hE hgd s x ho (w.alloc (.cells #[.slice la ln lc] T1)) base sa n c xss hs (hown.ext hE0) w.heap.size 0 1 1 [ys] [.slice la ln lc] hx rfl rfl ?_ (fun i hi => ?_) (by omega) (by simp; omega) h63 hbytes ?_
  · intro j v hv
    rw [cell_of_row (w.alloc (.cells #[.slice la ln lc] T1)) w.heap.size (0 + j) _ T1 (0, 0) (World.alloc_heap_new w _), ← Array.getElem?_toList, Nat.zero_add]
    exact hv
  · obtain rfl : i = 0 := by omega
    exact ⟨la, ln, lc, rfl, hl.ext hE0, hne⟩
  · intro g cap w' h2 h3
    exact h g cap w' h2 (Below.trans ((Below.refl base w).alloc hbase _) h3)

end Go.Proofs.YtdmfdimhjemngaaGreatDoor
