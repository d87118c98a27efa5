/-
  Slices of slices of records: they read as lists of lists; rows of the call's own; their append; a store into one.
-/
import Derived.Test.YtacicanjmleikaaGreatDoorRw
namespace Go.Proofs.YtacicanjmleikaaGreatDoor
open Go.RowKit Go.Sort
set_option linter.unusedSimpArgs false
set_option linter.unusedVariables false

section
variable {α : Type}

def nthS (xs : List (List α)) (i : Nat) : List α := xs.getD i []
theorem nthS_mem {xs : List (List α)} {i : Nat} (h : i < xs.length) : nthS xs i ∈ xs := by
  unfold nthS
  rw [List.getD_eq_getElem?_getD, List.getElem?_eq_getElem h]
  exact List.getElem_mem h
theorem nthS_get {xs : List (List α)} {i : Nat} (h : i < xs.length) : nthS xs i = xs[i] := by
  simp [nthS, List.getD_eq_getElem?_getD, h]
theorem take_nthS_succ {xs : List (List α)} {k : Nat} (h : k < xs.length) : xs.take (k + 1) = xs.take k ++ [nthS xs k] := by
  rw [List.take_succ_eq_append_getElem h, nthS_get h]
theorem nthS_take {xs : List (List α)} {m i : Nat} (h : i < m) : nthS (xs.take m) i = nthS xs i := by
  simp [nthS, List.getD_eq_getElem?_getD, h]
theorem nthS_app_left {xs ys : List (List α)} {i : Nat} (h : i < xs.length) : nthS (xs ++ ys) i = nthS xs i := by
  simp [nthS, List.getD_eq_getElem?_getD, List.getElem?_append_left h]
theorem nthS_app_right {xs ys : List (List α)} {i : Nat} (h : xs.length ≤ i) : nthS (xs ++ ys) i = nthS ys (i - xs.length) := by
  simp [nthS, List.getD_eq_getElem?_getD, List.getElem?_append_right h]
theorem nthS_set (xs : List (List α)) (k i : Nat) (v : List α) (hi : i < xs.length) : nthS (xs.set k v) i = if i = k then v else nthS xs i := by
  simp only [nthS, List.getD_eq_getElem?_getD, List.getElem?_set]
  by_cases h : k = i
  · subst h; simp [hi]
  · rw [if_neg h, if_neg (fun e => h e.symm)]

theorem nthS_app {xs ys : List (List α)} {n i : Nat} (hx : xs.length = n) (h : n ≤ i) : nthS (xs ++ ys) i = nthS ys (i - n) := by subst hx; exact nthS_app_right h

variable [Cel α]
/-- The value v is a slice of records that reads as xs. -/
def IsR (w : World) (v : Value) (xs : List α) : Prop := ∃ a n c, v = .slice a n c ∧ Rw w a n c xs
theorem IsR.ext {w w' : World} {v : Value} {xs : List α} (h : IsR w v xs) (he : Ext w w') : IsR w' v xs := let ⟨a, n, c, h1, h2⟩ := h; ⟨a, n, c, h1, h2.ext he⟩

/-- The slice 'a, n, c' reads as the list of lists xss. -/
structure Rws (w : World) (a : Option Addr) (n c : Nat) (xss : List (List α)) : Prop where
  hlen : xss.length = n
  le : n ≤ c
  max : c ≤ maxLen
  lim : n ≤ 17592186044416
  cells : ∀ i, i < n → ∃ b off v, a = some ⟨b, off, none⟩ ∧ w.cell? ⟨b, off + i, none⟩ = some v ∧ IsR w v (nthS xss i)

theorem Rws.at {w : World} {a : Option Addr} {n c : Nat} {xs : List (List α)} (h : Rws w a n c xs) (h0 : 0 < n) :
    ∃ b off, a = some ⟨b, off, none⟩ ∧ ∀ i, i < n → ∃ a' n' c', w.cell? ⟨b, off + i, none⟩ = some (.slice a' n' c') ∧ Rw w a' n' c' (nthS xs i) := by
  obtain ⟨b, off, _, rfl, _⟩ := h.cells 0 h0
  refine ⟨b, off, rfl, fun i hi => ?_⟩
  obtain ⟨b', off', v, he, hc, a', n', c', rfl, hr⟩ := h.cells i hi
  simp at he
  obtain ⟨rfl, rfl⟩ := he
  exact ⟨a', n', c', hc, hr⟩
theorem Rws.ext {w w' : World} {a : Option Addr} {n c : Nat} {xs : List (List α)} (h : Rws w a n c xs) (he : Ext w w') : Rws w' a n c xs :=
  ⟨h.hlen, h.le, h.max, h.lim, fun i hi => let ⟨b, off, v, ha, hc, hr⟩ := h.cells i hi; ⟨b, off, v, ha, he.cell hc, hr.ext he⟩⟩
theorem Rws.bd {w : World} {a : Option Addr} {n c : Nat} {xs : List (List α)} (h : Rws w a n c xs) : n ≤ c ∧ c ≤ 9223372036854775807 ∧ n ≤ 17592186044416 := by
  have := h.max
  unfold maxLen at this
  exact ⟨h.le, by omega, h.lim⟩
theorem Rws.nil (w : World) : Rws w none 0 0 ([] : List (List α)) := ⟨rfl, Nat.le_refl _, Nat.zero_le _, by omega, fun i hi => absurd hi (by omega)⟩
theorem Rws.isnil {w : World} {a : Option Addr} {c : Nat} {xs : List (List α)} (h : Rws w a 0 c xs) : xs = [] := List.eq_nil_of_length_eq_zero h.hlen
theorem Rws.take {w : World} {a : Option Addr} {n c : Nat} {xs : List (List α)} (h : Rws w a n c xs) {m : Nat} (hm : m ≤ n) : Rws w a m c (xs.take m) := by
  refine ⟨by rw [List.length_take, h.hlen]; omega, by have := h.le; omega, h.max, by have := h.lim; omega, fun i hi => ?_⟩
  obtain ⟨b, off, v, ha, hc, hr⟩ := h.cells i (by omega)
  exact ⟨b, off, v, ha, hc, by rw [nthS_take hi]; exact hr⟩

/-- The slice 'a, n, c' is at the head of a row of the call's own (from block base on), and holds slices of records that read as xss; none of these lies in the row. -/
def OwRs (T : TypeId) (base : Nat) (w : World) (a : Option Addr) (n c : Nat) (xss : List (List α)) : Prop :=
  xss.length = n ∧ ∃ vs : List Value, w.ownsRow base T 1 (.slice a n c) n vs ∧ ∀ i, i < n → ∃ a' n' c', vs[i]? = some (.slice a' n' c') ∧ Rw w a' n' c' (nthS xss i) ∧
    (∀ b off, a' = some ⟨b, off, none⟩ → 0 < n' → a ≠ some ⟨b, 0, none⟩)

theorem OwRs.nil (T : TypeId) (base : Nat) (w : World) : OwRs T base w none 0 0 ([] : List (List α)) := ⟨rfl, [], World.ownsRow_nil w base T 1, fun i hi => absurd hi (Nat.not_lt_zero _)⟩
theorem OwRs.ext {T : TypeId} {base : Nat} {w w' : World} {a : Option Addr} {n c : Nat} {xss : List (List α)} (h : OwRs T base w a n c xss) (he : Ext w w') : OwRs T base w' a n c xss := by
  obtain ⟨h0, vs, h1, h2⟩ := h
  refine ⟨h0, vs, World.ownsRow.kept (row := none) h1 ⟨he.os, he.tape, he.output, he.size, fun k hk _ => he.block k hk⟩ ?_, fun i hi => ?_⟩
  · rcases a with _ | ⟨b, o, s⟩
    · left; rfl
    · right; simp [Value.ownBlock]
  · obtain ⟨a', n', c', h3, h4, h5⟩ := h2 i hi
    exact ⟨a', n', c', h3, h4.ext he, h5⟩
theorem OwRs.rws {T : TypeId} {base : Nat} {w : World} {a : Option Addr} {n c : Nat} {xss : List (List α)} (h : OwRs T base w a n c xss) (hlim : n ≤ 17592186044416) : Rws w a n c xss := by
  obtain ⟨hl, vs, h1, h2⟩ := h
  rcases h1.2 with ⟨hv, h0⟩ | ⟨g, cap, cur, hv, hg, hb, hn, hm, hs, ht⟩
  · simp only [Value.slice.injEq] at hv
    obtain ⟨rfl, rfl, rfl⟩ := hv
    obtain rfl := List.eq_nil_of_length_eq_zero hl
    exact Rws.nil w
  · simp only [Value.slice.injEq] at hv
    obtain ⟨rfl, _, rfl⟩ := hv
    refine ⟨hl, hn, hm, hlim, fun i hi => ?_⟩
    obtain ⟨a', n', c', h3, h4, _⟩ := h2 i hi
    have := World.ownsRow.cellAt h1 i (by omega)
    exact ⟨g, 0, _, rfl, by rw [Nat.zero_add, this]; exact h3, a', n', c', rfl, h4⟩
theorem OwRs.mono {T : TypeId} {base base' : Nat} {w : World} {a : Option Addr} {n c : Nat} {xss : List (List α)} (h : OwRs T base w a n c xss) (hb : base' ≤ base) : OwRs T base' w a n c xss := by
  obtain ⟨h0, vs, ⟨h1, h2⟩, h3⟩ := h
  refine ⟨h0, vs, ⟨h1, ?_⟩, h3⟩
  rcases h2 with h2 | ⟨g, cap, cur, hv, hg, r⟩
  · exact .inl h2
  · exact .inr ⟨g, cap, cur, hv, by omega, r⟩
theorem OwRs.ge {T : TypeId} {base : Nat} {w : World} {g n c : Nat} {xss : List (List α)} (h : OwRs T base w (some ⟨g, 0, none⟩) n c xss) : base ≤ g ∧ g < w.heap.size := by
  obtain ⟨_, vs, h1, _⟩ := h
  exact h1.lt g rfl

/-- A store into one. -/
theorem OwRs.set {T : TypeId} {base : Nat} {w : World} {g n c : Nat} {xss : List (List α)} (h : OwRs T base w (some ⟨g, 0, none⟩) n c xss) (k : Nat) (a' : Option Addr) (n' c' : Nat) (ys : List α) (hr : Rw w a' n' c' ys) (hne : ∀ b off, a' = some ⟨b, off, none⟩ → 0 < n' → b ≠ g) :
    OwRs T base (w.setCell ⟨g, k, none⟩ (.slice a' n' c')) (some ⟨g, 0, none⟩) n c (xss.set k ys) := by
  obtain ⟨h0, vs, h1, h2⟩ := h
  have hst := (World.ownsRow.stored h1 k (.slice a' n' c')).1
  have key : ∀ (a1 : Option Addr) (n1 c1 : Nat) (zs : List α), Rw w a1 n1 c1 zs → (∀ b off, a1 = some ⟨b, off, none⟩ → 0 < n1 → b ≠ g) → Rw (w.setCell ⟨g, k, none⟩ (.slice a' n' c')) a1 n1 c1 zs :=
    fun a1 n1 c1 zs hz hq => hz.below fun b off ha hn => heap_setCell_other w ⟨g, k, none⟩ b _ (hq b off ha hn)
  refine ⟨by simp [h0], _, hst, fun i hi => ?_⟩
  have hvl : vs.length = n := by have := h1.1; omega
  by_cases hik : i = k
  · subst hik
    refine ⟨a', n', c', by rw [List.getElem?_set_self (by omega)], ?_, fun b off ha hn e => ?_⟩
    · rw [nthS_set _ _ _ _ (by omega), if_pos rfl]; exact key _ _ _ _ hr hne
    · simp only [Option.some.injEq, Addr.mk.injEq, and_true] at e
      exact hne b off ha hn e.symm
  · obtain ⟨a1, n1, c1, h3, h4, h5⟩ := h2 i hi
    refine ⟨a1, n1, c1, by rw [List.getElem?_set_ne (by omega)]; exact h3, ?_, h5⟩
    rw [nthS_set _ _ _ _ (by omega), if_neg hik]
    exact key _ _ _ _ h4 (fun b off ha hn e => h5 b off ha hn (by rw [e]))
theorem OwRs.frozenAt {T : TypeId} {base : Nat} {w : World} {g n c : Nat} {xss : List (List α)} (h : OwRs T base w (some ⟨g, 0, none⟩) n c xss) (j : Nat) : w.frozen? ⟨g, j, none⟩ = false := by
  obtain ⟨_, vs, h1, _⟩ := h
  exact World.ownsRow.frozenAt h1 j

/-- 'append(s, t...)', t a slice of slices of records whose lists lie outside the row s, not empty. -/
theorem appRss {P : Program} {T T1 : TypeId} {z : Value} (hE : ElS P T T1 z 1 24) {ops : Array Oper} {rest : List Oper} {o : Oper} {a : Act} {Q : Exit → Act → World → Prop} (hgd : o.guard = none) (s x : Operand)
    (ho : o.op = .call { callee := .builtin .append, args := #[s, x], argTypes := #[T, T] })
    (w : World) (base : Nat) (sa : Option Addr) (n c : Nat) (xss : List (List α)) (hs : a.eval s = .slice sa n c) (hown : OwRs T1 base w sa n c xss)
    (b off m tc : Nat) (yss : List (List α)) (vs' : List Value) (hx : a.eval x = .slice (some ⟨b, off, none⟩) m tc) (hl : vs'.length = m) (hyl : yss.length = m) (hn : w.rangeAt b off vs')
    (hin : ∀ i, i < m → ∃ a' n' c', vs'[i]? = some (.slice a' n' c') ∧ Rw w a' n' c' (nthS yss i) ∧ (∀ b off, a' = some ⟨b, off, none⟩ → 0 < n' → sa ≠ some ⟨b, 0, none⟩))
    (hm : 0 < m) (hbase : base ≤ w.heap.size) (h63 : n + m ≤ maxLen) (hbytes : (n + m) * 24 ≤ 140737488355328)
    (h : ∀ g cap w', OwRs T1 base w' (some ⟨g, 0, none⟩) (n + m) cap (xss ++ yss) → Below base w w' → wpList P ops Q rest (a.put o.dst (.slice (some ⟨g, 0, none⟩) (n + m) cap)) w') :
    wpList P ops Q (o :: rest) a w := by
  obtain ⟨hlen, vs, hrow, hvs⟩ := hown
  refine appC hE hgd s x ho w base sa n c vs hs hrow b off m tc vs' hx (by omega) hn ?_ hm hbase h63 hbytes ?_
  · intro u hu
    obtain ⟨i, hi, rfl⟩ := List.mem_iff_getElem.mp hu
    obtain ⟨a', n', c', h1, _⟩ := hin i (by omega)
    rw [List.getElem?_eq_getElem hi] at h1
    rw [Option.some.inj h1]; rfl
  intro g cap w' h2 h3 hg h4
  have hvl : vs.length = n := by have := hrow.1; omega
  refine h g cap w' ⟨by simp [hlen, hyl], _, h2, fun i hi => ?_⟩ h3
  have key : ∀ (a' : Option Addr) (n' c' : Nat) (zs : List α), Rw w a' n' c' zs → (∀ b off, a' = some ⟨b, off, none⟩ → 0 < n' → sa ≠ some ⟨b, 0, none⟩) → Rw w' a' n' c' zs ∧ (∀ b off, a' = some ⟨b, off, none⟩ → 0 < n' → (some ⟨g, 0, none⟩ : Option Addr) ≠ some ⟨b, 0, none⟩) := by
    intro a' n' c' zs hz hzne
    have hrowne : ∀ b off, a' = some ⟨b, off, none⟩ → 0 < n' → some b ≠ (Value.slice sa n c).ownBlock := by
      intro b off ha hn e
      rcases hrow.2 with ⟨hv, _⟩ | ⟨g', cap', cur, hv, _⟩
      · simp only [Value.slice.injEq] at hv; obtain ⟨rfl, _, _⟩ := hv; cases e
      · simp only [Value.slice.injEq] at hv; obtain ⟨rfl, _, _⟩ := hv
        simp only [Value.ownBlock, Option.some.injEq] at e
        subst e
        exact hzne b off ha hn rfl
    refine ⟨hz.below (fun b off ha hn => hg.block b (hz.lt ha hn) (hrowne b off ha hn)), fun b off ha hn e => ?_⟩
    simp only [Option.some.injEq, Addr.mk.injEq, and_true] at e
    subst e
    rcases h4 with h4 | h4
    · exact hrowne g off ha hn h4.symm
    · have := hz.lt ha hn
      omega
  rcases Nat.lt_or_ge i n with hin' | hin'
  · obtain ⟨a', n', c', h5, h6, h7⟩ := hvs i hin'
    obtain ⟨k1, k2⟩ := key a' n' c' _ h6 h7
    exact ⟨a', n', c', by rw [List.getElem?_append_left (by omega)]; exact h5, by rw [nthS_app_left (by omega)]; exact k1, k2⟩
  · obtain ⟨a', n', c', h5, h6, h7⟩ := hin (i - n) (by omega)
    obtain ⟨k1, k2⟩ := key a' n' c' _ h6 h7
    exact ⟨a', n', c', by rw [List.getElem?_append_right (by omega), hvl]; exact h5, by rw [nthS_app hlen hin']; exact k1, k2⟩

/-- The values in the cells of a slice of slices. -/
theorem Rws.vals {w : World} {b off n c : Nat} {xss : List (List α)} (h : Rws w (some ⟨b, off, none⟩) n c xss) : ∃ vs : List Value, vs.length = n ∧ w.rangeAt b off vs ∧ ∀ i, i < n → ∃ a' n' c', vs[i]? = some (.slice a' n' c') ∧ Rw w a' n' c' (nthS xss i) := by
  have key : ∀ i : Fin n, ∃ v, w.cell? ⟨b, off + i, none⟩ = some v ∧ IsR w v (nthS xss i) := fun i => by
    obtain ⟨b', off', v, he, hc, hr⟩ := h.cells i i.2
    simp at he
    obtain ⟨rfl, rfl⟩ := he
    exact ⟨v, hc, hr⟩
  refine ⟨List.ofFn fun i => Classical.choose (key i), by simp, fun j v hv => ?_, fun i hi => ?_⟩
  · obtain ⟨hj, hv⟩ := List.getElem?_eq_some_iff.1 hv
    simp only [List.length_ofFn] at hj
    simp only [List.getElem_ofFn] at hv
    rw [← hv]
    exact (Classical.choose_spec (key ⟨j, hj⟩)).1
  · obtain ⟨a', n', c', h1, h2⟩ := (Classical.choose_spec (key ⟨i, hi⟩)).2
    exact ⟨a', n', c', by rw [List.getElem?_eq_getElem (by simpa using hi), List.getElem_ofFn, h1], h2⟩

theorem OwRs.litNil {T : TypeId} {base : Nat} (w : World) (hb : base ≤ w.heap.size) : OwRs T base (w.alloc (.cells #[] T)) (some ⟨w.heap.size, 0, none⟩) 0 0 ([] : List (List α)) := by
  have := World.ownsRow_lit (e := T) (size := 1) w #[] 0 hb (by simp) rfl
  exact ⟨rfl, [], by simpa using this, fun i hi => absurd hi (by omega)⟩
theorem OwR.litNil {E : TypeId} {base : Nat} (w : World) (hb : base ≤ w.heap.size) : OwR E base (w.alloc (.cells #[] E)) (some ⟨w.heap.size, 0, none⟩) 0 0 ([] : List α) := by
  have := World.ownsRow_lit (e := E) (size := Cel.sz α) w #[] 0 hb (by simp) (by simp)
  exact ⟨rfl, by simpa using this⟩
end
end Go.Proofs.YtacicanjmleikaaGreatDoor
