/-
  Slices of flat structs that read as lists of records; slices of such slices; rows of the call's own; their append.
-/
import Derived.Test.YtacicanjmleikaaGreatDoorLibA
import Derived.Deep.MidRow
import Derived.Deep.Slices
namespace Go.Proofs.YtacicanjmleikaaGreatDoor
open Go.RowKit Go.Sort
set_option linter.unusedSimpArgs false
set_option linter.unusedVariables false

/-- A record: so many cells, one after the other. -/
class Cel (α : Type) where
  dflt : α
  sz : Nat
  enc : α → List Value
  ok : α → Prop
  len : ∀ x, (enc x).length = sz
  pos : 0 < sz
  one : ∀ x v, v ∈ enc x → v.oneCell' = true

section
variable {α : Type} [Cel α]

/-- A record of a list, behind a name that simp does not open. -/
def nthR (xs : List α) (i : Nat) : α := xs.getD i Cel.dflt
theorem nthR_mem {xs : List α} {i : Nat} (h : i < xs.length) : nthR xs i ∈ xs := by
  unfold nthR
  rw [List.getD_eq_getElem?_getD, List.getElem?_eq_getElem h]
  exact List.getElem_mem h
theorem nthR_get {xs : List α} {i : Nat} (h : i < xs.length) : nthR xs i = xs[i] := by
  simp [nthR, List.getD_eq_getElem?_getD, h]
theorem take_nthR_succ {xs : List α} {k : Nat} (h : k < xs.length) : xs.take (k + 1) = xs.take k ++ [nthR xs k] := by
  rw [List.take_succ_eq_append_getElem h, nthR_get h]
theorem nthR_take {xs : List α} {m i : Nat} (h : i < m) : nthR (xs.take m) i = nthR xs i := by
  simp [nthR, List.getD_eq_getElem?_getD, h]
theorem nthR_drop (xs : List α) (m i : Nat) : nthR (xs.drop m) i = nthR xs (m + i) := by
  simp [nthR, List.getD_eq_getElem?_getD]
theorem nthR_app_left {xs ys : List α} {i : Nat} (h : i < xs.length) : nthR (xs ++ ys) i = nthR xs i := by
  simp [nthR, List.getD_eq_getElem?_getD, List.getElem?_append_left h]
theorem nthR_app_right {xs ys : List α} {i : Nat} (h : xs.length ≤ i) : nthR (xs ++ ys) i = nthR ys (i - xs.length) := by
  simp [nthR, List.getD_eq_getElem?_getD, List.getElem?_append_right h]

theorem rangeAt_ext {w w' : World} {b o : Nat} {cs : List Value} (h : w.rangeAt b o cs) (hE : Ext w w') : w'.rangeAt b o cs := fun j v hv => hE.cell (h j v hv)

/-- The slice 'a, n, c' reads as the list of records xs. -/
structure Rw (w : World) (a : Option Addr) (n c : Nat) (xs : List α) : Prop where
  hlen : xs.length = n
  le : n ≤ c
  max : c ≤ maxLen
  lim : n ≤ 17592186044416
  cells : ∀ i, i < n → ∃ b off, a = some ⟨b, off, none⟩ ∧ w.rangeAt b (off + i * Cel.sz α) (Cel.enc (nthR xs i))
  wf : ∀ x ∈ xs, Cel.ok x

theorem Rw.at {w : World} {a : Option Addr} {n c : Nat} {xs : List α} (h : Rw w a n c xs) (h0 : 0 < n) :
    ∃ b off, a = some ⟨b, off, none⟩ ∧ ∀ i, i < n → w.rangeAt b (off + i * Cel.sz α) (Cel.enc (nthR xs i)) := by
  obtain ⟨b, off, rfl, _⟩ := h.cells 0 h0
  refine ⟨b, off, rfl, fun i hi => ?_⟩
  obtain ⟨b', off', he, hc⟩ := h.cells i hi
  simp at he
  obtain ⟨rfl, rfl⟩ := he
  exact hc
theorem Rw.ext {w w' : World} {a : Option Addr} {n c : Nat} {xs : List α} (h : Rw w a n c xs) (he : Ext w w') : Rw w' a n c xs :=
  ⟨h.hlen, h.le, h.max, h.lim, fun i hi => let ⟨b, off, ha, hc⟩ := h.cells i hi; ⟨b, off, ha, rangeAt_ext hc he⟩, h.wf⟩
theorem Rw.bd {w : World} {a : Option Addr} {n c : Nat} {xs : List α} (h : Rw w a n c xs) : n ≤ c ∧ c ≤ 9223372036854775807 ∧ n ≤ 17592186044416 := by
  have := h.max
  unfold maxLen at this
  exact ⟨h.le, by omega, h.lim⟩
theorem Rw.wfAt {w : World} {a : Option Addr} {n c : Nat} {xs : List α} (h : Rw w a n c xs) {i : Nat} (hi : i < n) : Cel.ok (nthR xs i) := h.wf _ (nthR_mem (by rw [h.hlen]; exact hi))
theorem Rw.nil (w : World) : Rw w none 0 0 ([] : List α) := ⟨rfl, Nat.le_refl _, Nat.zero_le _, by omega, fun i hi => absurd hi (by omega), by simp⟩
theorem Rw.isnil {w : World} {a : Option Addr} {c : Nat} {xs : List α} (h : Rw w a 0 c xs) : xs = [] := List.eq_nil_of_length_eq_zero h.hlen
theorem Rw.take {w : World} {a : Option Addr} {n c : Nat} {xs : List α} (h : Rw w a n c xs) {m : Nat} (hm : m ≤ n) : Rw w a m c (xs.take m) := by
  refine ⟨by rw [List.length_take, h.hlen]; omega, by have := h.le; omega, h.max, by have := h.lim; omega, fun i hi => ?_, fun x hx => h.wf x (List.mem_of_mem_take hx)⟩
  obtain ⟨b, off, ha, hc⟩ := h.cells i (by omega)
  exact ⟨b, off, ha, by rw [nthR_take hi]; exact hc⟩
theorem Rw.lt {w : World} {a : Option Addr} {n c : Nat} {xs : List α} (h : Rw w a n c xs) {b off : Nat} (ha : a = some ⟨b, off, none⟩) (hn : 0 < n) : b < w.heap.size := by
  obtain ⟨b', off', he, hc⟩ := h.cells 0 hn
  rw [ha] at he
  simp at he
  obtain ⟨rfl, rfl⟩ := he
  have hl := Cel.len (nthR xs 0)
  have hp := Cel.pos (α := α)
  have := hc 0 ((Cel.enc (nthR xs 0))[0]'(by omega)) (List.getElem?_eq_getElem (by omega))
  exact lt_of_cell this
/-- A block was written that is none of this slice's. -/
theorem Rw.below {w w' : World} {a : Option Addr} {n c : Nat} {xs : List α} (h : Rw w a n c xs) (hb : ∀ b off, a = some ⟨b, off, none⟩ → 0 < n → w'.heap[b]? = w.heap[b]?) : Rw w' a n c xs := by
  refine ⟨h.hlen, h.le, h.max, h.lim, fun i hi => ?_, h.wf⟩
  obtain ⟨b, off, ha, hc⟩ := h.cells i hi
  exact ⟨b, off, ha, fun j v hv => (World.cell?_of_block (w := w) (hb b off ha (by omega))).trans (hc j v hv)⟩

theorem flat_len (xs : List α) : (xs.flatMap Cel.enc).length = xs.length * Cel.sz α := by
  induction xs with
  | nil => simp
  | cons x xs ih => rw [List.flatMap_cons, List.length_append, ih, Cel.len, List.length_cons, Nat.add_mul, Nat.one_mul, Nat.add_comm]
theorem flat_one (xs : List α) : ∀ v ∈ xs.flatMap Cel.enc, v.oneCell' = true := by
  intro v hv
  obtain ⟨x, _, h⟩ := List.mem_flatMap.1 hv
  exact Cel.one x v h
theorem flat_at : ∀ (xs : List α) (i j : Nat), i < xs.length → j < Cel.sz α → (xs.flatMap Cel.enc)[i * Cel.sz α + j]? = (Cel.enc (nthR xs i))[j]?
  | [], i, j, hi, _ => absurd hi (by simp)
  | x :: xs, 0, j, _, hj => by
    rw [List.flatMap_cons, Nat.zero_mul, Nat.zero_add, List.getElem?_append_left (by rw [Cel.len]; exact hj)]
    rfl
  | x :: xs, i + 1, j, hi, hj => by
    have hl := Cel.len x
    rw [List.flatMap_cons, List.getElem?_append_right (by rw [hl, Nat.add_mul]; omega), hl, show (i + 1) * Cel.sz α + j - Cel.sz α = i * Cel.sz α + j by rw [Nat.add_mul]; omega, flat_at xs i j (by simpa using hi) hj]
    rfl
/-- All cells of a slice of records, one after the other. -/
theorem Rw.flat {w : World} {b off n c : Nat} {xs : List α} (h : Rw w (some ⟨b, off, none⟩) n c xs) : w.rangeAt b off (xs.flatMap Cel.enc) := by
  intro j v hv
  have hp := Cel.pos (α := α)
  have hj : j < n * Cel.sz α := by
    have := (List.getElem?_eq_some_iff.1 hv).1
    rw [flat_len, h.hlen] at this
    exact this
  have h1 : j / Cel.sz α < n := Nat.div_lt_of_lt_mul (by rw [Nat.mul_comm]; exact hj)
  have h2 := Nat.mod_lt j hp
  have h3 : j / Cel.sz α * Cel.sz α + j % Cel.sz α = j := by rw [Nat.mul_comm]; exact Nat.div_add_mod j _
  obtain ⟨b', off', he, hc⟩ := h.cells _ h1
  simp at he
  obtain ⟨rfl, rfl⟩ := he
  rw [← h3, flat_at xs _ _ (by rw [h.hlen]; exact h1) h2] at hv
  have := hc _ _ hv
  rw [Nat.add_assoc, h3] at this
  exact this
theorem Rw.ofFlat {w : World} {b off n c : Nat} {xs : List α} (hl : xs.length = n) (hle : n ≤ c) (hm : c ≤ maxLen) (hlim : n ≤ 17592186044416) (h : w.rangeAt b off (xs.flatMap Cel.enc)) (hw : ∀ x ∈ xs, Cel.ok x) : Rw w (some ⟨b, off, none⟩) n c xs := by
  refine ⟨hl, hle, hm, hlim, fun i hi => ⟨b, off, rfl, fun j v hv => ?_⟩, hw⟩
  have hj : j < Cel.sz α := by
    have := (List.getElem?_eq_some_iff.1 hv).1
    rwa [Cel.len] at this
  rw [Nat.add_assoc]
  refine h _ _ ?_
  rw [flat_at xs i j (by omega) hj]
  exact hv

/-! ### Rows of the call's own -/

/-- What the table says of a slice type T and its elements' type E. -/
def ElS (P : Program) (T E : TypeId) (z : Value) (size by_ : Nat) : Prop :=
  P.underlying T = some (.slice E) ∧ ((P.info? E).map (fun i => (i.zero, i.size, i.bytes)) = some (some z, size, by_)) ∧ z.cells.size = size ∧ 0 < size

/-- The slice 'a, n, c' is at the head of a row of the call's own (from block base on), and holds the records xs. -/
def OwR (E : TypeId) (base : Nat) (w : World) (a : Option Addr) (n c : Nat) (xs : List α) : Prop :=
  xs.length = n ∧ w.ownsRow base E (Cel.sz α) (.slice a n c) n (xs.flatMap Cel.enc)

theorem OwR.nil (E : TypeId) (base : Nat) (w : World) : OwR E base w none 0 0 ([] : List α) := ⟨rfl, World.ownsRow_nil w base E _⟩
theorem OwR.kept {E : TypeId} {base : Nat} {w w' : World} {a : Option Addr} {n c : Nat} {xs : List α} (h : OwR E base w a n c xs) (he : Ext w w') : OwR E base w' a n c xs := by
  refine ⟨h.1, World.ownsRow.kept (row := none) h.2 ⟨he.os, he.tape, he.output, he.size, fun k hk _ => he.block k hk⟩ ?_⟩
  rcases a with _ | ⟨b, o, s⟩
  · left; rfl
  · right; simp [Value.ownBlock]
theorem OwR.ext {E : TypeId} {base : Nat} {w w' : World} {a : Option Addr} {n c : Nat} {xs : List α} (h : OwR E base w a n c xs) (he : Ext w w') : OwR E base w' a n c xs := h.kept he
theorem OwR.rw {E : TypeId} {base : Nat} {w : World} {a : Option Addr} {n c : Nat} {xs : List α} (h : OwR E base w a n c xs) (hlim : n ≤ 17592186044416) (hw : ∀ x ∈ xs, Cel.ok x) : Rw w a n c xs := by
  obtain ⟨hl, h⟩ := h
  rcases h.2 with ⟨hv, h0⟩ | ⟨g, cap, cur, hv, hg, hb, hn, hm, hs, ht⟩
  · simp only [Value.slice.injEq] at hv
    obtain ⟨rfl, rfl, rfl⟩ := hv
    obtain rfl := List.eq_nil_of_length_eq_zero hl
    exact Rw.nil w
  · simp only [Value.slice.injEq] at hv
    obtain ⟨rfl, _, rfl⟩ := hv
    refine Rw.ofFlat hl hn hm hlim (fun j v hv => ?_) hw
    have hj : j < n * Cel.sz α := by
      have := (List.getElem?_eq_some_iff.1 hv).1
      rw [flat_len, hl] at this
      exact this
    have := World.ownsRow.cellAt h j hj
    rw [Nat.zero_add, this]
    exact hv

/-- 'append(s, t...)' at cells: t is not empty. -/
theorem appC {P : Program} {T E : TypeId} {z : Value} {size by_ : Nat} (hE : ElS P T E z size by_) {ops : Array Oper} {rest : List Oper} {o : Oper} {a : Act} {Q : Exit → Act → World → Prop} (hgd : o.guard = none) (s x : Operand)
    (ho : o.op = .call { callee := .builtin .append, args := #[s, x], argTypes := #[T, T] })
    (w : World) (base : Nat) (sa : Option Addr) (n c : Nat) (cs : List Value) (hs : a.eval s = .slice sa n c) (hown : w.ownsRow base E size (.slice sa n c) n cs)
    (b off m tc : Nat) (news : List Value) (hx : a.eval x = .slice (some ⟨b, off, none⟩) m tc) (hl : news.length = m * size) (hn : w.rangeAt b off news) (h1 : ∀ u ∈ news, u.oneCell' = true) (hm : 0 < m) (hbase : base ≤ w.heap.size) (h63 : n + m ≤ maxLen) (hbytes : (n + m) * by_ ≤ 140737488355328)
    (h : ∀ g cap w', w'.ownsRow base E size (.slice (some ⟨g, 0, none⟩) (n + m) cap) (n + m) (cs ++ news) → Below base w w' → w.grownBy w' (Value.slice sa n c).ownBlock → ((Value.slice sa n c).ownBlock = some g ∨ g = w.heap.size) → wpList P ops Q rest (a.put o.dst (.slice (some ⟨g, 0, none⟩) (n + m) cap)) w') :
    wpList P ops Q (o :: rest) a w := by
  obtain ⟨hT, hI, hzs, hsz⟩ := hE
  obtain ⟨i, hi, hz, hsz', hby⟩ := info_parts hI
  refine wpList_append_lies w hgd s x T ho base E i z size by_ hT hi hz hsz' hby hzs hsz _ n _ hs hown ⟨b, off, none⟩ m tc news hx hl (fun j u hu => by rw [Addr.add_mid]; exact hn j u hu) h1 hm h63 hbytes hbase w.heap.size rfl ?_
  intro g cap w' h2 h3 h4 _
  exact h g cap w' h2 ((Below.refl base w).grown h3 hbase fun k hk => (hown.lt k hk).1) h3 h4

/-- 'append(s, t...)': t empty or not, s nil or not; s of the call's own. -/
theorem appRs {P : Program} {T E : TypeId} {z : Value} {by_ : Nat} (hE : ElS P T E z (Cel.sz α) by_) {ops : Array Oper} {rest : List Oper} {o : Oper} {a : Act} {Q : Exit → Act → World → Prop} (hgd : o.guard = none) (s x : Operand)
    (ho : o.op = .call { callee := .builtin .append, args := #[s, x], argTypes := #[T, T] })
    (w : World) (base : Nat) (sa : Option Addr) (n c : Nat) (xs : List α) (hs : a.eval s = .slice sa n c) (hown : OwR E base w sa n c xs)
    (ta : Option Addr) (m tc : Nat) (ys : List α) (hx : a.eval x = .slice ta m tc) (ht : Rw w ta m tc ys) (hbase : base ≤ w.heap.size) (h63 : n + m ≤ maxLen) (hbytes : (n + m) * by_ ≤ 140737488355328)
    (h : ∀ a' cap w', OwR E base w' a' (n + m) cap (xs ++ ys) → Below base w w' → wpList P ops Q rest (a.put o.dst (.slice a' (n + m) cap)) w') :
    wpList P ops Q (o :: rest) a w := by
  rcases Nat.eq_zero_or_pos m with hm | hm
  · subst hm
    obtain rfl : ys = [] := List.eq_nil_of_length_eq_zero ht.hlen
    simp only [List.append_nil, Nat.add_zero] at h
    obtain ⟨hT, hI, hzs, hsz⟩ := hE
    obtain ⟨i, hi, hz, hsz', hby⟩ := info_parts hI
    rcases ta with _ | ad
    · refine wpList_plain hgd fun K hK => ?_
      have hrun := run_append_none (P := P) (w := w) base T o.type E i _ hT hi _ n _ hown.2 tc
      unfold Oper.wp
      simp [execOp, ho, resolve, invoke, builtin, hs, hx, hrun, Result.andThen]
      exact hK _ _ (h sa c w hown (Below.refl _ _))
    · obtain ⟨v', w', hr, h2, h3, _, h5⟩ := run_append_own_at (P := P) w base T o.type E i z _ by_ hT hi hz hsz' hby hzs hsz _ n _ hown.2 ad 0 tc [] (by simp) (by simp) (by simp) (by simpa using h63) (by simpa using hbytes) hbase
      have hv : ∃ a' cap, v' = .slice a' n cap := by
        rcases h2.2 with ⟨hv, h0⟩ | ⟨g, cap, cur, hv, _⟩
        · exact ⟨none, 0, by rw [hv, show n = 0 from by omega]⟩
        · exact ⟨_, cap, by simpa using hv⟩
      obtain ⟨a', cap, rfl⟩ := hv
      refine wpList_plain hgd fun K hK => ?_
      unfold Oper.wp
      simp only [execOp, ho, resolve, invoke, builtin, Sem.run_bind, Sem.run_pure, Result.andThen_ok, List.map_toArray, List.map_cons, List.map_nil, hs, hx, hr]
      refine hK _ _ (h a' cap w' ⟨hown.1, ?_⟩ ((Below.refl base w).grown h3 hbase fun k hk => (hown.2.lt k hk).1))
      simpa using h2
  · obtain ⟨b, off, rfl, _⟩ := ht.at hm
    refine appC hE hgd s x ho w base sa n c _ hs hown.2 b off m tc (ys.flatMap Cel.enc) hx (by rw [flat_len, ht.hlen]) ht.flat (flat_one ys) hm hbase h63 hbytes ?_
    intro g cap w' h2 h3 _ _
    exact h _ cap w' ⟨by rw [List.length_append, hown.1, ht.hlen], by rw [List.flatMap_append]; exact h2⟩ h3

/-- 'append(s, x)', x a record that has been put into a block of its own. -/
theorem appR1 {P : Program} {T E : TypeId} {z : Value} {by_ : Nat} (hE : ElS P T E z (Cel.sz α) by_) {ops : Array Oper} {rest : List Oper} {o : Oper} {a : Act} {Q : Exit → Act → World → Prop} (hgd : o.guard = none) (s x : Operand)
    (ho : o.op = .call { callee := .builtin .append, args := #[s, x], argTypes := #[T, T] })
    (w : World) (base : Nat) (sa : Option Addr) (n c : Nat) (xs : List α) (y : α) (cs : Array Value) (hcs : cs.toList = Cel.enc y) (hs : a.eval s = .slice sa n c) (hown : OwR E base w sa n c xs)
    (hx : a.eval x = .slice (some ⟨w.heap.size, 0, none⟩) 1 1) (hbase : base ≤ w.heap.size) (h63 : n + 1 ≤ maxLen) (hbytes : (n + 1) * by_ ≤ 140737488355328)
    (h : ∀ g cap w', OwR E base w' (some ⟨g, 0, none⟩) (n + 1) cap (xs ++ [y]) → Below base w w' → wpList P ops Q rest (a.put o.dst (.slice (some ⟨g, 0, none⟩) (n + 1) cap)) w') :
    wpList P ops Q (o :: rest) a (w.alloc (.cells cs E)) := by
  have hE0 : Ext w (w.alloc (.cells cs E)) := (Ext.refl w).alloc _
  have hr : (w.alloc (.cells cs E)).rangeAt w.heap.size 0 (Cel.enc y) := by
    intro j v hv
    rw [cell_of_row (w.alloc (.cells cs E)) w.heap.size (0 + j) cs E (0, 0) (World.alloc_heap_new w _), ← Array.getElem?_toList, hcs, Nat.zero_add]
    exact hv
  refine appC hE hgd s x ho (w.alloc (.cells cs E)) base sa n c _ hs (hown.ext hE0).2 w.heap.size 0 1 1 (Cel.enc y) hx (by rw [Cel.len, Nat.one_mul]) hr (fun u hu => Cel.one y u hu) (by omega) (by simp; omega) h63 hbytes ?_
  intro g cap w' h2 h3 _ _
  refine h g cap w' ⟨by simp [hown.1], by rw [List.flatMap_append]; simpa using h2⟩ (Below.trans ((Below.refl base w).alloc hbase _) h3)
end
end Go.Proofs.YtacicanjmleikaaGreatDoor
