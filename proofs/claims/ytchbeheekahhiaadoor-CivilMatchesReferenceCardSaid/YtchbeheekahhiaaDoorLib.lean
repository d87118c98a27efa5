/-
  Small words and lemmas of our own that all texts of this seat use: how a slice reads, what a later world keeps.
-/
import Derived.Test.YtchbeheekahhiaaDoorRows
import Derived.WalkKit
import Derived.WalkSpells
import Derived.WalkLawsBesides
import Derived.Deep.QuietTactic
import Derived.BigQuiet
import Derived.Lib.Hide
import Derived.Lib.QuietBelow
import Derived.Deep.AppendLies
import Derived.Deep.RegionHeld3
import Derived.Deep.DeepFit
import Derived.WalkSmall
import Derived.RangeFuncNested
import Derived.RangeFuncBound
import Derived.RangeFuncCalls
import Derived.RangeFuncLeaves
import Derived.Maps.AppendAt
import Derived.OwnWalkIn
import Derived.TacticsInMore
import Derived.LoopNIn
import Derived.LoopIn
import Derived.OpenShut
namespace Go.Proofs.YtchbeheekahhiaaDoor
open Go.RowKit
set_option linter.unusedSimpArgs false
set_option linter.unusedVariables false

/-- An element of a list, behind a name that simp does not open. -/
def nth (xs : List Int) (i : Nat) : Int := xs.getD i 0
theorem nth_eq (xs : List Int) (i : Nat) : nth xs i = xs.getD i 0 := rfl

/-- The slice 'a, n, c' of integers of kind k reads as the list xs. -/
structure Sl (k : IntKind) (w : World) (a : Option Addr) (n c : Nat) (xs : List Int) : Prop where
  hlen : xs.length = n
  le : n ≤ c
  max : c ≤ maxLen
  cells : ∀ i, i < n → ∃ b off, a = some ⟨b, off, none⟩ ∧ w.cell? ⟨b, off + i, none⟩ = some (.int k (nth xs i))
  wf : ∀ x ∈ xs, (Lit.int k x).wf = true

theorem Sl.at {k : IntKind} {w : World} {a : Option Addr} {n c : Nat} {xs : List Int} (h : Sl k w a n c xs) (h0 : 0 < n) :
    ∃ b off, a = some ⟨b, off, none⟩ ∧ ∀ i, i < n → w.cell? ⟨b, off + i, none⟩ = some (.int k (nth xs i)) := by
  obtain ⟨b, off, rfl, _⟩ := h.cells 0 h0
  refine ⟨b, off, rfl, fun i hi => ?_⟩
  obtain ⟨b', off', he, hc⟩ := h.cells i hi
  simp at he
  obtain ⟨rfl, rfl⟩ := he
  exact hc

/-- Nothing that was there has turned. -/
def Ext (w w' : World) : Prop := Below w.heap.size w w'
theorem Ext.refl (w : World) : Ext w w := Below.refl _ _
theorem Ext.trans {a b c : World} (h : Ext a b) (k : Ext b c) : Ext a c := Below.trans h (Below.mono k h.size)
theorem Ext.drew {a b : World} (h : Ext a b) : Ext a b.drew := Below.drew h
theorem Ext.drewN {a b : World} (h : Ext a b) (n : Nat) : Ext a (b.drewN n) := below_drewN h n
theorem Ext.alloc {a b : World} (h : Ext a b) (o : Obj) : Ext a (b.alloc o) := Below.alloc h h.size o
theorem Ext.below {a b : World} (h : Ext a b) : Below a.heap.size a b := h
theorem Ext.setCell {a b : World} (h : Ext a b) {p : Addr} (hp : a.heap.size ≤ p.block) (u : Value) : Ext a (b.setCell p u) := Below.setCell h hp u
theorem Ext.sz {a b : World} (h : Ext a b) : a.heap.size ≤ b.heap.size := h.size

theorem lt_of_cell {w : World} {a : Addr} {v : Value} (h : w.cell? a = some v) : a.block < w.heap.size := by
  obtain ⟨o, ho, _⟩ := cells_of_cell h
  exact (Array.getElem?_eq_some_iff.1 ho).1

theorem Ext.cell {w w' : World} (h : Ext w w') {a : Addr} {v : Value} (hc : w.cell? a = some v) : w'.cell? a = some v :=
  (Below.cell h (lt_of_cell hc)).trans hc

theorem Sl.ext {k : IntKind} {w w' : World} {a : Option Addr} {n c : Nat} {xs : List Int} (h : Sl k w a n c xs) (he : Ext w w') : Sl k w' a n c xs :=
  ⟨h.hlen, h.le, h.max, fun i hi => let ⟨b, off, ha, hc⟩ := h.cells i hi; ⟨b, off, ha, he.cell hc⟩, h.wf⟩

theorem Sl.bd {k : IntKind} {w : World} {a : Option Addr} {n c : Nat} {xs : List Int} (h : Sl k w a n c xs) : n ≤ c ∧ c ≤ 9223372036854775807 := by
  have := h.max
  unfold maxLen at this
  exact ⟨h.le, by omega⟩

theorem nth_mem {xs : List Int} {i : Nat} (h : i < xs.length) : nth xs i ∈ xs := by
  unfold nth
  rw [List.getD_eq_getElem?_getD, List.getElem?_eq_getElem h]
  exact List.getElem_mem h

theorem Sl.wfAt {k : IntKind} {w : World} {a : Option Addr} {n c : Nat} {xs : List Int} (h : Sl k w a n c xs) {i : Nat} (hi : i < n) : (Lit.int k (nth xs i)).wf = true :=
  h.wf _ (nth_mem (by rw [h.hlen]; exact hi))

theorem wf_u8 {x : Int} (h : (Lit.int .u8 x).wf = true) : 0 ≤ x ∧ x ≤ 255 := by simp [Lit.wf, IntKind.min, IntKind.max, IntKind.bits, IntKind.signed] at h; omega
theorem wf_i64 {x : Int} (h : (Lit.int .i64 x).wf = true) : -9223372036854775808 ≤ x ∧ x ≤ 9223372036854775807 := by simp [Lit.wf, IntKind.min, IntKind.max, IntKind.bits, IntKind.signed] at h; omega
theorem wf_u64 {x : Int} (h : (Lit.int .u64 x).wf = true) : 0 ≤ x ∧ x ≤ 18446744073709551615 := by simp [Lit.wf, IntKind.min, IntKind.max, IntKind.bits, IntKind.signed] at h; omega

theorem ret_bool {a b : Bool} (h : a = b) : Ending.returned (.bool a) = .returned (.bool b) := by rw [h]
theorem ret_int {k : IntKind} {a b : Int} (h : a = b) : Ending.returned (.int k a) = .returned (.int k b) := by rw [h]

theorem take_nth_succ {xs : List Int} {k : Nat} (h : k < xs.length) : xs.take (k+1) = xs.take k ++ [nth xs k] := by
  rw [List.take_succ_eq_append_getElem h]
  simp [nth, List.getD_eq_getElem?_getD, h]

/-! ### Slices that the call itself has made -/

/-- What the table says of a slice type T, its elements' type E: zero value z, one cell, 'by' bytes. -/
def ElT (P : Program) (T E : TypeId) (z : Value) (size by_ : Nat) : Prop :=
  P.underlying T = some (.slice E) ∧ (P.info? E).map (fun i => (i.zero, i.size, i.bytes)) = some (some z, size, by_)

/-- The slice 'a, n, c' is at the head of a row of the call's own (from block base on), and holds the integers xs. -/
def OwI (k : IntKind) (E : TypeId) (base : Nat) (w : World) (a : Option Addr) (n c : Nat) (xs : List Int) : Prop :=
  w.ownsRow base E 1 (.slice a n c) n (xs.map (Value.int k))

theorem OwI.hlen {k : IntKind} {E : TypeId} {base : Nat} {w : World} {a : Option Addr} {n c : Nat} {xs : List Int} (h : OwI k E base w a n c xs) : xs.length = n := by
  have := h.1
  simpa using this

theorem OwI.nil (k : IntKind) (E : TypeId) (base : Nat) (w : World) : OwI k E base w none 0 0 [] := World.ownsRow_nil w base E 1

theorem ext_of_below {w w' : World} (h : Below w.heap.size w w') : Ext w w' := h

theorem OwI.kept {k : IntKind} {E : TypeId} {base : Nat} {w w' : World} {a : Option Addr} {n c : Nat} {xs : List Int} (h : OwI k E base w a n c xs) (he : Ext w w') : OwI k E base w' a n c xs := by
  refine World.ownsRow.kept (row := none) h ⟨he.os, he.tape, he.output, he.size, fun k hk _ => he.block k hk⟩ ?_
  rcases a with _ | ⟨b, o, s⟩
  · left; rfl
  · right; simp [Value.ownBlock]

theorem OwI.mono {k : IntKind} {E : TypeId} {base base' : Nat} {w : World} {a : Option Addr} {n c : Nat} {xs : List Int} (h : OwI k E base w a n c xs) (hb : base' ≤ base) : OwI k E base' w a n c xs := by
  obtain ⟨h1, h2⟩ := h
  refine ⟨h1, ?_⟩
  rcases h2 with h2 | ⟨g, cap, cur, hv, hg, r⟩
  · exact .inl h2
  · exact .inr ⟨g, cap, cur, hv, by omega, r⟩

theorem OwI.sl {k : IntKind} {E : TypeId} {base : Nat} {w : World} {a : Option Addr} {n c : Nat} {xs : List Int} (h : OwI k E base w a n c xs) (hw : ∀ x ∈ xs, (Lit.int k x).wf = true) : Sl k w a n c xs := by
  have hl := h.hlen
  rcases h.2 with ⟨hv, h0⟩ | ⟨g, cap, cur, hv, hg, hb, hn, hm, hs, ht⟩
  · simp only [Value.slice.injEq] at hv
    obtain ⟨rfl, rfl, rfl⟩ := hv
    exact ⟨hl, Nat.le_refl _, Nat.zero_le _, fun i hi => absurd hi (Nat.not_lt_zero _), hw⟩
  · simp only [Value.slice.injEq] at hv
    obtain ⟨rfl, _, rfl⟩ := hv
    refine ⟨hl, hn, hm, fun i hi => ⟨g, 0, rfl, ?_⟩, hw⟩
    have := World.ownsRow.cellAt h i (by omega)
    rw [Nat.zero_add, this]
    simp [nth, List.getD_eq_getElem?_getD, hl, hi]

theorem below_grown {base : Nat} {w w' : World} {v : Value} {E : TypeId} {size n : Nat} {xs : List Value} (hown : w.ownsRow base E size v n xs) (hb : base ≤ w.heap.size) (hg : w.grownBy w' v.ownBlock) : Below base w w' :=
  (Below.refl base w).grown hg hb fun k hk => (hown.lt k hk).1

/-- 'append(s, x)', x an integer that has been put into a block of its own. -/
theorem app1 {P : Program} {T E : TypeId} {k : IntKind} {by_ : Nat} (hE : ElT P T E (.int k 0) 1 by_) {ops : Array Oper} {rest : List Oper} {o : Oper} {a : Act} {Q : Exit → Act → World → Prop} (hgd : o.guard = none) (s x : Operand)
    (ho : o.op = .call { callee := .builtin .append, args := #[s, x], argTypes := #[T, T] })
    (w : World) (base : Nat) (sa : Option Addr) (n c : Nat) (xs : List Int) (u : Int) (hs : a.eval s = .slice sa n c) (hown : OwI k E base w sa n c xs)
    (hx : a.eval x = .slice (some ⟨w.heap.size, 0, none⟩) 1 1) (hbase : base ≤ w.heap.size) (h63 : n + 1 ≤ maxLen) (hbytes : (n + 1) * by_ ≤ 140737488355328)
    (h : ∀ g cap w', OwI k E base w' (some ⟨g, 0, none⟩) (n + 1) cap (xs ++ [u]) → Below base w w' → wpList P ops Q rest (a.put o.dst (.slice (some ⟨g, 0, none⟩) (n + 1) cap)) w') :
    wpList P ops Q (o :: rest) a (w.alloc (.cells #[.int k u] E)) := by
  obtain ⟨hT, hI⟩ := hE
  obtain ⟨i, hi, hz, hsz, hby⟩ := info_parts hI
  have hown' : (w.alloc (.cells #[.int k u] E)).ownsRow base E 1 (.slice sa n c) n (xs.map (Value.int k)) := World.ownsRow.alloc hown _
  refine wpList_append_lies (w.alloc (.cells #[.int k u] E)) hgd s x T ho base E i (.int k 0) 1 by_ hT hi hz hsz hby rfl (by decide) _ n _ hs hown' ⟨w.heap.size, 0, none⟩ 1 1 [.int k u] hx rfl
    (cell_one_new _ _ _) (by simp [Value.oneCell']) (by decide) h63 hbytes (by simp; omega) (w.heap.size + 1) (by simp) ?_
  intro g cap w' h2 h3 _ _
  refine h g cap w' ?_ (((Below.refl base w).alloc hbase _).trans (below_grown hown' (by simp; omega) h3))
  unfold OwI
  rw [List.map_append]
  exact h2

theorem nth_take {xs : List Int} {m i : Nat} (h : i < m) : nth (xs.take m) i = nth xs i := by
  simp [nth, List.getD_eq_getElem?_getD, h]
theorem nth_drop (xs : List Int) (m i : Nat) : nth (xs.drop m) i = nth xs (m + i) := by
  simp [nth, List.getD_eq_getElem?_getD]

theorem Sl.take {k : IntKind} {w : World} {a : Option Addr} {n c : Nat} {xs : List Int} (h : Sl k w a n c xs) {m : Nat} (hm : m ≤ n) : Sl k w a m c (xs.take m) := by
  refine ⟨by rw [List.length_take, h.hlen]; omega, by have := h.le; omega, h.max, fun i hi => ?_, fun x hx => h.wf x (List.mem_of_mem_take hx)⟩
  obtain ⟨b, off, ha, hc⟩ := h.cells i (by omega)
  exact ⟨b, off, ha, by rw [nth_take hi]; exact hc⟩

/-- s[m:l:mx], at a slice that is not nil. -/
theorem Sl.drop {k : IntKind} {w : World} {b off n c : Nat} {xs : List Int} (h : Sl k w (some ⟨b, off, none⟩) n c xs) {m : Nat} (hm : m ≤ n) (c' : Nat) (hc' : n - m ≤ c') (hcc : c' ≤ c) :
    Sl k w (some ⟨b, off + m, none⟩) (n - m) c' (xs.drop m) := by
  refine ⟨by rw [List.length_drop, h.hlen], hc', Nat.le_trans hcc h.max, fun i hi => ?_, fun x hx => h.wf x (List.mem_of_mem_drop hx)⟩
  obtain ⟨b', off', ha, hc⟩ := h.cells (m + i) (by omega)
  simp only [Option.some.injEq, Addr.mk.injEq, and_true] at ha
  obtain ⟨rfl, rfl⟩ := ha
  exact ⟨b, off + m, rfl, by rw [nth_drop, show off + m + i = off + (m + i) by omega]; exact hc⟩

theorem OwI.cellAt {k : IntKind} {E : TypeId} {base : Nat} {w : World} {g n c : Nat} {xs : List Int} (h : OwI k E base w (some ⟨g, 0, none⟩) n c xs) {j : Nat} (hj : j < n) : w.cell? ⟨g, j, none⟩ = some (.int k (nth xs j)) := by
  have hl := h.hlen
  rw [World.ownsRow.cellAt h j (by omega)]
  simp [nth, List.getD_eq_getElem?_getD, hl, hj]

theorem OwI.frozenAt {k : IntKind} {E : TypeId} {base : Nat} {w : World} {g n c : Nat} {xs : List Int} (h : OwI k E base w (some ⟨g, 0, none⟩) n c xs) (j : Nat) : w.frozen? ⟨g, j, none⟩ = false := World.ownsRow.frozenAt h j

theorem OwI.set {k : IntKind} {E : TypeId} {base : Nat} {w : World} {g n c : Nat} {xs : List Int} (h : OwI k E base w (some ⟨g, 0, none⟩) n c xs) (j : Nat) (x : Int) : OwI k E base (w.setCell ⟨g, j, none⟩ (.int k x)) (some ⟨g, 0, none⟩) n c (xs.set j x) := by
  have := (World.ownsRow.stored h j (.int k x)).1
  unfold OwI
  rw [List.map_set]
  exact this

theorem OwI.ge {k : IntKind} {E : TypeId} {base : Nat} {w : World} {g n c : Nat} {xs : List Int} (h : OwI k E base w (some ⟨g, 0, none⟩) n c xs) : base ≤ g ∧ g < w.heap.size := World.ownsRow.lt h g rfl

/-- A block that has just been laid, whole. -/
theorem OwI.lit (k : IntKind) (E : TypeId) {base : Nat} (w : World) (xs : List Int) (hb : base ≤ w.heap.size) (hm : xs.length ≤ maxLen) (cs : Array Value) (hcs : cs.toList = xs.map (Value.int k)) :
    OwI k E base (w.alloc (.cells cs E)) (some ⟨w.heap.size, 0, none⟩) xs.length xs.length xs := by
  have := World.ownsRow_lit (e := E) (size := 1) w cs xs.length hb hm (by rw [← Array.length_toList, hcs]; simp)
  rw [hcs] at this
  exact this

/-- 'append(s, t...)', t a slice of integers that is not empty. -/
theorem appS {P : Program} {T E : TypeId} {k : IntKind} {by_ : Nat} (hE : ElT P T E (.int k 0) 1 by_) {ops : Array Oper} {rest : List Oper} {o : Oper} {a : Act} {Q : Exit → Act → World → Prop} (hgd : o.guard = none) (s x : Operand)
    (ho : o.op = .call { callee := .builtin .append, args := #[s, x], argTypes := #[T, T] })
    (w : World) (base : Nat) (sa : Option Addr) (n c : Nat) (xs : List Int) (hs : a.eval s = .slice sa n c) (hown : OwI k E base w sa n c xs)
    (ta : Option Addr) (m tc : Nat) (ys : List Int) (hx : a.eval x = .slice ta m tc) (ht : Sl k w ta m tc ys) (hm : 0 < m) (hbase : base ≤ w.heap.size) (h63 : n + m ≤ maxLen) (hbytes : (n + m) * by_ ≤ 140737488355328)
    (h : ∀ g cap w', OwI k E base w' (some ⟨g, 0, none⟩) (n + m) cap (xs ++ ys) → Below base w w' → wpList P ops Q rest (a.put o.dst (.slice (some ⟨g, 0, none⟩) (n + m) cap)) w') :
    wpList P ops Q (o :: rest) a w := by
  obtain ⟨hT, hI⟩ := hE
  obtain ⟨i, hi, hz, hsz, hby⟩ := info_parts hI
  obtain ⟨b, off, rfl, hc⟩ := ht.at hm
  have hl := ht.hlen
  refine wpList_append_lies w hgd s x T ho base E i (.int k 0) 1 by_ hT hi hz hsz hby rfl (by decide) _ n _ hs hown ⟨b, off, none⟩ m tc (ys.map (Value.int k)) hx (by simp [hl]) ?_ ?_ hm h63 hbytes hbase w.heap.size rfl ?_
  · intro j u hu
    have hj : j < m := by
      rcases Nat.lt_or_ge j m with h | h
      · exact h
      · rw [List.getElem?_eq_none (by simp; omega)] at hu; cases hu
    have hadd : (⟨b, off, none⟩ : Addr).add j = ⟨b, off + j, none⟩ := by unfold Addr.add; split <;> simp_all
    rw [hadd, hc j hj]
    have hj' : j < ys.length := by omega
    simp [hj'] at hu
    rw [← hu]
    simp [nth, List.getD_eq_getElem?_getD, hj']
  · intro u hu
    simp only [List.mem_map] at hu
    obtain ⟨x, _, rfl⟩ := hu
    simp [Value.oneCell']
  · intro g cap w' h2 h3 _ _
    refine h g cap w' ?_ (below_grown hown hbase h3)
    unfold OwI
    rw [List.map_append]
    exact h2

/-- What is owned from base on stays owned while nothing from that block on turns that was there. -/
theorem OwI.ext {k : IntKind} {E : TypeId} {base : Nat} {w w' : World} {a : Option Addr} {n c : Nat} {xs : List Int} (h : OwI k E base w a n c xs) (he : Ext w w') : OwI k E base w' a n c xs := h.kept he

/-! ### Slices of slices -/

/-- An element of a list of lists, behind a name that simp does not open. -/
def nthL (xs : List (List Int)) (i : Nat) : List Int := xs.getD i []

/-- The slice 'a, n, c' of slices of integers reads as the list xss. -/
structure Sll (k : IntKind) (w : World) (a : Option Addr) (n c : Nat) (xss : List (List Int)) : Prop where
  hlen : xss.length = n
  le : n ≤ c
  max : c ≤ maxLen
  cells : ∀ i, i < n → ∃ b off a' n' c', a = some ⟨b, off, none⟩ ∧ w.cell? ⟨b, off + i, none⟩ = some (.slice a' n' c') ∧ Sl k w a' n' c' (nthL xss i)

theorem Sll.at {k : IntKind} {w : World} {a : Option Addr} {n c : Nat} {xs : List (List Int)} (h : Sll k w a n c xs) (h0 : 0 < n) :
    ∃ b off, a = some ⟨b, off, none⟩ ∧ ∀ i, i < n → ∃ a' n' c', w.cell? ⟨b, off + i, none⟩ = some (.slice a' n' c') ∧ Sl k w a' n' c' (nthL xs i) := by
  obtain ⟨b, off, _, _, _, rfl, _⟩ := h.cells 0 h0
  refine ⟨b, off, rfl, fun i hi => ?_⟩
  obtain ⟨b', off', a', n', c', he, hc⟩ := h.cells i hi
  simp at he
  obtain ⟨rfl, rfl⟩ := he
  exact ⟨a', n', c', hc⟩

theorem Sll.ext {k : IntKind} {w w' : World} {a : Option Addr} {n c : Nat} {xs : List (List Int)} (h : Sll k w a n c xs) (he : Ext w w') : Sll k w' a n c xs :=
  ⟨h.hlen, h.le, h.max, fun i hi => let ⟨b, off, a', n', c', ha, hc, hs⟩ := h.cells i hi; ⟨b, off, a', n', c', ha, he.cell hc, hs.ext he⟩⟩

theorem Sll.bd {k : IntKind} {w : World} {a : Option Addr} {n c : Nat} {xs : List (List Int)} (h : Sll k w a n c xs) : n ≤ c ∧ c ≤ 9223372036854775807 := by
  have := h.max
  unfold maxLen at this
  exact ⟨h.le, by omega⟩

theorem nthL_mem {xs : List (List Int)} {i : Nat} (h : i < xs.length) : nthL xs i ∈ xs := by
  unfold nthL
  rw [List.getD_eq_getElem?_getD, List.getElem?_eq_getElem h]
  exact List.getElem_mem h

theorem take_nthL_succ {xs : List (List Int)} {k : Nat} (h : k < xs.length) : xs.take (k+1) = xs.take k ++ [nthL xs k] := by
  rw [List.take_succ_eq_append_getElem h]
  simp [nthL, List.getD_eq_getElem?_getD, h]

/-- The slice 'a, n, c' is at the head of a row of the call's own (from block base on), and holds slices of integers that read as xss. -/
def OwL (k : IntKind) (T : TypeId) (base : Nat) (w : World) (a : Option Addr) (n c : Nat) (xss : List (List Int)) : Prop :=
  xss.length = n ∧ ∃ vs : List Value, w.ownsRow base T 1 (.slice a n c) n vs ∧ ∀ i, i < n → ∃ a' n' c', vs[i]? = some (.slice a' n' c') ∧ Sl k w a' n' c' (nthL xss i) ∧
    (∀ b off, a' = some ⟨b, off, none⟩ → 0 < n' → a ≠ some ⟨b, 0, none⟩)

theorem OwL.nil (k : IntKind) (T : TypeId) (base : Nat) (w : World) : OwL k T base w none 0 0 [] := ⟨rfl, [], World.ownsRow_nil w base T 1, fun i hi => absurd hi (Nat.not_lt_zero _)⟩

theorem OwL.kept {k : IntKind} {T : TypeId} {base : Nat} {w w' : World} {a : Option Addr} {n c : Nat} {xss : List (List Int)} (h : OwL k T base w a n c xss) (he : Ext w w') : OwL k T base w' a n c xss := by
  obtain ⟨h0, vs, h1, h2⟩ := h
  refine ⟨h0, vs, World.ownsRow.kept (row := none) h1 ⟨he.os, he.tape, he.output, he.size, fun k hk _ => he.block k hk⟩ ?_, fun i hi => ?_⟩
  · rcases a with _ | ⟨b, o, s⟩
    · left; rfl
    · right; simp [Value.ownBlock]
  · obtain ⟨a', n', c', h3, h4, h5⟩ := h2 i hi
    exact ⟨a', n', c', h3, h4.ext he, h5⟩

theorem OwL.sll {k : IntKind} {T : TypeId} {base : Nat} {w : World} {a : Option Addr} {n c : Nat} {xss : List (List Int)} (h : OwL k T base w a n c xss) : Sll k w a n c xss := by
  obtain ⟨hl, vs, h1, h2⟩ := h
  rcases h1.2 with ⟨hv, h0⟩ | ⟨g, cap, cur, hv, hg, hb, hn, hm, hs, ht⟩
  · simp only [Value.slice.injEq] at hv
    obtain ⟨rfl, rfl, rfl⟩ := hv
    exact ⟨hl, Nat.le_refl _, Nat.zero_le _, fun i hi => absurd hi (Nat.not_lt_zero _)⟩
  · simp only [Value.slice.injEq] at hv
    obtain ⟨rfl, _, rfl⟩ := hv
    refine ⟨hl, hn, hm, fun i hi => ?_⟩
    obtain ⟨a', n', c', h3, h4, _⟩ := h2 i hi
    have := World.ownsRow.cellAt h1 i (by omega)
    exact ⟨g, 0, a', n', c', rfl, by rw [Nat.zero_add, this]; exact h3, h4⟩

/-- A block of the call's own was written (an append), the lists within lie elsewhere or below. -/
theorem Sl.below {k : IntKind} {w w' : World} {a : Option Addr} {n c : Nat} {xs : List Int} (h : Sl k w a n c xs) (hb : ∀ b off, a = some ⟨b, off, none⟩ → 0 < n → w'.heap[b]? = w.heap[b]?) : Sl k w' a n c xs := by
  refine ⟨h.hlen, h.le, h.max, fun i hi => ?_, h.wf⟩
  obtain ⟨b, off, ha, hc⟩ := h.cells i hi
  exact ⟨b, off, ha, (World.cell?_of_block (w := w) (hb b off ha (by omega))).trans hc⟩

/-- A block whose cells bear no integers: no slice of integers lies in it. -/
theorem Sl.not_row {k : IntKind} {w : World} {a : Option Addr} {n c : Nat} {xs : List Int} (h : Sl k w a n c xs) {b off : Nat} (ha : a = some ⟨b, off, none⟩) (hn : 0 < n) : ∃ x, w.cell? ⟨b, off, none⟩ = some (.int k x) := by
  obtain ⟨b', off', he, hc⟩ := h.cells 0 hn
  rw [ha] at he
  simp at he
  obtain ⟨rfl, rfl⟩ := he
  exact ⟨_, hc⟩

end Go.Proofs.YtchbeheekahhiaaDoor
