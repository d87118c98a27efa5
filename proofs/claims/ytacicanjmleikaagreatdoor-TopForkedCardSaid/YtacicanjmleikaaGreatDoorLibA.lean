
import Derived.Test.YtacicanjmleikaaGreatDoorRows
import Derived.WalkKit
import Derived.WalkSpells
import Derived.WalkLawsBesides
import Derived.Deep.QuietTactic
import Derived.BigQuiet
import Derived.Lib.Hide
import Derived.Lib.QuietBelow
import Derived.Deep.AppendLies
import Derived.Deep.RegionHeld3
import Derived.Deep.DeepFit
import Derived.WalkSmall
import Derived.RangeFuncNested
import Derived.RangeFuncBound
import Derived.RangeFuncCalls
import Derived.RangeFuncLeaves
import Derived.Maps.AppendAt
import Derived.OwnWalkIn
import Derived.TacticsInMore
import Derived.LoopNIn
import Derived.LoopIn
import Derived.OpenShut
import Derived.StillTail
import Derived.BigGuardPart
import Derived.Handy
/-
  Small words and lemmas of our own that all texts of this seat use: how a slice reads, what a later world keeps.
-/
namespace Go.Proofs.YtacicanjmleikaaGreatDoor
open Go.RowKit
set_option linter.unusedSimpArgs false
set_option linter.unusedVariables false

/-- An element of a list, behind a name that simp does not open. -/
def nth (xs : List Int) (i : Nat) : Int := xs.getD i 0
theorem nth_eq (xs : List Int) (i : Nat) : nth xs i = xs.getD i 0 := rfl

/-- The slice 'a, n, c' of integers of kind k reads as the list xs. -/
structure Sl (k : IntKind) (w : World) (a : Option Addr) (n c : Nat) (xs : List Int) : Prop where
  hlen : xs.length = n
  le : n ≤ c
  max : c ≤ maxLen
  cells : ∀ i, i < n → ∃ b off, a = some ⟨b, off, none⟩ ∧ w.cell? ⟨b, off + i, none⟩ = some (.int k (nth xs i))
  wf : ∀ x ∈ xs, (Lit.int k x).wf = true

theorem Sl.at {k : IntKind} {w : World} {a : Option Addr} {n c : Nat} {xs : List Int} (h : Sl k w a n c xs) (h0 : 0 < n) :
    ∃ b off, a = some ⟨b, off, none⟩ ∧ ∀ i, i < n → w.cell? ⟨b, off + i, none⟩ = some (.int k (nth xs i)) := by
  obtain ⟨b, off, rfl, _⟩ := h.cells 0 h0
  refine ⟨b, off, rfl, fun i hi => ?_⟩
  obtain ⟨b', off', he, hc⟩ := h.cells i hi
  simp at he
  obtain ⟨rfl, rfl⟩ := he
  exact hc

/-- Nothing that was there has turned. -/
def Ext (w w' : World) : Prop := Below w.heap.size w w'
theorem Ext.refl (w : World) : Ext w w := Below.refl _ _
theorem Ext.trans {a b c : World} (h : Ext a b) (k : Ext b c) : Ext a c := Below.trans h (Below.mono k h.size)
theorem Ext.drew {a b : World} (h : Ext a b) : Ext a b.drew := Below.drew h
theorem Ext.drewN {a b : World} (h : Ext a b) (n : Nat) : Ext a (b.drewN n) := below_drewN h n
theorem Ext.alloc {a b : World} (h : Ext a b) (o : Obj) : Ext a (b.alloc o) := Below.alloc h h.size o
theorem Ext.below {a b : World} (h : Ext a b) : Below a.heap.size a b := h
theorem Ext.setCell {a b : World} (h : Ext a b) {p : Addr} (hp : a.heap.size ≤ p.block) (u : Value) : Ext a (b.setCell p u) := Below.setCell h hp u
theorem Ext.sz {a b : World} (h : Ext a b) : a.heap.size ≤ b.heap.size := h.size

theorem lt_of_cell {w : World} {a : Addr} {v : Value} (h : w.cell? a = some v) : a.block < w.heap.size := by
  obtain ⟨o, ho, _⟩ := cells_of_cell h
  exact (Array.getElem?_eq_some_iff.1 ho).1

theorem Ext.cell {w w' : World} (h : Ext w w') {a : Addr} {v : Value} (hc : w.cell? a = some v) : w'.cell? a = some v :=
  (Below.cell h (lt_of_cell hc)).trans hc

theorem Sl.ext {k : IntKind} {w w' : World} {a : Option Addr} {n c : Nat} {xs : List Int} (h : Sl k w a n c xs) (he : Ext w w') : Sl k w' a n c xs :=
  ⟨h.hlen, h.le, h.max, fun i hi => let ⟨b, off, ha, hc⟩ := h.cells i hi; ⟨b, off, ha, he.cell hc⟩, h.wf⟩

theorem Sl.bd {k : IntKind} {w : World} {a : Option Addr} {n c : Nat} {xs : List Int} (h : Sl k w a n c xs) : n ≤ c ∧ c ≤ 9223372036854775807 := by
  have := h.max
  unfold maxLen at this
  exact ⟨h.le, by omega⟩

theorem nth_mem {xs : List Int} {i : Nat} (h : i < xs.length) : nth xs i ∈ xs := by
  unfold nth
  rw [List.getD_eq_getElem?_getD, List.getElem?_eq_getElem h]
  exact List.getElem_mem h

theorem Sl.wfAt {k : IntKind} {w : World} {a : Option Addr} {n c : Nat} {xs : List Int} (h : Sl k w a n c xs) {i : Nat} (hi : i < n) : (Lit.int k (nth xs i)).wf = true :=
  h.wf _ (nth_mem (by rw [h.hlen]; exact hi))

theorem wf_u8 {x : Int} (h : (Lit.int .u8 x).wf = true) : 0 ≤ x ∧ x ≤ 255 := by simp [Lit.wf, IntKind.min, IntKind.max, IntKind.bits, IntKind.signed] at h; omega
theorem wf_i64 {x : Int} (h : (Lit.int .i64 x).wf = true) : -9223372036854775808 ≤ x ∧ x ≤ 9223372036854775807 := by simp [Lit.wf, IntKind.min, IntKind.max, IntKind.bits, IntKind.signed] at h; omega
theorem wf_u64 {x : Int} (h : (Lit.int .u64 x).wf = true) : 0 ≤ x ∧ x ≤ 18446744073709551615 := by simp [Lit.wf, IntKind.min, IntKind.max, IntKind.bits, IntKind.signed] at h; omega

theorem ret_bool {a b : Bool} (h : a = b) : Ending.returned (.bool a) = .returned (.bool b) := by rw [h]
theorem ret_int {k : IntKind} {a b : Int} (h : a = b) : Ending.returned (.int k a) = .returned (.int k b) := by rw [h]

theorem take_nth_succ {xs : List Int} {k : Nat} (h : k < xs.length) : xs.take (k+1) = xs.take k ++ [nth xs k] := by
  rw [List.take_succ_eq_append_getElem h]
  simp [nth, List.getD_eq_getElem?_getD, h]

/-! ### Slices that the call itself has made -/

/-- What the table says of a slice type T, its elements' type E: zero value z, one cell, 'by' bytes. -/
def ElT (P : Program) (T E : TypeId) (z : Value) (size by_ : Nat) : Prop :=
  P.underlying T = some (.slice E) ∧ (P.info? E).map (fun i => (i.zero, i.size, i.bytes)) = some (some z, size, by_)

/-- The slice 'a, n, c' is at the head of a row of the call's own (from block base on), and holds the integers xs. -/
def OwI (k : IntKind) (E : TypeId) (base : Nat) (w : World) (a : Option Addr) (n c : Nat) (xs : List Int) : Prop :=
  w.ownsRow base E 1 (.slice a n c) n (xs.map (Value.int k))

theorem OwI.hlen {k : IntKind} {E : TypeId} {base : Nat} {w : World} {a : Option Addr} {n c : Nat} {xs : List Int} (h : OwI k E base w a n c xs) : xs.length = n := by
  have := h.1
  simpa using this

theorem OwI.nil (k : IntKind) (E : TypeId) (base : Nat) (w : World) : OwI k E base w none 0 0 [] := World.ownsRow_nil w base E 1

theorem ext_of_below {w w' : World} (h : Below w.heap.size w w') : Ext w w' := h

theorem OwI.kept {k : IntKind} {E : TypeId} {base : Nat} {w w' : World} {a : Option Addr} {n c : Nat} {xs : List Int} (h : OwI k E base w a n c xs) (he : Ext w w') : OwI k E base w' a n c xs := by
  refine World.ownsRow.kept (row := none) h ⟨he.os, he.tape, he.output, he.size, fun k hk _ => he.block k hk⟩ ?_
  rcases a with _ | ⟨b, o, s⟩
  · left; rfl
  · right; simp [Value.ownBlock]

theorem OwI.mono {k : IntKind} {E : TypeId} {base base' : Nat} {w : World} {a : Option Addr} {n c : Nat} {xs : List Int} (h : OwI k E base w a n c xs) (hb : base' ≤ base) : OwI k E base' w a n c xs := by
  obtain ⟨h1, h2⟩ := h
  refine ⟨h1, ?_⟩
  rcases h2 with h2 | ⟨g, cap, cur, hv, hg, r⟩
  · exact .inl h2
  · exact .inr ⟨g, cap, cur, hv, by omega, r⟩

theorem OwI.sl {k : IntKind} {E : TypeId} {base : Nat} {w : World} {a : Option Addr} {n c : Nat} {xs : List Int} (h : OwI k E base w a n c xs) (hw : ∀ x ∈ xs, (Lit.int k x).wf = true) : Sl k w a n c xs := by
  have hl := h.hlen
  rcases h.2 with ⟨hv, h0⟩ | ⟨g, cap, cur, hv, hg, hb, hn, hm, hs, ht⟩
  · simp only [Value.slice.injEq] at hv
    obtain ⟨rfl, rfl, rfl⟩ := hv
    exact ⟨hl, Nat.le_refl _, Nat.zero_le _, fun i hi => absurd hi (Nat.not_lt_zero _), hw⟩
  · simp only [Value.slice.injEq] at hv
    obtain ⟨rfl, _, rfl⟩ := hv
    refine ⟨hl, hn, hm, fun i hi => ⟨g, 0, rfl, ?_⟩, hw⟩
    have := World.ownsRow.cellAt h i (by omega)
    rw [Nat.zero_add, this]
    simp [nth, List.getD_eq_getElem?_getD, hl, hi]

theorem below_grown {base : Nat} {w w' : World} {v : Value} {E : TypeId} {size n : Nat} {xs : List Value} (hown : w.ownsRow base E size v n xs) (hb : base ≤ w.heap.size) (hg : w.grownBy w' v.ownBlock) : Below base w w' :=
  (Below.refl base w).grown hg hb fun k hk => (hown.lt k hk).1

/-- 'append(s, x)', x an integer that has been put into a block of its own. -/
theorem app1 {P : Program} {T E : TypeId} {k : IntKind} {by_ : Nat} (hE : ElT P T E (.int k 0) 1 by_) {ops : Array Oper} {rest : List Oper} {o : Oper} {a : Act} {Q : Exit → Act → World → Prop} (hgd : o.guard = none) (s x : Operand)
    (ho : o.op = .call { callee := .builtin .append, args := #[s, x], argTypes := #[T, T] })
    (w : World) (base : Nat) (sa : Option Addr) (n c : Nat) (xs : List Int) (u : Int) (hs : a.eval s = .slice sa n c) (hown : OwI k E base w sa n c xs)
    (hx : a.eval x = .slice (some ⟨w.heap.size, 0, none⟩) 1 1) (hbase : base ≤ w.heap.size) (h63 : n + 1 ≤ maxLen) (hbytes : (n + 1) * by_ ≤ 140737488355328)
    (h : ∀ g cap w', OwI k E base w' (some ⟨g, 0, none⟩) (n + 1) cap (xs ++ [u]) → Below base w w' → wpList P ops Q rest (a.put o.dst (.slice (some ⟨g, 0, none⟩) (n + 1) cap)) w') :
    wpList P ops Q (o :: rest) a (w.alloc (.cells #[.int k u] E)) := by
  obtain ⟨hT, hI⟩ := hE
  obtain ⟨i, hi, hz, hsz, hby⟩ := info_parts hI
  have hown' : (w.alloc (.cells #[.int k u] E)).ownsRow base E 1 (.slice sa n c) n (xs.map (Value.int k)) := World.ownsRow.alloc hown _
  refine wpList_append_lies (w.alloc (.cells #[.int k u] E)) hgd s x T ho base E i (.int k 0) 1 by_ hT hi hz hsz hby rfl (by decide) _ n _ hs hown' ⟨w.heap.size, 0, none⟩ 1 1 [.int k u] hx rfl
    (cell_one_new _ _ _) (by simp [Value.oneCell']) (by decide) h63 hbytes (by simp; omega) (w.heap.size + 1) (by simp) ?_
  intro g cap w' h2 h3 _ _
  refine h g cap w' ?_ (((Below.refl base w).alloc hbase _).trans (below_grown hown' (by simp; omega) h3))
  unfold OwI
  rw [List.map_append]
  exact h2

theorem nth_take {xs : List Int} {m i : Nat} (h : i < m) : nth (xs.take m) i = nth xs i := by
  simp [nth, List.getD_eq_getElem?_getD, h]
theorem nth_drop (xs : List Int) (m i : Nat) : nth (xs.drop m) i = nth xs (m + i) := by
  simp [nth, List.getD_eq_getElem?_getD]

theorem Sl.take {k : IntKind} {w : World} {a : Option Addr} {n c : Nat} {xs : List Int} (h : Sl k w a n c xs) {m : Nat} (hm : m ≤ n) : Sl k w a m c (xs.take m) := by
  refine ⟨by rw [List.length_take, h.hlen]; omega, by have := h.le; omega, h.max, fun i hi => ?_, fun x hx => h.wf x (List.mem_of_mem_take hx)⟩
  obtain ⟨b, off, ha, hc⟩ := h.cells i (by omega)
  exact ⟨b, off, ha, by rw [nth_take hi]; exact hc⟩

/-- s[m:l:mx], at a slice that is not nil. -/
theorem Sl.drop {k : IntKind} {w : World} {b off n c : Nat} {xs : List Int} (h : Sl k w (some ⟨b, off, none⟩) n c xs) {m : Nat} (hm : m ≤ n) (c' : Nat) (hc' : n - m ≤ c') (hcc : c' ≤ c) :
    Sl k w (some ⟨b, off + m, none⟩) (n - m) c' (xs.drop m) := by
  refine ⟨by rw [List.length_drop, h.hlen], hc', Nat.le_trans hcc h.max, fun i hi => ?_, fun x hx => h.wf x (List.mem_of_mem_drop hx)⟩
  obtain ⟨b', off', ha, hc⟩ := h.cells (m + i) (by omega)
  simp only [Option.some.injEq, Addr.mk.injEq, and_true] at ha
  obtain ⟨rfl, rfl⟩ := ha
  exact ⟨b, off + m, rfl, by rw [nth_drop, show off + m + i = off + (m + i) by omega]; exact hc⟩

theorem OwI.cellAt {k : IntKind} {E : TypeId} {base : Nat} {w : World} {g n c : Nat} {xs : List Int} (h : OwI k E base w (some ⟨g, 0, none⟩) n c xs) {j : Nat} (hj : j < n) : w.cell? ⟨g, j, none⟩ = some (.int k (nth xs j)) := by
  have hl := h.hlen
  rw [World.ownsRow.cellAt h j (by omega)]
  simp [nth, List.getD_eq_getElem?_getD, hl, hj]

theorem OwI.frozenAt {k : IntKind} {E : TypeId} {base : Nat} {w : World} {g n c : Nat} {xs : List Int} (h : OwI k E base w (some ⟨g, 0, none⟩) n c xs) (j : Nat) : w.frozen? ⟨g, j, none⟩ = false := World.ownsRow.frozenAt h j

theorem OwI.set {k : IntKind} {E : TypeId} {base : Nat} {w : World} {g n c : Nat} {xs : List Int} (h : OwI k E base w (some ⟨g, 0, none⟩) n c xs) (j : Nat) (x : Int) : OwI k E base (w.setCell ⟨g, j, none⟩ (.int k x)) (some ⟨g, 0, none⟩) n c (xs.set j x) := by
  have := (World.ownsRow.stored h j (.int k x)).1
  unfold OwI
  rw [List.map_set]
  exact this

theorem OwI.ge {k : IntKind} {E : TypeId} {base : Nat} {w : World} {g n c : Nat} {xs : List Int} (h : OwI k E base w (some ⟨g, 0, none⟩) n c xs) : base ≤ g ∧ g < w.heap.size := World.ownsRow.lt h g rfl

/-- A block that has just been laid, whole. -/
theorem OwI.lit (k : IntKind) (E : TypeId) {base : Nat} (w : World) (xs : List Int) (hb : base ≤ w.heap.size) (hm : xs.length ≤ maxLen) (cs : Array Value) (hcs : cs.toList = xs.map (Value.int k)) :
    OwI k E base (w.alloc (.cells cs E)) (some ⟨w.heap.size, 0, none⟩) xs.length xs.length xs := by
  have := World.ownsRow_lit (e := E) (size := 1) w cs xs.length hb hm (by rw [← Array.length_toList, hcs]; simp)
  rw [hcs] at this
  exact this

/-- 'append(s, t...)', t a slice of integers that is not empty. -/
theorem appS {P : Program} {T E : TypeId} {k : IntKind} {by_ : Nat} (hE : ElT P T E (.int k 0) 1 by_) {ops : Array Oper} {rest : List Oper} {o : Oper} {a : Act} {Q : Exit → Act → World → Prop} (hgd : o.guard = none) (s x : Operand)
    (ho : o.op = .call { callee := .builtin .append, args := #[s, x], argTypes := #[T, T] })
    (w : World) (base : Nat) (sa : Option Addr) (n c : Nat) (xs : List Int) (hs : a.eval s = .slice sa n c) (hown : OwI k E base w sa n c xs)
    (ta : Option Addr) (m tc : Nat) (ys : List Int) (hx : a.eval x = .slice ta m tc) (ht : Sl k w ta m tc ys) (hm : 0 < m) (hbase : base ≤ w.heap.size) (h63 : n + m ≤ maxLen) (hbytes : (n + m) * by_ ≤ 140737488355328)
    (h : ∀ g cap w', OwI k E base w' (some ⟨g, 0, none⟩) (n + m) cap (xs ++ ys) → Below base w w' → wpList P ops Q rest (a.put o.dst (.slice (some ⟨g, 0, none⟩) (n + m) cap)) w') :
    wpList P ops Q (o :: rest) a w := by
  obtain ⟨hT, hI⟩ := hE
  obtain ⟨i, hi, hz, hsz, hby⟩ := info_parts hI
  obtain ⟨b, off, rfl, hc⟩ := ht.at hm
  have hl := ht.hlen
  refine wpList_append_lies w hgd s x T ho base E i (.int k 0) 1 by_ hT hi hz hsz hby rfl (by decide) _ n _ hs hown ⟨b, off, none⟩ m tc (ys.map (Value.int k)) hx (by simp [hl]) ?_ ?_ hm h63 hbytes hbase w.heap.size rfl ?_
  · intro j u hu
    have hj : j < m := by
      rcases Nat.lt_or_ge j m with h | h
      · exact h
      · rw [List.getElem?_eq_none (by simp; omega)] at hu; cases hu
    have hadd : (⟨b, off, none⟩ : Addr).add j = ⟨b, off + j, none⟩ := by unfold Addr.add; split <;> simp_all
    rw [hadd, hc j hj]
    have hj' : j < ys.length := by omega
    simp [hj'] at hu
    rw [← hu]
    simp [nth, List.getD_eq_getElem?_getD, hj']
  · intro u hu
    simp only [List.mem_map] at hu
    obtain ⟨x, _, rfl⟩ := hu
    simp [Value.oneCell']
  · intro g cap w' h2 h3 _ _
    refine h g cap w' ?_ (below_grown hown hbase h3)
    unfold OwI
    rw [List.map_append]
    exact h2

/-- What is owned from base on stays owned while nothing from that block on turns that was there. -/
theorem OwI.ext {k : IntKind} {E : TypeId} {base : Nat} {w w' : World} {a : Option Addr} {n c : Nat} {xs : List Int} (h : OwI k E base w a n c xs) (he : Ext w w') : OwI k E base w' a n c xs := h.kept he

/-! ### Slices of slices -/

/-- An element of a list of lists, behind a name that simp does not open. -/
def nthL (xs : List (List Int)) (i : Nat) : List Int := xs.getD i []

/-- The slice 'a, n, c' of slices of integers reads as the list xss. -/
structure Sll (k : IntKind) (w : World) (a : Option Addr) (n c : Nat) (xss : List (List Int)) : Prop where
  hlen : xss.length = n
  le : n ≤ c
  max : c ≤ maxLen
  cells : ∀ i, i < n → ∃ b off a' n' c', a = some ⟨b, off, none⟩ ∧ w.cell? ⟨b, off + i, none⟩ = some (.slice a' n' c') ∧ Sl k w a' n' c' (nthL xss i)

theorem Sll.at {k : IntKind} {w : World} {a : Option Addr} {n c : Nat} {xs : List (List Int)} (h : Sll k w a n c xs) (h0 : 0 < n) :
    ∃ b off, a = some ⟨b, off, none⟩ ∧ ∀ i, i < n → ∃ a' n' c', w.cell? ⟨b, off + i, none⟩ = some (.slice a' n' c') ∧ Sl k w a' n' c' (nthL xs i) := by
  obtain ⟨b, off, _, _, _, rfl, _⟩ := h.cells 0 h0
  refine ⟨b, off, rfl, fun i hi => ?_⟩
  obtain ⟨b', off', a', n', c', he, hc⟩ := h.cells i hi
  simp at he
  obtain ⟨rfl, rfl⟩ := he
  exact ⟨a', n', c', hc⟩

theorem Sll.ext {k : IntKind} {w w' : World} {a : Option Addr} {n c : Nat} {xs : List (List Int)} (h : Sll k w a n c xs) (he : Ext w w') : Sll k w' a n c xs :=
  ⟨h.hlen, h.le, h.max, fun i hi => let ⟨b, off, a', n', c', ha, hc, hs⟩ := h.cells i hi; ⟨b, off, a', n', c', ha, he.cell hc, hs.ext he⟩⟩

theorem Sll.bd {k : IntKind} {w : World} {a : Option Addr} {n c : Nat} {xs : List (List Int)} (h : Sll k w a n c xs) : n ≤ c ∧ c ≤ 9223372036854775807 := by
  have := h.max
  unfold maxLen at this
  exact ⟨h.le, by omega⟩

theorem nthL_mem {xs : List (List Int)} {i : Nat} (h : i < xs.length) : nthL xs i ∈ xs := by
  unfold nthL
  rw [List.getD_eq_getElem?_getD, List.getElem?_eq_getElem h]
  exact List.getElem_mem h

theorem take_nthL_succ {xs : List (List Int)} {k : Nat} (h : k < xs.length) : xs.take (k+1) = xs.take k ++ [nthL xs k] := by
  rw [List.take_succ_eq_append_getElem h]
  simp [nthL, List.getD_eq_getElem?_getD, h]

/-- The slice 'a, n, c' is at the head of a row of the call's own (from block base on), and holds slices of integers that read as xss. -/
def OwL (k : IntKind) (T : TypeId) (base : Nat) (w : World) (a : Option Addr) (n c : Nat) (xss : List (List Int)) : Prop :=
  xss.length = n ∧ ∃ vs : List Value, w.ownsRow base T 1 (.slice a n c) n vs ∧ ∀ i, i < n → ∃ a' n' c', vs[i]? = some (.slice a' n' c') ∧ Sl k w a' n' c' (nthL xss i) ∧
    (∀ b off, a' = some ⟨b, off, none⟩ → 0 < n' → a ≠ some ⟨b, 0, none⟩)

theorem OwL.nil (k : IntKind) (T : TypeId) (base : Nat) (w : World) : OwL k T base w none 0 0 [] := ⟨rfl, [], World.ownsRow_nil w base T 1, fun i hi => absurd hi (Nat.not_lt_zero _)⟩

theorem OwL.kept {k : IntKind} {T : TypeId} {base : Nat} {w w' : World} {a : Option Addr} {n c : Nat} {xss : List (List Int)} (h : OwL k T base w a n c xss) (he : Ext w w') : OwL k T base w' a n c xss := by
  obtain ⟨h0, vs, h1, h2⟩ := h
  refine ⟨h0, vs, World.ownsRow.kept (row := none) h1 ⟨he.os, he.tape, he.output, he.size, fun k hk _ => he.block k hk⟩ ?_, fun i hi => ?_⟩
  · rcases a with _ | ⟨b, o, s⟩
    · left; rfl
    · right; simp [Value.ownBlock]
  · obtain ⟨a', n', c', h3, h4, h5⟩ := h2 i hi
    exact ⟨a', n', c', h3, h4.ext he, h5⟩

theorem OwL.sll {k : IntKind} {T : TypeId} {base : Nat} {w : World} {a : Option Addr} {n c : Nat} {xss : List (List Int)} (h : OwL k T base w a n c xss) : Sll k w a n c xss := by
  obtain ⟨hl, vs, h1, h2⟩ := h
  rcases h1.2 with ⟨hv, h0⟩ | ⟨g, cap, cur, hv, hg, hb, hn, hm, hs, ht⟩
  · simp only [Value.slice.injEq] at hv
    obtain ⟨rfl, rfl, rfl⟩ := hv
    exact ⟨hl, Nat.le_refl _, Nat.zero_le _, fun i hi => absurd hi (Nat.not_lt_zero _)⟩
  · simp only [Value.slice.injEq] at hv
    obtain ⟨rfl, _, rfl⟩ := hv
    refine ⟨hl, hn, hm, fun i hi => ?_⟩
    obtain ⟨a', n', c', h3, h4, _⟩ := h2 i hi
    have := World.ownsRow.cellAt h1 i (by omega)
    exact ⟨g, 0, a', n', c', rfl, by rw [Nat.zero_add, this]; exact h3, h4⟩

/-- A block of the call's own was written (an append), the lists within lie elsewhere or below. -/
theorem Sl.below {k : IntKind} {w w' : World} {a : Option Addr} {n c : Nat} {xs : List Int} (h : Sl k w a n c xs) (hb : ∀ b off, a = some ⟨b, off, none⟩ → 0 < n → w'.heap[b]? = w.heap[b]?) : Sl k w' a n c xs := by
  refine ⟨h.hlen, h.le, h.max, fun i hi => ?_, h.wf⟩
  obtain ⟨b, off, ha, hc⟩ := h.cells i hi
  exact ⟨b, off, ha, (World.cell?_of_block (w := w) (hb b off ha (by omega))).trans hc⟩

/-- A block whose cells bear no integers: no slice of integers lies in it. -/
theorem Sl.not_row {k : IntKind} {w : World} {a : Option Addr} {n c : Nat} {xs : List Int} (h : Sl k w a n c xs) {b off : Nat} (ha : a = some ⟨b, off, none⟩) (hn : 0 < n) : ∃ x, w.cell? ⟨b, off, none⟩ = some (.int k x) := by
  obtain ⟨b', off', he, hc⟩ := h.cells 0 hn
  rw [ha] at he
  simp at he
  obtain ⟨rfl, rfl⟩ := he
  exact ⟨_, hc⟩

end Go.Proofs.YtacicanjmleikaaGreatDoor

/-
  A region whose operations only read and whose callees leave what was there: walked once, in the order of the text.
-/
namespace Go.Proofs.YtacicanjmleikaaGreatDoor
open Go.RowKit Go.Sort

theorem region_ext {P : Program} {id : Nat} {Q : Exit → Act → World → Prop} {a : Act} {w : World} {l : List Oper} (hm : P.follows .mixedOrders = true) (hB : Region.lexB .any l.toArray = true)
    (h : wpQuiet P l.toArray (fun w' => ∃ p : Regrown, w' = grow (redrawn w p.d) p.os) (fun a' => ∀ w', Ext w w' → Q .normal a' w') l a) : (Code.region id l.toArray true).wp P Q a w := by
  refine wp_region_quiet_below hm hB ?_
  have key : ∀ (l' : List Oper) (a : Act), wpQuiet P l.toArray (fun w' => ∃ p : Regrown, w' = grow (redrawn w p.d) p.os) (fun a' => ∀ w', Ext w w' → Q .normal a' w') l' a →
      wpQuiet P l.toArray (fun w' => ∃ p : Regrown, w' = grow (redrawn w p.d) p.os) (fun a' => ∀ w', (∃ p : Regrown, w' = grow (redrawn w p.d) p.os) → Q .normal a' w') l' a := by
    intro l'
    induction l' with
    | nil => exact fun a h w' ⟨p, hp⟩ => h w' (by rw [hp]; exact below_regrown w p.d p.os)
    | cons o rest ih =>
      intro a h
      unfold wpQuiet at h ⊢
      split
      · rename_i hw
        rw [if_pos hw] at h
        obtain ⟨v, h1, h2⟩ := h
        exact ⟨v, h1, ih _ h2⟩
      · rename_i hw
        rw [if_neg hw] at h
        exact ih _ h
  exact key l a h

theorem ext_grow (w : World) (d : Nat) (os : Array Obj) : Ext w (grow (redrawn w d) os) := below_regrown w d os

/-- A cell that lies here, in every later world. -/
theorem cellG {w : World} {a : Addr} {v : Value} (h : w.cell? a = some v) : ∀ (d : Nat) (os : Array Obj), (grow (redrawn w d) os).cell? a = some v := fun d os => cell_regrown h d os

theorem Sl.grown {k : IntKind} {w w' : World} {row : Option Nat} {a : Option Addr} {n c : Nat} {xs : List Int} (h : Sl k w a n c xs) (hg : w.grownBy w' row)
    (hv : ∀ b off, a = some ⟨b, off, none⟩ → 0 < n → some b ≠ row) : Sl k w' a n c xs := by
  refine h.below fun b off ha hn => ?_
  obtain ⟨x, hx⟩ := h.not_row ha hn
  exact hg.block b (lt_of_cell hx) (hv b off ha hn)

theorem nthL_append_left {xs ys : List (List Int)} {i : Nat} (h : i < xs.length) : nthL (xs ++ ys) i = nthL xs i := by
  simp [nthL, List.getD_eq_getElem?_getD, List.getElem?_append_left h]
theorem nthL_append_last (xs : List (List Int)) (y : List Int) : nthL (xs ++ [y]) xs.length = y := by
  simp [nthL, List.getD_eq_getElem?_getD]

/-- 'append(s, l)', l a slice of integers that has been put into a block of its own. -/
theorem appL {P : Program} {T T1 : TypeId} {k : IntKind} (hE : ElT P T T1 (.slice none 0 0) 1 24) {ops : Array Oper} {rest : List Oper} {o : Oper} {a : Act} {Q : Exit → Act → World → Prop} (hgd : o.guard = none) (s x : Operand)
    (ho : o.op = .call { callee := .builtin .append, args := #[s, x], argTypes := #[T, T] })
    (w : World) (base : Nat) (sa : Option Addr) (n c : Nat) (xss : List (List Int)) (hs : a.eval s = .slice sa n c) (hown : OwL k T1 base w sa n c xss)
    (la : Option Addr) (ln lc : Nat) (ys : List Int) (hl : Sl k w la ln lc ys) (hne : ∀ b off, la = some ⟨b, off, none⟩ → 0 < ln → sa ≠ some ⟨b, 0, none⟩)
    (hx : a.eval x = .slice (some ⟨w.heap.size, 0, none⟩) 1 1) (hbase : base ≤ w.heap.size) (h63 : n + 1 ≤ maxLen) (hbytes : (n + 1) * 24 ≤ 140737488355328)
    (h : ∀ g cap w', OwL k T1 base w' (some ⟨g, 0, none⟩) (n + 1) cap (xss ++ [ys]) → Below base w w' → wpList P ops Q rest (a.put o.dst (.slice (some ⟨g, 0, none⟩) (n + 1) cap)) w') :
    wpList P ops Q (o :: rest) a (w.alloc (.cells #[.slice la ln lc] T1)) := by
  obtain ⟨hT, hI⟩ := hE
  obtain ⟨i, hi, hz, hsz, hby⟩ := info_parts hI
  obtain ⟨hlen, vs, hrow, hvs⟩ := hown
  have hrow' : (w.alloc (.cells #[.slice la ln lc] T1)).ownsRow base T1 1 (.slice sa n c) n vs := World.ownsRow.alloc hrow _
  refine wpList_append_lies (w.alloc (.cells #[.slice la ln lc] T1)) hgd s x T ho base T1 i (.slice none 0 0) 1 24 hT hi hz hsz hby rfl (by decide) _ n _ hs hrow' ⟨w.heap.size, 0, none⟩ 1 1 [.slice la ln lc] hx rfl
    (cell_one_new _ _ _) (by simp [Value.oneCell']) (by decide) h63 hbytes (by simp; omega) (w.heap.size + 1) (by simp) ?_
  intro g cap w' h2 h3 h4 _
  have hvl : vs.length = n := by have := hrow.1; omega
  have hg0 : (Value.slice sa n c).ownBlock = sa.map (·.block) := by cases sa <;> rfl
  have hrowlt := hrow.lt
  refine h g cap w' ⟨by simp [hlen], _, h2, fun i hi => ?_⟩ (((Below.refl base w).alloc hbase _).trans (below_grown hrow' (by simp; omega) h3))
  have key : ∀ (a' : Option Addr) (n' c' : Nat) (zs : List Int), Sl k w a' n' c' zs → (∀ b off, a' = some ⟨b, off, none⟩ → 0 < n' → sa ≠ some ⟨b, 0, none⟩) → Sl k w' a' n' c' zs ∧ (∀ b off, a' = some ⟨b, off, none⟩ → 0 < n' → (some ⟨g, 0, none⟩ : Option Addr) ≠ some ⟨b, 0, none⟩) := by
    intro a' n' c' zs hz hzne
    have hrowne : ∀ b off, a' = some ⟨b, off, none⟩ → 0 < n' → some b ≠ (Value.slice sa n c).ownBlock := by
      intro b off ha hn e
      rcases hrow.2 with ⟨hv, _⟩ | ⟨g', cap', cur, hv, _⟩
      · simp only [Value.slice.injEq] at hv; obtain ⟨rfl, _, _⟩ := hv; cases e
      · simp only [Value.slice.injEq] at hv; obtain ⟨rfl, _, _⟩ := hv
        simp only [Value.ownBlock, Option.some.injEq] at e
        subst e
        exact hzne b off ha hn rfl
    refine ⟨(hz.ext ((Ext.refl w).alloc _)).grown h3 hrowne, fun b off ha hn e => ?_⟩
    simp only [Option.some.injEq, Addr.mk.injEq, and_true] at e
    subst e
    rcases h4 with h4 | h4
    · exact hrowne g off ha hn h4.symm
    · obtain ⟨x, hx⟩ := hz.not_row ha hn
      have := lt_of_cell hx
      simp at this; omega
  rcases Nat.lt_or_ge i n with hin | hin
  · obtain ⟨a', n', c', h5, h6, h7⟩ := hvs i hin
    obtain ⟨k1, k2⟩ := key a' n' c' _ h6 h7
    exact ⟨a', n', c', by rw [List.getElem?_append_left (by omega)]; exact h5, by rw [nthL_append_left (by omega)]; exact k1, k2⟩
  · obtain rfl : i = n := by omega
    obtain ⟨k1, k2⟩ := key la ln lc ys hl hne
    refine ⟨la, ln, lc, by rw [← hvl]; simp, ?_, k2⟩
    have := nthL_append_last xss ys
    rw [hlen] at this
    rw [this]; exact k1

end Go.Proofs.YtacicanjmleikaaGreatDoor

/-
  's[m:]' of a slice of one-cell elements, under one name.
-/
namespace Go.Proofs.YtacicanjmleikaaGreatDoor
open Go.RowKit Go.Sort
set_option linter.unusedSimpArgs false
set_option linter.unusedVariables false

/-- Where 's[m:]' lies. -/
def subA (a : Option Addr) (c m : Nat) : Option Addr := if c = m then a else a.map (·.add m)

theorem run_from {P : Program} {T : TypeId} (ht : P.underlying T = some (.slice (P.elem T))) (hs : ∀ w, (sizeOf (P.elem T)).run P w = .ok 1 w) (a : Option Addr) (n c m : Nat) (hm : m ≤ n) (w : World) :
    (Instr.slice T (.slice a n c) (some (.int .i64 (m : Int))) none none).run P w = .ok (.slice (subA a c m) (n - m) (c - m)) w := by
  rw [run_slice_l w T a n c ht .i64 (m : Int) (by omega) (by omega), hs]
  simp [Result.andThen, sliced, subA]

theorem Sl.from {k : IntKind} {w : World} {a : Option Addr} {n c : Nat} {xs : List Int} (h : Sl k w a n c xs) {m : Nat} (hm : m ≤ n) : Sl k w (subA a c m) (n - m) (c - m) (xs.drop m) := by
  have hle := h.le
  rcases Nat.eq_or_lt_of_le hm with rfl | hlt
  · refine ⟨by rw [List.length_drop, h.hlen], by omega, by have := h.max; omega, fun i hi => absurd hi (by omega), fun x hx => h.wf x (List.mem_of_mem_drop hx)⟩
  · obtain ⟨b, off, rfl, hc⟩ := h.at (by omega)
    have hs : subA (some ⟨b, off, none⟩) c m = some ⟨b, off + m, none⟩ := by
      unfold subA; rw [if_neg (by omega)]
      by_cases h0 : m = 0
      · subst h0; simp [Addr.add]
      · simp [Addr.add, h0]
    rw [hs]
    exact h.drop (by omega) (c - m) (by omega) (by omega)

end Go.Proofs.YtacicanjmleikaaGreatDoor

/-
  A range over a function whose iterator keeps a number of its own in a variable that it has captured (block Bp), and whose body never leaves the loop.
-/
namespace Go.Proofs.YtacicanjmleikaaGreatDoor
open Go.RowKit Go.Sort
set_option linter.unusedSimpArgs false
set_option linter.unusedVariables false
set_option maxRecDepth 100000

/-- The iterator's contract: it may write its own variable; the rounds leave that as it is. -/
def SeqP {α : Type} (F : Fence) (n : Nat) (P : Program) (g : Nat) (lb : Array Value) (enc : α → Value) (Bp : Nat) (t : TypeId) (S : List α → Prop) (N : Nat) (v0 : Value) : Prop :=
  ∀ (l : Nat) (J : List α → World → Prop) (W : World),
    (∀ pre A v v', J pre A → Boxed A Bp t v → J pre (A.setCell ⟨Bp, 0, none⟩ v')) →
    (∀ pre x A v, J pre A → Boxed A Bp t v → pre.length < N → YieldAt F (n - 1) P l #[enc x] A fun e W' => e = .returned (.bool true) ∧ J (pre ++ [x]) W' ∧ Boxed W' Bp t v) →
    J [] W → Boxed W Bp t v0 →
    CallsIn F n P g (#[.func (.yield l) #[] #[]] ++ lb) W fun e W' => (∃ v, e = .returned v) ∧ ∃ xs, S xs ∧ J xs W'

def bodyP {α : Type} (I : List α → World → Prop) (Bp : Nat) (t : TypeId) (v : Value) (xs : List α) (W : World) : Exit → Act → World → Prop
  | .normal, _, W' => KeepsOthers W W' ∧ I xs W' ∧ Boxed W' Bp t v
  | _, _, _ => False

theorem wpIn_rangeP {α : Type} {F : Fence} {n : Nat} {P : Program} {g : Operand} {ps : Array Tmp} {assign body : Code} {Q : Exit → Act → World → Prop} {a : Act} {w : World}
    (hro : F.round = none) (h1 : 1 ≤ n) {gf : Nat} {lb : Array Value} (hg : a.eval g = .func (.func gf) #[] lb) (hFg : F.fn gf) (eg : ∀ args w, (callFunc gf args).run P w = .ok (.enter gf args) w)
    {enc : α → Value} {S : List α → Prop} {N Bp : Nat} {t : TypeId} {v0 : Value} (hseq : SeqP F (n - 1) P gf lb enc Bp t S N v0) (hps : ps.size = 1)
    (I : List α → World → Prop) (hI : OwnFrom w.heap.size I) (hIs : ∀ pre A v v', I pre A → Boxed A Bp t v → I pre (A.setCell ⟨Bp, 0, none⟩ v')) (h0 : I [] w) (hb0 : Boxed w Bp t v0) (a₁ : α → Act)
    (hassign : ∀ (l : Nat) (x : α) (W : World) (K : Act → World → Prop), K (a₁ x) W →
      assign.wpIn (F.inRound l) (n - 1 - 1) P (Exit.then K (fun _ _ _ => False)) { tmps := (ps.zip #[enc x]).foldl (fun t (p, v) => t.setIfInBounds p v) a.tmps, defers := [] } W)
    (hbody : ∀ (l : Nat) (pre : List α) (x : α) (v : Value) (W : World), I pre W → Boxed W Bp t v → pre.length < N → body.wpIn (F.inRound l) (n - 1 - 1) P (bodyP I Bp t v (pre ++ [x]) W) (a₁ x) W)
    (hdone : ∀ (D : Nat) (xs : List α) (W : World), w.heap.size ≤ D → S xs → I xs W → W.heap[D]? = some (.deferred (some [])) → Q .normal { a with defers := { target := .collected D, args := #[] } :: a.defers } W) :
    (Code.rangeFunc g ps assign body).wpIn F n P Q a w := by
  refine wpIn_rangeFunc ?_
  intro fn hfn
  rw [hro]
  let L := w.heap.size + 1
  let rec_ : LoopState → Loop := fun st => { state := st, pending := none, fn, tmps := a.tmps, params := ps, assign, body, defers := w.heap.size }
  obtain ⟨W1, hW1⟩ : ∃ W1, (w.alloc (.deferred (some []))).alloc (.loop (rec_ .ready)) = W1 := ⟨_, rfl⟩
  have hL1 : W1.heap[w.heap.size + 1]? = some (.loop (rec_ .ready)) := by
    rw [← hW1]; have := World.alloc_heap_new (w.alloc (.deferred (some []))) (.loop (rec_ .ready)); rwa [World.size_alloc] at this
  have hK1 : W1.heap[w.heap.size]? = some (.deferred (some [])) := by
    rw [← hW1]; exact (Below.heap_alloc _ _ _ (by simp)).trans (World.alloc_heap_new w _)
  have hI1 : I [] W1 := by rw [← hW1]; exact hI.alloc _ (hI.alloc _ h0)
  have hB1 : Boxed W1 Bp t v0 := by rw [← hW1]; exact (hb0.alloc _).alloc _
  refine ⟨w.heap.size + 1, [{ target := .collected w.heap.size, args := #[] }], W1, { target := .fn (.func gf) lb, args := #[.func (.yield (w.heap.size + 1)) #[] #[]] }, W1, gf,
    #[.func (.yield (w.heap.size + 1)) #[] #[]] ++ lb, W1, ?_, ?_, ?_, ?_, fun _ => h1, ?_⟩
  · rw [← hW1]; exact run_enterLoop_outer _ _ _ _ _
  · simp only [resolve, hg]
    simp [go_sem]
  · intro f' hf'; simp [Target.leads] at hf'; subst hf'; exact hFg
  · simp [invoke, go_sem, eg]
  · refine (hseq (w.heap.size + 1) (fun pre W => I pre W ∧ W.heap[w.heap.size + 1]? = some (.loop (rec_ .ready)) ∧ W.heap[w.heap.size]? = some (.deferred (some []))) W1 ?_ ?_ ⟨hI1, hL1, hK1⟩ hB1).mono ?_
    · rintro pre A v v' ⟨i1, i2, i3⟩ hb
      exact ⟨hIs pre A v v' i1 hb, (KeepsOthers.setCell A _ _).same _ _ i2 rfl, (KeepsOthers.setCell A _ _).same _ _ i3 rfl⟩
    · rintro pre x W v ⟨hi, hl, hk⟩ hb hlen
      have hlt : w.heap.size + 1 < W.heap.size := (Array.getElem?_eq_some_iff.1 hl).1
      have hy := run_yield (P := P) (args := #[enc x]) hl (by show _ = ps.size; rw [hps]; rfl)
      refine ⟨fn, _, assign, body, hy, roundIn_of_wpIn hfn (hassign _ x W _ ⟨_, run_beginRound hl rfl, ?_⟩)⟩
      have hl2 : (W.putObj (w.heap.size + 1) (.loop { rec_ .ready with state := .busy })).heap[w.heap.size + 1]? = some (.loop { rec_ .ready with state := .busy }) := World.putObj_heap_same hlt
      have hk2 : (W.putObj (w.heap.size + 1) (.loop { rec_ .ready with state := .busy })).heap[w.heap.size]? = some (.deferred (some [])) := (World.putObj_heap_other (by omega)).trans hk
      have hne : Bp ≠ w.heap.size + 1 := by
        intro e; rw [← e] at hl; have hb' : W.heap[Bp]? = some (.cells #[v] t (0, 0)) := hb; rw [hl] at hb'; cases hb'
      have hb2 : Boxed (W.putObj (w.heap.size + 1) (.loop { rec_ .ready with state := .busy })) Bp t v := (World.putObj_heap_other hne).trans hb
      refine wpIn_mono (hbody _ pre x v _ (hI.putObj _ hi (by omega) hl rfl) hb2 hlen) ?_
      rintro e a3 W3 hp
      cases e with
      | normal =>
        obtain ⟨hk3, hi3, hb3⟩ := hp
        have hl3 := hk3.same _ _ hl2 rfl
        have hlt3 := (Array.getElem?_eq_some_iff.1 hl3).1
        exact ⟨_, _, run_endRound (P := P) none hl3, rfl, ⟨hI.putObj _ hi3 (by omega) hl3 rfl, World.putObj_heap_same hlt3, (World.putObj_heap_other (by omega)).trans (hk3.same _ _ hk2 rfl)⟩, (World.putObj_heap_other hne).trans hb3⟩
      | ret => exact hp.elim
      | exit id => exact hp.elim
      | goto t => exact hp.elim
      | panic ch => exact hp.elim
      | outgrown => exact hp.elim
    · rintro e W2 ⟨⟨v, rfl⟩, xs, hS, hi, hl, hk⟩
      exact ⟨none, _, run_endLoop (P := P) hl (by simp [rec_]), hdone _ xs _ (Nat.le_refl _) hS (hI.putObj _ hi (by omega) hl rfl) ((World.putObj_heap_other (by omega)).trans hk)⟩

end Go.Proofs.YtacicanjmleikaaGreatDoor

/-
  'append(s, x)' at a step of a region that draws its order.
-/
namespace Go.Proofs.YtacicanjmleikaaGreatDoor
open Go.RowKit Go.Sort
set_option linter.unusedSimpArgs false
set_option linter.unusedVariables false
set_option maxRecDepth 100000

theorem step_app1 {P : Program} {T E : TypeId} {k : IntKind} {by_ : Nat} (hE : ElT P T E (.int k 0) 1 by_) {ops : Array Oper} {o : Oper} {a : Act} {K : Act → World → Prop} {Q : Exit → Act → World → Prop} {Ex : Prop} (hgd : o.guard = none) (s x : Operand)
    (ho : o.op = .call { callee := .builtin .append, args := #[s, x], argTypes := #[T, T] })
    (w : World) (base : Nat) (sa : Option Addr) (n c : Nat) (xs : List Int) (u : Int) (hs : a.eval s = .slice sa n c) (hown : OwI k E base w sa n c xs)
    (hx : a.eval x = .slice (some ⟨w.heap.size, 0, none⟩) 1 1) (hbase : base ≤ w.heap.size) (h63 : n + 1 ≤ maxLen) (hbytes : (n + 1) * by_ ≤ 140737488355328)
    (h : ∀ g cap w', OwI k E base w' (some ⟨g, 0, none⟩) (n + 1) cap (xs ++ [u]) → Below base w w' → (w.alloc (.cells #[.int k u] E)).grownBy w' (Value.slice sa n c).ownBlock → K (a.put o.dst (.slice (some ⟨g, 0, none⟩) (n + 1) cap)) w') :
    if Region.wanted o (yielded ops a.tmps) = true then Oper.wp P o a (w.alloc (.cells #[.int k u] E)) K Q else Ex := by
  obtain ⟨hT, hI⟩ := hE
  obtain ⟨i, hi, hz, hsz, hby⟩ := info_parts hI
  have hown' : (w.alloc (.cells #[.int k u] E)).ownsRow base E 1 (.slice sa n c) n (xs.map (Value.int k)) := World.ownsRow.alloc hown _
  refine step_append_lies (w.alloc (.cells #[.int k u] E)) hgd s x T ho base E i (.int k 0) 1 by_ hT hi hz hsz hby rfl (by decide) _ n _ hs hown' ⟨w.heap.size, 0, none⟩ 1 1 [.int k u] hx rfl
    (cell_one_new _ _ _) (by simp [Value.oneCell']) (by decide) h63 hbytes (by simp; omega) (w.heap.size + 1) (by simp) ?_
  intro g cap w' h2 h3 _ _
  refine h g cap w' ?_ (((Below.refl base w).alloc hbase _).trans (below_grown hown' (by simp; omega) h3)) h3
  unfold OwI
  rw [List.map_append]
  exact h2

theorem step_appS {P : Program} {T E : TypeId} {k : IntKind} {by_ : Nat} (hE : ElT P T E (.int k 0) 1 by_) {ops : Array Oper} {o : Oper} {a : Act} {K : Act → World → Prop} {Q : Exit → Act → World → Prop} {Ex : Prop} (hgd : o.guard = none) (s x : Operand)
    (ho : o.op = .call { callee := .builtin .append, args := #[s, x], argTypes := #[T, T] })
    (w : World) (base : Nat) (sa : Option Addr) (n c : Nat) (xs : List Int) (hs : a.eval s = .slice sa n c) (hown : OwI k E base w sa n c xs)
    (ta : Option Addr) (m tc : Nat) (ys : List Int) (hx : a.eval x = .slice ta m tc) (ht : Sl k w ta m tc ys) (hm : 0 < m) (hbase : base ≤ w.heap.size) (h63 : n + m ≤ maxLen) (hbytes : (n + m) * by_ ≤ 140737488355328)
    (h : ∀ g cap w', OwI k E base w' (some ⟨g, 0, none⟩) (n + m) cap (xs ++ ys) → Below base w w' → w.grownBy w' (Value.slice sa n c).ownBlock → K (a.put o.dst (.slice (some ⟨g, 0, none⟩) (n + m) cap)) w') :
    if Region.wanted o (yielded ops a.tmps) = true then Oper.wp P o a w K Q else Ex := by
  obtain ⟨hT, hI⟩ := hE
  obtain ⟨i, hi, hz, hsz, hby⟩ := info_parts hI
  obtain ⟨b, off, rfl, hc⟩ := ht.at hm
  have hl := ht.hlen
  refine step_append_lies w hgd s x T ho base E i (.int k 0) 1 by_ hT hi hz hsz hby rfl (by decide) _ n _ hs hown ⟨b, off, none⟩ m tc (ys.map (Value.int k)) hx (by simp [hl]) ?_ ?_ hm h63 hbytes hbase w.heap.size rfl ?_
  · intro j u hu
    have hj : j < m := by
      rcases Nat.lt_or_ge j m with h | h
      · exact h
      · rw [List.getElem?_eq_none (by simp; omega)] at hu; cases hu
    have hadd : (⟨b, off, none⟩ : Addr).add j = ⟨b, off + j, none⟩ := by unfold Addr.add; split <;> simp_all
    rw [hadd, hc j hj]
    have hj' : j < ys.length := by omega
    simp [hj'] at hu
    rw [← hu]
    simp [nth, List.getD_eq_getElem?_getD, hj']
  · intro u hu
    simp only [List.mem_map] at hu
    obtain ⟨x, _, rfl⟩ := hu
    simp [Value.oneCell']
  · intro g cap w' h2 h3 _ _
    refine h g cap w' ?_ (below_grown hown hbase h3) h3
    unfold OwI
    rw [List.map_append]
    exact h2

/-- A row of our own stays when another one grows. -/
theorem OwI.by {k : IntKind} {E : TypeId} {base : Nat} {w w' : World} {a : Option Addr} {n c : Nat} {xs : List Int} {row : Option Nat} (h : OwI k E base w a n c xs) (hg : w.grownBy w' row) (hne : (Value.slice a n c).ownBlock ≠ row) : OwI k E base w' a n c xs :=
  World.ownsRow.kept h hg (.inr hne)


/-- A walk is to stand still here: 'go_wp2_with ((show ..); refine hold ?_)', and behind it 'refine held ?_'. -/
structure Hold (p : Prop) : Prop where
  held ::
  out : p
theorem hold {p : Prop} (h : Hold p) : p := h.out
theorem held {p : Prop} (h : p) : Hold p := ⟨h⟩

theorem holdR {n : Nat} {P : Program} {ops : Array Oper} {b : Bool} {Q : Exit → Act → World → Prop} {a : Act} {w : World} (h : Hold ((Code.region n ops b).wp P Q a w)) : (Code.region n ops b).wp P Q a w := h.out

end Go.Proofs.YtacicanjmleikaaGreatDoor

/-
  'append(s, t...)', t empty or not, s nil or not; parts of a slice of slices.
-/
namespace Go.Proofs.YtacicanjmleikaaGreatDoor
open Go.RowKit Go.Sort
set_option linter.unusedSimpArgs false
set_option linter.unusedVariables false
set_option maxRecDepth 100000

theorem run_append_none {P : Program} {w : World} (base : Nat) (t ty e : TypeId) (i : TypeInfo) (size : Nat) (ht : P.underlying t = some (.slice e)) (hi : P.info? e = some i)
    (v : Value) (n : Nat) (xs : List Value) (hown : w.ownsRow base e size v n xs) (c : Nat) :
    (Builtin.append_ #[t, t] ty #[v, .slice none 0 c]).run P w = .ok v w := by
  rcases hown.2 with ⟨rfl, rfl⟩ | ⟨g, cap, cur, rfl, _, _, hnc, _⟩
  · simp [Builtin.append_, run_underlying ht, sizeOf, typeInfo, hi, Builtin.lenOf, Builtin.firstCells]
  · simp [Builtin.append_, run_underlying ht, sizeOf, typeInfo, hi, Builtin.lenOf, Builtin.firstCells, hnc, storeCells]

theorem appA {P : Program} {T E : TypeId} {k : IntKind} {by_ : Nat} (hE : ElT P T E (.int k 0) 1 by_) {ops : Array Oper} {rest : List Oper} {o : Oper} {a : Act} {Q : Exit → Act → World → Prop} (hgd : o.guard = none) (s x : Operand)
    (ho : o.op = .call { callee := .builtin .append, args := #[s, x], argTypes := #[T, T] })
    (w : World) (base : Nat) (sa : Option Addr) (n c : Nat) (xs : List Int) (hs : a.eval s = .slice sa n c) (hown : OwI k E base w sa n c xs)
    (ta : Option Addr) (m tc : Nat) (ys : List Int) (hx : a.eval x = .slice ta m tc) (ht : Sl k w ta m tc ys) (hbase : base ≤ w.heap.size) (h63 : n + m ≤ maxLen) (hbytes : (n + m) * by_ ≤ 140737488355328)
    (h : ∀ a' cap w', OwI k E base w' a' (n + m) cap (xs ++ ys) → Below base w w' → wpList P ops Q rest (a.put o.dst (.slice a' (n + m) cap)) w') :
    wpList P ops Q (o :: rest) a w := by
  rcases Nat.eq_zero_or_pos m with hm | hm
  · subst hm
    have hys : ys = [] := List.eq_nil_of_length_eq_zero ht.hlen
    subst hys
    simp only [List.append_nil, Nat.add_zero] at h
    obtain ⟨hT, hI⟩ := hE
    obtain ⟨i, hi, hz, hsz, hby⟩ := info_parts hI
    rcases ta with _ | ad
    · refine wpList_plain hgd fun K hK => ?_
      have hrun := run_append_none (P := P) (w := w) base T o.type E i 1 hT hi _ n _ hown tc
      unfold Oper.wp
      simp [execOp, ho, resolve, invoke, builtin, hs, hx, hrun, Result.andThen]
      exact hK _ _ (h sa c w hown (Below.refl _ _))
    · obtain ⟨v', w', hr, h2, h3, _, h5⟩ := run_append_own_at (P := P) w base T o.type E i (.int k 0) 1 by_ hT hi hz hsz hby rfl (by decide) _ n _ hown ad 0 tc [] rfl (by simp) (by simp) (by simpa using h63) (by simpa using hbytes) hbase
      have hv : ∃ a' cap, v' = .slice a' n cap := by
        rcases h2.2 with ⟨hv, h0⟩ | ⟨g, cap, cur, hv, _⟩
        · exact ⟨none, 0, by rw [hv, show n = 0 from by omega]⟩
        · exact ⟨_, cap, by simpa using hv⟩
      obtain ⟨a', cap, rfl⟩ := hv
      refine wpList_plain hgd fun K hK => ?_
      unfold Oper.wp
      simp only [execOp, ho, resolve, invoke, builtin, Sem.run_bind, Sem.run_pure, Result.andThen_ok, List.map_toArray, List.map_cons, List.map_nil, hs, hx, hr]
      refine hK _ _ (h a' cap w' ?_ (below_grown hown hbase h3))
      unfold OwI
      simpa using h2
  · exact appS hE hgd s x ho w base sa n c xs hs hown ta m tc ys hx ht hm hbase h63 hbytes fun g cap w' h1 h2 => h _ cap w' h1 h2

theorem nthL_take {xs : List (List Int)} {m i : Nat} (h : i < m) : nthL (xs.take m) i = nthL xs i := by
  simp [nthL, List.getD_eq_getElem?_getD, h]
theorem nthL_drop (xs : List (List Int)) (m i : Nat) : nthL (xs.drop m) i = nthL xs (m + i) := by
  simp [nthL, List.getD_eq_getElem?_getD]

theorem Sll.take {k : IntKind} {w : World} {a : Option Addr} {n c : Nat} {xs : List (List Int)} (h : Sll k w a n c xs) {m : Nat} (hm : m ≤ n) : Sll k w a m c (xs.take m) := by
  refine ⟨by rw [List.length_take, h.hlen]; omega, by have := h.le; omega, h.max, fun i hi => ?_⟩
  obtain ⟨b, off, a', n', c', ha, hc, hs⟩ := h.cells i (by omega)
  exact ⟨b, off, a', n', c', ha, hc, by rw [nthL_take hi]; exact hs⟩

theorem Sll.drop {k : IntKind} {w : World} {b off n c : Nat} {xs : List (List Int)} (h : Sll k w (some ⟨b, off, none⟩) n c xs) {m : Nat} (hm : m ≤ n) (c' : Nat) (hc' : n - m ≤ c') (hcc : c' ≤ c) :
    Sll k w (some ⟨b, off + m, none⟩) (n - m) c' (xs.drop m) := by
  refine ⟨by rw [List.length_drop, h.hlen], hc', Nat.le_trans hcc h.max, fun i hi => ?_⟩
  obtain ⟨b', off', a', n', c', ha, hc, hs⟩ := h.cells (m + i) (by omega)
  simp only [Option.some.injEq, Addr.mk.injEq, and_true] at ha
  obtain ⟨rfl, rfl⟩ := ha
  exact ⟨b, off + m, a', n', c', rfl, by rw [show off + m + i = off + (m + i) by omega]; exact hc, by rw [nthL_drop]; exact hs⟩

theorem Sll.from {k : IntKind} {w : World} {a : Option Addr} {n c : Nat} {xs : List (List Int)} (h : Sll k w a n c xs) {m : Nat} (hm : m ≤ n) : Sll k w (subA a c m) (n - m) (c - m) (xs.drop m) := by
  have hle := h.le
  rcases Nat.eq_or_lt_of_le hm with rfl | hlt
  · exact ⟨by rw [List.length_drop, h.hlen], by omega, by have := h.max; omega, fun i hi => absurd hi (by omega)⟩
  · obtain ⟨b, off, rfl, hc⟩ := h.at (by omega)
    have hs : subA (some ⟨b, off, none⟩) c m = some ⟨b, off + m, none⟩ := by
      unfold subA; rw [if_neg (by omega)]
      by_cases h0 : m = 0
      · subst h0; simp [Addr.add]
      · simp [Addr.add, h0]
    rw [hs]
    exact h.drop (by omega) (c - m) (by omega) (by omega)

end Go.Proofs.YtacicanjmleikaaGreatDoor

/-
  A region that draws its order, whose first n operations only read or call what leaves all as it was, and whose other operations come in one forced order behind them.
-/
namespace Go.Proofs.YtacicanjmleikaaGreatDoor
open Go.RowKit Go.Sort
set_option linter.unusedSimpArgs false
set_option linter.unusedVariables false

section
variable {P : Program} {ops : Array Oper} {md : Region.Mode} {C : World → Prop}

def wpAnyLQ (P : Program) (md : Region.Mode) (ops : Array Oper) (C : World → Prop) (n : Nat) (L : Array Bool → Act → Prop) : Nat → Array Bool → Act → Prop
  | 0, listed, a => L listed a
  | f + 1, listed, a => Region.ready md ops listed ≠ [] ∧ ∀ i ∈ Region.ready md ops listed, i < n ∧ qOp P ops C i (wpAnyLQ P md ops C n L f (listed.setIfInBounds i true)) a

theorem wpAny_of_headQ {n g : Nat} {L : Array Bool → Act → Prop} {Q' : Exit → Act → World → Prop} (hL : ∀ listed a w, C w → L listed a → wpAny P md ops Q' g listed a w) :
    ∀ (f : Nat) (listed : Array Bool) (a : Act) (w : World), C w → wpAnyLQ P md ops C n L f listed a → wpAny P md ops Q' (f + g) listed a w
  | 0, listed, a, w, hw, h => by rw [Nat.zero_add]; exact hL _ _ _ hw h
  | f + 1, listed, a, w, hw, h => by
    rw [show f + 1 + g = (f + g) + 1 by omega]
    exact ⟨fun h0 => absurd h0 h.1, fun i hi => wpOp_of_qOp hw (fun a' w' hw' h' => wpAny_of_headQ hL f _ a' w' hw' h') (h.2 i hi).2⟩

theorem wpAnyLQ_first {n i : Nat} {oi : Oper} {v : Value} {L : Array Bool → Act → Prop} (hi : ops[i]? = some oi) (hsel : ∀ (j : Nat) (o : Oper) cs b, ops[j]? = some o → o.op ≠ .select cs b)
    (hs : Region.sinkB md ops n = true) (hc : Region.chainB md ops n = true) (hn : n < ops.size) (hin : i < n)
    (hdone : ∀ listed a, L listed a → ∀ j ∈ Region.ready md ops listed, n ≤ j) :
    ∀ (f : Nat) (listed : Array Bool) (a : Act), HeadInv md ops n listed →
      (∀ j oj, ops[j]? = some oj → j ≠ i → listed.getD j true = false → (∀ e ∈ oj.after, Region.binds md e = true → e.on ≠ i) → oi.apart ops oj = true) →
      i ∈ Region.ready md ops listed → YieldsIn P ops C oi v a →
      wpAnyLQ P md ops C n L f (listed.setIfInBounds i true) (a.put oi.dst v) → wpAnyLQ P md ops C n L (f + 1) listed a := by
  intro f
  induction f with
  | zero =>
    intro listed a inv _ hr hy H
    have hun := (mem_ready.1 hr).1
    refine ⟨fun h => (by rw [h] at hr; cases hr), fun j hj => ?_⟩
    have hjn : j < n := by
      rcases Nat.lt_or_ge j n with h | h
      · exact h
      · exact absurd hj (tail_waits hs hc hn inv _ i rfl hin hun j h)
    refine ⟨hjn, ?_⟩
    by_cases hji : j = i
    · subst hji; exact hy.qOp hi H
    · have := hdone _ _ H j (ready_mono hj hji)
      omega
  | succ f ih =>
    intro listed a inv hfree hr hy H
    have hun := (mem_ready.1 hr).1
    refine ⟨fun h => (by rw [h] at hr; cases hr), fun j hj => ?_⟩
    have hjn : j < n := by
      rcases Nat.lt_or_ge j n with h | h
      · exact h
      · exact absurd hj (tail_waits hs hc hn inv _ i rfl hin hun j h)
    refine ⟨hjn, ?_⟩
    by_cases hji : j = i
    · subst hji; exact hy.qOp hi H
    · have h1 := (H.2 j (ready_mono hj hji)).2
      obtain ⟨hjun, oj, hoj, hall⟩ := mem_ready.1 hj
      have hnot : ∀ e ∈ oj.after, Region.binds md e = true → e.on ≠ i := fun e he hb heq => by
        have h1 := hall e he hb
        rw [heq, getD_both hun] at h1
        cases h1
      have h2 := qOp_put hoj (hfree j oj hoj hji hjun hnot) (fun cs b => hsel i oi cs b hi) (fun cs b => hsel j oj cs b hoj) hy h1
      have hfree' : ∀ k ok, ops[k]? = some ok → k ≠ i → (listed.setIfInBounds j true).getD k true = false →
          (∀ e ∈ ok.after, Region.binds md e = true → e.on ≠ i) → oi.apart ops ok = true := fun k ok hk hki hun hno => by
        refine hfree k ok hk hki ?_ hno
        by_cases hjk : j = k
        · subst hjk; exact hjun
        · rw [getD_set_ne true hjk] at hun; exact hun
      refine qOp_mono (fun a' h3 => ih (listed.setIfInBounds j true) a' (inv.set hj hjn) hfree' (ready_mono hr (Ne.symm hji)) h3.1 ?_) h2
      rw [Array.setIfInBounds_comm _ _ hji]
      exact h3.2

theorem wpAnyLQ_lex {n g : Nat} {Lq : Act → Prop} (hsel : Region.noSelect ops = true) (hs : Region.sinkB md ops n = true) (hc : Region.chainB md ops n = true) (hn : n < ops.size) :
    ∀ (l : List Oper) (k : Nat) (listed : Array Bool) (a : Act), (∀ j, j < l.length → l[j]? = ops[k + j]?) → k + l.length = n → HeadInv md ops n listed →
    Region.lexHead md ops g l.length k listed = true → wpQuiet P ops C Lq l a →
    wpAnyLQ P md ops C n (fun listed' a' => Region.seqB md ops g n listed' = true ∧ Lq a') l.length listed a
  | [], k, listed, a, _, hk, _, hB, h => by
    have : k = n := by simpa using hk
    subst this
    exact ⟨by simpa [Region.lexHead] using hB, h⟩
  | o :: l, k, listed, a, hl, hk, inv, hB, h => by
    have h0 : ops[k]? = some o := by simpa using (hl 0 (by simp)).symm
    simp only [List.length_cons, Region.lexHead, Bool.and_eq_true] at hB
    obtain ⟨⟨hr, hf⟩, hB'⟩ := hB
    have hkn : k < n := by simp only [List.length_cons] at hk; omega
    have hr' : k ∈ Region.ready md ops listed := by simpa using hr
    have hst : qOp P ops C k (wpQuiet P ops C Lq l) a := by unfold qOp; simp only [h0]; exact h
    obtain ⟨v, hy, hK⟩ := yieldsIn_of_qOp h0 hst
    exact wpAnyLQ_first h0 (Region.noSelect_spec hsel) hs hc hn hkn (fun listed' a' hL => seqB_ready hL.1) l.length listed a inv (Region.free_spec h0 hf) hr' hy
      (wpAnyLQ_lex hsel hs hc hn l (k + 1) _ _ (fun j hj => by have := hl (j + 1) (by simp; omega); simpa [Nat.add_assoc, Nat.add_comm 1 j] using this) (by simp only [List.length_cons] at hk; omega) (inv.set hr' hkn) hB' hK)

theorem wp_region_quiet_tail {id : Nat} {Q : Exit → Act → World → Prop} {a : Act} {w : World} {l : List Oper} (n : Nat) (hm : P.follows .mixedOrders = true) (hB : Region.lexTailB .any l.toArray n = true)
    (hC : C { w with drawn := w.drawn + 1 }) (h : wpQuiet P l.toArray C (fun a' => ∀ w', C w' → wpList P l.toArray Q (l.drop n) a' w') (l.take n) a) : (Code.region id l.toArray true).wp P Q a w := by
  simp only [Region.lexTailB, Bool.and_eq_true, decide_eq_true_eq] at hB
  obtain ⟨⟨⟨⟨hsel, hn⟩, hs⟩, hc⟩, hlex⟩ := hB
  have hn' : n < l.length := by simpa using hn
  have htl : (l.take n).length = n := by simp; omega
  have hdl : (l.drop n).length = l.toArray.size - n := by simp
  have inv0 : HeadInv .any l.toArray n (Array.replicate l.toArray.size false) :=
    ⟨by simp, fun j oj _ hl => (by rw [getD_replicate_false] at hl; cases hl), fun t _ ht => getD_in (by simpa using ht) (getD_replicate_false _ _)⟩
  have H := wpAnyLQ_lex (md := .any) (g := l.toArray.size - n) hsel hs hc hn (l.take n) 0 _ a (fun j hj => by
    have hj' : j < n := by rw [htl] at hj; exact hj
    simp [hj']) (by simpa using htl) inv0 (by rw [htl]; exact hlex) h
  refine wp_region_any hm ?_
  have := wpAny_of_headQ (Q' := Q) (g := l.toArray.size - n) (fun listed a' w' hw hL => by
    have := wpAny_of_seq (md := .any) (Q' := Q) (l.drop n) n listed a' w' (fun j => by simp [List.getElem?_drop]) (by rw [hdl]; exact hL.1) (hL.2 w' hw)
    rwa [hdl] at this) _ _ _ _ hC H
  rw [htl, show n + (l.toArray.size - n) = l.toArray.size by omega] at this
  exact this

end

theorem region_tail {P : Program} {id : Nat} {Q : Exit → Act → World → Prop} {a : Act} {w : World} {l : List Oper} (n : Nat) (hm : P.follows .mixedOrders = true) (hB : Region.lexTailB .any l.toArray n = true)
    (h : wpQuiet P l.toArray (fun w' => ∃ p : Regrown, w' = grow (redrawn w p.d) p.os) (fun a' => ∀ w', Ext w w' → wpList P l.toArray Q (l.drop n) a' w') (l.take n) a) : (Code.region id l.toArray true).wp P Q a w := by
  refine wp_region_quiet_tail (C := fun w' => ∃ p : Regrown, w' = grow (redrawn w p.d) p.os) n hm hB ⟨⟨w.drawn + 1, #[]⟩, by rw [grow_empty]; rfl⟩ ?_
  have key : ∀ (l' : List Oper) (a : Act), wpQuiet P l.toArray (fun w' => ∃ p : Regrown, w' = grow (redrawn w p.d) p.os) (fun a' => ∀ w', Ext w w' → wpList P l.toArray Q (l.drop n) a' w') l' a →
      wpQuiet P l.toArray (fun w' => ∃ p : Regrown, w' = grow (redrawn w p.d) p.os) (fun a' => ∀ w', (∃ p : Regrown, w' = grow (redrawn w p.d) p.os) → wpList P l.toArray Q (l.drop n) a' w') l' a := by
    intro l'
    induction l' with
    | nil => exact fun a h w' ⟨p, hp⟩ => h w' (by rw [hp]; exact below_regrown w p.d p.os)
    | cons o rest ih =>
      intro a h
      unfold wpQuiet at h ⊢
      split
      · rename_i hw
        rw [if_pos hw] at h
        obtain ⟨v, h1, h2⟩ := h
        exact ⟨v, h1, ih _ h2⟩
      · rename_i hw
        rw [if_neg hw] at h
        exact ih _ h
  exact key _ a h

end Go.Proofs.YtacicanjmleikaaGreatDoor

/-
  What a grown world keeps, as rules for the walk.
-/
namespace Go.Proofs.YtacicanjmleikaaGreatDoor
open Go.RowKit Go.Sort
set_option linter.unusedSimpArgs false
set_option linter.unusedVariables false

theorem Ext.rules {W w1 : World} (hb : Ext W w1) : (∀ b o, b < W.heap.size → w1.cell? ⟨b, o, none⟩ = W.cell? ⟨b, o, none⟩) ∧ (∀ b o, b < W.heap.size → w1.frozen? ⟨b, o, none⟩ = W.frozen? ⟨b, o, none⟩) :=
  ⟨fun b o h => Below.cell hb (p := ⟨b, o, none⟩) h, fun b o h => Below.frozen hb (p := ⟨b, o, none⟩) h⟩

/-- The size of a grown world, behind one new block. -/
theorem Ext.sz1 {W w1 : World} {o : Obj} (hb : Ext (W.alloc o) w1) : W.heap.size < w1.heap.size := by have := hb.sz; simp at this; omega

/-- A cell of an old block, in every world of a region's walk: 'have hg := @grow_cell'. -/
theorem grow_cell : ∀ (W : World) (b o d : Nat) (os : Array Obj), b < W.heap.size → (grow (redrawn W d) os).cell? ⟨b, o, none⟩ = W.cell? ⟨b, o, none⟩ :=
  fun W b o d os h => (ext_grow W d os).rules.1 b o h

end Go.Proofs.YtacicanjmleikaaGreatDoor

/-
  A region that draws its order, that reads, calls what leaves all as it was, makes ONE new variable at whatever moment, and ends with what waits for all of that.
-/
namespace Go.Proofs.YtacicanjmleikaaGreatDoor
open Go.RowKit Go.Sort
set_option linter.unusedSimpArgs false
set_option linter.unusedVariables false

section
variable {P : Program} {ops : Array Oper} {md : Region.Mode} {w : World}

def calmUpon (P : Program) (W : World) (v : Value) : Result Next → Prop
  | .ok (.value u) w' => w' = W ∧ u = v
  | .ok .skip w' => w' = W ∧ v = undef
  | .ok (.enter f args) w' => w' = W ∧ Calls P f args W (fun e w'' => e = .returned v ∧ Ext W w'')
  | _ => False

def calmAt (P : Program) (o : Oper) (a : Act) (w : World) (v : Value) : Prop := ∀ W, Ext w W → calmUpon P W v ((execOp a.eval o).run P W)

/-- One operation that is calm in every world that has grown. -/
def calm (P : Program) (o : Oper) (a : Act) (w : World) (K : Act → Prop) : Prop := ∃ v, calmAt P o a w v ∧ K (a.put o.dst v)

def wpCalm (P : Program) (ops : Array Oper) (w : World) (Q : Act → Prop) : List Oper → Act → Prop
  | [], a => Q a
  | o :: rest, a => if Region.wanted o (yielded ops a.tmps) then calm P o a w (wpCalm P ops w Q rest) else wpCalm P ops w Q rest (a.put o.dst undef)

def cOp (P : Program) (ops : Array Oper) (w : World) (i : Nat) (K : Act → Prop) (a : Act) : Prop :=
  match ops[i]? with
  | none => K a
  | some o => if Region.wanted o (yielded ops a.tmps) then calm P o a w K else K (a.put o.dst undef)

theorem cOp_mono {i : Nat} {a : Act} {K K' : Act → Prop} (h : ∀ a, K a → K' a) (hh : cOp P ops w i K a) : cOp P ops w i K' a := by
  unfold cOp at *
  split
  · exact h _ (by simpa [*] using hh)
  · rename_i o ho
    simp only [ho] at hh
    split
    · rename_i hw; simp only [hw, if_true] at hh; obtain ⟨v, h1, h2⟩ := hh; exact ⟨v, h1, h _ h2⟩
    · rename_i hw; simp only [hw] at hh; exact h _ hh

/-- The worlds before and behind the making of the new variable. -/
def Made (w : World) (zs : Array Value) (T : TypeId) : Option Nat → World → Prop
  | none, W => Ext w W
  | some b, W => Ext w W ∧ w.heap.size ≤ b ∧ W.heap[b]? = some (.cells zs T (0, 0))

theorem Made.ext {zs : Array Value} {T : TypeId} {B : Option Nat} {W W' : World} (h : Made w zs T B W) (he : Ext W W') : Made w zs T B W' := by
  cases B with
  | none => exact Ext.trans h he
  | some b =>
    obtain ⟨h1, h2, h3⟩ := h
    exact ⟨h1.trans he, h2, (he.block b (Array.getElem?_eq_some_iff.1 h3).1).trans h3⟩
theorem Made.old {zs : Array Value} {T : TypeId} {B : Option Nat} {W : World} (h : Made w zs T B W) : Ext w W := by
  cases B with
  | none => exact h
  | some b => exact h.1

theorem wp_of_calm {o : Oper} {a : Act} {K : Act → Prop} {K' : Act → World → Prop} {Q' : Exit → Act → World → Prop} {zs : Array Value} {T : TypeId} {B : Option Nat} {W : World} (hW : Made w zs T B W)
    (h : ∀ a W', Made w zs T B W' → K a → K' a W') (hh : calm P o a w K) : o.wp P a W K' Q' := by
  obtain ⟨v, h1, h2⟩ := hh
  have h3 := h1 W hW.old
  unfold Oper.wp
  generalize (execOp a.eval o).run P W = r at *
  cases r with
  | ok n w' =>
    cases n <;> simp only [calmUpon] at h3 <;> simp only [Oper.upon]
    case value u =>
      obtain ⟨e1, e2⟩ := h3
      rw [e1, e2]
      exact h _ _ hW h2
    case skip =>
      obtain ⟨e1, e2⟩ := h3
      rw [e1, ← e2]
      exact h _ _ hW h2
    case enter f args =>
      obtain ⟨e1, hc⟩ := h3
      rw [e1]
      exact hc.mono fun e w'' ⟨he, hw''⟩ => by subst he; exact h _ _ (hW.ext hw'') h2
  | halt x w' => simp only [calmUpon] at h3

theorem wpOp_of_cOp {i : Nat} {a : Act} {K : Act → Prop} {K' : Act → World → Prop} {Q' : Exit → Act → World → Prop} {zs : Array Value} {T : TypeId} {B : Option Nat} {W : World} (hW : Made w zs T B W)
    (h : ∀ a W', Made w zs T B W' → K a → K' a W') (hh : cOp P ops w i K a) : wpOp P ops Q' i K' a W := by
  unfold cOp at hh
  unfold wpOp
  split
  · rename_i ho; simp only [ho] at hh; exact h _ _ hW hh
  · rename_i o ho
    simp only [ho] at hh
    split
    · rename_i hw; simp only [hw, if_true] at hh; exact .inl (wp_of_calm hW h hh)
    · rename_i hw; simp only [hw] at hh; exact h _ _ hW hh

def YieldsC (P : Program) (ops : Array Oper) (w : World) (o : Oper) (v : Value) (a : Act) : Prop :=
  (Region.wanted o (yielded ops a.tmps) = true ∧ calmAt P o a w v) ∨ (Region.wanted o (yielded ops a.tmps) = false ∧ v = undef)

theorem YieldsC.cOp {i : Nat} {o : Oper} {v : Value} {a : Act} (hi : ops[i]? = some o) (hy : YieldsC P ops w o v a) {K : Act → Prop} (h : K (a.put o.dst v)) : cOp P ops w i K a := by
  unfold Go.Proofs.YtacicanjmleikaaGreatDoor.cOp
  simp only [hi]
  rcases hy with ⟨hw, hv⟩ | ⟨hw, rfl⟩
  · simp only [hw, if_true]; exact ⟨v, hv, h⟩
  · simp only [hw, Bool.false_eq_true, if_false]; exact h

theorem YieldsC.of_same {o : Oper} {v : Value} {a a' : Act} (hy : YieldsC P ops w o v a) (he : execOp a'.eval o = execOp a.eval o)
    (hw : Region.wanted o (yielded ops a'.tmps) = Region.wanted o (yielded ops a.tmps)) : YieldsC P ops w o v a' := by
  unfold YieldsC calmAt at *
  rw [he, hw]
  exact hy

theorem yieldsC_of_cOp {i : Nat} {o : Oper} {a : Act} {K : Act → Prop} (hi : ops[i]? = some o) (h : cOp P ops w i K a) : ∃ v, YieldsC P ops w o v a ∧ K (a.put o.dst v) := by
  unfold cOp at h
  simp only [hi] at h
  by_cases hw : Region.wanted o (yielded ops a.tmps) = true
  · simp only [hw, if_true] at h
    obtain ⟨v, h1, h2⟩ := h
    exact ⟨v, .inl ⟨hw, h1⟩, h2⟩
  · simp only [hw] at h
    exact ⟨undef, .inr ⟨by simpa using hw, rfl⟩, h⟩

theorem cOp_put {j : Nat} {oi oj : Oper} {v : Value} (hj : ops[j]? = some oj) (hap : oi.apart ops oj = true)
    (hsi : ∀ cs b, oi.op ≠ .select cs b) (hsj : ∀ cs b, oj.op ≠ .select cs b) {K : Act → Prop} {a : Act}
    (hy : YieldsC P ops w oi v a) (h : cOp P ops w j K (a.put oi.dst v)) :
    cOp P ops w j (fun a' => YieldsC P ops w oi v a' ∧ K (a'.put oi.dst v)) a := by
  obtain ⟨h1, h2, h3⟩ := Oper.apart_spec hap
  have keep : ∀ (a : Act), YieldsC P ops w oi v a → ∀ u, YieldsC P ops w oi v (a.put oj.dst u) := fun a hy u =>
    hy.of_same (execOp_put oi hsi a oj.dst u h3) (wanted_put oi a oj.dst u h3)
  unfold cOp at *
  simp only [hj] at *
  rw [wanted_put oj a oi.dst v h1] at h
  split
  · rename_i hw
    simp only [hw, if_true] at h
    obtain ⟨u, hu, hn⟩ := h
    refine ⟨u, fun W hW => ?_, keep a hy u, by rw [← Act.put_comm a v u h2]; exact hn⟩
    have := hu W hW
    rwa [execOp_put oj hsj a oi.dst v h1] at this
  · rename_i hw
    simp only [hw] at h
    exact ⟨keep a hy _, by rw [← Act.put_comm a v undef h2]; exact h⟩

/-- Whatever order is picked, as far as the first N operations; operation p makes the variable. -/
def wpAnyLA (P : Program) (md : Region.Mode) (ops : Array Oper) (w : World) (N p : Nat) (dP : Option Nat) (L : Array Bool → Act → Option Nat → Prop) : Nat → Array Bool → Act → Option Nat → Prop
  | 0, listed, a, B => L listed a B
  | f + 1, listed, a, B => Region.ready md ops listed ≠ [] ∧ ∀ i ∈ Region.ready md ops listed, i < N ∧
      if i = p then ∀ b, wpAnyLA P md ops w N p dP L f (listed.setIfInBounds i true) (a.put dP (.pointer (some ⟨b, 0, none⟩))) (some b)
      else cOp P ops w i (fun a' => wpAnyLA P md ops w N p dP L f (listed.setIfInBounds i true) a' B) a

theorem wpAny_of_headA {N p g : Nat} {oP : Oper} {dP : Option Nat} {zs : Array Value} {T : TypeId} {L : Array Bool → Act → Option Nat → Prop} {Q' : Exit → Act → World → Prop} (hp : ops[p]? = some oP) (hdP : oP.dst = dP) (hgP : ∀ a : Act, Region.wanted oP (yielded ops a.tmps) = true)
    (hrun : ∀ (a : Act) (W : World), (execOp a.eval oP).run P W = .ok (.value (.pointer (some ⟨W.heap.size, 0, none⟩))) (W.alloc (.cells zs T)))
    (hL : ∀ listed a B W, Made w zs T B W → L listed a B → wpAny P md ops Q' g listed a W) :
    ∀ (f : Nat) (listed : Array Bool) (a : Act) (B : Option Nat) (W : World), Made w zs T B W → wpAnyLA P md ops w N p dP L f listed a B → wpAny P md ops Q' (f + g) listed a W
  | 0, listed, a, B, W, hW, h => by rw [Nat.zero_add]; exact hL _ _ _ _ hW h
  | f + 1, listed, a, B, W, hW, h => by
    rw [show f + 1 + g = (f + g) + 1 by omega]
    refine ⟨fun h0 => absurd h0 h.1, fun i hi => ?_⟩
    obtain ⟨_, h2⟩ := h.2 i hi
    by_cases hip : i = p
    · rw [if_pos hip] at h2
      subst hip
      have hm : Made w zs T (some W.heap.size) (W.alloc (.cells zs T)) := ⟨hW.old.alloc _, hW.old.sz, World.alloc_heap_new W _⟩
      have h3 := wpAny_of_headA hp hdP hgP hrun hL f _ _ _ _ hm (h2 W.heap.size)
      unfold wpOp
      simp only [hp]
      rw [if_pos (hgP a)]
      refine .inl ?_
      unfold Oper.wp
      rw [hrun]
      simp only [Oper.upon, hdP]
      exact h3
    · rw [if_neg hip] at h2
      exact wpOp_of_cOp hW (fun a' W' hW' h' => wpAny_of_headA hp hdP hgP hrun hL f _ a' B W' hW' h') h2

theorem wpAnyLA_first {N p i : Nat} {oi oP : Oper} {dP : Option Nat} {v : Value} {L : Array Bool → Act → Option Nat → Prop} (hp : ops[p]? = some oP) (hdP : oP.dst = dP) (hi : ops[i]? = some oi) (hsel : ∀ (j : Nat) (o : Oper) cs b, ops[j]? = some o → o.op ≠ .select cs b)
    (hs : Region.sinkB md ops N = true) (hc : Region.chainB md ops N = true) (hn : N < ops.size) (hin : i < N) (hip : i ≠ p)
    (hdone : ∀ listed a B, L listed a B → ∀ j ∈ Region.ready md ops listed, N ≤ j) :
    ∀ (f : Nat) (listed : Array Bool) (a : Act) (B : Option Nat), HeadInv md ops N listed →
      (∀ j oj, ops[j]? = some oj → j ≠ i → listed.getD j true = false → (∀ e ∈ oj.after, Region.binds md e = true → e.on ≠ i) → oi.apart ops oj = true) →
      i ∈ Region.ready md ops listed → YieldsC P ops w oi v a →
      wpAnyLA P md ops w N p dP L f (listed.setIfInBounds i true) (a.put oi.dst v) B → wpAnyLA P md ops w N p dP L (f + 1) listed a B := by
  intro f
  induction f with
  | zero =>
    intro listed a B inv _ hr hy H
    have hun := (mem_ready.1 hr).1
    refine ⟨fun h => (by rw [h] at hr; cases hr), fun j hj => ?_⟩
    have hjn : j < N := by
      rcases Nat.lt_or_ge j N with h | h
      · exact h
      · exact absurd hj (tail_waits hs hc hn inv _ i rfl hin hun j h)
    refine ⟨hjn, ?_⟩
    by_cases hji : j = i
    · subst hji; rw [if_neg hip]; exact hy.cOp hi H
    · have := hdone _ _ _ H j (ready_mono hj hji)
      omega
  | succ f ih =>
    intro listed a B inv hfree hr hy H
    have hun := (mem_ready.1 hr).1
    refine ⟨fun h => (by rw [h] at hr; cases hr), fun j hj => ?_⟩
    have hjn : j < N := by
      rcases Nat.lt_or_ge j N with h | h
      · exact h
      · exact absurd hj (tail_waits hs hc hn inv _ i rfl hin hun j h)
    refine ⟨hjn, ?_⟩
    by_cases hji : j = i
    · subst hji; rw [if_neg hip]; exact hy.cOp hi H
    · have h1 := (H.2 j (ready_mono hj hji)).2
      obtain ⟨hjun, oj, hoj, hall⟩ := mem_ready.1 hj
      have hnot : ∀ e ∈ oj.after, Region.binds md e = true → e.on ≠ i := fun e he hb heq => by
        have h1 := hall e he hb
        rw [heq, getD_both hun] at h1
        cases h1
      have hap := hfree j oj hoj hji hjun hnot
      have hfree' : ∀ k ok, ops[k]? = some ok → k ≠ i → (listed.setIfInBounds j true).getD k true = false →
          (∀ e ∈ ok.after, Region.binds md e = true → e.on ≠ i) → oi.apart ops ok = true := fun k ok hk hki hun hno => by
        refine hfree k ok hk hki ?_ hno
        by_cases hjk : j = k
        · subst hjk; exact hjun
        · rw [getD_set_ne true hjk] at hun; exact hun
      by_cases hjp : j = p
      · rw [if_pos hjp] at h1 ⊢
        subst hjp
        obtain rfl : oj = oP := Option.some.inj (hoj.symm.trans hp)
        obtain ⟨k1, k2, k3⟩ := Oper.apart_spec hap
        intro b
        refine ih _ _ _ (inv.set hj hjn) hfree' (ready_mono hr (Ne.symm hji)) (hdP ▸ hy.of_same (execOp_put oi (fun cs b => hsel i oi cs b hi) a oj.dst _ k3) (wanted_put oi a oj.dst _ k3)) ?_
        rw [Array.setIfInBounds_comm _ _ hji, ← hdP, ← Act.put_comm a v _ k2, hdP]
        exact h1 b
      · rw [if_neg hjp] at h1 ⊢
        have h2 := cOp_put hoj hap (fun cs b => hsel i oi cs b hi) (fun cs b => hsel j oj cs b hoj) hy h1
        refine cOp_mono (fun a' h3 => ih (listed.setIfInBounds j true) a' B (inv.set hj hjn) hfree' (ready_mono hr (Ne.symm hji)) h3.1 ?_) h2
        rw [Array.setIfInBounds_comm _ _ hji]
        exact h3.2

/-- The lexical order: n operations, then the making of the variable, then the forced end. -/
def lexHeadA (md : Region.Mode) (ops : Array Oper) (g : Nat) : Nat → Nat → Array Bool → Bool
  | 0, k, listed => decide (Region.ready md ops listed = [k]) && Region.seqB md ops g (k + 1) (listed.setIfInBounds k true)
  | f + 1, k, listed => (Region.ready md ops listed).contains k && Region.free md ops listed k && lexHeadA md ops g f (k + 1) (listed.setIfInBounds k true)

def lexTailA (md : Region.Mode) (ops : Array Oper) (n : Nat) : Bool :=
  Region.noSelect ops && decide (n + 1 < ops.size) && Region.sinkB md ops (n + 1) && Region.chainB md ops (n + 1) && lexHeadA md ops (ops.size - (n + 1)) n 0 (Array.replicate ops.size false)

theorem wpAnyLA_lex {n g : Nat} {oP : Oper} {dP : Option Nat} {Lq : Act → Prop} (hp : ops[n]? = some oP) (hdP : oP.dst = dP) (hsel : Region.noSelect ops = true) (hs : Region.sinkB md ops (n + 1) = true) (hc : Region.chainB md ops (n + 1) = true) (hn : n + 1 < ops.size) :
    ∀ (l : List Oper) (k : Nat) (listed : Array Bool) (a : Act), (∀ j, j < l.length → l[j]? = ops[k + j]?) → k + l.length = n → HeadInv md ops (n + 1) listed →
    lexHeadA md ops g l.length k listed = true → wpCalm P ops w Lq l a →
    wpAnyLA P md ops w (n + 1) n dP (fun listed' a' B => Region.seqB md ops g (n + 1) listed' = true ∧ ∃ b a0, B = some b ∧ a' = a0.put dP (.pointer (some ⟨b, 0, none⟩)) ∧ Lq a0) (l.length + 1) listed a none
  | [], k, listed, a, _, hk, _, hB, h => by
    have : k = n := by simpa using hk
    subst this
    simp only [List.length_nil, lexHeadA, Bool.and_eq_true, decide_eq_true_eq] at hB
    refine ⟨by rw [hB.1]; simp, fun i hi => ?_⟩
    rw [hB.1] at hi
    obtain rfl : i = k := by simpa using hi
    refine ⟨by omega, ?_⟩
    rw [if_pos rfl]
    exact fun b => ⟨hB.2, b, a, rfl, rfl, h⟩
  | o :: l, k, listed, a, hl, hk, inv, hB, h => by
    have h0 : ops[k]? = some o := by simpa using (hl 0 (by simp)).symm
    simp only [List.length_cons, lexHeadA, Bool.and_eq_true] at hB
    obtain ⟨⟨hr, hf⟩, hB'⟩ := hB
    have hkn : k < n := by simp only [List.length_cons] at hk; omega
    have hr' : k ∈ Region.ready md ops listed := by simpa using hr
    have hst : cOp P ops w k (wpCalm P ops w Lq l) a := by unfold cOp; simp only [h0]; exact h
    obtain ⟨v, hy, hK⟩ := yieldsC_of_cOp h0 hst
    exact wpAnyLA_first hp hdP h0 (Region.noSelect_spec hsel) hs hc hn (by omega) (by omega) (fun listed' a' B hL => seqB_ready hL.1) (l.length + 1) listed a none inv (Region.free_spec h0 hf) hr' hy
      (wpAnyLA_lex hp hdP hsel hs hc hn l (k + 1) _ _ (fun j hj => by have := hl (j + 1) (by simp; omega); simpa [Nat.add_assoc, Nat.add_comm 1 j] using this) (by simp only [List.length_cons] at hk; omega) (inv.set hr' (by omega)) hB' hK)

/-- A slot that is not written stays. -/
theorem wpQuiet_stays {C : World → Prop} {a' : Act} {d : Nat} : ∀ (l : List Oper) (a : Act), (∀ o ∈ l, o.dst ≠ some d) → wpQuiet P ops C (· = a') l a → a'.tmps[d]? = a.tmps[d]?
  | [], a, _, h => by have : a = a' := h; rw [this]
  | o :: rest, a, hd, h => by
    have h0 := hd o (by simp)
    have key : ∀ v, wpQuiet P ops C (· = a') rest (a.put o.dst v) → a'.tmps[d]? = a.tmps[d]? := fun v hv => by
      rw [wpQuiet_stays rest _ (fun o' ho' => hd o' (by simp [ho'])) hv]
      rcases hdst : o.dst with _ | x
      · rfl
      · have hx : x ≠ d := fun e => h0 (by rw [hdst, e])
        simp [Act.put, Array.getElem?_setIfInBounds, hx]
    unfold wpQuiet at h
    split at h
    · obtain ⟨v, _, h2⟩ := h; exact key v h2
    · exact key _ h

/-- Every operation writes a slot of its own. -/
def ownSlots (m : Nat) : List Oper → Bool
  | [] => true
  | o :: rest => (match o.dst with | some d => decide (d < m) && rest.all (fun o' => o'.dst != some d) | none => false) && ownSlots m rest

theorem put_size (a : Act) (d : Option Nat) (v : Value) : (a.put d v).tmps.size = a.tmps.size := by
  cases d <;> simp [Act.put]

theorem calm_of_quiet {a' : Act} : ∀ (l : List Oper) (a : Act), ownSlots a.tmps.size l = true →
    (∀ W0, Ext w W0 → wpQuiet P ops (fun w' => ∃ p : Regrown, w' = grow (redrawn W0 p.d) p.os) (· = a') l a) → wpCalm P ops w (· = a') l a
  | [], a, _, h => h w (Ext.refl w)
  | o :: rest, a, ho, h => by
    unfold ownSlots at ho
    rw [Bool.and_eq_true] at ho
    obtain ⟨ho1, ho2⟩ := ho
    rcases hdst : o.dst with _ | d
    · rw [hdst] at ho1; simp at ho1
    rw [hdst] at ho1
    simp only [Bool.and_eq_true, decide_eq_true_eq, List.all_eq_true, bne_iff_ne, ne_eq] at ho1
    obtain ⟨hd, hne⟩ := ho1
    have hval : ∀ (C : World → Prop) (v : Value), wpQuiet P ops C (· = a') rest (a.put o.dst v) → a'.tmps[d]? = some v := fun C v hv => by
      rw [wpQuiet_stays rest _ (fun o' ho' e => hne o' ho' e) hv, hdst]
      simp [Act.put, Array.getElem?_setIfInBounds, hd]
    by_cases hw : Region.wanted o (yielded ops a.tmps) = true
    · have h1 : ∀ W0, Ext w W0 → ∃ v, (∀ W, (∃ p : Regrown, W = grow (redrawn W0 p.d) p.os) → o.quietAt P a (fun w' => ∃ p : Regrown, w' = grow (redrawn W0 p.d) p.os) W v) ∧
          wpQuiet P ops (fun w' => ∃ p : Regrown, w' = grow (redrawn W0 p.d) p.os) (· = a') rest (a.put o.dst v) := fun W0 hW0 => by
        have := h W0 hW0
        unfold wpQuiet at this
        rw [if_pos hw] at this
        exact this
      obtain ⟨v, _, hv2⟩ := h1 w (Ext.refl w)
      have hv := hval _ v hv2
      have same : ∀ W0, Ext w W0 → (∀ W, (∃ p : Regrown, W = grow (redrawn W0 p.d) p.os) → o.quietAt P a (fun w' => ∃ p : Regrown, w' = grow (redrawn W0 p.d) p.os) W v) ∧
          wpQuiet P ops (fun w' => ∃ p : Regrown, w' = grow (redrawn W0 p.d) p.os) (· = a') rest (a.put o.dst v) := fun W0 hW0 => by
        obtain ⟨v', k1, k2⟩ := h1 W0 hW0
        have := hval _ v' k2
        rw [hv] at this
        obtain rfl := Option.some.inj this
        exact ⟨k1, k2⟩
      unfold wpCalm
      rw [if_pos hw]
      refine ⟨v, fun W hW => ?_, calm_of_quiet rest _ (by rw [put_size]; exact ho2) fun W0 hW0 => (same W0 hW0).2⟩
      have h5 := (same W hW).1 W ⟨⟨W.drawn, #[]⟩, by rw [grow_empty]; rfl⟩
      unfold Oper.quietAt at h5
      generalize (execOp a.eval o).run P W = r at *
      cases r with
      | ok n w' =>
        cases n <;> simp only [Oper.quietUpon] at h5 <;> simp only [calmUpon]
        case value u => exact h5
        case skip => exact h5
        case enter f args => exact ⟨h5.1, h5.2.mono fun e w'' ⟨he, p, hp⟩ => ⟨he, by rw [hp]; exact ext_grow W p.d p.os⟩⟩
      | halt x w' => simp only [Oper.quietUpon] at h5
    · unfold wpCalm
      rw [if_neg hw]
      refine calm_of_quiet rest _ (by rw [put_size]; exact ho2) fun W0 hW0 => ?_
      have := h W0 hW0
      unfold wpQuiet at this
      rw [if_neg hw] at this
      exact this

theorem region_new {id : Nat} {Q : Exit → Act → World → Prop} {a : Act} {l : List Oper} (n : Nat) (oP : Oper) (dP : Nat) (zs : Array Value) (T : TypeId) (m : Nat) (hm : P.follows .mixedOrders = true) (hB : lexTailA .any l.toArray n = true)
    (hp : l.toArray[n]? = some oP) (hdP : oP.dst = some dP) (hgP : ∀ a : Act, Region.wanted oP (yielded l.toArray a.tmps) = true)
    (hrun : ∀ (a : Act) (W : World), (execOp a.eval oP).run P W = .ok (.value (.pointer (some ⟨W.heap.size, 0, none⟩))) (W.alloc (.cells zs T)))
    (hsz : a.tmps.size = m) (hown : ownSlots m (l.take n) = true) {a' : Act}
    (hq : ∀ W0, Ext w W0 → wpQuiet P l.toArray (fun w' => ∃ p : Regrown, w' = grow (redrawn W0 p.d) p.os) (· = a') (l.take n) a)
    (h : ∀ b W, Ext w W → w.heap.size ≤ b → W.heap[b]? = some (.cells zs T (0, 0)) → wpList P l.toArray Q (l.drop (n + 1)) (a'.put (some dP) (.pointer (some ⟨b, 0, none⟩))) W) : (Code.region id l.toArray true).wp P Q a w := by
  simp only [lexTailA, Bool.and_eq_true, decide_eq_true_eq] at hB
  obtain ⟨⟨⟨⟨hsel, hn⟩, hs⟩, hc⟩, hlex⟩ := hB
  have hn' : n + 1 < l.length := by simpa using hn
  have htl : (l.take n).length = n := by simp; omega
  have hdl : (l.drop (n + 1)).length = l.toArray.size - (n + 1) := by simp
  have inv0 : HeadInv .any l.toArray (n + 1) (Array.replicate l.toArray.size false) :=
    ⟨by simp, fun j oj _ hl => (by rw [getD_replicate_false] at hl; cases hl), fun t _ ht => getD_in (by simpa using ht) (getD_replicate_false _ _)⟩
  have H := wpAnyLA_lex (md := .any) (g := l.toArray.size - (n + 1)) hp hdP hsel hs hc hn (l.take n) 0 _ a (fun j hj => by
    have hj' : j < n := by rw [htl] at hj; exact hj
    simp [hj']) (by simpa using htl) inv0 (by rw [htl]; exact hlex) (calm_of_quiet (w := w) (l.take n) a (by rw [hsz]; exact hown) hq)
  refine wp_region_any hm ?_
  have := wpAny_of_headA (Q' := Q) (g := l.toArray.size - (n + 1)) (zs := zs) (T := T) (w := w) (N := n + 1) (L := fun listed' a1 B => Region.seqB .any l.toArray (l.toArray.size - (n + 1)) (n + 1) listed' = true ∧ ∃ b a0, B = some b ∧ a1 = a0.put (some dP) (.pointer (some ⟨b, 0, none⟩)) ∧ a0 = a') hp hdP hgP hrun (fun listed a1 B W hW hL => by
    obtain ⟨hseq, b, a0, rfl, rfl, ha0⟩ := hL
    subst ha0
    obtain ⟨k1, k2, k3⟩ := hW
    have := wpAny_of_seq (md := .any) (Q' := Q) (l.drop (n + 1)) (n + 1) listed _ W (fun j => by simp [List.getElem?_drop]) (by rw [hdl]; exact hseq) (h b W k1 k2 k3)
    rwa [hdl] at this) _ _ _ none { w with drawn := w.drawn + 1 } ((Ext.refl w).drew) H
  rw [htl, show n + 1 + (l.toArray.size - (n + 1)) = l.toArray.size by omega] at this
  exact this

/-- For the walk: 'refine region_mk ..; apply Exists.intro; refine ⟨fun W0 hE0 => ?_, fun b W hE hb hblk => ?_⟩'. -/
theorem region_mk {id : Nat} {Q : Exit → Act → World → Prop} {a : Act} {l : List Oper} (n : Nat) (oP : Oper) (dP : Nat) (zs : Array Value) (T : TypeId) (m : Nat) (hm : P.follows .mixedOrders = true) (hB : lexTailA .any l.toArray n = true)
    (hp : l.toArray[n]? = some oP) (hdP : oP.dst = some dP) (hgP : ∀ a : Act, Region.wanted oP (yielded l.toArray a.tmps) = true)
    (hrun : ∀ (a : Act) (W : World), (execOp a.eval oP).run P W = .ok (.value (.pointer (some ⟨W.heap.size, 0, none⟩))) (W.alloc (.cells zs T)))
    (hsz : a.tmps.size = m) (hown : ownSlots m (l.take n) = true)
    (h : ∃ a' : Act, (∀ W0, Ext w W0 → wpQuiet P l.toArray (fun w' => ∃ p : Regrown, w' = grow (redrawn W0 p.d) p.os) (· = a') (l.take n) a) ∧
      ∀ b W, Ext w W → w.heap.size ≤ b → W.heap[b]? = some (.cells zs T (0, 0)) → wpList P l.toArray Q (l.drop (n + 1)) (a'.put (some dP) (.pointer (some ⟨b, 0, none⟩))) W) : (Code.region id l.toArray true).wp P Q a w := by
  obtain ⟨a', h1, h2⟩ := h
  exact region_new n oP dP zs T m hm hB hp hdP hgP hrun hsz hown h1 h2

/-- A block that is known whole, read. -/
theorem cell_of_block {W : World} {b : Nat} {zs : Array Value} {T : TypeId} (h : W.heap[b]? = some (.cells zs T (0, 0))) (j : Nat) (v : Value) (hv : zs[j]? = some v) : W.cell? ⟨b, j, none⟩ = some v := by
  rw [cell_of_row W b j _ _ _ h]; exact hv
theorem free_of_block {W : World} {b : Nat} {zs : Array Value} {T : TypeId} (h : W.heap[b]? = some (.cells zs T (0, 0))) : ∀ j, W.frozen? ⟨b, j, none⟩ = false := fun j => frozen_of_row W b j _ _ h
theorem lt_of_block {W : World} {b : Nat} {o : Obj} (h : W.heap[b]? = some o) : b < W.heap.size := (Array.getElem?_eq_some_iff.1 h).1

end
end Go.Proofs.YtacicanjmleikaaGreatDoor

/-
  A region that draws its order, that reads, calls what leaves all as it was, and stores once, while operations that only hand values on may come before or behind the store.
-/
namespace Go.Proofs.YtacicanjmleikaaGreatDoor
open Go.RowKit Go.Sort
set_option linter.unusedSimpArgs false
set_option linter.unusedVariables false

section
variable {P : Program} {ops : Array Oper} {md : Region.Mode} {w : World}

/-- It only hands a value on. -/
def handsOn (o : Oper) : Bool := match o.op with | .move _ | .assign _ | .pick _ _ _ => true | _ => false
def pureAt (P : Program) (o : Oper) (a : Act) (v : Value) : Prop := ∀ W, (execOp a.eval o).run P W = .ok (.value v) W

theorem pick_run {ρ : Operand → Value} {o : Oper} {c x y : Operand} (h : o.op = .pick c x y) {b : Bool} (hb : ρ c = .bool b) (W : World) : (execOp ρ o).run P W = .ok (.value (if b then ρ x else ρ y)) W := by
  simp [execOp, h, hb, asBool]
theorem pick_bool {ρ : Operand → Value} {o : Oper} {c x y : Operand} (h : o.op = .pick c x y) {v : Value} {W : World} (hc : calmUpon P W v ((execOp ρ o).run P W)) : ∃ b, ρ c = .bool b := by
  cases hr : ρ c
  case bool b => exact ⟨b, rfl⟩
  all_goals
    exfalso
    simp [execOp, h, hr, asBool, stuck, go_sem, calmUpon] at hc

theorem pure_of_calm {o : Oper} {a : Act} {v : Value} (hp : handsOn o = true) (h : calmAt P o a w v) : pureAt P o a v := by
  have h0 := h w (Ext.refl w)
  unfold handsOn at hp
  split at hp
  · rename_i x hx
    intro W
    rw [BigFrame.run_move x hx] at h0 ⊢
    rw [h0.2]
  · rename_i x hx
    intro W
    rw [BigFrame.run_assign x hx] at h0 ⊢
    rw [h0.2]
  · rename_i c x y hx
    intro W
    obtain ⟨b, hb⟩ := pick_bool hx h0
    rw [pick_run hx hb] at h0 ⊢
    rw [h0.2]
  · cases hp

/-- How operation i goes on: before the store it is calm, behind it it only hands on. -/
def bOp (P : Program) (ops : Array Oper) (w : World) (B : Option Value) (i : Nat) (K : Act → Prop) (a : Act) : Prop :=
  match ops[i]? with
  | none => K a
  | some o => if Region.wanted o (yielded ops a.tmps) then ∃ v, calmAt P o a w v ∧ (B ≠ none → pureAt P o a v) ∧ K (a.put o.dst v) else K (a.put o.dst undef)

theorem bOp_mono {B : Option Value} {i : Nat} {a : Act} {K K' : Act → Prop} (h : ∀ a, K a → K' a) (hh : bOp P ops w B i K a) : bOp P ops w B i K' a := by
  unfold bOp at *
  split
  · exact h _ (by simpa [*] using hh)
  · rename_i o ho
    simp only [ho] at hh
    split
    · rename_i hw; simp only [hw, if_true] at hh; obtain ⟨v, h1, h2, h3⟩ := hh; exact ⟨v, h1, h2, h _ h3⟩
    · rename_i hw; simp only [hw] at hh; exact h _ hh

/-- The worlds before and behind the store. -/
def Stored (w : World) (T : Value → World → Prop) : Option Value → World → Prop
  | none, W => Ext w W
  | some v, W => T v W

theorem wpOp_of_bOp {T : Value → World → Prop} {B : Option Value} {i : Nat} {a : Act} {K : Act → Prop} {K' : Act → World → Prop} {Q' : Exit → Act → World → Prop} {W : World} (hW : Stored w T B W)
    (h : ∀ a W', Stored w T B W' → K a → K' a W') (hh : bOp P ops w B i K a) : wpOp P ops Q' i K' a W := by
  unfold bOp at hh
  unfold wpOp
  split
  · rename_i ho; simp only [ho] at hh; exact h _ _ hW hh
  · rename_i o ho
    simp only [ho] at hh
    split
    · rename_i hw
      simp only [hw, if_true] at hh
      obtain ⟨v, h1, h2, h3⟩ := hh
      refine .inl ?_
      cases B with
      | none =>
        refine wp_of_calm (zs := #[]) (T := 0) (B := none) (w := w) hW (fun a' W' hW' hK => h a' W' hW' hK) ⟨v, h1, h3⟩
      | some u =>
        have := h2 (by simp) W
        unfold Oper.wp
        rw [this]
        exact h _ _ hW h3
    · rename_i hw; simp only [hw] at hh; exact h _ _ hW hh

def YieldsB (P : Program) (ops : Array Oper) (w : World) (B : Option Value) (o : Oper) (v : Value) (a : Act) : Prop :=
  (Region.wanted o (yielded ops a.tmps) = true ∧ calmAt P o a w v ∧ (B ≠ none → pureAt P o a v)) ∨ (Region.wanted o (yielded ops a.tmps) = false ∧ v = undef)

theorem YieldsB.bOp {B : Option Value} {i : Nat} {o : Oper} {v : Value} {a : Act} (hi : ops[i]? = some o) (hy : YieldsB P ops w B o v a) {K : Act → Prop} (h : K (a.put o.dst v)) : bOp P ops w B i K a := by
  unfold Go.Proofs.YtacicanjmleikaaGreatDoor.bOp
  simp only [hi]
  rcases hy with ⟨hw, hv, hu⟩ | ⟨hw, rfl⟩
  · simp only [hw, if_true]; exact ⟨v, hv, hu, h⟩
  · simp only [hw, Bool.false_eq_true, if_false]; exact h

theorem YieldsB.of_same {B : Option Value} {o : Oper} {v : Value} {a a' : Act} (hy : YieldsB P ops w B o v a) (he : execOp a'.eval o = execOp a.eval o)
    (hw : Region.wanted o (yielded ops a'.tmps) = Region.wanted o (yielded ops a.tmps)) : YieldsB P ops w B o v a' := by
  unfold YieldsB calmAt pureAt at *
  rw [he, hw]
  exact hy

theorem YieldsB.behind {o : Oper} {v : Value} {a : Act} (hp : handsOn o = true) (hy : YieldsB P ops w none o v a) (B : Option Value) : YieldsB P ops w B o v a := by
  rcases hy with ⟨h1, h2, _⟩ | h
  · exact .inl ⟨h1, h2, fun _ => pure_of_calm hp h2⟩
  · exact .inr h

theorem bOp_put {B : Option Value} {j : Nat} {oi oj : Oper} {v : Value} (hj : ops[j]? = some oj) (hap : oi.apart ops oj = true)
    (hsi : ∀ cs b, oi.op ≠ .select cs b) (hsj : ∀ cs b, oj.op ≠ .select cs b) {K : Act → Prop} {a : Act}
    (hy : YieldsB P ops w B oi v a) (h : bOp P ops w B j K (a.put oi.dst v)) :
    bOp P ops w B j (fun a' => YieldsB P ops w B oi v a' ∧ K (a'.put oi.dst v)) a := by
  obtain ⟨h1, h2, h3⟩ := Oper.apart_spec hap
  have keep : ∀ (a : Act), YieldsB P ops w B oi v a → ∀ u, YieldsB P ops w B oi v (a.put oj.dst u) := fun a hy u =>
    hy.of_same (execOp_put oi hsi a oj.dst u h3) (wanted_put oi a oj.dst u h3)
  unfold bOp at *
  simp only [hj] at *
  rw [wanted_put oj a oi.dst v h1] at h
  split
  · rename_i hw
    simp only [hw, if_true] at h
    obtain ⟨u, hu, hpu, hn⟩ := h
    refine ⟨u, fun W hW => ?_, fun hB W => ?_, keep a hy u, by rw [← Act.put_comm a v u h2]; exact hn⟩
    · have := hu W hW
      rwa [execOp_put oj hsj a oi.dst v h1] at this
    · have := hpu hB W
      rwa [execOp_put oj hsj a oi.dst v h1] at this
  · rename_i hw
    simp only [hw] at h
    exact ⟨keep a hy _, by rw [← Act.put_comm a v undef h2]; exact h⟩

/-- What one step leaves. -/
def stepsTo (r : Result Next) (v : Value) (W1 : World) : Prop := r = .ok (.value v) W1 ∨ (r = .ok .skip W1 ∧ v = undef)

/-- What the store does, at whatever moment. -/
def storesAt (P : Program) (oS : Oper) (w : World) (T : Value → World → Prop) (a : Act) : Prop := ∀ W, Ext w W → ∃ v W1, stepsTo ((execOp a.eval oS).run P W) v W1 ∧ T v W1

def wpAnyLS (P : Program) (md : Region.Mode) (ops : Array Oper) (w : World) (N p : Nat) (oS : Oper) (T : Value → World → Prop) (L : Array Bool → Act → Option Value → Prop) : Nat → Array Bool → Act → Option Value → Prop
  | 0, listed, a, B => L listed a B
  | f + 1, listed, a, B => Region.ready md ops listed ≠ [] ∧ ∀ i ∈ Region.ready md ops listed, i < N ∧
      if i = p then B = none ∧ storesAt P oS w T a ∧ ∀ v, wpAnyLS P md ops w N p oS T L f (listed.setIfInBounds i true) (a.put oS.dst v) (some v)
      else bOp P ops w B i (fun a' => wpAnyLS P md ops w N p oS T L f (listed.setIfInBounds i true) a' B) a

theorem wpAny_of_headS {N p g : Nat} {oS : Oper} {T : Value → World → Prop} {L : Array Bool → Act → Option Value → Prop} {Q' : Exit → Act → World → Prop} (hp : ops[p]? = some oS) (hgP : ∀ a : Act, Region.wanted oS (yielded ops a.tmps) = true)
    (hL : ∀ listed a B W, Stored w T B W → L listed a B → wpAny P md ops Q' g listed a W) :
    ∀ (f : Nat) (listed : Array Bool) (a : Act) (B : Option Value) (W : World), Stored w T B W → wpAnyLS P md ops w N p oS T L f listed a B → wpAny P md ops Q' (f + g) listed a W
  | 0, listed, a, B, W, hW, h => by rw [Nat.zero_add]; exact hL _ _ _ _ hW h
  | f + 1, listed, a, B, W, hW, h => by
    rw [show f + 1 + g = (f + g) + 1 by omega]
    refine ⟨fun h0 => absurd h0 h.1, fun i hi => ?_⟩
    obtain ⟨_, h2⟩ := h.2 i hi
    by_cases hip : i = p
    · rw [if_pos hip] at h2
      subst hip
      obtain ⟨rfl, hst, h3⟩ := h2
      obtain ⟨v, W1, hr, hT⟩ := hst W hW
      have h4 := wpAny_of_headS hp hgP hL f _ _ (some v) W1 hT (h3 v)
      unfold wpOp
      simp only [hp]
      rw [if_pos (hgP a)]
      refine .inl ?_
      unfold Oper.wp
      rcases hr with hr | ⟨hr, hv⟩
      · rw [hr]; exact h4
      · subst hv; rw [hr]; exact h4
    · rw [if_neg hip] at h2
      exact wpOp_of_bOp hW (fun a' W' hW' h' => wpAny_of_headS hp hgP hL f _ a' B W' hW' h') h2

/-- p waits for i, at however many removes. -/
def waitsAll (md : Region.Mode) (ops : Array Oper) (p : Nat) : Nat → Nat → Bool
  | 0, _ => false
  | f + 1, i => Region.waitsFor md ops p i || (List.range ops.size).any fun j => Region.waitsFor md ops j i && waitsAll md ops p f j

theorem listed_of_waits {n p : Nat} {listed : Array Bool} (inv : HeadInv md ops n listed) (hr : p ∈ Region.ready md ops listed) : ∀ (f i : Nat), waitsAll md ops p f i = true → listed.getD i false = true
  | 0, i, h => by cases h
  | f + 1, i, h => by
    simp only [waitsAll, Bool.or_eq_true, List.any_eq_true, Bool.and_eq_true] at h
    obtain ⟨_, op, hop, hall⟩ := mem_ready.1 hr
    rcases h with h | ⟨j, _, h1, h2⟩
    · obtain ⟨o', ho', e, he, hb, hon⟩ := Region.waitsFor_spec h
      obtain rfl : o' = op := Option.some.inj (ho'.symm.trans hop)
      have := hall e he hb
      rwa [hon] at this
    · have hj := listed_of_waits inv hr f j h2
      obtain ⟨oj, hoj, e, he, hb, hon⟩ := Region.waitsFor_spec h1
      have := inv.closed j oj hoj hj e he hb
      rwa [hon] at this

/-- What is not only handed on comes before the store. -/
def beforeStore (md : Region.Mode) (ops : Array Oper) (p : Nat) : Bool :=
  (List.range p).all fun i => (match ops[i]? with | some o => handsOn o | none => false) || waitsAll md ops p p i

theorem wpAnyLS_first {N p i : Nat} {oi oS : Oper} {T : Value → World → Prop} {v : Value} {L : Array Bool → Act → Option Value → Prop} (hp : ops[p]? = some oS) (hi : ops[i]? = some oi) (hsel : ∀ (j : Nat) (o : Oper) cs b, ops[j]? = some o → o.op ≠ .select cs b)
    (hs : Region.sinkB md ops N = true) (hc : Region.chainB md ops N = true) (hn : N < ops.size) (hin : i < N) (hip : i ≠ p) (hbs : handsOn oi = true ∨ waitsAll md ops p p i = true)
    (hdone : ∀ listed a B, L listed a B → ∀ j ∈ Region.ready md ops listed, N ≤ j) :
    ∀ (f : Nat) (listed : Array Bool) (a : Act) (B : Option Value), HeadInv md ops N listed →
      (∀ j oj, ops[j]? = some oj → j ≠ i → listed.getD j true = false → (∀ e ∈ oj.after, Region.binds md e = true → e.on ≠ i) → oi.apart ops oj = true) →
      i ∈ Region.ready md ops listed → YieldsB P ops w B oi v a →
      wpAnyLS P md ops w N p oS T L f (listed.setIfInBounds i true) (a.put oi.dst v) B → wpAnyLS P md ops w N p oS T L (f + 1) listed a B := by
  intro f
  induction f with
  | zero =>
    intro listed a B inv _ hr hy H
    have hun := (mem_ready.1 hr).1
    refine ⟨fun h => (by rw [h] at hr; cases hr), fun j hj => ?_⟩
    have hjn : j < N := by
      rcases Nat.lt_or_ge j N with h | h
      · exact h
      · exact absurd hj (tail_waits hs hc hn inv _ i rfl hin hun j h)
    refine ⟨hjn, ?_⟩
    by_cases hji : j = i
    · subst hji; rw [if_neg hip]; exact hy.bOp hi H
    · have := hdone _ _ _ H j (ready_mono hj hji)
      omega
  | succ f ih =>
    intro listed a B inv hfree hr hy H
    have hun := (mem_ready.1 hr).1
    refine ⟨fun h => (by rw [h] at hr; cases hr), fun j hj => ?_⟩
    have hjn : j < N := by
      rcases Nat.lt_or_ge j N with h | h
      · exact h
      · exact absurd hj (tail_waits hs hc hn inv _ i rfl hin hun j h)
    refine ⟨hjn, ?_⟩
    by_cases hji : j = i
    · subst hji; rw [if_neg hip]; exact hy.bOp hi H
    · have h1 := (H.2 j (ready_mono hj hji)).2
      obtain ⟨hjun, oj, hoj, hall⟩ := mem_ready.1 hj
      have hnot : ∀ e ∈ oj.after, Region.binds md e = true → e.on ≠ i := fun e he hb heq => by
        have h1 := hall e he hb
        rw [heq, getD_both hun] at h1
        cases h1
      have hap := hfree j oj hoj hji hjun hnot
      have hfree' : ∀ k ok, ops[k]? = some ok → k ≠ i → (listed.setIfInBounds j true).getD k true = false →
          (∀ e ∈ ok.after, Region.binds md e = true → e.on ≠ i) → oi.apart ops ok = true := fun k ok hk hki hun hno => by
        refine hfree k ok hk hki ?_ hno
        by_cases hjk : j = k
        · subst hjk; exact hjun
        · rw [getD_set_ne true hjk] at hun; exact hun
      by_cases hjp : j = p
      · rw [if_pos hjp] at h1 ⊢
        subst hjp
        obtain rfl : oj = oS := Option.some.inj (hoj.symm.trans hp)
        obtain ⟨k1, k2, k3⟩ := Oper.apart_spec hap
        obtain ⟨rfl, hst, h3⟩ := h1
        have hho : handsOn oi = true := by
          rcases hbs with h | h
          · exact h
          · have := listed_of_waits inv hj _ _ h
            rw [getD_both hun] at this
            cases this
        refine ⟨rfl, fun W hW => ?_, fun u => ?_⟩
        · obtain ⟨u, W1, e1, e2⟩ := hst W hW
          exact ⟨u, W1, by rwa [execOp_put oj (fun cs b => hsel j oj cs b hoj) a oi.dst v k1] at e1, e2⟩
        · refine ih _ _ _ (inv.set hj hjn) hfree' (ready_mono hr (Ne.symm hji)) ((hy.of_same (execOp_put oi (fun cs b => hsel i oi cs b hi) a oj.dst _ k3) (wanted_put oi a oj.dst _ k3)).behind hho _) ?_
          rw [Array.setIfInBounds_comm _ _ hji, ← Act.put_comm a v _ k2]
          exact h3 u
      · rw [if_neg hjp] at h1 ⊢
        have h2 := bOp_put hoj hap (fun cs b => hsel i oi cs b hi) (fun cs b => hsel j oj cs b hoj) hy h1
        refine bOp_mono (fun a' h3 => ih (listed.setIfInBounds j true) a' B (inv.set hj hjn) hfree' (ready_mono hr (Ne.symm hji)) h3.1 ?_) h2
        rw [Array.setIfInBounds_comm _ _ hji]
        exact h3.2

theorem wpAnyLS_lex {n g : Nat} {oS : Oper} {T : Value → World → Prop} {Lq : Act → Prop} (hp : ops[n]? = some oS) (hsel : Region.noSelect ops = true) (hs : Region.sinkB md ops (n + 1) = true) (hc : Region.chainB md ops (n + 1) = true) (hn : n + 1 < ops.size) (hbs : beforeStore md ops n = true)
    (hst : ∀ a, Lq a → storesAt P oS w T a) :
    ∀ (l : List Oper) (k : Nat) (listed : Array Bool) (a : Act), (∀ j, j < l.length → l[j]? = ops[k + j]?) → k + l.length = n → HeadInv md ops (n + 1) listed →
    lexHeadA md ops g l.length k listed = true → wpCalm P ops w Lq l a →
    wpAnyLS P md ops w (n + 1) n oS T (fun listed' a' B => Region.seqB md ops g (n + 1) listed' = true ∧ ∃ v a0, B = some v ∧ a' = a0.put oS.dst v ∧ Lq a0) (l.length + 1) listed a none
  | [], k, listed, a, _, hk, _, hB, h => by
    have : k = n := by simpa using hk
    subst this
    simp only [List.length_nil, lexHeadA, Bool.and_eq_true, decide_eq_true_eq] at hB
    refine ⟨by rw [hB.1]; simp, fun i hi => ?_⟩
    rw [hB.1] at hi
    obtain rfl : i = k := by simpa using hi
    refine ⟨by omega, ?_⟩
    rw [if_pos rfl]
    exact ⟨rfl, hst a h, fun v => ⟨hB.2, v, a, rfl, rfl, h⟩⟩
  | o :: l, k, listed, a, hl, hk, inv, hB, h => by
    have h0 : ops[k]? = some o := by simpa using (hl 0 (by simp)).symm
    simp only [List.length_cons, lexHeadA, Bool.and_eq_true] at hB
    obtain ⟨⟨hr, hf⟩, hB'⟩ := hB
    have hkn : k < n := by simp only [List.length_cons] at hk; omega
    have hr' : k ∈ Region.ready md ops listed := by simpa using hr
    have hst0 : cOp P ops w k (wpCalm P ops w Lq l) a := by unfold cOp; simp only [h0]; exact h
    obtain ⟨v, hy, hK⟩ := yieldsC_of_cOp h0 hst0
    have hb := List.all_eq_true.1 hbs k (List.mem_range.2 hkn)
    rw [h0] at hb
    simp only [Bool.or_eq_true] at hb
    have hyb : YieldsB P ops w none o v a := by
      rcases hy with ⟨h1, h2⟩ | h1
      · exact .inl ⟨h1, h2, fun h => absurd rfl h⟩
      · exact .inr h1
    exact wpAnyLS_first hp h0 (Region.noSelect_spec hsel) hs hc hn (by omega) (by omega) hb (fun listed' a' B hL => seqB_ready hL.1) (l.length + 1) listed a none inv (Region.free_spec h0 hf) hr' hyb
      (wpAnyLS_lex hp hsel hs hc hn hbs hst l (k + 1) _ _ (fun j hj => by have := hl (j + 1) (by simp; omega); simpa [Nat.add_assoc, Nat.add_comm 1 j] using this) (by simp only [List.length_cons] at hk; omega) (inv.set hr' (by omega)) hB' hK)

def storeUpon (K : Value → World → Prop) : Result Next → Prop
  | .ok (.value v) W1 => K v W1
  | .ok .skip W1 => K undef W1
  | _ => False
theorem of_storeUpon {K : Value → World → Prop} {r : Result Next} (h : storeUpon K r) : ∃ v W1, stepsTo r v W1 ∧ K v W1 := by
  unfold storeUpon at h
  split at h
  · exact ⟨_, _, .inl rfl, h⟩
  · exact ⟨_, _, .inr ⟨rfl, rfl⟩, h⟩
  · cases h

/-- For the walk: 'refine region_store n _ m ..; apply Exists.intro; refine ⟨fun W0 hE0 => ?_, fun W0 hE0 => ?_⟩': the second goal: what the store makes of the world, and the forced end behind it. -/
theorem region_store {id : Nat} {Q : Exit → Act → World → Prop} {a : Act} {l : List Oper} (n : Nat) (oS : Oper) (m : Nat) (hm : P.follows .mixedOrders = true) (hB : lexTailA .any l.toArray n = true) (hbs : beforeStore .any l.toArray n = true)
    (hp : l.toArray[n]? = some oS) (hgP : ∀ a : Act, Region.wanted oS (yielded l.toArray a.tmps) = true) (hsz : a.tmps.size = m) (hown : ownSlots m (l.take n) = true)
    (h : ∃ a' : Act, (∀ W0, Ext w W0 → wpQuiet P l.toArray (fun w' => ∃ p : Regrown, w' = grow (redrawn W0 p.d) p.os) (· = a') (l.take n) a) ∧
      ∀ W0, Ext w W0 → ∀ K : Value → World → Prop, (∀ v W1, wpList P l.toArray Q (l.drop (n + 1)) (a'.put oS.dst v) W1 → K v W1) → storeUpon K ((execOp a'.eval oS).run P W0)) : (Code.region id l.toArray true).wp P Q a w := by
  obtain ⟨a', hq, ht0⟩ := h
  have ht : ∀ W0, Ext w W0 → ∃ v W1, stepsTo ((execOp a'.eval oS).run P W0) v W1 ∧ wpList P l.toArray Q (l.drop (n + 1)) (a'.put oS.dst v) W1 := fun W0 hW0 => of_storeUpon (ht0 W0 hW0 _ fun _ _ h => h)
  simp only [lexTailA, Bool.and_eq_true, decide_eq_true_eq] at hB
  obtain ⟨⟨⟨⟨hsel, hn⟩, hs⟩, hc⟩, hlex⟩ := hB
  have hn' : n + 1 < l.length := by simpa using hn
  have htl : (l.take n).length = n := by simp; omega
  have hdl : (l.drop (n + 1)).length = l.toArray.size - (n + 1) := by simp
  have inv0 : HeadInv .any l.toArray (n + 1) (Array.replicate l.toArray.size false) :=
    ⟨by simp, fun j oj _ hl => (by rw [getD_replicate_false] at hl; cases hl), fun t _ ht => getD_in (by simpa using ht) (getD_replicate_false _ _)⟩
  let T : Value → World → Prop := fun v W1 => wpList P l.toArray Q (l.drop (n + 1)) (a'.put oS.dst v) W1
  have H := wpAnyLS_lex (md := .any) (T := T) (g := l.toArray.size - (n + 1)) hp hsel hs hc hn hbs (Lq := (· = a')) (fun a0 (ha0 : a0 = a') => by rw [ha0]; exact ht) (l.take n) 0 _ a (fun j hj => by
    have hj' : j < n := by rw [htl] at hj; exact hj
    simp [hj']) (by simpa using htl) inv0 (by rw [htl]; exact hlex) (calm_of_quiet (w := w) (l.take n) a (by rw [hsz]; exact hown) hq)
  refine wp_region_any hm ?_
  have := wpAny_of_headS (Q' := Q) (g := l.toArray.size - (n + 1)) (w := w) (N := n + 1) (T := T) (L := fun listed' a1 B => Region.seqB .any l.toArray (l.toArray.size - (n + 1)) (n + 1) listed' = true ∧ ∃ v a0, B = some v ∧ a1 = a0.put oS.dst v ∧ a0 = a') hp hgP (fun listed a1 B W hW hL => by
    obtain ⟨hseq, v, a0, rfl, rfl, ha0⟩ := hL
    subst ha0
    have := wpAny_of_seq (md := .any) (Q' := Q) (l.drop (n + 1)) (n + 1) listed _ W (fun j => by simp [List.getElem?_drop]) (by rw [hdl]; exact hseq) hW
    rwa [hdl] at this) _ _ _ none { w with drawn := w.drawn + 1 } ((Ext.refl w).drew) H
  rw [htl, show n + 1 + (l.toArray.size - (n + 1)) = l.toArray.size by omega] at this
  exact this

end
end Go.Proofs.YtacicanjmleikaaGreatDoor

/-
  A region that draws its order, walked operation by operation: each one is shown to give what is said of its slot, in whatever world the others have left, out of what is said of the slots that it waits for.
-/
namespace Go.Proofs.YtacicanjmleikaaGreatDoor
open Go.RowKit Go.Sort
set_option linter.unusedSimpArgs false
set_option linter.unusedVariables false

/-- What is said of a slot, and that it stays so while the world grows by S. -/
structure Rel (S : World → World → Prop) where
  r : Value → World → Prop
  stab : ∀ v W W', r v W → S W W' → r v W'

/-- The slot holds just this. -/
def Rel.one {S : World → World → Prop} (v : Value) : Rel S := ⟨fun u _ => u = v, fun _ _ _ h _ => h⟩
/-- The slot holds what a plain law says of it. -/
def Rel.law {S : World → World → Prop} (p : Value → Prop) : Rel S := ⟨fun u _ => p u, fun _ _ _ h _ => h⟩

/-- The slot holds what points at a block of its own that holds just these. -/
def Rel.blk (zs : Array Value) (T : TypeId) (mk : Nat → Value) : Rel Ext := ⟨fun v W => ∃ b, v = mk b ∧ W.heap[b]? = some (.cells zs T (0, 0)), fun v W W' ⟨b, h1, h2⟩ hE => ⟨b, h1, (hE.block b (Array.getElem?_eq_some_iff.1 h2).1).trans h2⟩⟩

def putAll (a : Act) : List (Option Tmp) → List Value → Act
  | d :: ds, v :: vs => putAll (a.put d v) ds vs
  | _, _ => a
def slotOf (a : Act) : Option Tmp → Value
  | some d => a.tmps.getD d undef
  | none => undef

def atR {S : World → World → Prop} (R : List (Rel S)) (vs : List Value) (W : World) (i : Nat) : Prop :=
  match R[i]?, vs[i]? with
  | some r, some v => r.r v W
  | _, _ => True
def factsR {S : World → World → Prop} (R : List (Rel S)) (vs : List Value) (W : World) : List Nat → Prop
  | [] => True
  | d :: ds => atR R vs W d ∧ factsR R vs W ds
def oldsR (a : Act) (dsts : List (Option Tmp)) (vs : List Value) : List Nat → Prop
  | [] => True
  | i :: is => (match dsts[i]?, vs[i]? with
    | some d, some v => v = slotOf a d
    | _, _ => True) ∧ oldsR a dsts vs is

theorem factsR_of {S : World → World → Prop} {R : List (Rel S)} {vs : List Value} {W : World} : ∀ {ds : List Nat}, (∀ d ∈ ds, atR R vs W d) → factsR R vs W ds
  | [], _ => trivial
  | d :: ds, h => ⟨h d (by simp), factsR_of fun e he => h e (by simp [he])⟩
theorem oldsR_of {a : Act} {dsts : List (Option Tmp)} {vs : List Value} : ∀ {is : List Nat}, (∀ i ∈ is, ∀ d v, dsts[i]? = some d → vs[i]? = some v → v = slotOf a d) → oldsR a dsts vs is
  | [], _ => trivial
  | i :: is, h => ⟨by split; exact h i (by simp) _ _ (by assumption) (by assumption); trivial, oldsR_of fun e he => h e (by simp [he])⟩

/-- How one operation goes on. -/
def relyQ {S : World → World → Prop} (Q : Exit → Act → World → Prop) (I : World → Prop) (a : Act) (d : Option Tmp) (r : Rel S) (W : World) : Exit → Act → World → Prop
  | .normal, a', W' => ∃ v, a' = a.put d v ∧ r.r v W' ∧ S W W' ∧ I W'
  | e, a', W' => Q e a' W'

theorem rely_done {S : World → World → Prop} {Q : Exit → Act → World → Prop} {I : World → Prop} {a : Act} {d : Option Tmp} {r : Rel S} {W : World} {a' : Act} {W' : World} (v : Value) (h1 : a' = a.put d v) (h2 : r.r v W') (h3 : S W W') (h4 : I W') : relyQ Q I a d r W .normal a' W' :=
  ⟨v, h1, h2, h3, h4⟩

/-- What is to be shown of each operation. -/
def stepsR {S : World → World → Prop} (P : Program) (Q : Exit → Act → World → Prop) (I : World → Prop) (a : Act) (ops : Array Oper) (n : Nat) (dsts : List (Option Tmp)) (R : List (Rel S)) : List Oper → List (Option Tmp) → List (Rel S) → List (List Nat) → List (List Nat) → Prop
  | o :: l, d :: ds, r :: rs, dep :: deps, old :: olds =>
    (∀ vs W, vs.length = n → I W → factsR R vs W dep → oldsR a dsts vs old → wpList P ops (relyQ Q I (putAll a dsts vs) d r W) [o] (putAll a dsts vs) W) ∧ stepsR P Q I a ops n dsts R l ds rs deps olds
  | [], [], [], [], [] => True
  | _, _, _, _, _ => False

theorem stepsR_cons {S : World → World → Prop} {P : Program} {Q : Exit → Act → World → Prop} {I : World → Prop} {a : Act} {ops : Array Oper} {n : Nat} {dsts : List (Option Tmp)} {R : List (Rel S)} {o : Oper} {l : List Oper} {d : Option Tmp} {ds : List (Option Tmp)} {r : Rel S} {rs : List (Rel S)} {dep : List Nat} {deps : List (List Nat)} {old : List Nat} {olds : List (List Nat)}
    (h1 : ∀ vs W, vs.length = n → I W → factsR R vs W dep → oldsR a dsts vs old → wpList P ops (relyQ Q I (putAll a dsts vs) d r W) [o] (putAll a dsts vs) W) (h2 : stepsR P Q I a ops n dsts R l ds rs deps olds) :
    stepsR P Q I a ops n dsts R (o :: l) (d :: ds) (r :: rs) (dep :: deps) (old :: olds) := ⟨h1, h2⟩

theorem stepsR_at {S : World → World → Prop} {P : Program} {Q : Exit → Act → World → Prop} {I : World → Prop} {a : Act} {ops : Array Oper} {n : Nat} {dsts : List (Option Tmp)} {R : List (Rel S)} :
    ∀ {l : List Oper} {ds : List (Option Tmp)} {rs : List (Rel S)} {deps olds : List (List Nat)}, stepsR P Q I a ops n dsts R l ds rs deps olds → ∀ (i : Nat) (o : Oper), l[i]? = some o →
      ∃ d r, ds[i]? = some d ∧ rs[i]? = some r ∧ ∀ vs W, vs.length = n → I W → factsR R vs W (deps.getD i []) → oldsR a dsts vs (olds.getD i []) → wpList P ops (relyQ Q I (putAll a dsts vs) d r W) [o] (putAll a dsts vs) W
  | o :: l, d :: ds, r :: rs, dep :: deps, old :: olds, h, 0, o', ho => by
    obtain rfl : o = o' := by simpa using ho
    exact ⟨d, r, rfl, rfl, by simpa using h.1⟩
  | o :: l, d :: ds, r :: rs, dep :: deps, old :: olds, h, i + 1, o', ho => by
    obtain ⟨d', r', h1, h2, h3⟩ := stepsR_at h.2 i o' (by simpa using ho)
    exact ⟨d', r', by simpa using h1, by simpa using h2, by simpa using h3⟩
  | [], [], [], [], [], _, i, o', ho => by simp at ho

def distinctB : List (Option Tmp) → Bool
  | [] => true
  | none :: ds => distinctB ds
  | some d :: ds => !ds.contains (some d) && distinctB ds

/-- That the tables tell what the region's edges say. -/
def relyB (ops : Array Oper) (dsts : List (Option Tmp)) (deps olds : List (List Nat)) : Bool :=
  (List.range ops.size).all (fun i => match ops[i]? with
    | none => false
    | some o => o.after.all (fun e => !Region.binds .any e || decide (e.on < i)) &&
      (deps.getD i []).all (fun j => o.after.any fun e => Region.binds .any e && (e.on == j || (deps.getD e.on []).contains j)) &&
      (olds.getD i []).all (fun j => (deps.getD j []).contains i)) &&
  decide (ops.toList.map (·.dst) = dsts) && distinctB dsts

theorem put_size' (a : Act) (d : Option Tmp) (v : Value) : (a.put d v).tmps.size = a.tmps.size := put_size a d v

theorem put_slot (a : Act) (d : Option Tmp) : a.put d (slotOf a d) = a := by
  cases d with
  | none => rfl
  | some d =>
    show { a with tmps := a.tmps.setIfInBounds d (a.tmps.getD d undef) } = a
    have : a.tmps.setIfInBounds d (a.tmps.getD d undef) = a.tmps := by
      apply Array.ext
      · simp
      · intro i h1 h2
        by_cases hi : d = i
        · subst hi; simp [h2]
        · rw [Array.getElem_setIfInBounds_ne (by simpa using h1) hi]
    rw [this]

theorem putAll_orig (a : Act) : ∀ (ds : List (Option Tmp)), putAll a ds (ds.map (slotOf a)) = a
  | [] => rfl
  | d :: ds => by
    show putAll (a.put d (slotOf a d)) ds (ds.map (slotOf a)) = a
    rw [put_slot]
    exact putAll_orig a ds

theorem put_put (a : Act) (d : Option Tmp) (v u : Value) : (a.put d v).put d u = a.put d u := by
  cases d with
  | none => rfl
  | some d => simp [Act.put]

theorem putAll_comm (a : Act) (d : Option Tmp) (v : Value) : ∀ (ds : List (Option Tmp)) (vs : List Value), (∀ e, d = some e → some e ∉ ds) → (putAll a ds vs).put d v = putAll (a.put d v) ds vs
  | [], _, _ => rfl
  | _ :: _, [], _ => rfl
  | e :: ds, u :: vs, h => by
    show (putAll (a.put e u) ds vs).put d v = putAll ((a.put d v).put e u) ds vs
    rw [putAll_comm (a.put e u) d v ds vs (fun x hx hm => h x hx (by simp [hm])), Act.put_comm a v u (fun x hx he => h x hx (by simp [he]))]

theorem putAll_put : ∀ (a : Act) (ds : List (Option Tmp)) (vs : List Value) (i : Nat) (d : Option Tmp) (v : Value), distinctB ds = true → vs.length = ds.length → ds[i]? = some d →
    (putAll a ds vs).put d v = putAll a ds (vs.set i v)
  | a, [], vs, i, d, v, _, _, h => by simp at h
  | a, e :: ds, [], i, d, v, _, hl, h => by simp at hl
  | a, e :: ds, u :: vs, 0, d, v, hd, hl, h => by
    obtain rfl : e = d := by simpa using h
    show (putAll (a.put e u) ds vs).put e v = putAll (a.put e v) ds vs
    rw [putAll_comm (a.put e u) e v ds vs (fun x hx hm => by subst hx; simp [distinctB, hm] at hd), put_put]
  | a, e :: ds, u :: vs, i + 1, d, v, hd, hl, h => by
    show (putAll (a.put e u) ds vs).put d v = putAll (a.put e u) ds (vs.set i v)
    refine putAll_put (a.put e u) ds vs i d v ?_ (by simpa using hl) (by simpa using h)
    cases e with
    | none => exact hd
    | some e => simp only [distinctB, Bool.and_eq_true] at hd; exact hd.2

structure RelyInv {S : World → World → Prop} (I : World → Prop) (a0 : Act) (ops : Array Oper) (dsts : List (Option Tmp)) (R : List (Rel S)) (deps : List (List Nat)) (listed : Array Bool) (a : Act) (W : World) (vs : List Value) : Prop where
  size : listed.size = ops.size
  inv : I W
  len : vs.length = dsts.length
  act : a = putAll a0 dsts vs
  done : ∀ i, listed.getD i false = true → atR R vs W i
  orig : ∀ i d v, listed.getD i true = false → dsts[i]? = some d → vs[i]? = some v → v = slotOf a0 d
  dep : ∀ i, listed.getD i false = true → ∀ j ∈ deps.getD i [], listed.getD j false = true

theorem all_listed {ops : Array Oper} {dsts : List (Option Tmp)} {deps olds : List (List Nat)} (hB : relyB ops dsts deps olds = true) {listed : Array Bool} (hs : listed.size = ops.size) (hr : Region.ready .any ops listed = []) : ∀ i, i < ops.size → listed.getD i false = true := by
  intro i
  induction i using Nat.strongRecOn with
  | _ i ih =>
    intro hi
    cases h : listed.getD i false with
    | true => rfl
    | false =>
      exfalso
      have : i ∈ Region.ready .any ops listed := by
        refine mem_ready.2 ⟨getD_in (by omega) h, ops[i], by simp [hi], fun e he hb => ?_⟩
        simp only [relyB, Bool.and_eq_true, List.all_eq_true, List.mem_range] at hB
        have h1 := hB.1.1 i hi
        rw [Array.getElem?_eq_getElem hi] at h1
        simp only [Bool.and_eq_true] at h1
        have h2 := Array.all_eq_true'.1 h1.1.1 e he
        simp only [hb, Bool.not_true, Bool.false_or, decide_eq_true_eq] at h2
        exact ih _ h2 (by omega)
      rw [hr] at this
      cases this

theorem count_set {listed : Array Bool} {i : Nat} (h : listed.getD i true = false) : (listed.setIfInBounds i true).toList.count false + 1 = listed.toList.count false := by
  obtain ⟨l⟩ := listed
  have key : ∀ (l : List Bool) (i : Nat), l[i]? = some false → (l.set i true).count false + 1 = l.count false := by
    intro l
    induction l with
    | nil => intro i h; simp at h
    | cons x l ih =>
      intro i h
      cases i with
      | zero =>
        obtain rfl : x = false := by simpa using h
        simp
      | succ i =>
        have := ih i (by simpa using h)
        cases x <;> simp [List.count_cons] <;> omega
  have h1 : l[i]? = some false := by
    rcases Nat.lt_or_ge i l.length with hi | hi
    · simp [hi] at h ⊢; exact h
    · simp [List.getElem?_eq_none hi] at h
  simpa using key l i h1

theorem wpAny_rely {S : World → World → Prop} {P : Program} {Q : Exit → Act → World → Prop} {I : World → Prop} {a0 : Act} {l : List Oper} {dsts : List (Option Tmp)} {R : List (Rel S)} {deps olds : List (List Nat)}
    (hB : relyB l.toArray dsts deps olds = true) (hstep : stepsR P Q I a0 l.toArray dsts.length dsts R l dsts R deps olds)
    (hend : ∀ vs W, vs.length = dsts.length → I W → (∀ i, i < l.length → atR R vs W i) → Q .normal (putAll a0 dsts vs) W) :
    ∀ (fuel : Nat) (listed : Array Bool) (a : Act) (W : World) (vs : List Value), listed.toList.count false = fuel → RelyInv I a0 l.toArray dsts R deps listed a W vs → wpAny P .any l.toArray Q fuel listed a W := by
  have fin : ∀ (listed : Array Bool) (a : Act) (W : World) (vs : List Value), RelyInv I a0 l.toArray dsts R deps listed a W vs → Region.ready .any l.toArray listed = [] → Q .normal a W := by
    intro listed a W vs inv hr
    rw [inv.act]
    exact hend vs W inv.len inv.inv fun i hi => inv.done i (all_listed hB inv.size hr i (by simpa using hi))
  intro fuel
  induction fuel with
  | zero =>
    intro listed a W vs hc inv
    have hr : Region.ready .any l.toArray listed = [] := by
      apply List.eq_nil_iff_forall_not_mem.2
      intro i hi
      have := count_set (mem_ready.1 hi).1
      omega
    exact ⟨hr, fin listed a W vs inv hr⟩
  | succ fuel ih =>
    intro listed a W vs hc inv
    refine ⟨fin listed a W vs inv, fun i hi => ?_⟩
    obtain ⟨hun, o, ho, hall⟩ := mem_ready.1 hi
    have hil : i < l.length := by have := (Array.getElem?_eq_some_iff.1 ho).1; simpa using this
    have ho' : l[i]? = some o := by simpa using ho
    obtain ⟨d, r, hd, hr, hst⟩ := stepsR_at hstep i o ho'
    have hB' := hB
    simp only [relyB, Bool.and_eq_true, List.all_eq_true, List.mem_range, decide_eq_true_eq] at hB'
    obtain ⟨⟨hB1, hB2⟩, hB3⟩ := hB'
    have hB4 := hB1 i (by simpa using hil)
    rw [ho] at hB4
    simp only [Bool.and_eq_true, List.all_eq_true] at hB4
    obtain ⟨⟨_, hdep⟩, hold⟩ := hB4
    have hdst : o.dst = d := by
      have : (l.map (·.dst))[i]? = some d := by rw [show l.map (·.dst) = dsts from by simpa using hB2]; exact hd
      simpa [ho'] using this
    have hdepl : ∀ j ∈ deps.getD i [], listed.getD j false = true := by
      intro j hj
      obtain ⟨e, he, hb⟩ := Array.any_eq_true'.1 (hdep j hj)
      simp only [Bool.and_eq_true, Bool.or_eq_true, beq_iff_eq] at hb
      have h1 := hall e he hb.1
      rcases hb.2 with h2 | h2
      · rw [← h2]; exact h1
      · exact inv.dep _ h1 j (by simpa using h2)
    have hw := hst vs W inv.len inv.inv (factsR_of fun j hj => inv.done j (hdepl j hj)) (oldsR_of fun j hj d' v h1 h2 => by
      have h3 : i ∈ deps.getD j [] := by simpa using hold j hj
      refine inv.orig j d' v ?_ h1 h2
      cases hlj : listed.getD j false with
      | true =>
        have := inv.dep j hlj i h3
        rw [getD_both hun] at this
        cases this
      | false =>
        refine getD_in ?_ hlj
        have h4 : j < dsts.length := (List.getElem?_eq_some_iff.1 h1).1
        have h5 : dsts.length = l.length := by rw [← hB2]; simp
        rw [inv.size]; simp; omega)
    rw [← inv.act] at hw
    have key : ∀ a' W', relyQ Q I a d r W .normal a' W' → wpAny P .any l.toArray Q fuel (listed.setIfInBounds i true) a' W' := by
      rintro a' W' ⟨v, h1, h2, h3, h4⟩
      have hvi : i < vs.length := by rw [inv.len]; exact (List.getElem?_eq_some_iff.1 hd).1
      refine ih _ a' W' (vs.set i v) (by have := count_set hun; omega) ⟨by simp [inv.size], h4, by simp [inv.len], ?_, fun k hk => ?_, fun k d' v' hk hd' hv' => ?_, fun k hk j hj => ?_⟩
      · rw [h1, inv.act]
        exact putAll_put a0 dsts vs i d v hB3 inv.len hd
      · by_cases hik : i = k
        · subst hik
          unfold atR
          rw [hr, List.getElem?_set_self hvi]
          exact h2
        · rw [getD_set_ne false hik] at hk
          have := inv.done k hk
          unfold atR at this ⊢
          rw [List.getElem?_set_ne hik]
          split
          · rename_i r' u h5 h6
            rw [h5, h6] at this
            exact r'.stab u W W' this h3
          · trivial
      · by_cases hik : i = k
        · subst hik
          have : (listed.setIfInBounds i true).getD i true = true := by
            rcases Nat.lt_or_ge i listed.size with h | h
            · simp [h]
            · simp [Array.getElem?_eq_none (show (listed.setIfInBounds i true).size ≤ i by simpa using h)]
          rw [this] at hk; cases hk
        · rw [getD_set_ne true hik] at hk
          rw [List.getElem?_set_ne hik] at hv'
          exact inv.orig k d' v' hk hd' hv'
      · by_cases hik : i = k
        · subst hik
          exact getD_set_true (hdepl j hj)
        · rw [getD_set_ne false hik] at hk
          exact getD_set_true (inv.dep k hk j hj)
    unfold wpOp
    simp only [ho]
    unfold wpList at hw
    split
    · rename_i hwd
      rw [if_pos hwd] at hw
      rcases hw with hw | ⟨hw, hlo⟩
      · left
        unfold Oper.wp at hw ⊢
        generalize (execOp a.eval o).run P W = res at *
        cases res with
        | ok n w' =>
          cases n <;> simp only [Oper.upon] at hw ⊢ <;>
            first
              | exact key _ _ hw
              | exact Calls.mono hw (fun e w'' he => by cases e <;> first | exact key _ _ he | exact he)
              | exact Rows.mono hw (fun _ _ he => key _ _ he)
        | halt x w' => cases x <;> simp only [Oper.upon] at hw ⊢ <;> exact hw
      · right
        obtain ⟨a', w', hq⟩ := hlo
        exact ⟨hw, a', w', hq⟩
    · rename_i hwd
      rw [if_neg hwd] at hw
      exact key _ _ hw

theorem len_cons {α : Type} {n : Nat} {vs : List α} (h : vs.length = n + 1) : ∃ x t, vs = x :: t ∧ t.length = n := by
  cases vs with
  | nil => simp at h
  | cons x t => exact ⟨x, t, rfl, by simpa using h⟩
theorem len_nil {α : Type} {vs : List α} (h : vs.length = 0) : vs = [] := List.length_eq_zero_iff.1 h

/-- For the walk: dsts, deps, olds are the region's tables (wip/regions.lean prints them). -/
theorem region_rely {S : World → World → Prop} {P : Program} {id : Nat} {Q : Exit → Act → World → Prop} {a : Act} {w : World} {l : List Oper} (I : World → Prop) (dsts : List (Option Tmp)) (deps olds : List (List Nat)) (R : List (Rel S))
    (hm : P.follows .mixedOrders = true) (hB : relyB l.toArray dsts deps olds = true) (hI : I { w with drawn := w.drawn + 1 })
    (hstep : stepsR P Q I a l.toArray dsts.length dsts R l dsts R deps olds)
    (hend : ∀ vs W, vs.length = dsts.length → I W → factsR R vs W (List.range dsts.length) → Q .normal (putAll a dsts vs) W) : (Code.region id l.toArray true).wp P Q a w := by
  refine wp_region_any hm ?_
  have hB2 : l.map (·.dst) = dsts := by
    have := hB
    simp only [relyB, Bool.and_eq_true, decide_eq_true_eq] at this
    simpa using this.1.2
  have hlen : l.length = dsts.length := by rw [← hB2]; simp
  refine wpAny_rely (I := I) (a0 := a) (R := R) hB hstep (fun vs W h1 h2 h3 => hend vs W h1 h2 (factsR_of fun i hi => h3 i (by rw [hlen]; simpa using hi))) _ _ a _ (dsts.map (slotOf a)) (by simp) ⟨by simp, hI, by simp, (putAll_orig a dsts).symm, fun i hi => ?_, fun i d v _ h1 h2 => ?_, fun i hi => ?_⟩
  · rw [getD_replicate_false] at hi; cases hi
  · rw [List.getElem?_map, h1] at h2; simpa using h2.symm
  · rw [getD_replicate_false] at hi; cases hi

end Go.Proofs.YtacicanjmleikaaGreatDoor

/-
  Guarded operations in a region that is walked operation by operation.
-/
namespace Go.Proofs.YtacicanjmleikaaGreatDoor
open Go.RowKit Go.Sort
set_option linter.unusedSimpArgs false
set_option linter.unusedVariables false

/-- A guarded operation that is wanted is walked as if it had no guard. -/
theorem wantedOp {P : Program} {ops : Array Oper} {rest : List Oper} {o : Oper} {a : Act} {w : World} {Q : Exit → Act → World → Prop} (hw : Region.wanted o (yielded ops a.tmps) = true)
    (h : wpList P ops Q ({ o with guard := none } :: rest) a w) : wpList P ops Q (o :: rest) a w := by
  unfold wpList at h ⊢
  rw [if_pos hw]
  rw [if_pos (by simp [Region.wanted])] at h
  exact h
/-- One that is not wanted leaves its slot undefined. -/
theorem unwantedOp {P : Program} {ops : Array Oper} {rest : List Oper} {o : Oper} {a : Act} {w : World} {Q : Exit → Act → World → Prop} (hw : Region.wanted o (yielded ops a.tmps) = false)
    (h : wpList P ops Q rest (a.put o.dst undef) w) : wpList P ops Q (o :: rest) a w := by
  unfold wpList
  rw [if_neg (by rw [hw]; simp)]
  exact h
theorem rely_undef {P : Program} {ops : Array Oper} {S : World → World → Prop} {Q : Exit → Act → World → Prop} {I : World → Prop} {a : Act} {o : Oper} {d : Option Tmp} {r : Rel S} {W : World} (hw : Region.wanted o (yielded ops a.tmps) = false) (hd : o.dst = d) (h2 : r.r undef W) (h3 : S W W) (h4 : I W) :
    wpList P ops (relyQ Q I a d r W) [o] a W := unwantedOp hw (wpList_nil (rely_done undef (by rw [hd]) h2 h3 h4))
end Go.Proofs.YtacicanjmleikaaGreatDoor
