
import Derived.Test.YtacicanjmleikaaGreatDoorRows
import Derived.WalkKit
import Derived.WalkSpells
import Derived.WalkLawsBesides
import Derived.Deep.QuietTactic
import Derived.BigQuiet
import Derived.Lib.Hide
import Derived.Lib.QuietBelow
import Derived.Deep.AppendLies
import Derived.Deep.RegionHeld3
import Derived.Deep.DeepFit
import Derived.WalkSmall
import Derived.RangeFuncNested
import Derived.RangeFuncBound
import Derived.RangeFuncCalls
import Derived.RangeFuncLeaves
import Derived.Maps.AppendAt
import Derived.OwnWalkIn
import Derived.TacticsInMore
import Derived.LoopNIn
import Derived.LoopIn
import Derived.OpenShut
import Derived.StillTail
import Derived.BigGuardPart
import Derived.Handy
/- A part of the proof. -/
namespace Go.Proofs.YtacicanjmleikaaGreatDoor
open Go.RowKit
set_option linter.unusedSimpArgs false
set_option linter.unusedVariables false
def nth (xs : List Int) (i : Nat) : Int := xs.getD i 0
structure Sl (k : IntKind) (w : World) (a : Option Addr) (n c : Nat) (xs : List Int) : Prop where
 hlen : xs.length = n
 le : n ≤ c
 max : c ≤ maxLen
 cells : ∀ i, i < n → ∃ b off, a = some ⟨b, off, none⟩ ∧ w.cell? ⟨b, off + i, none⟩ = some (.int k (nth xs i))
 wf : ∀ x ∈ xs, (Lit.int k x).wf = true
theorem Sl.at {k : IntKind} {w : World} {a : Option Addr} {n c : Nat} {xs : List Int} (h : Sl k w a n c xs) (h0 : 0 < n) :
  ∃ b off, a = some ⟨b, off, none⟩ ∧ ∀ i, i < n → w.cell? ⟨b, off + i, none⟩ = some (.int k (nth xs i)) := by
 obtain ⟨b, off, rfl, _⟩ := h.cells 0 h0
 refine ⟨b, off, rfl, fun i hi => ?_⟩
 obtain ⟨b', off', he, hc⟩ := h.cells i hi
 simp at he
 obtain ⟨rfl, rfl⟩ := he
 exact hc
def Ext (w w' : World) : Prop := Below w.heap.size w w'
theorem Ext.refl (w : World) : Ext w w := Below.refl _ _
theorem Ext.trans {a b c : World} (h : Ext a b) (k : Ext b c) : Ext a c := Below.trans h (Below.mono k h.size)
theorem Ext.drew {a b : World} (h : Ext a b) : Ext a b.drew := Below.drew h
theorem Ext.alloc {a b : World} (h : Ext a b) (o : Obj) : Ext a (b.alloc o) := Below.alloc h h.size o
theorem Ext.setCell {a b : World} (h : Ext a b) {p : Addr} (hp : a.heap.size ≤ p.block) (u : Value) : Ext a (b.setCell p u) := Below.setCell h hp u
theorem Ext.sz {a b : World} (h : Ext a b) : a.heap.size ≤ b.heap.size := h.size
theorem lt_of_cell {w : World} {a : Addr} {v : Value} (h : w.cell? a = some v) : a.block < w.heap.size := by
 obtain ⟨o, ho, _⟩ := cells_of_cell h
 exact (Array.getElem?_eq_some_iff.1 ho).1
theorem Ext.cell {w w' : World} (h : Ext w w') {a : Addr} {v : Value} (hc : w.cell? a = some v) : w'.cell? a = some v :=
 (Below.cell h (lt_of_cell hc)).trans hc
theorem Sl.ext {k : IntKind} {w w' : World} {a : Option Addr} {n c : Nat} {xs : List Int} (h : Sl k w a n c xs) (he : Ext w w') : Sl k w' a n c xs :=
 ⟨h.hlen, h.le, h.max, fun i hi => let ⟨b, off, ha, hc⟩ := h.cells i hi; ⟨b, off, ha, he.cell hc⟩, h.wf⟩
theorem Sl.bd {k : IntKind} {w : World} {a : Option Addr} {n c : Nat} {xs : List Int} (h : Sl k w a n c xs) : n ≤ c ∧ c ≤ 9223372036854775807 := by
 have := h.max
 unfold maxLen at this
 exact ⟨h.le, by omega⟩
theorem nth_mem {xs : List Int} {i : Nat} (h : i < xs.length) : nth xs i ∈ xs := by
 unfold nth
 rw [List.getD_eq_getElem?_getD, List.getElem?_eq_getElem h]
 exact List.getElem_mem h
theorem Sl.wfAt {k : IntKind} {w : World} {a : Option Addr} {n c : Nat} {xs : List Int} (h : Sl k w a n c xs) {i : Nat} (hi : i < n) : (Lit.int k (nth xs i)).wf = true :=
 h.wf _ (nth_mem (by rw [h.hlen]; exact hi))
theorem wf_u8 {x : Int} (h : (Lit.int .u8 x).wf = true) : 0 ≤ x ∧ x ≤ 255 := by simp [Lit.wf, IntKind.min, IntKind.max, IntKind.bits, IntKind.signed] at h; omega
theorem wf_i64 {x : Int} (h : (Lit.int .i64 x).wf = true) : -9223372036854775808 ≤ x ∧ x ≤ 9223372036854775807 := by simp [Lit.wf, IntKind.min, IntKind.max, IntKind.bits, IntKind.signed] at h; omega
theorem ret_bool {a b : Bool} (h : a = b) : Ending.returned (.bool a) = .returned (.bool b) := by rw [h]
theorem ret_int {k : IntKind} {a b : Int} (h : a = b) : Ending.returned (.int k a) = .returned (.int k b) := by rw [h]
theorem take_nth_succ {xs : List Int} {k : Nat} (h : k < xs.length) : xs.take (k+1) = xs.take k ++ [nth xs k] := by
 rw [List.take_succ_eq_append_getElem h]
 simp [nth, List.getD_eq_getElem?_getD, h]
def ElT (P : Program) (T E : TypeId) (z : Value) (size by_ : Nat) : Prop :=
 P.underlying T = some (.slice E) ∧ (P.info? E).map (fun i => (i.zero, i.size, i.bytes)) = some (some z, size, by_)
def OwI (k : IntKind) (E : TypeId) (base : Nat) (w : World) (a : Option Addr) (n c : Nat) (xs : List Int) : Prop :=
 w.ownsRow base E 1 (.slice a n c) n (xs.map (Value.int k))
theorem OwI.hlen {k : IntKind} {E : TypeId} {base : Nat} {w : World} {a : Option Addr} {n c : Nat} {xs : List Int} (h : OwI k E base w a n c xs) : xs.length = n := by
 have := h.1
 simpa using this
theorem OwI.nil (k : IntKind) (E : TypeId) (base : Nat) (w : World) : OwI k E base w none 0 0 [] := World.ownsRow_nil w base E 1
theorem OwI.kept {k : IntKind} {E : TypeId} {base : Nat} {w w' : World} {a : Option Addr} {n c : Nat} {xs : List Int} (h : OwI k E base w a n c xs) (he : Ext w w') : OwI k E base w' a n c xs := by
 refine World.ownsRow.kept (row := none) h ⟨he.os, he.tape, he.output, he.size, fun k hk _ => he.block k hk⟩ ?_
 rcases a with _ | ⟨b, o, s⟩
 ·left; rfl
 ·right; simp [Value.ownBlock]
theorem OwI.mono {k : IntKind} {E : TypeId} {base base' : Nat} {w : World} {a : Option Addr} {n c : Nat} {xs : List Int} (h : OwI k E base w a n c xs) (hb : base' ≤ base) : OwI k E base' w a n c xs := by
 obtain ⟨h1, h2⟩ := h
 refine ⟨h1, ?_⟩
 rcases h2 with h2 | ⟨g, cap, cur, hv, hg, r⟩
 ·exact .inl h2
 ·exact .inr ⟨g, cap, cur, hv, by omega, r⟩
theorem OwI.sl {k : IntKind} {E : TypeId} {base : Nat} {w : World} {a : Option Addr} {n c : Nat} {xs : List Int} (h : OwI k E base w a n c xs) (hw : ∀ x ∈ xs, (Lit.int k x).wf = true) : Sl k w a n c xs := by
 have hl := h.hlen
 rcases h.2 with ⟨hv, h0⟩ | ⟨g, cap, cur, hv, hg, hb, hn, hm, hs, ht⟩
 ·simp only [Value.slice.injEq] at hv
  obtain ⟨rfl, rfl, rfl⟩ := hv
  exact ⟨hl, Nat.le_refl _, Nat.zero_le _, fun i hi => absurd hi (Nat.not_lt_zero _), hw⟩
 ·simp only [Value.slice.injEq] at hv
  obtain ⟨rfl, _, rfl⟩ := hv
  refine ⟨hl, hn, hm, fun i hi => ⟨g, 0, rfl, ?_⟩, hw⟩
  have := World.ownsRow.cellAt h i (by omega)
  rw [Nat.zero_add, this]
  simp [nth, List.getD_eq_getElem?_getD, hl, hi]
theorem below_grown {base : Nat} {w w' : World} {v : Value} {E : TypeId} {size n : Nat} {xs : List Value} (hown : w.ownsRow base E size v n xs) (hb : base ≤ w.heap.size) (hg : w.grownBy w' v.ownBlock) : Below base w w' :=
 (Below.refl base w).grown hg hb fun k hk => (hown.lt k hk).1
theorem app1 {P : Program} {T E : TypeId} {k : IntKind} {by_ : Nat} (hE : ElT P T E (.int k 0) 1 by_) {ops : Array Oper} {rest : List Oper} {o : Oper} {a : Act} {Q : Exit → Act → World → Prop} (hgd : o.guard = none) (s x : Operand)
  (ho : o.op = .call { callee := .builtin .append, args := #[s, x], argTypes := #[T, T] })
  (w : World) (base : Nat) (sa : Option Addr) (n c : Nat) (xs : List Int) (u : Int) (hs : a.eval s = .slice sa n c) (hown : OwI k E base w sa n c xs)
  (hx : a.eval x = .slice (some ⟨w.heap.size, 0, none⟩) 1 1) (hbase : base ≤ w.heap.size) (h63 : n + 1 ≤ maxLen) (hbytes : (n + 1) * by_ ≤ 140737488355328)
  (h : ∀ g cap w', OwI k E base w' (some ⟨g, 0, none⟩) (n + 1) cap (xs ++ [u]) → Below base w w' → wpList P ops Q rest (a.put o.dst (.slice (some ⟨g, 0, none⟩) (n + 1) cap)) w') :
  wpList P ops Q (o :: rest) a (w.alloc (.cells #[.int k u] E)) := by
 obtain ⟨hT, hI⟩ := hE
 obtain ⟨i, hi, hz, hsz, hby⟩ := info_parts hI
 have hown' : (w.alloc (.cells #[.int k u] E)).ownsRow base E 1 (.slice sa n c) n (xs.map (Value.int k)) := World.ownsRow.alloc hown _
 refine wpList_append_lies (w.alloc (.cells #[.int k u] E)) hgd s x T ho base E i (.int k 0) 1 by_ hT hi hz hsz hby rfl (by decide) _ n _ hs hown' ⟨w.heap.size, 0, none⟩ 1 1 [.int k u] hx rfl
  (cell_one_new _ _ _) (by simp [Value.oneCell']) (by decide) h63 hbytes (by simp; omega) (w.heap.size + 1) (by simp) ?_
 intro g cap w' h2 h3 _ _
 refine h g cap w' ?_ (((Below.refl base w).alloc hbase _).trans (below_grown hown' (by simp; omega) h3))
 unfold OwI
 rw [List.map_append]
 exact h2
theorem nth_take {xs : List Int} {m i : Nat} (h : i < m) : nth (xs.take m) i = nth xs i := by
 simp [nth, List.getD_eq_getElem?_getD, h]
theorem nth_drop (xs : List Int) (m i : Nat) : nth (xs.drop m) i = nth xs (m + i) := by
 simp [nth, List.getD_eq_getElem?_getD]
theorem Sl.take {k : IntKind} {w : World} {a : Option Addr} {n c : Nat} {xs : List Int} (h : Sl k w a n c xs) {m : Nat} (hm : m ≤ n) : Sl k w a m c (xs.take m) := by
 refine ⟨by rw [List.length_take, h.hlen]; omega, by have := h.le; omega, h.max, fun i hi => ?_, fun x hx => h.wf x (List.mem_of_mem_take hx)⟩
 obtain ⟨b, off, ha, hc⟩ := h.cells i (by omega)
 exact ⟨b, off, ha, by rw [nth_take hi]; exact hc⟩
theorem Sl.drop {k : IntKind} {w : World} {b off n c : Nat} {xs : List Int} (h : Sl k w (some ⟨b, off, none⟩) n c xs) {m : Nat} (hm : m ≤ n) (c' : Nat) (hc' : n - m ≤ c') (hcc : c' ≤ c) :
  Sl k w (some ⟨b, off + m, none⟩) (n - m) c' (xs.drop m) := by
 refine ⟨by rw [List.length_drop, h.hlen], hc', Nat.le_trans hcc h.max, fun i hi => ?_, fun x hx => h.wf x (List.mem_of_mem_drop hx)⟩
 obtain ⟨b', off', ha, hc⟩ := h.cells (m + i) (by omega)
 simp only [Option.some.injEq, Addr.mk.injEq, and_true] at ha
 obtain ⟨rfl, rfl⟩ := ha
 exact ⟨b, off + m, rfl, by rw [nth_drop, show off + m + i = off + (m + i) by omega]; exact hc⟩
theorem OwI.cellAt {k : IntKind} {E : TypeId} {base : Nat} {w : World} {g n c : Nat} {xs : List Int} (h : OwI k E base w (some ⟨g, 0, none⟩) n c xs) {j : Nat} (hj : j < n) : w.cell? ⟨g, j, none⟩ = some (.int k (nth xs j)) := by
 have hl := h.hlen
 rw [World.ownsRow.cellAt h j (by omega)]
 simp [nth, List.getD_eq_getElem?_getD, hl, hj]
theorem OwI.frozenAt {k : IntKind} {E : TypeId} {base : Nat} {w : World} {g n c : Nat} {xs : List Int} (h : OwI k E base w (some ⟨g, 0, none⟩) n c xs) (j : Nat) : w.frozen? ⟨g, j, none⟩ = false := World.ownsRow.frozenAt h j
theorem OwI.set {k : IntKind} {E : TypeId} {base : Nat} {w : World} {g n c : Nat} {xs : List Int} (h : OwI k E base w (some ⟨g, 0, none⟩) n c xs) (j : Nat) (x : Int) : OwI k E base (w.setCell ⟨g, j, none⟩ (.int k x)) (some ⟨g, 0, none⟩) n c (xs.set j x) := by
 have := (World.ownsRow.stored h j (.int k x)).1
 unfold OwI
 rw [List.map_set]
 exact this
theorem OwI.ge {k : IntKind} {E : TypeId} {base : Nat} {w : World} {g n c : Nat} {xs : List Int} (h : OwI k E base w (some ⟨g, 0, none⟩) n c xs) : base ≤ g ∧ g < w.heap.size := World.ownsRow.lt h g rfl
theorem OwI.lit (k : IntKind) (E : TypeId) {base : Nat} (w : World) (xs : List Int) (hb : base ≤ w.heap.size) (hm : xs.length ≤ maxLen) (cs : Array Value) (hcs : cs.toList = xs.map (Value.int k)) :
  OwI k E base (w.alloc (.cells cs E)) (some ⟨w.heap.size, 0, none⟩) xs.length xs.length xs := by
 have := World.ownsRow_lit (e := E) (size := 1) w cs xs.length hb hm (by rw [← Array.length_toList, hcs]; simp)
 rw [hcs] at this
 exact this
theorem appS {P : Program} {T E : TypeId} {k : IntKind} {by_ : Nat} (hE : ElT P T E (.int k 0) 1 by_) {ops : Array Oper} {rest : List Oper} {o : Oper} {a : Act} {Q : Exit → Act → World → Prop} (hgd : o.guard = none) (s x : Operand)
  (ho : o.op = .call { callee := .builtin .append, args := #[s, x], argTypes := #[T, T] })
  (w : World) (base : Nat) (sa : Option Addr) (n c : Nat) (xs : List Int) (hs : a.eval s = .slice sa n c) (hown : OwI k E base w sa n c xs)
  (ta : Option Addr) (m tc : Nat) (ys : List Int) (hx : a.eval x = .slice ta m tc) (ht : Sl k w ta m tc ys) (hm : 0 < m) (hbase : base ≤ w.heap.size) (h63 : n + m ≤ maxLen) (hbytes : (n + m) * by_ ≤ 140737488355328)
  (h : ∀ g cap w', OwI k E base w' (some ⟨g, 0, none⟩) (n + m) cap (xs ++ ys) → Below base w w' → wpList P ops Q rest (a.put o.dst (.slice (some ⟨g, 0, none⟩) (n + m) cap)) w') :
  wpList P ops Q (o :: rest) a w := by
 obtain ⟨hT, hI⟩ := hE
 obtain ⟨i, hi, hz, hsz, hby⟩ := info_parts hI
 obtain ⟨b, off, rfl, hc⟩ := ht.at hm
 have hl := ht.hlen
 refine wpList_append_lies w hgd s x T ho base E i (.int k 0) 1 by_ hT hi hz hsz hby rfl (by decide) _ n _ hs hown ⟨b, off, none⟩ m tc (ys.map (Value.int k)) hx (by simp [hl]) ?_ ?_ hm h63 hbytes hbase w.heap.size rfl ?_
 ·intro j u hu
  have hj : j < m := by
   rcases Nat.lt_or_ge j m with h | h
   ·exact h
   ·rw [List.getElem?_eq_none (by simp; omega)] at hu; cases hu
  have hadd : (⟨b, off, none⟩ : Addr).add j = ⟨b, off + j, none⟩ := by unfold Addr.add; split <;> simp_all
  rw [hadd, hc j hj]
  have hj' : j < ys.length := by omega
  simp [hj'] at hu
  rw [← hu]
  simp [nth, List.getD_eq_getElem?_getD, hj']
 ·intro u hu
  simp only [List.mem_map] at hu
  obtain ⟨x, _, rfl⟩ := hu
  simp [Value.oneCell']
 ·intro g cap w' h2 h3 _ _
  refine h g cap w' ?_ (below_grown hown hbase h3)
  unfold OwI
  rw [List.map_append]
  exact h2
theorem OwI.ext {k : IntKind} {E : TypeId} {base : Nat} {w w' : World} {a : Option Addr} {n c : Nat} {xs : List Int} (h : OwI k E base w a n c xs) (he : Ext w w') : OwI k E base w' a n c xs := h.kept he
theorem Sl.below {k : IntKind} {w w' : World} {a : Option Addr} {n c : Nat} {xs : List Int} (h : Sl k w a n c xs) (hb : ∀ b off, a = some ⟨b, off, none⟩ → 0 < n → w'.heap[b]? = w.heap[b]?) : Sl k w' a n c xs := by
 refine ⟨h.hlen, h.le, h.max, fun i hi => ?_, h.wf⟩
 obtain ⟨b, off, ha, hc⟩ := h.cells i hi
 exact ⟨b, off, ha, (World.cell?_of_block (w := w) (hb b off ha (by omega))).trans hc⟩
theorem Sl.not_row {k : IntKind} {w : World} {a : Option Addr} {n c : Nat} {xs : List Int} (h : Sl k w a n c xs) {b off : Nat} (ha : a = some ⟨b, off, none⟩) (hn : 0 < n) : ∃ x, w.cell? ⟨b, off, none⟩ = some (.int k x) := by
 obtain ⟨b', off', he, hc⟩ := h.cells 0 hn
 rw [ha] at he
 simp at he
 obtain ⟨rfl, rfl⟩ := he
 exact ⟨_, hc⟩
open Go.RowKit Go.Sort
theorem region_ext {P : Program} {id : Nat} {Q : Exit → Act → World → Prop} {a : Act} {w : World} {l : List Oper} (hm : P.follows .mixedOrders = true) (hB : Region.lexB .any l.toArray = true)
  (h : wpQuiet P l.toArray (fun w' => ∃ p : Regrown, w' = grow (redrawn w p.d) p.os) (fun a' => ∀ w', Ext w w' → Q .normal a' w') l a) : (Code.region id l.toArray true).wp P Q a w := by
 refine wp_region_quiet_below hm hB ?_
 have key : ∀ (l' : List Oper) (a : Act), wpQuiet P l.toArray (fun w' => ∃ p : Regrown, w' = grow (redrawn w p.d) p.os) (fun a' => ∀ w', Ext w w' → Q .normal a' w') l' a →
   wpQuiet P l.toArray (fun w' => ∃ p : Regrown, w' = grow (redrawn w p.d) p.os) (fun a' => ∀ w', (∃ p : Regrown, w' = grow (redrawn w p.d) p.os) → Q .normal a' w') l' a := by
  intro l'
  induction l' with
  | nil => exact fun a h w' ⟨p, hp⟩ => h w' (by rw [hp]; exact below_regrown w p.d p.os)
  | cons o rest ih =>
   intro a h
   unfold wpQuiet at h ⊢
   split
   ·rename_i hw
    rw [if_pos hw] at h
    obtain ⟨v, h1, h2⟩ := h
    exact ⟨v, h1, ih _ h2⟩
   ·rename_i hw
    rw [if_neg hw] at h
    exact ih _ h
 exact key l a h
theorem ext_grow (w : World) (d : Nat) (os : Array Obj) : Ext w (grow (redrawn w d) os) := below_regrown w d os
open Go.RowKit Go.Sort
def subA (a : Option Addr) (c m : Nat) : Option Addr := if c = m then a else a.map (·.add m)
theorem Sl.from {k : IntKind} {w : World} {a : Option Addr} {n c : Nat} {xs : List Int} (h : Sl k w a n c xs) {m : Nat} (hm : m ≤ n) : Sl k w (subA a c m) (n - m) (c - m) (xs.drop m) := by
 have hle := h.le
 rcases Nat.eq_or_lt_of_le hm with rfl | hlt
 ·refine ⟨by rw [List.length_drop, h.hlen], by omega, by have := h.max; omega, fun i hi => absurd hi (by omega), fun x hx => h.wf x (List.mem_of_mem_drop hx)⟩
 ·obtain ⟨b, off, rfl, hc⟩ := h.at (by omega)
  have hs : subA (some ⟨b, off, none⟩) c m = some ⟨b, off + m, none⟩ := by
   unfold subA; rw [if_neg (by omega)]
   by_cases h0 : m = 0
   ·subst h0; simp [Addr.add]
   ·simp [Addr.add, h0]
  rw [hs]
  exact h.drop (by omega) (c - m) (by omega) (by omega)
open Go.RowKit Go.Sort
set_option maxRecDepth 100000
def bodyP {α : Type} (I : List α → World → Prop) (Bp : Nat) (t : TypeId) (v : Value) (xs : List α) (W : World) : Exit → Act → World → Prop
 | .normal, _, W' => KeepsOthers W W' ∧ I xs W' ∧ Boxed W' Bp t v
 | _, _, _ => False
open Go.RowKit Go.Sort
structure Hold (p : Prop) : Prop where
 held ::
 out : p
theorem hold {p : Prop} (h : Hold p) : p := h.out
theorem held {p : Prop} (h : p) : Hold p := ⟨h⟩
open Go.RowKit Go.Sort
theorem run_append_none {P : Program} {w : World} (base : Nat) (t ty e : TypeId) (i : TypeInfo) (size : Nat) (ht : P.underlying t = some (.slice e)) (hi : P.info? e = some i)
  (v : Value) (n : Nat) (xs : List Value) (hown : w.ownsRow base e size v n xs) (c : Nat) :
  (Builtin.append_ #[t, t] ty #[v, .slice none 0 c]).run P w = .ok v w := by
 rcases hown.2 with ⟨rfl, rfl⟩ | ⟨g, cap, cur, rfl, _, _, hnc, _⟩
 ·simp [Builtin.append_, run_underlying ht, sizeOf, typeInfo, hi, Builtin.lenOf, Builtin.firstCells]
 ·simp [Builtin.append_, run_underlying ht, sizeOf, typeInfo, hi, Builtin.lenOf, Builtin.firstCells, hnc, storeCells]
theorem appA {P : Program} {T E : TypeId} {k : IntKind} {by_ : Nat} (hE : ElT P T E (.int k 0) 1 by_) {ops : Array Oper} {rest : List Oper} {o : Oper} {a : Act} {Q : Exit → Act → World → Prop} (hgd : o.guard = none) (s x : Operand)
  (ho : o.op = .call { callee := .builtin .append, args := #[s, x], argTypes := #[T, T] })
  (w : World) (base : Nat) (sa : Option Addr) (n c : Nat) (xs : List Int) (hs : a.eval s = .slice sa n c) (hown : OwI k E base w sa n c xs)
  (ta : Option Addr) (m tc : Nat) (ys : List Int) (hx : a.eval x = .slice ta m tc) (ht : Sl k w ta m tc ys) (hbase : base ≤ w.heap.size) (h63 : n + m ≤ maxLen) (hbytes : (n + m) * by_ ≤ 140737488355328)
  (h : ∀ a' cap w', OwI k E base w' a' (n + m) cap (xs ++ ys) → Below base w w' → wpList P ops Q rest (a.put o.dst (.slice a' (n + m) cap)) w') :
  wpList P ops Q (o :: rest) a w := by
 rcases Nat.eq_zero_or_pos m with hm | hm
 ·subst hm
  have hys : ys = [] := List.eq_nil_of_length_eq_zero ht.hlen
  subst hys
  simp only [List.append_nil, Nat.add_zero] at h
  obtain ⟨hT, hI⟩ := hE
  obtain ⟨i, hi, hz, hsz, hby⟩ := info_parts hI
  rcases ta with _ | ad
  ·refine wpList_plain hgd fun K hK => ?_
   have hrun := run_append_none (P := P) (w := w) base T o.type E i 1 hT hi _ n _ hown tc
   unfold Oper.wp
   simp [execOp, ho, resolve, invoke, builtin, hs, hx, hrun, Result.andThen]
   exact hK _ _ (h sa c w hown (Below.refl _ _))
  ·obtain ⟨v', w', hr, h2, h3, _, h5⟩ := run_append_own_at (P := P) w base T o.type E i (.int k 0) 1 by_ hT hi hz hsz hby rfl (by decide) _ n _ hown ad 0 tc [] rfl (by simp) (by simp) (by simpa using h63) (by simpa using hbytes) hbase
   have hv : ∃ a' cap, v' = .slice a' n cap := by
    rcases h2.2 with ⟨hv, h0⟩ | ⟨g, cap, cur, hv, _⟩
    ·exact ⟨none, 0, by rw [hv, show n = 0 from by omega]⟩
    ·exact ⟨_, cap, by simpa using hv⟩
   obtain ⟨a', cap, rfl⟩ := hv
   refine wpList_plain hgd fun K hK => ?_
   unfold Oper.wp
   simp only [execOp, ho, resolve, invoke, builtin, Sem.run_bind, Sem.run_pure, Result.andThen_ok, List.map_toArray, List.map_cons, List.map_nil, hs, hx, hr]
   refine hK _ _ (h a' cap w' ?_ (below_grown hown hbase h3))
   unfold OwI
   simpa using h2
 ·exact appS hE hgd s x ho w base sa n c xs hs hown ta m tc ys hx ht hm hbase h63 hbytes fun g cap w' h1 h2 => h _ cap w' h1 h2
open Go.RowKit Go.Sort
section
variable {P : Program} {ops : Array Oper} {md : Region.Mode} {C : World → Prop}
def wpAnyLQ (P : Program) (md : Region.Mode) (ops : Array Oper) (C : World → Prop) (n : Nat) (L : Array Bool → Act → Prop) : Nat → Array Bool → Act → Prop
 | 0, listed, a => L listed a
 | f + 1, listed, a => Region.ready md ops listed ≠ [] ∧ ∀ i ∈ Region.ready md ops listed, i < n ∧ qOp P ops C i (wpAnyLQ P md ops C n L f (listed.setIfInBounds i true)) a
theorem wpAny_of_headQ {n g : Nat} {L : Array Bool → Act → Prop} {Q' : Exit → Act → World → Prop} (hL : ∀ listed a w, C w → L listed a → wpAny P md ops Q' g listed a w) :
  ∀ (f : Nat) (listed : Array Bool) (a : Act) (w : World), C w → wpAnyLQ P md ops C n L f listed a → wpAny P md ops Q' (f + g) listed a w
 | 0, listed, a, w, hw, h => by rw [Nat.zero_add]; exact hL _ _ _ hw h
 | f + 1, listed, a, w, hw, h => by
  rw [show f + 1 + g = (f + g) + 1 by omega]
  exact ⟨fun h0 => absurd h0 h.1, fun i hi => wpOp_of_qOp hw (fun a' w' hw' h' => wpAny_of_headQ hL f _ a' w' hw' h') (h.2 i hi).2⟩
theorem wpAnyLQ_first {n i : Nat} {oi : Oper} {v : Value} {L : Array Bool → Act → Prop} (hi : ops[i]? = some oi) (hsel : ∀ (j : Nat) (o : Oper) cs b, ops[j]? = some o → o.op ≠ .select cs b)
  (hs : Region.sinkB md ops n = true) (hc : Region.chainB md ops n = true) (hn : n < ops.size) (hin : i < n)
  (hdone : ∀ listed a, L listed a → ∀ j ∈ Region.ready md ops listed, n ≤ j) :
  ∀ (f : Nat) (listed : Array Bool) (a : Act), HeadInv md ops n listed →
   (∀ j oj, ops[j]? = some oj → j ≠ i → listed.getD j true = false → (∀ e ∈ oj.after, Region.binds md e = true → e.on ≠ i) → oi.apart ops oj = true) →
   i ∈ Region.ready md ops listed → YieldsIn P ops C oi v a →
   wpAnyLQ P md ops C n L f (listed.setIfInBounds i true) (a.put oi.dst v) → wpAnyLQ P md ops C n L (f + 1) listed a := by
 intro f
 induction f with
 | zero =>
  intro listed a inv _ hr hy H
  have hun := (mem_ready.1 hr).1
  refine ⟨fun h => (by rw [h] at hr; cases hr), fun j hj => ?_⟩
  have hjn : j < n := by
   rcases Nat.lt_or_ge j n with h | h
   ·exact h
   ·exact absurd hj (tail_waits hs hc hn inv _ i rfl hin hun j h)
  refine ⟨hjn, ?_⟩
  by_cases hji : j = i
  ·subst hji; exact hy.qOp hi H
  ·have := hdone _ _ H j (ready_mono hj hji)
   omega
 | succ f ih =>
  intro listed a inv hfree hr hy H
  have hun := (mem_ready.1 hr).1
  refine ⟨fun h => (by rw [h] at hr; cases hr), fun j hj => ?_⟩
  have hjn : j < n := by
   rcases Nat.lt_or_ge j n with h | h
   ·exact h
   ·exact absurd hj (tail_waits hs hc hn inv _ i rfl hin hun j h)
  refine ⟨hjn, ?_⟩
  by_cases hji : j = i
  ·subst hji; exact hy.qOp hi H
  ·have h1 := (H.2 j (ready_mono hj hji)).2
   obtain ⟨hjun, oj, hoj, hall⟩ := mem_ready.1 hj
   have hnot : ∀ e ∈ oj.after, Region.binds md e = true → e.on ≠ i := fun e he hb heq => by
    have h1 := hall e he hb
    rw [heq, getD_both hun] at h1
    cases h1
   have h2 := qOp_put hoj (hfree j oj hoj hji hjun hnot) (fun cs b => hsel i oi cs b hi) (fun cs b => hsel j oj cs b hoj) hy h1
   have hfree' : ∀ k ok, ops[k]? = some ok → k ≠ i → (listed.setIfInBounds j true).getD k true = false →
     (∀ e ∈ ok.after, Region.binds md e = true → e.on ≠ i) → oi.apart ops ok = true := fun k ok hk hki hun hno => by
    refine hfree k ok hk hki ?_ hno
    by_cases hjk : j = k
    ·subst hjk; exact hjun
    ·rw [getD_set_ne true hjk] at hun; exact hun
   refine qOp_mono (fun a' h3 => ih (listed.setIfInBounds j true) a' (inv.set hj hjn) hfree' (ready_mono hr (Ne.symm hji)) h3.1 ?_) h2
   rw [Array.setIfInBounds_comm _ _ hji]
   exact h3.2
theorem wpAnyLQ_lex {n g : Nat} {Lq : Act → Prop} (hsel : Region.noSelect ops = true) (hs : Region.sinkB md ops n = true) (hc : Region.chainB md ops n = true) (hn : n < ops.size) :
  ∀ (l : List Oper) (k : Nat) (listed : Array Bool) (a : Act), (∀ j, j < l.length → l[j]? = ops[k + j]?) → k + l.length = n → HeadInv md ops n listed →
  Region.lexHead md ops g l.length k listed = true → wpQuiet P ops C Lq l a →
  wpAnyLQ P md ops C n (fun listed' a' => Region.seqB md ops g n listed' = true ∧ Lq a') l.length listed a
 | [], k, listed, a, _, hk, _, hB, h => by
  have : k = n := by simpa using hk
  subst this
  exact ⟨by simpa [Region.lexHead] using hB, h⟩
 | o :: l, k, listed, a, hl, hk, inv, hB, h => by
  have h0 : ops[k]? = some o := by simpa using (hl 0 (by simp)).symm
  simp only [List.length_cons, Region.lexHead, Bool.and_eq_true] at hB
  obtain ⟨⟨hr, hf⟩, hB'⟩ := hB
  have hkn : k < n := by simp only [List.length_cons] at hk; omega
  have hr' : k ∈ Region.ready md ops listed := by simpa using hr
  have hst : qOp P ops C k (wpQuiet P ops C Lq l) a := by unfold qOp; simp only [h0]; exact h
  obtain ⟨v, hy, hK⟩ := yieldsIn_of_qOp h0 hst
  exact wpAnyLQ_first h0 (Region.noSelect_spec hsel) hs hc hn hkn (fun listed' a' hL => seqB_ready hL.1) l.length listed a inv (Region.free_spec h0 hf) hr' hy
   (wpAnyLQ_lex hsel hs hc hn l (k + 1) _ _ (fun j hj => by have := hl (j + 1) (by simp; omega); simpa [Nat.add_assoc, Nat.add_comm 1 j] using this) (by simp only [List.length_cons] at hk; omega) (inv.set hr' hkn) hB' hK)
theorem wp_region_quiet_tail {id : Nat} {Q : Exit → Act → World → Prop} {a : Act} {w : World} {l : List Oper} (n : Nat) (hm : P.follows .mixedOrders = true) (hB : Region.lexTailB .any l.toArray n = true)
  (hC : C { w with drawn := w.drawn + 1 }) (h : wpQuiet P l.toArray C (fun a' => ∀ w', C w' → wpList P l.toArray Q (l.drop n) a' w') (l.take n) a) : (Code.region id l.toArray true).wp P Q a w := by
 simp only [Region.lexTailB, Bool.and_eq_true, decide_eq_true_eq] at hB
 obtain ⟨⟨⟨⟨hsel, hn⟩, hs⟩, hc⟩, hlex⟩ := hB
 have hn' : n < l.length := by simpa using hn
 have htl : (l.take n).length = n := by simp; omega
 have hdl : (l.drop n).length = l.toArray.size - n := by simp
 have inv0 : HeadInv .any l.toArray n (Array.replicate l.toArray.size false) :=
  ⟨by simp, fun j oj _ hl => (by rw [getD_replicate_false] at hl; cases hl), fun t _ ht => getD_in (by simpa using ht) (getD_replicate_false _ _)⟩
 have H := wpAnyLQ_lex (md := .any) (g := l.toArray.size - n) hsel hs hc hn (l.take n) 0 _ a (fun j hj => by
  have hj' : j < n := by rw [htl] at hj; exact hj
  simp [hj']) (by simpa using htl) inv0 (by rw [htl]; exact hlex) h
 refine wp_region_any hm ?_
 have := wpAny_of_headQ (Q' := Q) (g := l.toArray.size - n) (fun listed a' w' hw hL => by
  have := wpAny_of_seq (md := .any) (Q' := Q) (l.drop n) n listed a' w' (fun j => by simp [List.getElem?_drop]) (by rw [hdl]; exact hL.1) (hL.2 w' hw)
  rwa [hdl] at this) _ _ _ _ hC H
 rw [htl, show n + (l.toArray.size - n) = l.toArray.size by omega] at this
 exact this
end
theorem region_tail {P : Program} {id : Nat} {Q : Exit → Act → World → Prop} {a : Act} {w : World} {l : List Oper} (n : Nat) (hm : P.follows .mixedOrders = true) (hB : Region.lexTailB .any l.toArray n = true)
  (h : wpQuiet P l.toArray (fun w' => ∃ p : Regrown, w' = grow (redrawn w p.d) p.os) (fun a' => ∀ w', Ext w w' → wpList P l.toArray Q (l.drop n) a' w') (l.take n) a) : (Code.region id l.toArray true).wp P Q a w := by
 refine wp_region_quiet_tail (C := fun w' => ∃ p : Regrown, w' = grow (redrawn w p.d) p.os) n hm hB ⟨⟨w.drawn + 1, #[]⟩, by rw [grow_empty]; rfl⟩ ?_
 have key : ∀ (l' : List Oper) (a : Act), wpQuiet P l.toArray (fun w' => ∃ p : Regrown, w' = grow (redrawn w p.d) p.os) (fun a' => ∀ w', Ext w w' → wpList P l.toArray Q (l.drop n) a' w') l' a →
   wpQuiet P l.toArray (fun w' => ∃ p : Regrown, w' = grow (redrawn w p.d) p.os) (fun a' => ∀ w', (∃ p : Regrown, w' = grow (redrawn w p.d) p.os) → wpList P l.toArray Q (l.drop n) a' w') l' a := by
  intro l'
  induction l' with
  | nil => exact fun a h w' ⟨p, hp⟩ => h w' (by rw [hp]; exact below_regrown w p.d p.os)
  | cons o rest ih =>
   intro a h
   unfold wpQuiet at h ⊢
   split
   ·rename_i hw
    rw [if_pos hw] at h
    obtain ⟨v, h1, h2⟩ := h
    exact ⟨v, h1, ih _ h2⟩
   ·rename_i hw
    rw [if_neg hw] at h
    exact ih _ h
 exact key _ a h
open Go.RowKit Go.Sort
theorem Ext.rules {W w1 : World} (hb : Ext W w1) : (∀ b o, b < W.heap.size → w1.cell? ⟨b, o, none⟩ = W.cell? ⟨b, o, none⟩) ∧ (∀ b o, b < W.heap.size → w1.frozen? ⟨b, o, none⟩ = W.frozen? ⟨b, o, none⟩) :=
 ⟨fun b o h => Below.cell hb (p := ⟨b, o, none⟩) h, fun b o h => Below.frozen hb (p := ⟨b, o, none⟩) h⟩
theorem grow_cell : ∀ (W : World) (b o d : Nat) (os : Array Obj), b < W.heap.size → (grow (redrawn W d) os).cell? ⟨b, o, none⟩ = W.cell? ⟨b, o, none⟩ :=
 fun W b o d os h => (ext_grow W d os).rules.1 b o h
open Go.RowKit Go.Sort
section
variable {P : Program} {ops : Array Oper} {md : Region.Mode} {w : World}
def calmUpon (P : Program) (W : World) (v : Value) : Result Next → Prop
 | .ok (.value u) w' => w' = W ∧ u = v
 | .ok .skip w' => w' = W ∧ v = undef
 | .ok (.enter f args) w' => w' = W ∧ Calls P f args W (fun e w'' => e = .returned v ∧ Ext W w'')
 | _ => False
def calmAt (P : Program) (o : Oper) (a : Act) (w : World) (v : Value) : Prop := ∀ W, Ext w W → calmUpon P W v ((execOp a.eval o).run P W)
def calm (P : Program) (o : Oper) (a : Act) (w : World) (K : Act → Prop) : Prop := ∃ v, calmAt P o a w v ∧ K (a.put o.dst v)
def wpCalm (P : Program) (ops : Array Oper) (w : World) (Q : Act → Prop) : List Oper → Act → Prop
 | [], a => Q a
 | o :: rest, a => if Region.wanted o (yielded ops a.tmps) then calm P o a w (wpCalm P ops w Q rest) else wpCalm P ops w Q rest (a.put o.dst undef)
def cOp (P : Program) (ops : Array Oper) (w : World) (i : Nat) (K : Act → Prop) (a : Act) : Prop :=
 match ops[i]? with
 | none => K a
 | some o => if Region.wanted o (yielded ops a.tmps) then calm P o a w K else K (a.put o.dst undef)
theorem wpQuiet_stays {C : World → Prop} {a' : Act} {d : Nat} : ∀ (l : List Oper) (a : Act), (∀ o ∈ l, o.dst ≠ some d) → wpQuiet P ops C (· = a') l a → a'.tmps[d]? = a.tmps[d]?
 | [], a, _, h => by have : a = a' := h; rw [this]
 | o :: rest, a, hd, h => by
  have h0 := hd o (by simp)
  have key : ∀ v, wpQuiet P ops C (· = a') rest (a.put o.dst v) → a'.tmps[d]? = a.tmps[d]? := fun v hv => by
   rw [wpQuiet_stays rest _ (fun o' ho' => hd o' (by simp [ho'])) hv]
   rcases hdst : o.dst with _ | x
   ·rfl
   ·have hx : x ≠ d := fun e => h0 (by rw [hdst, e])
    simp [Act.put, Array.getElem?_setIfInBounds, hx]
  unfold wpQuiet at h
  split at h
  ·obtain ⟨v, _, h2⟩ := h; exact key v h2
  ·exact key _ h
def ownSlots (m : Nat) : List Oper → Bool
 | [] => true
 | o :: rest => (match o.dst with | some d => decide (d < m) && rest.all (fun o' => o'.dst != some d) | none => false) && ownSlots m rest
theorem put_size (a : Act) (d : Option Nat) (v : Value) : (a.put d v).tmps.size = a.tmps.size := by
 cases d <;> simp [Act.put]
theorem calm_of_quiet {a' : Act} : ∀ (l : List Oper) (a : Act), ownSlots a.tmps.size l = true →
    (∀ W0, Ext w W0 → wpQuiet P ops (fun w' => ∃ p : Regrown, w' = grow (redrawn W0 p.d) p.os) (· = a') l a) → wpCalm P ops w (· = a') l a
  | [], a, _, h => h w (Ext.refl w)
  | o :: rest, a, ho, h => by
    unfold ownSlots at ho
    rw [Bool.and_eq_true] at ho
    obtain ⟨ho1, ho2⟩ := ho
    rcases hdst : o.dst with _ | d
    · rw [hdst] at ho1; simp at ho1
    rw [hdst] at ho1
    simp only [Bool.and_eq_true, decide_eq_true_eq, List.all_eq_true, bne_iff_ne, ne_eq] at ho1
    obtain ⟨hd, hne⟩ := ho1
    have hval : ∀ (C : World → Prop) (v : Value), wpQuiet P ops C (· = a') rest (a.put o.dst v) → a'.tmps[d]? = some v := fun C v hv => by
      rw [wpQuiet_stays rest _ (fun o' ho' e => hne o' ho' e) hv, hdst]
      simp [Act.put, Array.getElem?_setIfInBounds, hd]
    by_cases hw : Region.wanted o (yielded ops a.tmps) = true
    · have h1 : ∀ W0, Ext w W0 → ∃ v, (∀ W, (∃ p : Regrown, W = grow (redrawn W0 p.d) p.os) → o.quietAt P a (fun w' => ∃ p : Regrown, w' = grow (redrawn W0 p.d) p.os) W v) ∧
          wpQuiet P ops (fun w' => ∃ p : Regrown, w' = grow (redrawn W0 p.d) p.os) (· = a') rest (a.put o.dst v) := fun W0 hW0 => by
        have := h W0 hW0
        unfold wpQuiet at this
        rw [if_pos hw] at this
        exact this
      obtain ⟨v, _, hv2⟩ := h1 w (Ext.refl w)
      have hv := hval _ v hv2
      have same : ∀ W0, Ext w W0 → (∀ W, (∃ p : Regrown, W = grow (redrawn W0 p.d) p.os) → o.quietAt P a (fun w' => ∃ p : Regrown, w' = grow (redrawn W0 p.d) p.os) W v) ∧
          wpQuiet P ops (fun w' => ∃ p : Regrown, w' = grow (redrawn W0 p.d) p.os) (· = a') rest (a.put o.dst v) := fun W0 hW0 => by
        obtain ⟨v', k1, k2⟩ := h1 W0 hW0
        have := hval _ v' k2
        rw [hv] at this
        obtain rfl := Option.some.inj this
        exact ⟨k1, k2⟩
      unfold wpCalm
      rw [if_pos hw]
      refine ⟨v, fun W hW => ?_, calm_of_quiet rest _ (by rw [put_size]; exact ho2) fun W0 hW0 => (same W0 hW0).2⟩
      have h5 := (same W hW).1 W ⟨⟨W.drawn, #[]⟩, by rw [grow_empty]; rfl⟩
      unfold Oper.quietAt at h5
      generalize (execOp a.eval o).run P W = r at *
      cases r with
      | ok n w' =>
        cases n <;> simp only [Oper.quietUpon] at h5 <;> simp only [calmUpon]
        case value u => exact h5
        case skip => exact h5
        case enter f args => exact ⟨h5.1, h5.2.mono fun e w'' ⟨he, p, hp⟩ => ⟨he, by rw [hp]; exact ext_grow W p.d p.os⟩⟩
      | halt x w' => simp only [Oper.quietUpon] at h5
    · unfold wpCalm
      rw [if_neg hw]
      refine calm_of_quiet rest _ (by rw [put_size]; exact ho2) fun W0 hW0 => ?_
      have := h W0 hW0
      unfold wpQuiet at this
      rw [if_neg hw] at this
      exact this
theorem cell_of_block {W : World} {b : Nat} {zs : Array Value} {T : TypeId} (h : W.heap[b]? = some (.cells zs T (0, 0))) (j : Nat) (v : Value) (hv : zs[j]? = some v) : W.cell? ⟨b, j, none⟩ = some v := by
 rw [cell_of_row W b j _ _ _ h]; exact hv
theorem free_of_block {W : World} {b : Nat} {zs : Array Value} {T : TypeId} (h : W.heap[b]? = some (.cells zs T (0, 0))) : ∀ j, W.frozen? ⟨b, j, none⟩ = false := fun j => frozen_of_row W b j _ _ h
theorem lt_of_block {W : World} {b : Nat} {o : Obj} (h : W.heap[b]? = some o) : b < W.heap.size := (Array.getElem?_eq_some_iff.1 h).1
end
open Go.RowKit Go.Sort
section
variable {P : Program} {ops : Array Oper} {md : Region.Mode} {w : World}
end
open Go.RowKit Go.Sort
structure Rel (S : World → World → Prop) where
 r : Value → World → Prop
 stab : ∀ v W W', r v W → S W W' → r v W'
def Rel.one {S : World → World → Prop} (v : Value) : Rel S := ⟨fun u _ => u = v, fun _ _ _ h _ => h⟩
def Rel.blk (zs : Array Value) (T : TypeId) (mk : Nat → Value) : Rel Ext := ⟨fun v W => ∃ b, v = mk b ∧ W.heap[b]? = some (.cells zs T (0, 0)), fun v W W' ⟨b, h1, h2⟩ hE => ⟨b, h1, (hE.block b (Array.getElem?_eq_some_iff.1 h2).1).trans h2⟩⟩
def putAll (a : Act) : List (Option Tmp) → List Value → Act
 | d :: ds, v :: vs => putAll (a.put d v) ds vs
 | _, _ => a
def slotOf (a : Act) : Option Tmp → Value
 | some d => a.tmps.getD d undef
 | none => undef
def atR {S : World → World → Prop} (R : List (Rel S)) (vs : List Value) (W : World) (i : Nat) : Prop :=
 match R[i]?, vs[i]? with
 | some r, some v => r.r v W
 | _, _ => True
def factsR {S : World → World → Prop} (R : List (Rel S)) (vs : List Value) (W : World) : List Nat → Prop
 | [] => True
 | d :: ds => atR R vs W d ∧ factsR R vs W ds
def oldsR (a : Act) (dsts : List (Option Tmp)) (vs : List Value) : List Nat → Prop
 | [] => True
 | i :: is => (match dsts[i]?, vs[i]? with
  | some d, some v => v = slotOf a d
  | _, _ => True) ∧ oldsR a dsts vs is
theorem factsR_of {S : World → World → Prop} {R : List (Rel S)} {vs : List Value} {W : World} : ∀ {ds : List Nat}, (∀ d ∈ ds, atR R vs W d) → factsR R vs W ds
 | [], _ => trivial
 | d :: ds, h => ⟨h d (by simp), factsR_of fun e he => h e (by simp [he])⟩
theorem oldsR_of {a : Act} {dsts : List (Option Tmp)} {vs : List Value} : ∀ {is : List Nat}, (∀ i ∈ is, ∀ d v, dsts[i]? = some d → vs[i]? = some v → v = slotOf a d) → oldsR a dsts vs is
 | [], _ => trivial
 | i :: is, h => ⟨by split; exact h i (by simp) _ _ (by assumption) (by assumption); trivial, oldsR_of fun e he => h e (by simp [he])⟩
def relyQ {S : World → World → Prop} (Q : Exit → Act → World → Prop) (I : World → Prop) (a : Act) (d : Option Tmp) (r : Rel S) (W : World) : Exit → Act → World → Prop
 | .normal, a', W' => ∃ v, a' = a.put d v ∧ r.r v W' ∧ S W W' ∧ I W'
 | e, a', W' => Q e a' W'
theorem rely_done {S : World → World → Prop} {Q : Exit → Act → World → Prop} {I : World → Prop} {a : Act} {d : Option Tmp} {r : Rel S} {W : World} {a' : Act} {W' : World} (v : Value) (h1 : a' = a.put d v) (h2 : r.r v W') (h3 : S W W') (h4 : I W') : relyQ Q I a d r W .normal a' W' :=
 ⟨v, h1, h2, h3, h4⟩
def stepsR {S : World → World → Prop} (P : Program) (Q : Exit → Act → World → Prop) (I : World → Prop) (a : Act) (ops : Array Oper) (n : Nat) (dsts : List (Option Tmp)) (R : List (Rel S)) : List Oper → List (Option Tmp) → List (Rel S) → List (List Nat) → List (List Nat) → Prop
 | o :: l, d :: ds, r :: rs, dep :: deps, old :: olds =>
  (∀ vs W, vs.length = n → I W → factsR R vs W dep → oldsR a dsts vs old → wpList P ops (relyQ Q I (putAll a dsts vs) d r W) [o] (putAll a dsts vs) W) ∧ stepsR P Q I a ops n dsts R l ds rs deps olds
 | [], [], [], [], [] => True
 | _, _, _, _, _ => False
theorem stepsR_cons {S : World → World → Prop} {P : Program} {Q : Exit → Act → World → Prop} {I : World → Prop} {a : Act} {ops : Array Oper} {n : Nat} {dsts : List (Option Tmp)} {R : List (Rel S)} {o : Oper} {l : List Oper} {d : Option Tmp} {ds : List (Option Tmp)} {r : Rel S} {rs : List (Rel S)} {dep : List Nat} {deps : List (List Nat)} {old : List Nat} {olds : List (List Nat)}
  (h1 : ∀ vs W, vs.length = n → I W → factsR R vs W dep → oldsR a dsts vs old → wpList P ops (relyQ Q I (putAll a dsts vs) d r W) [o] (putAll a dsts vs) W) (h2 : stepsR P Q I a ops n dsts R l ds rs deps olds) :
  stepsR P Q I a ops n dsts R (o :: l) (d :: ds) (r :: rs) (dep :: deps) (old :: olds) := ⟨h1, h2⟩
theorem stepsR_at {S : World → World → Prop} {P : Program} {Q : Exit → Act → World → Prop} {I : World → Prop} {a : Act} {ops : Array Oper} {n : Nat} {dsts : List (Option Tmp)} {R : List (Rel S)} :
  ∀ {l : List Oper} {ds : List (Option Tmp)} {rs : List (Rel S)} {deps olds : List (List Nat)}, stepsR P Q I a ops n dsts R l ds rs deps olds → ∀ (i : Nat) (o : Oper), l[i]? = some o →
   ∃ d r, ds[i]? = some d ∧ rs[i]? = some r ∧ ∀ vs W, vs.length = n → I W → factsR R vs W (deps.getD i []) → oldsR a dsts vs (olds.getD i []) → wpList P ops (relyQ Q I (putAll a dsts vs) d r W) [o] (putAll a dsts vs) W
 | o :: l, d :: ds, r :: rs, dep :: deps, old :: olds, h, 0, o', ho => by
  obtain rfl : o = o' := by simpa using ho
  exact ⟨d, r, rfl, rfl, by simpa using h.1⟩
 | o :: l, d :: ds, r :: rs, dep :: deps, old :: olds, h, i + 1, o', ho => by
  obtain ⟨d', r', h1, h2, h3⟩ := stepsR_at h.2 i o' (by simpa using ho)
  exact ⟨d', r', by simpa using h1, by simpa using h2, by simpa using h3⟩
 | [], [], [], [], [], _, i, o', ho => by simp at ho
def distinctB : List (Option Tmp) → Bool
 | [] => true
 | none :: ds => distinctB ds
 | some d :: ds => !ds.contains (some d) && distinctB ds
def relyB (ops : Array Oper) (dsts : List (Option Tmp)) (deps olds : List (List Nat)) : Bool :=
 (List.range ops.size).all (fun i => match ops[i]? with
  | none => false
  | some o => o.after.all (fun e => !Region.binds .any e || decide (e.on < i)) &&
   (deps.getD i []).all (fun j => o.after.any fun e => Region.binds .any e && (e.on == j || (deps.getD e.on []).contains j)) &&
   (olds.getD i []).all (fun j => (deps.getD j []).contains i)) &&
 decide (ops.toList.map (·.dst) = dsts) && distinctB dsts
theorem put_slot (a : Act) (d : Option Tmp) : a.put d (slotOf a d) = a := by
 cases d with
 | none => rfl
 | some d =>
  show { a with tmps := a.tmps.setIfInBounds d (a.tmps.getD d undef) } = a
  have : a.tmps.setIfInBounds d (a.tmps.getD d undef) = a.tmps := by
   apply Array.ext
   ·simp
   ·intro i h1 h2
    by_cases hi : d = i
    ·subst hi; simp [h2]
    ·rw [Array.getElem_setIfInBounds_ne (by simpa using h1) hi]
  rw [this]
theorem putAll_orig (a : Act) : ∀ (ds : List (Option Tmp)), putAll a ds (ds.map (slotOf a)) = a
 | [] => rfl
 | d :: ds => by
  show putAll (a.put d (slotOf a d)) ds (ds.map (slotOf a)) = a
  rw [put_slot]
  exact putAll_orig a ds
theorem put_put (a : Act) (d : Option Tmp) (v u : Value) : (a.put d v).put d u = a.put d u := by
 cases d with
 | none => rfl
 | some d => simp [Act.put]
theorem putAll_comm (a : Act) (d : Option Tmp) (v : Value) : ∀ (ds : List (Option Tmp)) (vs : List Value), (∀ e, d = some e → some e ∉ ds) → (putAll a ds vs).put d v = putAll (a.put d v) ds vs
 | [], _, _ => rfl
 | _ :: _, [], _ => rfl
 | e :: ds, u :: vs, h => by
  show (putAll (a.put e u) ds vs).put d v = putAll ((a.put d v).put e u) ds vs
  rw [putAll_comm (a.put e u) d v ds vs (fun x hx hm => h x hx (by simp [hm])), Act.put_comm a v u (fun x hx he => h x hx (by simp [he]))]
theorem putAll_put : ∀ (a : Act) (ds : List (Option Tmp)) (vs : List Value) (i : Nat) (d : Option Tmp) (v : Value), distinctB ds = true → vs.length = ds.length → ds[i]? = some d →
  (putAll a ds vs).put d v = putAll a ds (vs.set i v)
 | a, [], vs, i, d, v, _, _, h => by simp at h
 | a, e :: ds, [], i, d, v, _, hl, h => by simp at hl
 | a, e :: ds, u :: vs, 0, d, v, hd, hl, h => by
  obtain rfl : e = d := by simpa using h
  show (putAll (a.put e u) ds vs).put e v = putAll (a.put e v) ds vs
  rw [putAll_comm (a.put e u) e v ds vs (fun x hx hm => by subst hx; simp [distinctB, hm] at hd), put_put]
 | a, e :: ds, u :: vs, i + 1, d, v, hd, hl, h => by
  show (putAll (a.put e u) ds vs).put d v = putAll (a.put e u) ds (vs.set i v)
  refine putAll_put (a.put e u) ds vs i d v ?_ (by simpa using hl) (by simpa using h)
  cases e with
  | none => exact hd
  | some e => simp only [distinctB, Bool.and_eq_true] at hd; exact hd.2
structure RelyInv {S : World → World → Prop} (I : World → Prop) (a0 : Act) (ops : Array Oper) (dsts : List (Option Tmp)) (R : List (Rel S)) (deps : List (List Nat)) (listed : Array Bool) (a : Act) (W : World) (vs : List Value) : Prop where
 size : listed.size = ops.size
 inv : I W
 len : vs.length = dsts.length
 act : a = putAll a0 dsts vs
 done : ∀ i, listed.getD i false = true → atR R vs W i
 orig : ∀ i d v, listed.getD i true = false → dsts[i]? = some d → vs[i]? = some v → v = slotOf a0 d
 dep : ∀ i, listed.getD i false = true → ∀ j ∈ deps.getD i [], listed.getD j false = true
theorem all_listed {ops : Array Oper} {dsts : List (Option Tmp)} {deps olds : List (List Nat)} (hB : relyB ops dsts deps olds = true) {listed : Array Bool} (hs : listed.size = ops.size) (hr : Region.ready .any ops listed = []) : ∀ i, i < ops.size → listed.getD i false = true := by
 intro i
 induction i using Nat.strongRecOn with
 | _ i ih =>
  intro hi
  cases h : listed.getD i false with
  | true => rfl
  | false =>
   exfalso
   have : i ∈ Region.ready .any ops listed := by
    refine mem_ready.2 ⟨getD_in (by omega) h, ops[i], by simp [hi], fun e he hb => ?_⟩
    simp only [relyB, Bool.and_eq_true, List.all_eq_true, List.mem_range] at hB
    have h1 := hB.1.1 i hi
    rw [Array.getElem?_eq_getElem hi] at h1
    simp only [Bool.and_eq_true] at h1
    have h2 := Array.all_eq_true'.1 h1.1.1 e he
    simp only [hb, Bool.not_true, Bool.false_or, decide_eq_true_eq] at h2
    exact ih _ h2 (by omega)
   rw [hr] at this
   cases this
theorem count_set {listed : Array Bool} {i : Nat} (h : listed.getD i true = false) : (listed.setIfInBounds i true).toList.count false + 1 = listed.toList.count false := by
 obtain ⟨l⟩ := listed
 have key : ∀ (l : List Bool) (i : Nat), l[i]? = some false → (l.set i true).count false + 1 = l.count false := by
  intro l
  induction l with
  | nil => intro i h; simp at h
  | cons x l ih =>
   intro i h
   cases i with
   | zero =>
    obtain rfl : x = false := by simpa using h
    simp
   | succ i =>
    have := ih i (by simpa using h)
    cases x <;> simp [List.count_cons] <;> omega
 have h1 : l[i]? = some false := by
  rcases Nat.lt_or_ge i l.length with hi | hi
  ·simp [hi] at h ⊢; exact h
  ·simp [List.getElem?_eq_none hi] at h
 simpa using key l i h1
theorem wpAny_rely {S : World → World → Prop} {P : Program} {Q : Exit → Act → World → Prop} {I : World → Prop} {a0 : Act} {l : List Oper} {dsts : List (Option Tmp)} {R : List (Rel S)} {deps olds : List (List Nat)}
  (hB : relyB l.toArray dsts deps olds = true) (hstep : stepsR P Q I a0 l.toArray dsts.length dsts R l dsts R deps olds)
  (hend : ∀ vs W, vs.length = dsts.length → I W → (∀ i, i < l.length → atR R vs W i) → Q .normal (putAll a0 dsts vs) W) :
  ∀ (fuel : Nat) (listed : Array Bool) (a : Act) (W : World) (vs : List Value), listed.toList.count false = fuel → RelyInv I a0 l.toArray dsts R deps listed a W vs → wpAny P .any l.toArray Q fuel listed a W := by
 have fin : ∀ (listed : Array Bool) (a : Act) (W : World) (vs : List Value), RelyInv I a0 l.toArray dsts R deps listed a W vs → Region.ready .any l.toArray listed = [] → Q .normal a W := by
  intro listed a W vs inv hr
  rw [inv.act]
  exact hend vs W inv.len inv.inv fun i hi => inv.done i (all_listed hB inv.size hr i (by simpa using hi))
 intro fuel
 induction fuel with
 | zero =>
  intro listed a W vs hc inv
  have hr : Region.ready .any l.toArray listed = [] := by
   apply List.eq_nil_iff_forall_not_mem.2
   intro i hi
   have := count_set (mem_ready.1 hi).1
   omega
  exact ⟨hr, fin listed a W vs inv hr⟩
 | succ fuel ih =>
  intro listed a W vs hc inv
  refine ⟨fin listed a W vs inv, fun i hi => ?_⟩
  obtain ⟨hun, o, ho, hall⟩ := mem_ready.1 hi
  have hil : i < l.length := by have := (Array.getElem?_eq_some_iff.1 ho).1; simpa using this
  have ho' : l[i]? = some o := by simpa using ho
  obtain ⟨d, r, hd, hr, hst⟩ := stepsR_at hstep i o ho'
  have hB' := hB
  simp only [relyB, Bool.and_eq_true, List.all_eq_true, List.mem_range, decide_eq_true_eq] at hB'
  obtain ⟨⟨hB1, hB2⟩, hB3⟩ := hB'
  have hB4 := hB1 i (by simpa using hil)
  rw [ho] at hB4
  simp only [Bool.and_eq_true, List.all_eq_true] at hB4
  obtain ⟨⟨_, hdep⟩, hold⟩ := hB4
  have hdst : o.dst = d := by
   have : (l.map (·.dst))[i]? = some d := by rw [show l.map (·.dst) = dsts from by simpa using hB2]; exact hd
   simpa [ho'] using this
  have hdepl : ∀ j ∈ deps.getD i [], listed.getD j false = true := by
   intro j hj
   obtain ⟨e, he, hb⟩ := Array.any_eq_true'.1 (hdep j hj)
   simp only [Bool.and_eq_true, Bool.or_eq_true, beq_iff_eq] at hb
   have h1 := hall e he hb.1
   rcases hb.2 with h2 | h2
   ·rw [← h2]; exact h1
   ·exact inv.dep _ h1 j (by simpa using h2)
  have hw := hst vs W inv.len inv.inv (factsR_of fun j hj => inv.done j (hdepl j hj)) (oldsR_of fun j hj d' v h1 h2 => by
   have h3 : i ∈ deps.getD j [] := by simpa using hold j hj
   refine inv.orig j d' v ?_ h1 h2
   cases hlj : listed.getD j false with
   | true =>
    have := inv.dep j hlj i h3
    rw [getD_both hun] at this
    cases this
   | false =>
    refine getD_in ?_ hlj
    have h4 : j < dsts.length := (List.getElem?_eq_some_iff.1 h1).1
    have h5 : dsts.length = l.length := by rw [← hB2]; simp
    rw [inv.size]; simp; omega)
  rw [← inv.act] at hw
  have key : ∀ a' W', relyQ Q I a d r W .normal a' W' → wpAny P .any l.toArray Q fuel (listed.setIfInBounds i true) a' W' := by
   rintro a' W' ⟨v, h1, h2, h3, h4⟩
   have hvi : i < vs.length := by rw [inv.len]; exact (List.getElem?_eq_some_iff.1 hd).1
   refine ih _ a' W' (vs.set i v) (by have := count_set hun; omega) ⟨by simp [inv.size], h4, by simp [inv.len], ?_, fun k hk => ?_, fun k d' v' hk hd' hv' => ?_, fun k hk j hj => ?_⟩
   ·rw [h1, inv.act]
    exact putAll_put a0 dsts vs i d v hB3 inv.len hd
   ·by_cases hik : i = k
    ·subst hik
     unfold atR
     rw [hr, List.getElem?_set_self hvi]
     exact h2
    ·rw [getD_set_ne false hik] at hk
     have := inv.done k hk
     unfold atR at this ⊢
     rw [List.getElem?_set_ne hik]
     split
     ·rename_i r' u h5 h6
      rw [h5, h6] at this
      exact r'.stab u W W' this h3
     ·trivial
   ·by_cases hik : i = k
    ·subst hik
     have : (listed.setIfInBounds i true).getD i true = true := by
      rcases Nat.lt_or_ge i listed.size with h | h
      ·simp [h]
      ·simp [Array.getElem?_eq_none (show (listed.setIfInBounds i true).size ≤ i by simpa using h)]
     rw [this] at hk; cases hk
    ·rw [getD_set_ne true hik] at hk
     rw [List.getElem?_set_ne hik] at hv'
     exact inv.orig k d' v' hk hd' hv'
   ·by_cases hik : i = k
    ·subst hik
     exact getD_set_true (hdepl j hj)
    ·rw [getD_set_ne false hik] at hk
     exact getD_set_true (inv.dep k hk j hj)
  unfold wpOp
  simp only [ho]
  unfold wpList at hw
  split
  ·rename_i hwd
   rw [if_pos hwd] at hw
   rcases hw with hw | ⟨hw, hlo⟩
   ·left
    unfold Oper.wp at hw ⊢
    generalize (execOp a.eval o).run P W = res at *
    cases res with
    | ok n w' =>
     cases n <;> simp only [Oper.upon] at hw ⊢ <;>
      first
       | exact key _ _ hw
       | exact Calls.mono hw (fun e w'' he => by cases e <;> first | exact key _ _ he | exact he)
       | exact Rows.mono hw (fun _ _ he => key _ _ he)
    | halt x w' => cases x <;> simp only [Oper.upon] at hw ⊢ <;> exact hw
   ·right
    obtain ⟨a', w', hq⟩ := hlo
    exact ⟨hw, a', w', hq⟩
  ·rename_i hwd
   rw [if_neg hwd] at hw
   exact key _ _ hw
theorem len_cons {α : Type} {n : Nat} {vs : List α} (h : vs.length = n + 1) : ∃ x t, vs = x :: t ∧ t.length = n := by
 cases vs with
 | nil => simp at h
 | cons x t => exact ⟨x, t, rfl, by simpa using h⟩
theorem len_nil {α : Type} {vs : List α} (h : vs.length = 0) : vs = [] := List.length_eq_zero_iff.1 h
theorem region_rely {S : World → World → Prop} {P : Program} {id : Nat} {Q : Exit → Act → World → Prop} {a : Act} {w : World} {l : List Oper} (I : World → Prop) (dsts : List (Option Tmp)) (deps olds : List (List Nat)) (R : List (Rel S))
  (hm : P.follows .mixedOrders = true) (hB : relyB l.toArray dsts deps olds = true) (hI : I { w with drawn := w.drawn + 1 })
  (hstep : stepsR P Q I a l.toArray dsts.length dsts R l dsts R deps olds)
  (hend : ∀ vs W, vs.length = dsts.length → I W → factsR R vs W (List.range dsts.length) → Q .normal (putAll a dsts vs) W) : (Code.region id l.toArray true).wp P Q a w := by
 refine wp_region_any hm ?_
 have hB2 : l.map (·.dst) = dsts := by
  have := hB
  simp only [relyB, Bool.and_eq_true, decide_eq_true_eq] at this
  simpa using this.1.2
 have hlen : l.length = dsts.length := by rw [← hB2]; simp
 refine wpAny_rely (I := I) (a0 := a) (R := R) hB hstep (fun vs W h1 h2 h3 => hend vs W h1 h2 (factsR_of fun i hi => h3 i (by rw [hlen]; simpa using hi))) _ _ a _ (dsts.map (slotOf a)) (by simp) ⟨by simp, hI, by simp, (putAll_orig a dsts).symm, fun i hi => ?_, fun i d v _ h1 h2 => ?_, fun i hi => ?_⟩
 ·rw [getD_replicate_false] at hi; cases hi
 ·rw [List.getElem?_map, h1] at h2; simpa using h2.symm
 ·rw [getD_replicate_false] at hi; cases hi
open Go.RowKit Go.Sort
end Go.Proofs.YtacicanjmleikaaGreatDoor
