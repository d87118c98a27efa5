/-
  'append(s, x)' at a step of a region that draws its order.
-/
import Derived.Test.YtchbeheekahhiaaDoorLib4
namespace Go.Proofs.YtchbeheekahhiaaDoor
open Go.RowKit Go.Sort
set_option linter.unusedSimpArgs false
set_option linter.unusedVariables false
set_option maxRecDepth 100000

theorem step_app1 {P : Program} {T E : TypeId} {k : IntKind} {by_ : Nat} (hE : ElT P T E (.int k 0) 1 by_) {ops : Array Oper} {o : Oper} {a : Act} {K : Act → World → Prop} {Q : Exit → Act → World → Prop} {Ex : Prop} (hgd : o.guard = none) (s x : Operand)
    (ho : o.op = .call { callee := .builtin .append, args := #[s, x], argTypes := #[T, T] })
    (w : World) (base : Nat) (sa : Option Addr) (n c : Nat) (xs : List Int) (u : Int) (hs : a.eval s = .slice sa n c) (hown : OwI k E base w sa n c xs)
    (hx : a.eval x = .slice (some ⟨w.heap.size, 0, none⟩) 1 1) (hbase : base ≤ w.heap.size) (h63 : n + 1 ≤ maxLen) (hbytes : (n + 1) * by_ ≤ 140737488355328)
    (h : ∀ g cap w', OwI k E base w' (some ⟨g, 0, none⟩) (n + 1) cap (xs ++ [u]) → Below base w w' → (w.alloc (.cells #[.int k u] E)).grownBy w' (Value.slice sa n c).ownBlock → K (a.put o.dst (.slice (some ⟨g, 0, none⟩) (n + 1) cap)) w') :
    if Region.wanted o (yielded ops a.tmps) = true then Oper.wp P o a (w.alloc (.cells #[.int k u] E)) K Q else Ex := by
  obtain ⟨hT, hI⟩ := hE
  obtain ⟨i, hi, hz, hsz, hby⟩ := info_parts hI
  have hown' : (w.alloc (.cells #[.int k u] E)).ownsRow base E 1 (.slice sa n c) n (xs.map (Value.int k)) := World.ownsRow.alloc hown _
  refine step_append_lies (w.alloc (.cells #[.int k u] E)) hgd s x T ho base E i (.int k 0) 1 by_ hT hi hz hsz hby rfl (by decide) _ n _ hs hown' ⟨w.heap.size, 0, none⟩ 1 1 [.int k u] hx rfl
    (cell_one_new _ _ _) (by simp [Value.oneCell']) (by decide) h63 hbytes (by simp; omega) (w.heap.size + 1) (by simp) ?_
  intro g cap w' h2 h3 _ _
  refine h g cap w' ?_ (((Below.refl base w).alloc hbase _).trans (below_grown hown' (by simp; omega) h3)) h3
  unfold OwI
  rw [List.map_append]
  exact h2

theorem step_appS {P : Program} {T E : TypeId} {k : IntKind} {by_ : Nat} (hE : ElT P T E (.int k 0) 1 by_) {ops : Array Oper} {o : Oper} {a : Act} {K : Act → World → Prop} {Q : Exit → Act → World → Prop} {Ex : Prop} (hgd : o.guard = none) (s x : Operand)
    (ho : o.op = .call { callee := .builtin .append, args := #[s, x], argTypes := #[T, T] })
    (w : World) (base : Nat) (sa : Option Addr) (n c : Nat) (xs : List Int) (hs : a.eval s = .slice sa n c) (hown : OwI k E base w sa n c xs)
    (ta : Option Addr) (m tc : Nat) (ys : List Int) (hx : a.eval x = .slice ta m tc) (ht : Sl k w ta m tc ys) (hm : 0 < m) (hbase : base ≤ w.heap.size) (h63 : n + m ≤ maxLen) (hbytes : (n + m) * by_ ≤ 140737488355328)
    (h : ∀ g cap w', OwI k E base w' (some ⟨g, 0, none⟩) (n + m) cap (xs ++ ys) → Below base w w' → w.grownBy w' (Value.slice sa n c).ownBlock → K (a.put o.dst (.slice (some ⟨g, 0, none⟩) (n + m) cap)) w') :
    if Region.wanted o (yielded ops a.tmps) = true then Oper.wp P o a w K Q else Ex := by
  obtain ⟨hT, hI⟩ := hE
  obtain ⟨i, hi, hz, hsz, hby⟩ := info_parts hI
  obtain ⟨b, off, rfl, hc⟩ := ht.at hm
  have hl := ht.hlen
  refine step_append_lies w hgd s x T ho base E i (.int k 0) 1 by_ hT hi hz hsz hby rfl (by decide) _ n _ hs hown ⟨b, off, none⟩ m tc (ys.map (Value.int k)) hx (by simp [hl]) ?_ ?_ hm h63 hbytes hbase w.heap.size rfl ?_
  · intro j u hu
    have hj : j < m := by
      rcases Nat.lt_or_ge j m with h | h
      · exact h
      · rw [List.getElem?_eq_none (by simp; omega)] at hu; cases hu
    have hadd : (⟨b, off, none⟩ : Addr).add j = ⟨b, off + j, none⟩ := by unfold Addr.add; split <;> simp_all
    rw [hadd, hc j hj]
    have hj' : j < ys.length := by omega
    simp [hj'] at hu
    rw [← hu]
    simp [nth, List.getD_eq_getElem?_getD, hj']
  · intro u hu
    simp only [List.mem_map] at hu
    obtain ⟨x, _, rfl⟩ := hu
    simp [Value.oneCell']
  · intro g cap w' h2 h3 _ _
    refine h g cap w' ?_ (below_grown hown hbase h3) h3
    unfold OwI
    rw [List.map_append]
    exact h2

/-- A row of our own stays when another one grows. -/
theorem OwI.by {k : IntKind} {E : TypeId} {base : Nat} {w w' : World} {a : Option Addr} {n c : Nat} {xs : List Int} {row : Option Nat} (h : OwI k E base w a n c xs) (hg : w.grownBy w' row) (hne : (Value.slice a n c).ownBlock ≠ row) : OwI k E base w' a n c xs :=
  World.ownsRow.kept h hg (.inr hne)


/-- A walk is to stand still here: 'go_wp2_with ((show ..); refine hold ?_)', and behind it 'refine held ?_'. -/
structure Hold (p : Prop) : Prop where
  held ::
  out : p
theorem hold {p : Prop} (h : Hold p) : p := h.out
theorem held {p : Prop} (h : p) : Hold p := ⟨h⟩

theorem holdR {n : Nat} {P : Program} {ops : Array Oper} {b : Bool} {Q : Exit → Act → World → Prop} {a : Act} {w : World} (h : Hold ((Code.region n ops b).wp P Q a w)) : (Code.region n ops b).wp P Q a w := h.out

end Go.Proofs.YtchbeheekahhiaaDoor
