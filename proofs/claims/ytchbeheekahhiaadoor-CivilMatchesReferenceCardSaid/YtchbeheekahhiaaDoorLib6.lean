/-
  'append(s, t...)', t empty or not, s nil or not; parts of a slice of slices.
-/
import Derived.Test.YtchbeheekahhiaaDoorLib5
namespace Go.Proofs.YtchbeheekahhiaaDoor
open Go.RowKit Go.Sort
set_option linter.unusedSimpArgs false
set_option linter.unusedVariables false
set_option maxRecDepth 100000

theorem run_append_none {P : Program} {w : World} (base : Nat) (t ty e : TypeId) (i : TypeInfo) (size : Nat) (ht : P.underlying t = some (.slice e)) (hi : P.info? e = some i)
    (v : Value) (n : Nat) (xs : List Value) (hown : w.ownsRow base e size v n xs) (c : Nat) :
    (Builtin.append_ #[t, t] ty #[v, .slice none 0 c]).run P w = .ok v w := by
  rcases hown.2 with ⟨rfl, rfl⟩ | ⟨g, cap, cur, rfl, _, _, hnc, _⟩
  · simp [Builtin.append_, run_underlying ht, sizeOf, typeInfo, hi, Builtin.lenOf, Builtin.firstCells]
  · simp [Builtin.append_, run_underlying ht, sizeOf, typeInfo, hi, Builtin.lenOf, Builtin.firstCells, hnc, storeCells]

theorem appA {P : Program} {T E : TypeId} {k : IntKind} {by_ : Nat} (hE : ElT P T E (.int k 0) 1 by_) {ops : Array Oper} {rest : List Oper} {o : Oper} {a : Act} {Q : Exit → Act → World → Prop} (hgd : o.guard = none) (s x : Operand)
    (ho : o.op = .call { callee := .builtin .append, args := #[s, x], argTypes := #[T, T] })
    (w : World) (base : Nat) (sa : Option Addr) (n c : Nat) (xs : List Int) (hs : a.eval s = .slice sa n c) (hown : OwI k E base w sa n c xs)
    (ta : Option Addr) (m tc : Nat) (ys : List Int) (hx : a.eval x = .slice ta m tc) (ht : Sl k w ta m tc ys) (hbase : base ≤ w.heap.size) (h63 : n + m ≤ maxLen) (hbytes : (n + m) * by_ ≤ 140737488355328)
    (h : ∀ a' cap w', OwI k E base w' a' (n + m) cap (xs ++ ys) → Below base w w' → wpList P ops Q rest (a.put o.dst (.slice a' (n + m) cap)) w') :
    wpList P ops Q (o :: rest) a w := by
  rcases Nat.eq_zero_or_pos m with hm | hm
  · subst hm
    have hys : ys = [] := List.eq_nil_of_length_eq_zero ht.hlen
    subst hys
    simp only [List.append_nil, Nat.add_zero] at h
    obtain ⟨hT, hI⟩ := hE
    obtain ⟨i, hi, hz, hsz, hby⟩ := info_parts hI
    rcases ta with _ | ad
    · refine wpList_plain hgd fun K hK => ?_
      have hrun := run_append_none (P := P) (w := w) base T o.type E i 1 hT hi _ n _ hown tc
      unfold Oper.wp
      simp [execOp, ho, resolve, invoke, builtin, hs, hx, hrun, Result.andThen]
      exact hK _ _ (h sa c w hown (Below.refl _ _))
    · obtain ⟨v', w', hr, h2, h3, _, h5⟩ := run_append_own_at (P := P) w base T o.type E i (.int k 0) 1 by_ hT hi hz hsz hby rfl (by decide) _ n _ hown ad 0 tc [] rfl (by simp) (by simp) (by simpa using h63) (by simpa using hbytes) hbase
      have hv : ∃ a' cap, v' = .slice a' n cap := by
        rcases h2.2 with ⟨hv, h0⟩ | ⟨g, cap, cur, hv, _⟩
        · exact ⟨none, 0, by rw [hv, show n = 0 from by omega]⟩
        · exact ⟨_, cap, by simpa using hv⟩
      obtain ⟨a', cap, rfl⟩ := hv
      refine wpList_plain hgd fun K hK => ?_
      unfold Oper.wp
      simp only [execOp, ho, resolve, invoke, builtin, Sem.run_bind, Sem.run_pure, Result.andThen_ok, List.map_toArray, List.map_cons, List.map_nil, hs, hx, hr]
      refine hK _ _ (h a' cap w' ?_ (below_grown hown hbase h3))
      unfold OwI
      simpa using h2
  · exact appS hE hgd s x ho w base sa n c xs hs hown ta m tc ys hx ht hm hbase h63 hbytes fun g cap w' h1 h2 => h _ cap w' h1 h2

theorem nthL_take {xs : List (List Int)} {m i : Nat} (h : i < m) : nthL (xs.take m) i = nthL xs i := by
  simp [nthL, List.getD_eq_getElem?_getD, h]
theorem nthL_drop (xs : List (List Int)) (m i : Nat) : nthL (xs.drop m) i = nthL xs (m + i) := by
  simp [nthL, List.getD_eq_getElem?_getD]

theorem Sll.take {k : IntKind} {w : World} {a : Option Addr} {n c : Nat} {xs : List (List Int)} (h : Sll k w a n c xs) {m : Nat} (hm : m ≤ n) : Sll k w a m c (xs.take m) := by
  refine ⟨by rw [List.length_take, h.hlen]; omega, by have := h.le; omega, h.max, fun i hi => ?_⟩
  obtain ⟨b, off, a', n', c', ha, hc, hs⟩ := h.cells i (by omega)
  exact ⟨b, off, a', n', c', ha, hc, by rw [nthL_take hi]; exact hs⟩

theorem Sll.drop {k : IntKind} {w : World} {b off n c : Nat} {xs : List (List Int)} (h : Sll k w (some ⟨b, off, none⟩) n c xs) {m : Nat} (hm : m ≤ n) (c' : Nat) (hc' : n - m ≤ c') (hcc : c' ≤ c) :
    Sll k w (some ⟨b, off + m, none⟩) (n - m) c' (xs.drop m) := by
  refine ⟨by rw [List.length_drop, h.hlen], hc', Nat.le_trans hcc h.max, fun i hi => ?_⟩
  obtain ⟨b', off', a', n', c', ha, hc, hs⟩ := h.cells (m + i) (by omega)
  simp only [Option.some.injEq, Addr.mk.injEq, and_true] at ha
  obtain ⟨rfl, rfl⟩ := ha
  exact ⟨b, off + m, a', n', c', rfl, by rw [show off + m + i = off + (m + i) by omega]; exact hc, by rw [nthL_drop]; exact hs⟩

theorem Sll.from {k : IntKind} {w : World} {a : Option Addr} {n c : Nat} {xs : List (List Int)} (h : Sll k w a n c xs) {m : Nat} (hm : m ≤ n) : Sll k w (subA a c m) (n - m) (c - m) (xs.drop m) := by
  have hle := h.le
  rcases Nat.eq_or_lt_of_le hm with rfl | hlt
  · exact ⟨by rw [List.length_drop, h.hlen], by omega, by have := h.max; omega, fun i hi => absurd hi (by omega)⟩
  · obtain ⟨b, off, rfl, hc⟩ := h.at (by omega)
    have hs : subA (some ⟨b, off, none⟩) c m = some ⟨b, off + m, none⟩ := by
      unfold subA; rw [if_neg (by omega)]
      by_cases h0 : m = 0
      · subst h0; simp [Addr.add]
      · simp [Addr.add, h0]
    rw [hs]
    exact h.drop (by omega) (c - m) (by omega) (by omega)

end Go.Proofs.YtchbeheekahhiaaDoor
