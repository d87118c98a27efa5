/-
  Slices of transactions, each with two slices of its own: they read as lists; rows of the call's own; their append.
-/
import Derived.Test.YtacicanjmleikaaQA
namespace Go.Proofs.Ytacicanjmleikaa
open Go.RowKit Go.Sort
set_option linter.unusedSimpArgs false
set_option linter.unusedVariables false

/-- A transaction as it lies in a row. -/
structure TxR where
  id : Int
  ts : Int
  ra : Option Addr
  rn : Nat
  rc : Nat
  wa : Option Addr
  wn : Nat
  wc : Nat
def TxR.enc (x : TxR) : List Value := [.int .i64 x.id, .int .i64 x.ts, .slice x.ra x.rn x.rc, .slice x.wa x.wn x.wc]
structure TxR.Ok (x : TxR) : Prop where
  id : (Lit.int .i64 x.id).wf = true
  ts : (Lit.int .i64 x.ts).wf = true
instance : Cel TxR where
  dflt := ⟨0, 0, none, 0, 0, none, 0, 0⟩
  sz := 4
  enc := TxR.enc
  ok := TxR.Ok
  len := fun _ => rfl
  pos := by decide
  one := by intro x v hv; simp [TxR.enc] at hv; rcases hv with rfl | rfl | rfl | rfl <;> rfl
theorem sz_tr : Cel.sz TxR = 4 := rfl
theorem cells_tr {W : World} {b o : Nat} {x : TxR} (h : W.rangeAt b o (Cel.enc x)) : W.cell? ⟨b, o, none⟩ = some (.int .i64 x.id) ∧ W.cell? ⟨b, o + 1, none⟩ = some (.int .i64 x.ts) ∧ W.cell? ⟨b, o + 2, none⟩ = some (.slice x.ra x.rn x.rc) ∧ W.cell? ⟨b, o + 3, none⟩ = some (.slice x.wa x.wn x.wc) :=
  ⟨by simpa using h 0 _ rfl, h 1 _ rfl, h 2 _ rfl, h 3 _ rfl⟩

/-- The raw transaction r reads as t. -/
structure TxL (W : World) (r : TxR) (t : Tx) : Prop where
  id : r.id = t.id
  ts : r.ts = t.ts
  rd : Rw W r.ra r.rn r.rc t.rd
  wr : Rw W r.wa r.wn r.wc t.wr
theorem TxL.ext {W W' : World} {r : TxR} {t : Tx} (h : TxL W r t) (he : Ext W W') : TxL W' r t := ⟨h.id, h.ts, h.rd.ext he, h.wr.ext he⟩

/-- The slice 'a, n, c' reads as the list of transactions ts. -/
def Txs (W : World) (a : Option Addr) (n c : Nat) (ts : List Tx) : Prop := ∃ rs : List TxR, Rw W a n c rs ∧ ts.length = n ∧ ∀ i, i < n → TxL W (nthR rs i) (nthT ts i)
theorem Txs.ext {W W' : World} {a : Option Addr} {n c : Nat} {ts : List Tx} (h : Txs W a n c ts) (he : Ext W W') : Txs W' a n c ts :=
  let ⟨rs, h1, h2, h3⟩ := h; ⟨rs, h1.ext he, h2, fun i hi => (h3 i hi).ext he⟩
theorem Txs.hlen {W : World} {a : Option Addr} {n c : Nat} {ts : List Tx} (h : Txs W a n c ts) : ts.length = n := let ⟨_, _, h2, _⟩ := h; h2
theorem Txs.bd {W : World} {a : Option Addr} {n c : Nat} {ts : List Tx} (h : Txs W a n c ts) : n ≤ c ∧ c ≤ 9223372036854775807 ∧ n ≤ 17592186044416 := let ⟨_, h1, _⟩ := h; h1.bd
theorem Txs.nil (W : World) : Txs W none 0 0 [] := ⟨[], Rw.nil W, rfl, fun i hi => absurd hi (Nat.not_lt_zero _)⟩
theorem Txs.isnil {W : World} {a : Option Addr} {c : Nat} {ts : List Tx} (h : Txs W a 0 c ts) : ts = [] := List.eq_nil_of_length_eq_zero h.hlen
theorem Txs.at {W : World} {a : Option Addr} {n c : Nat} {ts : List Tx} (h : Txs W a n c ts) (h0 : 0 < n) :
    ∃ b off, a = some ⟨b, off, none⟩ ∧ ∀ i, i < n → ∃ r : TxR, W.rangeAt b (off + i * 4) (Cel.enc r) ∧ TxL W r (nthT ts i) ∧ r.Ok := by
  obtain ⟨rs, h1, h2, h3⟩ := h
  obtain ⟨b, off, e, hc⟩ := h1.at h0
  exact ⟨b, off, e, fun i hi => ⟨nthR rs i, hc i hi, h3 i hi, h1.wfAt hi⟩⟩
theorem nthT_take {ts : List Tx} {m i : Nat} (h : i < m) : nthT (ts.take m) i = nthT ts i := by simp [nthT, List.getD_eq_getElem?_getD, h]
theorem nthT_drop (ts : List Tx) (m i : Nat) : nthT (ts.drop m) i = nthT ts (m + i) := by simp [nthT, List.getD_eq_getElem?_getD]
theorem nthT_left {xs ys : List Tx} {i : Nat} (h : i < xs.length) : nthT (xs ++ ys) i = nthT xs i := by simp [nthT, List.getD_eq_getElem?_getD, List.getElem?_append_left h]
theorem nthT_right {xs ys : List Tx} {n i : Nat} (hx : xs.length = n) (h : n ≤ i) : nthT (xs ++ ys) i = nthT ys (i - n) := by subst hx; simp [nthT, List.getD_eq_getElem?_getD, List.getElem?_append_right h]
theorem take_nthT_succ {ts : List Tx} {k : Nat} (h : k < ts.length) : ts.take (k + 1) = ts.take k ++ [nthT ts k] := by rw [List.take_succ_eq_append_getElem h, nthT_get h]
theorem Txs.take {W : World} {a : Option Addr} {n c : Nat} {ts : List Tx} (h : Txs W a n c ts) {m : Nat} (hm : m ≤ n) : Txs W a m c (ts.take m) := by
  obtain ⟨rs, h1, h2, h3⟩ := h
  exact ⟨rs.take m, h1.take hm, by rw [List.length_take]; omega, fun i hi => by rw [nthR_take hi, nthT_take hi]; exact h3 i (by omega)⟩
theorem Rw.dropA {α : Type} [Cel α] {W : World} {b off n c : Nat} {xs : List α} (h : Rw W (some ⟨b, off, none⟩) n c xs) {m : Nat} (hm : m ≤ n) : Rw W (some ⟨b, off + m * Cel.sz α, none⟩) (n - m) (c - m) (xs.drop m) := by
  refine ⟨by rw [List.length_drop, h.hlen], by have := h.le; omega, by have := h.max; omega, by have := h.lim; omega, fun i hi => ?_, fun x hx => h.wf x (List.mem_of_mem_drop hx)⟩
  obtain ⟨b', off', e, hc⟩ := h.cells (m + i) (by omega)
  simp only [Option.some.injEq, Addr.mk.injEq, and_true] at e
  obtain ⟨rfl, rfl⟩ := e
  refine ⟨b, off + m * Cel.sz α, rfl, ?_⟩
  rw [nthR_drop, show off + m * Cel.sz α + i * Cel.sz α = off + (m + i) * Cel.sz α by rw [Nat.add_mul]; omega]
  exact hc
theorem Txs.dropA {W : World} {b off n c : Nat} {ts : List Tx} (h : Txs W (some ⟨b, off, none⟩) n c ts) {m : Nat} (hm : m ≤ n) : Txs W (some ⟨b, off + m * 4, none⟩) (n - m) (c - m) (ts.drop m) := by
  obtain ⟨rs, h1, h2, h3⟩ := h
  exact ⟨rs.drop m, h1.dropA hm, by rw [List.length_drop, h2], fun i hi => by rw [nthR_drop, nthT_drop]; exact h3 (m + i) (by omega)⟩

/-! ### Rows of the call's own -/
/-- The slice 'x, n' does not lie in the row a. -/
def Apt (a x : Option Addr) (n : Nat) : Prop := ∀ b off, x = some ⟨b, off, none⟩ → 0 < n → a ≠ some ⟨b, 0, none⟩
structure TxO (a : Option Addr) (W : World) (r : TxR) (t : Tx) : Prop where
  l : TxL W r t
  ok : r.Ok
  pr : Apt a r.ra r.rn
  pw : Apt a r.wa r.wn
theorem TxO.ext {a : Option Addr} {W W' : World} {r : TxR} {t : Tx} (h : TxO a W r t) (he : Ext W W') : TxO a W' r t := ⟨h.l.ext he, h.ok, h.pr, h.pw⟩
def OwT (base : Nat) (W : World) (a : Option Addr) (n c : Nat) (ts : List Tx) : Prop := ∃ rs : List TxR, OwR 26 base W a n c rs ∧ ts.length = n ∧ ∀ i, i < n → TxO a W (nthR rs i) (nthT ts i)
theorem OwT.nil (base : Nat) (W : World) : OwT base W none 0 0 [] := ⟨[], OwR.nil _ _ _, rfl, fun i hi => absurd hi (Nat.not_lt_zero _)⟩
theorem OwT.ext {base : Nat} {W W' : World} {a : Option Addr} {n c : Nat} {ts : List Tx} (h : OwT base W a n c ts) (he : Ext W W') : OwT base W' a n c ts :=
  let ⟨rs, h1, h2, h3⟩ := h; ⟨rs, h1.ext he, h2, fun i hi => (h3 i hi).ext he⟩
theorem OwR.monoB {α : Type} [Cel α] {E : TypeId} {base base' : Nat} {W : World} {a : Option Addr} {n c : Nat} {xs : List α} (h : OwR E base W a n c xs) (hb : base' ≤ base) : OwR E base' W a n c xs := by
  obtain ⟨h0, h1, h2⟩ := h
  refine ⟨h0, h1, ?_⟩
  rcases h2 with h2 | ⟨g, cap, cur, hv, hg, r⟩
  · exact .inl h2
  · exact .inr ⟨g, cap, cur, hv, by omega, r⟩
theorem OwT.mono {base base' : Nat} {W : World} {a : Option Addr} {n c : Nat} {ts : List Tx} (h : OwT base W a n c ts) (hb : base' ≤ base) : OwT base' W a n c ts :=
  let ⟨rs, h1, h2, h3⟩ := h; ⟨rs, h1.monoB hb, h2, h3⟩
theorem OwT.txs {base : Nat} {W : World} {a : Option Addr} {n c : Nat} {ts : List Tx} (h : OwT base W a n c ts) (hlim : n ≤ 17592186044416) : Txs W a n c ts := by
  obtain ⟨rs, h1, h2, h3⟩ := h
  have hl := h1.1
  refine ⟨rs, h1.rw hlim (fun x hx => ?_), h2, fun i hi => (h3 i hi).l⟩
  obtain ⟨i, hi, rfl⟩ := List.mem_iff_getElem.1 hx
  rw [← nthR_get hi]
  exact (h3 i (by omega)).ok
theorem OwR.headAt {α : Type} [Cel α] {E : TypeId} {base : Nat} {W : World} {a : Option Addr} {n c : Nat} {xs : List α} (h : OwR E base W a n c xs) : (a = none ∧ n = 0 ∧ c = 0) ∨ ∃ g, a = some ⟨g, 0, none⟩ ∧ base ≤ g ∧ g < W.heap.size := by
  rcases h.2.2 with ⟨hv, _⟩ | ⟨g, cap, cur, hv, hg, _⟩
  · simp only [Value.slice.injEq] at hv; exact .inl hv
  · simp only [Value.slice.injEq] at hv
    obtain ⟨rfl, _, rfl⟩ := hv
    exact .inr ⟨g, rfl, (h.2.lt g rfl).1, (h.2.lt g rfl).2⟩
theorem OwT.headAt {base : Nat} {W : World} {a : Option Addr} {n c : Nat} {ts : List Tx} (h : OwT base W a n c ts) : (a = none ∧ n = 0 ∧ c = 0) ∨ ∃ g, a = some ⟨g, 0, none⟩ ∧ base ≤ g ∧ g < W.heap.size :=
  let ⟨_, h1, _⟩ := h; h1.headAt

/-- 'append(s, t...)', t not empty, of which the slices lie outside the row s. -/
theorem appTs {P : Program} {T : TypeId} {z : Value} {by_ : Nat} (hE : ElS P T 26 z 4 by_) {ops : Array Oper} {rest : List Oper} {o : Oper} {a : Act} {Q : Exit → Act → World → Prop} (hgd : o.guard = none) (s x : Operand)
    (ho : o.op = .call { callee := .builtin .append, args := #[s, x], argTypes := #[T, T] })
    (w : World) (base : Nat) (sa : Option Addr) (n c : Nat) (ts : List Tx) (hs : a.eval s = .slice sa n c) (hown : OwT base w sa n c ts)
    (b off m tc : Nat) (us : List Tx) (rs' : List TxR) (hx : a.eval x = .slice (some ⟨b, off, none⟩) m tc) (hl : rs'.length = m) (hul : us.length = m) (hn : w.rangeAt b off (rs'.flatMap Cel.enc))
    (hin : ∀ i, i < m → TxO sa w (nthR rs' i) (nthT us i))
    (hm : 0 < m) (hbase : base ≤ w.heap.size) (h63 : n + m ≤ maxLen) (hbytes : (n + m) * by_ ≤ 140737488355328)
    (h : ∀ g cap w', OwT base w' (some ⟨g, 0, none⟩) (n + m) cap (ts ++ us) → Below base w w' → wpList P ops Q rest (a.put o.dst (.slice (some ⟨g, 0, none⟩) (n + m) cap)) w') :
    wpList P ops Q (o :: rest) a w := by
  obtain ⟨rs, hrow, hlen, hvs⟩ := hown
  refine appC hE hgd s x ho w base sa n c _ hs hrow.2 b off m tc (rs'.flatMap Cel.enc) hx (by rw [flat_len, hl]; rfl) hn (flat_one _) hm hbase h63 hbytes ?_
  intro g cap w' h2 h3 hg h4
  have hrl := hrow.1
  refine h g cap w' ⟨rs ++ rs', ⟨by rw [List.length_append, hrl, hl], by rw [List.flatMap_append]; exact h2⟩, by rw [List.length_append, hlen, hul], fun i hi => ?_⟩ h3
  have key : ∀ {α : Type} [Cel α] (a' : Option Addr) (n' c' : Nat) (zs : List α), Rw w a' n' c' zs → Apt sa a' n' → Rw w' a' n' c' zs ∧ Apt (some ⟨g, 0, none⟩) a' n' := by
    intro α _ a' n' c' zs hz hzne
    have hrowne : ∀ b off, a' = some ⟨b, off, none⟩ → 0 < n' → some b ≠ (Value.slice sa n c).ownBlock := by
      intro b off ha hn e
      rcases hrow.2.2 with ⟨hv, _⟩ | ⟨g', cap', cur, hv, _⟩
      · simp only [Value.slice.injEq] at hv; obtain ⟨rfl, _, _⟩ := hv; cases e
      · simp only [Value.slice.injEq] at hv; obtain ⟨rfl, _, _⟩ := hv
        simp only [Value.ownBlock, Option.some.injEq] at e
        subst e
        exact hzne b off ha hn rfl
    refine ⟨hz.below (fun b off ha hn => hg.block b (hz.lt ha hn) (hrowne b off ha hn)), fun b off ha hn e => ?_⟩
    simp only [Option.some.injEq, Addr.mk.injEq, and_true] at e
    subst e
    rcases h4 with h4 | h4
    · exact hrowne g off ha hn h4.symm
    · have := hz.lt ha hn
      omega
  have one : ∀ (r : TxR) (t : Tx), TxO sa w r t → TxO (some ⟨g, 0, none⟩) w' r t := fun r t hr => by
    obtain ⟨⟨q1, q2, q3, q4⟩, q5, q6, q7⟩ := hr
    obtain ⟨k1, k2⟩ := key _ _ _ _ q3 q6
    obtain ⟨k3, k4⟩ := key _ _ _ _ q4 q7
    exact ⟨⟨q1, q2, k1, k3⟩, q5, k2, k4⟩
  rcases Nat.lt_or_ge i n with hin' | hin'
  · rw [nthR_app_left (by omega), nthT_left (by omega)]
    exact one _ _ (hvs i hin')
  · rw [nthR_app_right (by omega), nthT_right hlen hin', hrl]
    exact one _ _ (hin (i - n) (by omega))
/-- 'append(s, x)', x a transaction that has been put into a block of its own. -/
theorem appT1 {P : Program} {T : TypeId} {z : Value} {by_ : Nat} (hE : ElS P T 26 z 4 by_) {ops : Array Oper} {rest : List Oper} {o : Oper} {a : Act} {Q : Exit → Act → World → Prop} (hgd : o.guard = none) (s x : Operand)
    (ho : o.op = .call { callee := .builtin .append, args := #[s, x], argTypes := #[T, T] })
    (w : World) (base : Nat) (sa : Option Addr) (n c : Nat) (ts : List Tx) (r : TxR) (u : Tx) (cs : Array Value) (hcs : cs.toList = Cel.enc r) (hs : a.eval s = .slice sa n c) (hown : OwT base w sa n c ts)
    (hu : TxO sa w r u)
    (hx : a.eval x = .slice (some ⟨w.heap.size, 0, none⟩) 1 1) (hbase : base ≤ w.heap.size) (h63 : n + 1 ≤ maxLen) (hbytes : (n + 1) * by_ ≤ 140737488355328)
    (h : ∀ g cap w', OwT base w' (some ⟨g, 0, none⟩) (n + 1) cap (ts ++ [u]) → Below base w w' → wpList P ops Q rest (a.put o.dst (.slice (some ⟨g, 0, none⟩) (n + 1) cap)) w') :
    wpList P ops Q (o :: rest) a (w.alloc (.cells cs 26)) := by
  have hE0 : Ext w (w.alloc (.cells cs 26)) := (Ext.refl w).alloc _
  have hr : (w.alloc (.cells cs 26)).rangeAt w.heap.size 0 ([r].flatMap Cel.enc) := by
    intro j v hv
    rw [cell_of_row (w.alloc (.cells cs 26)) w.heap.size (0 + j) cs 26 (0, 0) (World.alloc_heap_new w _), ← Array.getElem?_toList, hcs, Nat.zero_add]
    simpa using hv
  refine appTs hE hgd s x ho _ base sa n c ts hs (hown.ext hE0) w.heap.size 0 1 1 [u] [r] hx rfl rfl hr (fun i hi => ?_) (by omega) (by simp; omega) h63 hbytes ?_
  · obtain rfl : i = 0 := by omega
    exact hu.ext hE0
  · intro g cap w' h2 h3
    exact h g cap w' h2 (Below.trans ((Below.refl base w).alloc hbase _) h3)
end Go.Proofs.Ytacicanjmleikaa
