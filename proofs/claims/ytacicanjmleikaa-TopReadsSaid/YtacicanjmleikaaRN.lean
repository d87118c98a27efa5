/-
  Append of all transactions to an empty literal; a store into a leader's block. Written by wip/gen_rn.py.
-/
import Derived.Test.YtacicanjmleikaaRM
namespace Go.Proofs.Ytacicanjmleikaa
open Go.RowKit Go.Sort Go.Shelf
set_option linter.unusedSimpArgs false
set_option linter.unusedVariables false
set_option maxRecDepth 100000

/-- 'append([]Tx{}, t...)'. -/
theorem appAll {P : Program} {T : TypeId} {z : Value} {by_ : Nat} (hE : ElS P T 26 z 4 by_) {ops : Array Oper} {rest : List Oper} {o : Oper} {a : Act} {Q : Exit → Act → World → Prop} (hgd : o.guard = none) (s x : Operand)
    (ho : o.op = .call { callee := .builtin .append, args := #[s, x], argTypes := #[T, T] })
    (w : World) (hs : a.eval s = .slice (some ⟨w.heap.size, 0, none⟩) 0 0)
    (ta : Option Addr) (m tc : Nat) (us : List Tx) (hx : a.eval x = .slice ta m tc) (ht : Txs w ta m tc us) (h63 : m ≤ maxLen) (hbytes : m * by_ ≤ 140737488355328)
    (h : ∀ a' cap w', OwT w.heap.size w' a' m cap us → Ext w w' → wpList P ops Q rest (a.put o.dst (.slice a' m cap)) w') :
    wpList P ops Q (o :: rest) a (w.alloc (.cells #[] 26)) := by
  have hown : OwR 26 w.heap.size (w.alloc (.cells #[] 26)) (some ⟨w.heap.size, 0, none⟩) 0 0 ([] : List TxR) := OwR.litNil w (Nat.le_refl _)
  have hx0 : Ext w (w.alloc (.cells #[] 26)) := (Ext.refl w).alloc _
  have ht2 := ht.ext hx0
  rcases Nat.eq_zero_or_pos m with hm | hm
  · subst hm
    obtain rfl := ht.isnil
    obtain ⟨rs, h1, h2, h3⟩ := ht2
    refine appRs (α := TxR) hE hgd s x ho _ w.heap.size _ 0 0 [] hs hown ta 0 tc rs hx h1 hx0.sz (by simp) (by simp) ?_
    intro a' cap w' h4 h5
    obtain rfl := List.eq_nil_of_length_eq_zero h1.hlen
    exact h a' cap w' ⟨[], h4, rfl, fun i hi => absurd hi (Nat.not_lt_zero _)⟩ (Below.trans hx0 h5)
  · obtain ⟨rs, h1, h2, h3⟩ := ht
    obtain ⟨b, off, rfl, _⟩ := h1.at hm
    have hap : ∀ {β : Type} [Cel β] {x : Option Addr} {n c : Nat} {xs : List β}, Rw w x n c xs → Apt (some ⟨w.heap.size, 0, none⟩) x n := by
      intro β _ x n c xs hr b off e hn e2
      have := hr.lt e hn
      simp only [Option.some.injEq, Addr.mk.injEq, and_true] at e2
      omega
    refine appTs hE hgd s x ho _ w.heap.size _ 0 0 [] hs ⟨[], hown, rfl, fun i hi => absurd hi (Nat.not_lt_zero _)⟩ b off m tc us rs hx h1.hlen h2 (rangeAt_ext h1.flat hx0) (fun i hi => ⟨(h3 i hi).ext hx0, h1.wfAt hi, hap (h3 i hi).rd, hap (h3 i hi).wr⟩) hm hx0.sz (by simpa using h63) (by simpa using hbytes) ?_
    intro g cap w' h4 h5
    simp only [Nat.zero_add, List.nil_append] at h4 ⊢
    exact h _ cap w' h4 (Below.trans hx0 h5)

theorem Rw.setLdT {W : World} {cb : Nat} {v0 : Int} {a1 a2 : Option Addr} {n1 c1 n2 c2 : Nat} (hB : Bk W cb 36 #[.int .i64 v0, .slice a1 n1 c1, .slice a2 n2 c2]) {a : Option Addr} {n c : Nat} {xs : List TxR} (h : Rw W a n c xs) (j : Nat) (v : Value) : Rw (W.setCell ⟨cb, j, none⟩ v) a n c xs := by
  refine h.below (fun b off ha h0 => heap_setCell_other W ⟨cb, j, none⟩ b v (fun e => ?_))
  simp only at e
  subst e
  obtain ⟨b', off', he, hc⟩ := h.cells 0 h0
  rw [ha] at he
  simp only [Option.some.injEq, Addr.mk.injEq, and_true] at he
  obtain ⟨rfl, rfl⟩ := he
  obtain ⟨d0, d1, _⟩ := cells_tr hc
  exact ld_two hB d0 d1
theorem Txs.setLd {W : World} {cb : Nat} {v0 : Int} {a1 a2 : Option Addr} {n1 c1 n2 c2 : Nat} (hB : Bk W cb 36 #[.int .i64 v0, .slice a1 n1 c1, .slice a2 n2 c2]) {a : Option Addr} {n c : Nat} {ts : List Tx} (h : Txs W a n c ts) (j : Nat) (v : Value) : Txs (W.setCell ⟨cb, j, none⟩ v) a n c ts := by
  obtain ⟨rs, h1, h2, h3⟩ := h
  exact ⟨rs, Rw.setLdT hB h1 j v, h2, fun i hi => ⟨(h3 i hi).id, (h3 i hi).ts, Rw.setLdS hB (h3 i hi).rd j v, Rw.setLdW hB (h3 i hi).wr j v⟩⟩
theorem Txs.setLd3 {W : World} {cb : Nat} {v0 : Int} {a1 a2 : Option Addr} {n1 c1 n2 c2 : Nat} (hB : Bk W cb 36 #[.int .i64 v0, .slice a1 n1 c1, .slice a2 n2 c2]) {v0' : Int} {a1' a2' : Option Addr} {n1' c1' n2' c2' : Nat} {a : Option Addr} {n c : Nat} {ts : List Tx} (h : Txs W a n c ts) :
    Txs (((W.setCell ⟨cb, 0, none⟩ (.int .i64 v0')).setCell ⟨cb, 1, none⟩ (.slice a1' n1' c1')).setCell ⟨cb, 2, none⟩ (.slice a2' n2' c2')) a n c ts :=
  Txs.setLd ((hB.set 0 (.int .i64 v0')).set 1 (.slice a1' n1' c1')) (Txs.setLd (hB.set 0 (.int .i64 v0')) (Txs.setLd hB h 0 _) 1 _) 2 _
theorem I18.zero {U W : World} (h : Ext U W) (l : Ld) (t : Tx) (qid hi2 : Int) (qrn qwn : Nat) (vs : List Value) : I18 U l t qid hi2 qrn qwn (fun _ => false) vs W := ⟨h, (fun q => by cases q), (fun q => by cases q), (fun q => by cases q), (fun q => by cases q)⟩
theorem rw_rec {base : Nat} {W : World} {a : Option Addr} {n c : Nat} {l : List Vn} {hz : Int} (h : OwR 47 base W a n c (recV l hz)) (hv : validV l = true) (hw : ∀ x ∈ l, Cel.ok x) : Rw W a n c (recV l hz) := by
  obtain ⟨h1, h2, h3⟩ := validV_iff.1 hv
  obtain ⟨h4, _⟩ := recV_spec h2 h1 hz
  have := h4.length_le
  have := h.1
  exact h.rw (by omega) (fun x hx => hw x (h4.subset hx))
theorem rw_read {base : Nat} {W : World} {a : Option Addr} {n c : Nat} {l : List Vn} {ts : Int} (h : OwR 47 base W a n c (readV l ts)) (hv : validV l = true) (hw : ∀ x ∈ l, Cel.ok x) : Rw W a n c (readV l ts) := by
  obtain ⟨h1, h2, h3⟩ := validV_iff.1 hv
  have := rdTo_len l ts l.length
  have h4 := h.1
  unfold readV at h4
  exact h.rw (by omega) (fun x hx => hw x ((readV_mem h2 h1).1 hx).1)
theorem apt_old {E : TypeId} {α : Type} [Cel α] {S : Nat} {W W5 : World} {x a5 : Option Addr} {n c n5 c5 : Nat} {xs : List α} {ts : List Tx} (h : OwR E S W x n c xs) (h5 : OwT W.heap.size W5 a5 n5 c5 ts) : Apt a5 x n := by
  intro b off e hn e5
  rcases h.headAt with ⟨h1, _⟩ | ⟨g, h1, _, h2⟩
  · rw [h1] at e; cases e
  · rw [h1] at e
    simp only [Option.some.injEq, Addr.mk.injEq, and_true] at e
    obtain ⟨rfl, rfl⟩ := e
    rcases h5.headAt with ⟨h3, _⟩ | ⟨g5, h3, h4, _⟩
    · rw [h3] at e5; cases e5
    · rw [h3] at e5
      simp only [Option.some.injEq, Addr.mk.injEq, and_true] at e5
      omega
theorem isPart_of {i : Nat} (h : isPart i = true) : i = 15 ∨ i = 16 ∨ i = 17 ∨ i = 18 ∨ i = 23 := by
  simp [isPart] at h; omega
theorem v14_inj {r r' : LdR} {q q' : TxR} {E E' : Int} (h : v14 r q E = v14 r' q' E') : Value.agg (cL r) = .agg (cL r') ∧ Value.agg (cT q) = .agg (cT q') ∧ Value.int .i64 E = .int .i64 E' := by
  unfold v14 at h
  injection h with h
  have h1 := congrArg (fun a => a[0]?) h
  have h2 := congrArg (fun a => a[1]?) h
  have h3 := congrArg (fun a => a[2]?) h
  exact ⟨Option.some.inj h1, Option.some.inj h2, Option.some.inj h3⟩
/-- What is found among the first of a read. -/
def foundB (zs : List Vn) (key : Int) (k : Nat) : Bool := (List.range k).any fun i => decide ((nthR zs i).k = key)
theorem foundB_succ (zs : List Vn) (key : Int) (k : Nat) : foundB zs key (k + 1) = (foundB zs key k || decide ((nthR zs k).k = key)) := by simp [foundB, List.range_succ]
theorem foundB_all {l : List Vn} (h : validV l = true) {key ts : Int} (hk : 1 ≤ key) : foundB (readV l ts) key (readV l ts).length = ansB (lastV l key ts) := by
  rw [Bool.eq_iff_iff, ← (readV_key h hk).2]
  unfold foundB
  simp only [List.any_eq_true, List.mem_range, decide_eq_true_eq]
  constructor
  · rintro ⟨i, hi, he⟩
    exact ⟨_, nthR_mem hi, he⟩
  · rintro ⟨x, hx, he⟩
    obtain ⟨i, hi, rfl⟩ := List.mem_iff_getElem.1 hx
    exact ⟨i, hi, by rw [nthR_get hi]; exact he⟩
end Go.Proofs.Ytacicanjmleikaa
