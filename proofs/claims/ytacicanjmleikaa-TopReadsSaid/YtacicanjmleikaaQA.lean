/-
  Stores of versions, leaders and courses in plain words: what is valid, what reads find, what may be left out, and that both go together.
-/
import Derived.Test.YtacicanjmleikaaRw
namespace Go.Proofs.Ytacicanjmleikaa
open Go.RowKit Go.Sort
set_option linter.unusedSimpArgs false
set_option linter.unusedVariables false

/-! ### Records -/
structure Vn where
  k : Int
  t : Int
  v : Int
  g : Bool
  deriving DecidableEq
structure Sn where
  k : Int
  t : Int
  deriving DecidableEq
structure Wr where
  k : Int
  v : Int
  g : Bool
  deriving DecidableEq
structure Tx where
  id : Int
  ts : Int
  rd : List Sn
  wr : List Wr
structure Ld where
  last : Int
  st : List Vn
  op : List Tx

def v0 : Vn := ⟨0, 0, 0, false⟩
def Vn.enc (x : Vn) : List Value := [.int .i64 x.k, .int .i64 x.t, .int .i64 x.v, .bool x.g]
structure Vn.Ok (x : Vn) : Prop where
  k : (Lit.int .i64 x.k).wf = true
  t : (Lit.int .i64 x.t).wf = true
  v : (Lit.int .i64 x.v).wf = true
def Sn.enc (x : Sn) : List Value := [.int .i64 x.k, .int .i64 x.t]
structure Sn.Ok (x : Sn) : Prop where
  k : (Lit.int .i64 x.k).wf = true
  t : (Lit.int .i64 x.t).wf = true
def Wr.enc (x : Wr) : List Value := [.int .i64 x.k, .int .i64 x.v, .bool x.g]
structure Wr.Ok (x : Wr) : Prop where
  k : (Lit.int .i64 x.k).wf = true
  v : (Lit.int .i64 x.v).wf = true
instance : Cel Vn where
  dflt := v0
  sz := 4
  enc := Vn.enc
  ok := Vn.Ok
  len := fun _ => rfl
  pos := by decide
  one := by intro x v hv; simp [Vn.enc] at hv; rcases hv with rfl | rfl | rfl | rfl <;> rfl
instance : Cel Sn where
  dflt := ⟨0, 0⟩
  sz := 2
  enc := Sn.enc
  ok := Sn.Ok
  len := fun _ => rfl
  pos := by decide
  one := by intro x v hv; simp [Sn.enc] at hv; rcases hv with rfl | rfl <;> rfl
instance : Cel Wr where
  dflt := ⟨0, 0, false⟩
  sz := 3
  enc := Wr.enc
  ok := Wr.Ok
  len := fun _ => rfl
  pos := by decide
  one := by intro x v hv; simp [Wr.enc] at hv; rcases hv with rfl | rfl | rfl <;> rfl
theorem sz_vn : Cel.sz Vn = 4 := rfl
theorem sz_sn : Cel.sz Sn = 2 := rfl
theorem sz_wr : Cel.sz Wr = 3 := rfl
theorem cells_vn {W : World} {b o : Nat} {x : Vn} (h : W.rangeAt b o (Cel.enc x)) : W.cell? ⟨b, o, none⟩ = some (.int .i64 x.k) ∧ W.cell? ⟨b, o + 1, none⟩ = some (.int .i64 x.t) ∧ W.cell? ⟨b, o + 2, none⟩ = some (.int .i64 x.v) ∧ W.cell? ⟨b, o + 3, none⟩ = some (.bool x.g) :=
  ⟨by simpa using h 0 _ rfl, h 1 _ rfl, h 2 _ rfl, h 3 _ rfl⟩
theorem cells_sn {W : World} {b o : Nat} {x : Sn} (h : W.rangeAt b o (Cel.enc x)) : W.cell? ⟨b, o, none⟩ = some (.int .i64 x.k) ∧ W.cell? ⟨b, o + 1, none⟩ = some (.int .i64 x.t) :=
  ⟨by simpa using h 0 _ rfl, h 1 _ rfl⟩
theorem cells_wr {W : World} {b o : Nat} {x : Wr} (h : W.rangeAt b o (Cel.enc x)) : W.cell? ⟨b, o, none⟩ = some (.int .i64 x.k) ∧ W.cell? ⟨b, o + 1, none⟩ = some (.int .i64 x.v) ∧ W.cell? ⟨b, o + 2, none⟩ = some (.bool x.g) :=
  ⟨by simpa using h 0 _ rfl, h 1 _ rfl, h 2 _ rfl⟩
def nthT (l : List Tx) (i : Nat) : Tx := l.getD i ⟨0, 0, [], []⟩
theorem nthT_get {l : List Tx} {i : Nat} (h : i < l.length) : nthT l i = l[i] := by simp [nthT, List.getD_eq_getElem?_getD, h]

/-! ### Stores -/
def inT (n lo hi : Int) : Bool := decide (lo ≤ n ∧ n ≤ hi)
theorem inT_iff {n lo hi : Int} : inT n lo hi = true ↔ lo ≤ n ∧ n ≤ hi := by unfold inT; exact decide_eq_true_iff
def wfV (x : Vn) : Bool := inT x.k 1 1000 && (inT x.t 1 3000000000000000 && (inT x.v 0 1000000 && (!x.g || decide (x.v = 0))))
def ltV (a b : Vn) : Prop := a.k < b.k ∨ a.k = b.k ∧ a.t < b.t
instance (a b : Vn) : Decidable (ltV a b) := by unfold ltV; infer_instance
theorem ltV_trans {a b c : Vn} (h : ltV a b) (h' : ltV b c) : ltV a c := by unfold ltV at *; omega
def stepV (l : List Vn) (i : Nat) : Bool := wfV (nthR l i) && (i == 0 || decide (ltV (nthR l (i - 1)) (nthR l i)))
def validV (l : List Vn) : Bool := (List.range l.length).all (stepV l) && decide (l.length ≤ 4000)

theorem all_rangeQ {n : Nat} {p : Nat → Bool} : (List.range n).all p = true ↔ ∀ i, i < n → p i = true := by simp [List.all_eq_true]
theorem all_rangeQ_no {n k : Nat} {p : Nat → Bool} (hk : k < n) (h : p k = false) : (List.range n).all p = false := by
  rw [Bool.eq_false_iff]
  intro e
  rw [all_rangeQ.1 e k hk] at h
  cases h

theorem asc_of_adj {l : List Vn} (h : ∀ i, 0 < i → i < l.length → ltV (nthR l (i - 1)) (nthR l i)) : ∀ j i, i < j → j < l.length → ltV (nthR l i) (nthR l j)
  | 0, _, hi, _ => absurd hi (Nat.not_lt_zero _)
  | j + 1, i, hi, hj => by
    have h1 := h (j + 1) (by omega) hj
    rw [Nat.add_sub_cancel] at h1
    rcases Nat.lt_or_ge i j with h2 | h2
    · exact ltV_trans (asc_of_adj h j i h2 (by omega)) h1
    · obtain rfl : i = j := by omega
      exact h1
def AscV (l : List Vn) : Prop := ∀ i j, i < j → j < l.length → ltV (nthR l i) (nthR l j)
theorem validV_iff {l : List Vn} : validV l = true ↔ (∀ x ∈ l, wfV x = true) ∧ AscV l ∧ l.length ≤ 4000 := by
  unfold validV
  rw [Bool.and_eq_true, all_rangeQ, decide_eq_true_iff]
  constructor
  · rintro ⟨h1, h2⟩
    refine ⟨fun x hx => ?_, fun i j hi hj => asc_of_adj (fun i h0 hi => ?_) j i hi hj, h2⟩
    · obtain ⟨i, hi, rfl⟩ := List.mem_iff_getElem.1 hx
      have := h1 i hi
      rw [stepV, Bool.and_eq_true, nthR_get hi] at this
      exact this.1
    · have := h1 i hi
      rw [stepV, Bool.and_eq_true, Bool.or_eq_true, beq_iff_eq, decide_eq_true_iff] at this
      exact this.2.resolve_left (by omega)
  · rintro ⟨h1, h2, h3⟩
    refine ⟨fun i hi => ?_, h3⟩
    rw [stepV, Bool.and_eq_true, Bool.or_eq_true, beq_iff_eq, decide_eq_true_iff]
    refine ⟨by rw [nthR_get hi]; exact h1 _ (List.getElem_mem hi), ?_⟩
    rcases Nat.eq_zero_or_pos i with h | h
    · exact .inl h
    · exact .inr (h2 _ _ (by omega) hi)
theorem AscV.pw {l : List Vn} (h : AscV l) : l.Pairwise ltV := by
  rw [List.pairwise_iff_getElem]
  intro i j hi hj hij
  have := h i j hij hj
  rwa [nthR_get hi, nthR_get hj] at this
theorem AscV.of {l : List Vn} (h : l.Pairwise ltV) : AscV l := by
  intro i j hij hj
  rw [List.pairwise_iff_getElem] at h
  rw [nthR_get (by omega), nthR_get hj]
  exact h i j _ hj hij

/-- Whether a version comes up to a key and a timestamp. -/
def leV (k t : Int) (x : Vn) : Bool := decide (x.k < k ∨ x.k = k ∧ x.t ≤ t)
def cntV (l : List Vn) (k t : Int) : Nat := (l.filter (leV k t)).length
theorem cntV_le (l : List Vn) (k t : Int) : cntV l k t ≤ l.length := List.length_filter_le _ _
theorem cntV_eq {l : List Vn} {k t : Int} {i : Nat} (hi : i ≤ l.length) (h1 : ∀ j, j < i → leV k t (nthR l j) = true) (h2 : ∀ j, i ≤ j → j < l.length → leV k t (nthR l j) = false) : cntV l k t = i := by
  have e : l.take i ++ l.drop i = l := List.take_append_drop i l
  have a : (l.take i).filter (leV k t) = l.take i := by
    rw [List.filter_eq_self]
    intro x hx
    obtain ⟨j, hj, rfl⟩ := List.mem_iff_getElem.1 hx
    rw [List.length_take] at hj
    rw [List.getElem_take, ← nthR_get]
    exact h1 j (by omega)
  have b : (l.drop i).filter (leV k t) = [] := by
    rw [List.filter_eq_nil_iff]
    intro x hx
    obtain ⟨j, hj, rfl⟩ := List.mem_iff_getElem.1 hx
    rw [List.length_drop] at hj
    rw [List.getElem_drop, ← nthR_get, h2 (i + j) (by omega) (by omega)]
    simp
  rw [cntV, ← e, List.filter_append, a, b, List.append_nil, List.length_take]
  omega
theorem leV_down {k t : Int} {a b : Vn} (h : ltV a b) (hb : leV k t b = true) : leV k t a = true := by
  unfold leV at *; unfold ltV at h
  rw [decide_eq_true_iff] at *
  omega
/-- What is at an index, by the number. -/
theorem cntV_spec {l : List Vn} (h : AscV l) (k t : Int) : (∀ j, j < cntV l k t → leV k t (nthR l j) = true) ∧ ∀ j, cntV l k t ≤ j → j < l.length → leV k t (nthR l j) = false := by
  have key : ∃ i, i ≤ l.length ∧ (∀ j, j < i → leV k t (nthR l j) = true) ∧ ∀ j, i ≤ j → j < l.length → leV k t (nthR l j) = false := by
    have : ∀ n, n ≤ l.length → (∀ j, j < n → leV k t (nthR l j) = true) ∨ ∃ i, i ≤ n ∧ (∀ j, j < i → leV k t (nthR l j) = true) ∧ i < l.length ∧ leV k t (nthR l i) = false := by
      intro n
      induction n with
      | zero => intro _; exact .inl fun j hj => absurd hj (Nat.not_lt_zero _)
      | succ n ih =>
        intro hn
        rcases ih (by omega) with h1 | ⟨i, h1, h2, h3, h4⟩
        · cases hq : leV k t (nthR l n) with
          | true =>
            refine .inl fun j hj => ?_
            rcases Nat.lt_or_ge j n with h2 | h2
            · exact h1 j h2
            · obtain rfl : j = n := by omega
              exact hq
          | false => exact .inr ⟨n, by omega, h1, by omega, hq⟩
        · exact .inr ⟨i, by omega, h2, h3, h4⟩
    rcases this l.length (Nat.le_refl _) with h1 | ⟨i, h1, h2, h3, h4⟩
    · exact ⟨l.length, Nat.le_refl _, h1, fun j hj hj' => absurd hj' (by omega)⟩
    · refine ⟨i, h1, h2, fun j hj hj' => ?_⟩
      rcases Nat.lt_or_ge i j with h5 | h5
      · rw [Bool.eq_false_iff]
        intro e
        rw [leV_down (h i j h5 hj') e] at h4
        cases h4
      · obtain rfl : i = j := by omega
        exact h4
  obtain ⟨i, h1, h2, h3⟩ := key
  rw [cntV_eq h1 h2 h3]
  exact ⟨h2, h3⟩
/-- The version of a key that comes last up to a timestamp. -/
def lastV (l : List Vn) (k t : Int) : Vn := if 0 < cntV l k t ∧ (nthR l (cntV l k t - 1)).k = k then nthR l (cntV l k t - 1) else v0

/-- What was written last to a key up to a timestamp. -/
def IsP (l : List Vn) (k t : Int) (r : Vn) : Prop := (r = v0 ∧ ∀ u ∈ l, u.k = k → ¬ u.t ≤ t) ∨ (r ∈ l ∧ r.k = k ∧ r.t ≤ t ∧ ∀ u ∈ l, u.k = k → u.t ≤ t → u.t ≤ r.t)
theorem lastV_isP {l : List Vn} (h : AscV l) (k t : Int) : IsP l k t (lastV l k t) := by
  obtain ⟨h1, h2⟩ := cntV_spec h k t
  have hle := cntV_le l k t
  unfold lastV
  generalize cntV l k t = i at *
  have hmem : ∀ u ∈ l, u.k = k → u.t ≤ t → ∃ j, j < i ∧ nthR l j = u := by
    intro u hu hk ht
    obtain ⟨j, hj, rfl⟩ := List.mem_iff_getElem.1 hu
    refine ⟨j, ?_, nthR_get hj⟩
    rcases Nat.lt_or_ge j i with h3 | h3
    · exact h3
    · have := h2 j h3 hj
      rw [nthR_get hj, leV, decide_eq_false_iff_not] at this
      omega
  split
  · rename_i hc
    obtain ⟨hi, hk⟩ := hc
    refine .inr ⟨by rw [nthR_get (by omega)]; exact List.getElem_mem _, hk, ?_, fun u hu hk' ht => ?_⟩
    · have := h1 (i - 1) (by omega)
      rw [leV, decide_eq_true_iff] at this
      omega
    · obtain ⟨j, hj, rfl⟩ := hmem u hu hk' ht
      rcases Nat.lt_or_ge j (i - 1) with h3 | h3
      · have := h j (i - 1) h3 (by omega)
        unfold ltV at this
        omega
      · obtain rfl : j = i - 1 := by omega
        exact Int.le_refl _
  · rename_i hc
    refine .inl ⟨rfl, fun u hu hk' ht => ?_⟩
    obtain ⟨j, hj, rfl⟩ := hmem u hu hk' ht
    apply hc
    refine ⟨by omega, ?_⟩
    have h4 := h1 (i - 1) (by omega)
    rw [leV, decide_eq_true_iff] at h4
    rcases Nat.lt_or_ge j (i - 1) with h3 | h3
    · have := h j (i - 1) h3 (by omega)
      unfold ltV at this
      omega
    · obtain rfl : j = i - 1 := by omega
      exact hk'
/-- One version of a key has a timestamp. -/
def Uni (l : List Vn) : Prop := ∀ u ∈ l, ∀ v ∈ l, u.k = v.k → u.t = v.t → u = v
theorem AscV.uni {l : List Vn} (h : AscV l) : Uni l := by
  intro u hu v hv hk ht
  obtain ⟨i, hi, rfl⟩ := List.mem_iff_getElem.1 hu
  obtain ⟨j, hj, rfl⟩ := List.mem_iff_getElem.1 hv
  rcases Nat.lt_trichotomy i j with h1 | h1 | h1
  · have := h i j h1 hj
    rw [nthR_get hi, nthR_get hj] at this
    unfold ltV at this; omega
  · subst h1; rfl
  · have := h j i h1 hi
    rw [nthR_get hi, nthR_get hj] at this
    unfold ltV at this; omega
theorem IsP.uniq {l l' : List Vn} {k t : Int} {r r' : Vn} (hu : Uni l) (hm : ∀ v, v ∈ l ↔ v ∈ l') (h : IsP l k t r) (h' : IsP l' k t r') : r = r' := by
  rcases h with ⟨rfl, h⟩ | ⟨h1, h2, h3, h4⟩ <;> rcases h' with ⟨rfl, h'⟩ | ⟨h1', h2', h3', h4'⟩
  · rfl
  · exact absurd h3' (h _ ((hm _).2 h1') h2')
  · exact absurd h3 (h' _ ((hm _).1 h1) h2)
  · refine hu r h1 r' ((hm _).2 h1') (by rw [h2, h2']) ?_
    have a := h4 r' ((hm _).2 h1') h2' h3'
    have b := h4' r ((hm _).1 h1) h2 h3
    omega

/-- The version behind what comes up to it. -/
def insV (l : List Vn) (v : Vn) : List Vn := l.take (cntV l v.k v.t) ++ v :: l.drop (cntV l v.k v.t)
def putE (l : List Vn) (v : Vn) : Int := if validV l = true ∧ wfV v = true then (if v.t ≤ (lastV l v.k 3000000000000000).t then 30 else if l.length = 4000 then 2 else 0) else 1
theorem insV_mem {l : List Vn} {v x : Vn} : x ∈ insV l v ↔ x ∈ l ∨ x = v := by
  have e : l.take (cntV l v.k v.t) ++ l.drop (cntV l v.k v.t) = l := List.take_append_drop _ l
  rw [insV, List.mem_append, List.mem_cons]
  constructor
  · rintro (h | h | h)
    · exact .inl (List.mem_of_mem_take h)
    · exact .inr h
    · exact .inl (List.mem_of_mem_drop h)
  · rintro (h | h)
    · rw [← e, List.mem_append] at h
      rcases h with h | h
      · exact .inl h
      · exact .inr (.inr h)
    · exact .inr (.inl h)
theorem insV_len (l : List Vn) (v : Vn) : (insV l v).length = l.length + 1 := by
  have := cntV_le l v.k v.t
  simp only [insV, List.length_append, List.length_take, List.length_cons, List.length_drop]
  omega
theorem insV_asc {l : List Vn} {v : Vn} (h : AscV l) (hn : ∀ u ∈ l, u.k = v.k → u.t < v.t) : AscV (insV l v) := by
  obtain ⟨h1, h2⟩ := cntV_spec h v.k v.t
  have hle := cntV_le l v.k v.t
  refine AscV.of ?_
  unfold insV
  generalize cntV l v.k v.t = i at *
  have e : l.take i ++ l.drop i = l := List.take_append_drop _ l
  have hp := h.pw
  rw [← e, List.pairwise_append] at hp
  obtain ⟨p1, p2, p3⟩ := hp
  have q1 : ∀ a ∈ l.take i, ltV a v := by
    intro a ha
    obtain ⟨j, hj, rfl⟩ := List.mem_iff_getElem.1 ha
    rw [List.length_take] at hj
    have h3 := h1 j (by omega)
    rw [List.getElem_take, ← nthR_get (by omega)]
    have h4 := hn (nthR l j) (by rw [nthR_get (by omega)]; exact List.getElem_mem _)
    rw [leV, decide_eq_true_iff] at h3
    unfold ltV
    by_cases hk : (nthR l j).k = v.k
    · exact .inr ⟨hk, h4 hk⟩
    · omega
  have q2 : ∀ a ∈ l.drop i, ltV v a := by
    intro a ha
    obtain ⟨j, hj, rfl⟩ := List.mem_iff_getElem.1 ha
    rw [List.length_drop] at hj
    have h3 := h2 (i + j) (by omega) (by omega)
    rw [List.getElem_drop, ← nthR_get (by omega)]
    rw [leV, decide_eq_false_iff_not] at h3
    unfold ltV
    omega
  rw [List.pairwise_append]
  refine ⟨p1, List.pairwise_cons.2 ⟨q2, p2⟩, fun a ha b hb => ?_⟩
  rcases List.mem_cons.1 hb with rfl | hb
  · exact q1 a ha
  · exact p3 a ha b hb

/-! ### Transactions and leaders -/
def sOk (s : Sn) : Bool := inT s.k 1 1000 && inT s.t 0 3000000000000000
def wOk (x : Wr) : Bool := inT x.k 1 1000 && (inT x.v 0 1000000 && (!x.g || decide (x.v = 0)))
def stepSn (l : List Sn) (i : Nat) : Bool := sOk (nthR l i) && (i == 0 || decide ((nthR l (i - 1)).k < (nthR l i).k))
def stepW (l : List Wr) (i : Nat) : Bool := wOk (nthR l i) && (i == 0 || decide ((nthR l (i - 1)).k < (nthR l i).k))
def formB (t : Tx) : Bool := (List.range t.rd.length).all (stepSn t.rd) && ((List.range t.wr.length).all (stepW t.wr) && (inT t.id 1 1000000 && (inT t.ts 0 3000000000000000 && (decide (t.rd.length ≤ 8) && decide (t.wr.length ≤ 8)))))
def verW (ts : Int) (x : Wr) : Vn := ⟨x.k, ts, x.v, x.g⟩
def verT (t : Tx) : List Vn := t.wr.map (verW t.ts)
def szO (op : List Tx) : Nat := (op.map fun t => t.wr.length).sum
def sizeL (l : Ld) : Nat := l.st.length + szO l.op
def maxS (l : List Vn) : Int := l.foldl (fun m v => max m v.t) 0
def lastO (m : Int) (op : List Tx) (i : Nat) : Int := if i = 0 then m else (nthT op (i - 1)).ts
def stepO (m : Int) (op : List Tx) (i : Nat) : Bool := formB (nthT op i) && decide (lastO m op i < (nthT op i).ts)
def validL (l : Ld) : Bool := validV l.st && (inT l.last 0 3000000000000000 && (decide (l.op.length ≤ 2000) && (decide (sizeL l ≤ 4000) && ((List.range l.op.length).all (stepO (maxS l.st) l.op) && decide (lastO (maxS l.st) l.op l.op.length ≤ l.last)))))

theorem maxS_snoc (l : List Vn) (v : Vn) : maxS (l ++ [v]) = max (maxS l) v.t := by simp [maxS]
theorem maxS_le {l : List Vn} {m : Int} : maxS l ≤ m ↔ 0 ≤ m ∧ ∀ v ∈ l, v.t ≤ m := by
  have : ∀ (l : List Vn) (a : Int), l.foldl (fun m v => max m v.t) a ≤ m ↔ a ≤ m ∧ ∀ v ∈ l, v.t ≤ m := by
    intro l
    induction l with
    | nil => intro a; simp
    | cons x l ih =>
      intro a
      rw [List.foldl_cons, ih, List.forall_mem_cons]
      constructor
      · rintro ⟨h1, h2⟩; exact ⟨by omega, by omega, h2⟩
      · rintro ⟨h1, h2, h3⟩; exact ⟨by omega, h3⟩
  exact this l 0
structure FormT (t : Tx) : Prop where
  wf : ∀ x ∈ t.wr, wOk x = true
  asc : t.wr.Pairwise fun a b => a.k < b.k
  ts : 0 ≤ t.ts ∧ t.ts ≤ 3000000000000000
  nw : t.wr.length ≤ 8
theorem ascW {l : List Wr} (h : ∀ i, 0 < i → i < l.length → (nthR l (i - 1)).k < (nthR l i).k) : ∀ j i, i < j → j < l.length → (nthR l i).k < (nthR l j).k
  | 0, _, hi, _ => absurd hi (Nat.not_lt_zero _)
  | j + 1, i, hi, hj => by
    have h1 := h (j + 1) (by omega) hj
    rw [Nat.add_sub_cancel] at h1
    rcases Nat.lt_or_ge i j with h2 | h2
    · have := ascW h j i h2 (by omega); omega
    · obtain rfl : i = j := by omega
      exact h1
theorem formT {t : Tx} (h : formB t = true) : FormT t := by
  simp only [formB, Bool.and_eq_true, all_rangeQ, decide_eq_true_iff, inT_iff] at h
  obtain ⟨_, h2, _, h4, _, h6⟩ := h
  refine ⟨fun x hx => ?_, ?_, h4, h6⟩
  · obtain ⟨i, hi, rfl⟩ := List.mem_iff_getElem.1 hx
    have := h2 i hi
    rw [stepW, Bool.and_eq_true, nthR_get hi] at this
    exact this.1
  · rw [List.pairwise_iff_getElem]
    intro i j hi hj hij
    rw [← nthR_get hi, ← nthR_get hj]
    refine ascW (fun i h0 hi => ?_) j i hij hj
    have := h2 i hi
    rw [stepW, Bool.and_eq_true, Bool.or_eq_true, beq_iff_eq, decide_eq_true_iff] at this
    exact this.2.resolve_left (by omega)
theorem formB_ts {t : Tx} {ts : Int} (h : formB t = true) (h' : 0 ≤ ts ∧ ts ≤ 3000000000000000) : formB { t with ts := ts } = true := by
  simp only [formB, Bool.and_eq_true, inT_iff] at h ⊢
  exact ⟨h.1, h.2.1, h.2.2.1, h', h.2.2.2.2⟩
theorem FormT.ver {t : Tx} (h : FormT t) (h1 : 1 ≤ t.ts) : ∀ v ∈ verT t, wfV v = true ∧ v.t = t.ts := by
  intro v hv
  obtain ⟨x, hx, rfl⟩ := List.mem_map.1 hv
  have h2 := h.wf x hx
  have h3 := h.ts
  simp only [wOk, Bool.and_eq_true, inT_iff] at h2
  refine ⟨?_, rfl⟩
  simp only [wfV, verW, Bool.and_eq_true, inT_iff]
  exact ⟨h2.1, ⟨h1, h3.2⟩, h2.2.1, h2.2.2⟩

/-- A course's log: the transactions' timestamps rise, and they are well-formed. -/
structure Good (d : List Tx) : Prop where
  asc : d.Pairwise fun a b => a.ts < b.ts
  form : ∀ t ∈ d, formB t = true
  pos : ∀ t ∈ d, 1 ≤ t.ts
def allV (d : List Tx) : List Vn := d.flatMap verT
theorem allV_app (a b : List Tx) : allV (a ++ b) = allV a ++ allV b := by simp [allV]
/-- Versions in the order of their writing: those of a key have rising timestamps. -/
def Ris (l : List Vn) : Prop := l.Pairwise fun a b => a.k = b.k → a.t < b.t
theorem Good.ris {d : List Tx} (h : Good d) : Ris (allV d) := by
  obtain ⟨h1, h2, h3⟩ := h
  induction d with
  | nil => exact List.Pairwise.nil
  | cons t d ih =>
    have hf := formT (h2 t (List.mem_cons_self ..))
    rw [List.pairwise_cons] at h1
    have := ih h1.2 (fun x hx => h2 x (List.mem_cons_of_mem _ hx)) (fun x hx => h3 x (List.mem_cons_of_mem _ hx))
    unfold Ris allV at *
    rw [List.flatMap_cons, List.pairwise_append]
    refine ⟨?_, this, fun a ha b hb _ => ?_⟩
    · rw [verT, List.pairwise_map]
      exact hf.asc.imp fun {a b} hab e => by simp only [verW] at e; omega
    · obtain ⟨x, hx, rfl⟩ := List.mem_map.1 ha
      obtain ⟨u, hu, hb⟩ := List.mem_flatMap.1 hb
      obtain ⟨y, hy, rfl⟩ := List.mem_map.1 hb
      exact h1.1 u hu
theorem Good.wf {d : List Tx} (h : Good d) : ∀ v ∈ allV d, wfV v = true := by
  intro v hv
  obtain ⟨t, ht, hv⟩ := List.mem_flatMap.1 hv
  exact ((formT (h.form t ht)).ver (h.pos t ht) v hv).1

/-- The store s has the versions us, which were put one after the other. -/
structure Sp (s us : List Vn) : Prop where
  asc : AscV s
  mem : ∀ v, v ∈ s ↔ v ∈ us
  len : s.length = us.length
  wf : ∀ v ∈ us, wfV v = true
theorem Sp.ins {s us : List Vn} {v : Vn} (h : Sp s us) (hv : wfV v = true) (hn : ∀ u ∈ us, u.k = v.k → u.t < v.t) (hl : us.length < 4000) : putE s v = 0 ∧ Sp (insV s v) (us ++ [v]) := by
  have hn' : ∀ u ∈ s, u.k = v.k → u.t < v.t := fun u hu => hn u ((h.mem u).1 hu)
  refine ⟨?_, insV_asc h.asc hn', fun x => ?_, by rw [insV_len, h.len, List.length_append]; rfl, fun x hx => ?_⟩
  · have hval : validV s = true := validV_iff.2 ⟨fun x hx => h.wf x ((h.mem x).1 hx), h.asc, by have := h.len; omega⟩
    unfold putE
    rw [if_pos ⟨hval, hv⟩, if_neg, if_neg (by have := h.len; omega)]
    intro hle
    simp only [wfV, Bool.and_eq_true, inT_iff] at hv
    rcases lastV_isP h.asc v.k 3000000000000000 with ⟨e, _⟩ | ⟨h1, h2, _, _⟩
    · rw [e] at hle; simp only [v0] at hle; omega
    · have := hn' _ h1 h2; omega
  · rw [insV_mem, h.mem, List.mem_append, List.mem_singleton]
  · rcases List.mem_append.1 hx with hx | hx
    · exact h.wf x hx
    · rw [List.mem_singleton.1 hx]; exact hv
/-- The store behind some versions. -/
def putsV (s vs : List Vn) : List Vn := vs.foldl insV s
theorem putsV_snoc (s vs : List Vn) (v : Vn) : putsV s (vs ++ [v]) = insV (putsV s vs) v := by simp [putsV]
theorem Sp.puts {s us : List Vn} (h : Sp s us) : ∀ vs : List Vn, Ris (us ++ vs) → (∀ v ∈ vs, wfV v = true) → us.length + vs.length ≤ 4000 → Sp (putsV s vs) (us ++ vs) := by
  intro vs
  induction vs generalizing s us with
  | nil => intro _ _ _; rw [List.append_nil]; exact h
  | cons v vs ih =>
    intro hr hw hl
    rw [List.length_cons] at hl
    have h1 : ∀ u ∈ us, u.k = v.k → u.t < v.t := fun u hu => (List.pairwise_append.1 hr).2.2 u hu v (List.mem_cons_self ..)
    have h2 := (h.ins (hw v (List.mem_cons_self ..)) h1 (by omega)).2
    have := ih h2 (by rw [List.append_assoc]; exact hr) (fun x hx => hw x (List.mem_cons_of_mem _ hx)) (by rw [List.length_append, List.length_singleton]; omega)
    rw [List.append_assoc] at this
    exact this
theorem Sp.put {s us : List Vn} (h : Sp s us) {vs ws : List Vn} {v : Vn} (hr : Ris (us ++ (vs ++ v :: ws))) (hw : ∀ x ∈ vs ++ v :: ws, wfV x = true) (hl : us.length + (vs ++ v :: ws).length ≤ 4000) : putE (putsV s vs) v = 0 := by
  have e : vs ++ v :: ws = vs ++ [v] ++ ws := by simp
  rw [List.length_append, List.length_cons] at hl
  rw [← List.append_assoc, Ris, List.pairwise_append] at hr
  have h1 := h.puts vs hr.1 (fun x hx => hw x (List.mem_append_left _ hx)) (by omega)
  refine (h1.ins (hw v (List.mem_append_right _ (List.mem_cons_self ..))) (fun u hu => hr.2.2 u hu v (List.mem_cons_self ..)) ?_).1
  rw [List.length_append]; omega

theorem ascT {m : Int} {op : List Tx} (h : ∀ i, i < op.length → lastO m op i < (nthT op i).ts) : ∀ j i, i < j → j < op.length → (nthT op i).ts < (nthT op j).ts
  | 0, _, hi, _ => absurd hi (Nat.not_lt_zero _)
  | j + 1, i, hi, hj => by
    have h1 := h (j + 1) hj
    rw [lastO, if_neg (by omega), Nat.add_sub_cancel] at h1
    rcases Nat.lt_or_ge i j with h2 | h2
    · have := ascT h j i h2 (by omega); omega
    · obtain rfl : i = j := by omega
      exact h1
/-- What a well-formed leader has. -/
structure ValL (l : Ld) : Prop where
  st : validV l.st = true
  last : 0 ≤ l.last ∧ l.last ≤ 3000000000000000
  nop : l.op.length ≤ 2000
  sz : sizeL l ≤ 4000
  good : Good l.op
  later : ∀ t ∈ l.op, ∀ v ∈ l.st, v.t < t.ts
  stLe : ∀ v ∈ l.st, v.t ≤ l.last
  opLe : ∀ t ∈ l.op, t.ts ≤ l.last
theorem validL_iff {l : Ld} : validL l = true ↔ ValL l := by
  unfold validL
  simp only [Bool.and_eq_true, all_rangeQ, decide_eq_true_iff, inT_iff, stepO]
  have hmp : 0 ≤ maxS l.st := by
    rcases Int.lt_or_le (maxS l.st) 0 with h | h
    · have := (maxS_le (l := l.st) (m := maxS l.st)).1 (Int.le_refl _); omega
    · exact h
  have hmx : ∀ v ∈ l.st, v.t ≤ maxS l.st := ((maxS_le (l := l.st) (m := maxS l.st)).1 (Int.le_refl _)).2
  constructor
  · rintro ⟨h1, h2, h3, h4, h5, h6⟩
    have hA := ascT (m := maxS l.st) fun i hi => (h5 i hi).2
    have hlo : ∀ i, i < l.op.length → maxS l.st < (nthT l.op i).ts := by
      intro i hi
      have h0 := (h5 0 (by omega)).2
      rw [lastO, if_pos rfl] at h0
      rcases Nat.eq_zero_or_pos i with rfl | hp
      · exact h0
      · have := hA i 0 hp hi; omega
    have hmem : ∀ t ∈ l.op, ∃ i, i < l.op.length ∧ nthT l.op i = t := fun t ht => by
      obtain ⟨i, hi, rfl⟩ := List.mem_iff_getElem.1 ht
      exact ⟨i, hi, nthT_get hi⟩
    refine ⟨h1, h2, h3, h4, ⟨?_, fun t ht => ?_, fun t ht => ?_⟩, fun t ht v hv => ?_, fun v hv => ?_, fun t ht => ?_⟩
    · rw [List.pairwise_iff_getElem]
      intro i j hi hj hij
      rw [← nthT_get hi, ← nthT_get hj]
      exact hA j i hij hj
    · obtain ⟨i, hi, rfl⟩ := hmem t ht
      exact (h5 i hi).1
    · obtain ⟨i, hi, rfl⟩ := hmem t ht
      have := hlo i hi; omega
    · obtain ⟨i, hi, rfl⟩ := hmem t ht
      have := hlo i hi; have := hmx v hv; omega
    · have := hmx v hv
      by_cases h0 : l.op.length = 0
      · rw [lastO, if_pos h0] at h6; omega
      · rw [lastO, if_neg h0] at h6
        have := hlo (l.op.length - 1) (by omega); omega
    · obtain ⟨i, hi, rfl⟩ := hmem t ht
      rw [lastO, if_neg (by omega)] at h6
      rcases Nat.lt_or_ge i (l.op.length - 1) with h | h
      · have := hA (l.op.length - 1) i h (by omega); omega
      · obtain rfl : i = l.op.length - 1 := by omega
        exact h6
  · rintro ⟨h1, h2, h3, h4, ⟨g1, g2, g3⟩, h5, h6, h7⟩
    have hmm : ∀ i, i < l.op.length → nthT l.op i ∈ l.op := fun i hi => by rw [nthT_get hi]; exact List.getElem_mem _
    refine ⟨h1, h2, h3, h4, fun i hi => ⟨g2 _ (hmm i hi), ?_⟩, ?_⟩
    · unfold lastO
      split
      · have h8 := h5 _ (hmm i hi)
        have h9 := g3 _ (hmm i hi)
        have := (maxS_le (l := l.st) (m := (nthT l.op i).ts - 1)).2 ⟨by omega, fun v hv => by have := h8 v hv; omega⟩
        omega
      · rw [List.pairwise_iff_getElem] at g1
        have := g1 (i - 1) i (by omega) hi (by omega)
        rw [nthT_get (by omega), nthT_get hi]
        exact this
    · unfold lastO
      split
      · exact maxS_le.2 ⟨h2.1, h6⟩
      · exact h7 _ (hmm _ (by omega))
/-! ### Reads -/
def outV (l : List Vn) (k ts : Int) : List Vn := if lastV l k ts = v0 ∨ (lastV l k ts).g = true then [] else [lastV l k ts]
def headB (l : List Vn) (j : Nat) : Bool := j == 0 || decide ((nthR l (j - 1)).k ≠ (nthR l j).k)
def oneV (l : List Vn) (ts : Int) (j : Nat) : List Vn := if headB l j then outV l (nthR l j).k ts else []
def rdTo (l : List Vn) (ts : Int) (i : Nat) : List Vn := (List.range i).flatMap (oneV l ts)
def readV (l : List Vn) (ts : Int) : List Vn := rdTo l ts l.length
theorem rdTo_succ (l : List Vn) (ts : Int) (i : Nat) : rdTo l ts (i + 1) = rdTo l ts i ++ oneV l ts i := by simp [rdTo, List.range_succ]
theorem AscV.kle {l : List Vn} (h : AscV l) {i j : Nat} (hij : i ≤ j) (hj : j < l.length) : (nthR l i).k ≤ (nthR l j).k := by
  rcases Nat.lt_or_ge i j with h1 | h1
  · have := h i j h1 hj
    unfold ltV at this; omega
  · obtain rfl : i = j := by omega
    exact Int.le_refl _
/-- The loop's step: from the first version of a key to the first one of the next key. -/
theorem rdTo_step {l : List Vn} (h : AscV l) (hw : ∀ x ∈ l, wfV x = true) (ts : Int) {i : Nat} (hi : i < l.length) (hh : headB l i = true) :
    i < cntV l (nthR l i).k 3000000000000000 ∧ rdTo l ts (cntV l (nthR l i).k 3000000000000000) = rdTo l ts i ++ outV l (nthR l i).k ts ∧
      (cntV l (nthR l i).k 3000000000000000 < l.length → headB l (cntV l (nthR l i).k 3000000000000000) = true) := by
  obtain ⟨h1, h2⟩ := cntV_spec h (nthR l i).k 3000000000000000
  have hle := cntV_le l (nthR l i).k 3000000000000000
  have htm : ∀ j, j < l.length → (nthR l j).t ≤ 3000000000000000 := fun j hj => by
    have := hw (nthR l j) (by rw [nthR_get hj]; exact List.getElem_mem _)
    simp only [wfV, Bool.and_eq_true, inT_iff] at this
    exact this.2.1.2
  have hic : i < cntV l (nthR l i).k 3000000000000000 := by
    rcases Nat.lt_or_ge i (cntV l (nthR l i).k 3000000000000000) with h3 | h3
    · exact h3
    · have := h2 i h3 hi
      rw [leV, decide_eq_false_iff_not] at this
      have := htm i hi
      omega
  refine ⟨hic, ?_, fun hc => ?_⟩
  · have : ∀ m, i + 1 ≤ m → m ≤ cntV l (nthR l i).k 3000000000000000 → rdTo l ts m = rdTo l ts i ++ outV l (nthR l i).k ts := by
      intro m
      induction m with
      | zero => intro hm; omega
      | succ m ih =>
        intro hm hm'
        rw [rdTo_succ]
        rcases Nat.lt_or_ge i m with h3 | h3
        · rw [ih (by omega) (by omega)]
          have e : oneV l ts m = [] := by
            unfold oneV
            rw [if_neg]
            have a := h1 m (by omega)
            rw [leV, decide_eq_true_iff] at a
            have b := h.kle (i := i) (j := m - 1) (by omega) (by omega)
            have c := h.kle (i := m - 1) (j := m) (by omega) (by omega)
            rw [headB, Bool.or_eq_true, beq_iff_eq, decide_eq_true_iff]
            omega
          rw [e, List.append_nil]
        · obtain rfl : m = i := by omega
          rw [oneV, if_pos hh]
    exact this _ hic (Nat.le_refl _)
  · rw [headB, Bool.or_eq_true, beq_iff_eq, decide_eq_true_iff]
    right
    have a := h1 (cntV l (nthR l i).k 3000000000000000 - 1) (by omega)
    have b := h2 _ (Nat.le_refl _) hc
    rw [leV, decide_eq_true_iff] at a
    rw [leV, decide_eq_false_iff_not] at b
    have := htm _ hc
    omega
theorem headB_zero (l : List Vn) : headB l 0 = true := rfl
theorem outV_mem {l : List Vn} (h : AscV l) (hw : ∀ x ∈ l, wfV x = true) {k ts : Int} {x : Vn} : x ∈ outV l k ts ↔ x ∈ l ∧ x.k = k ∧ x.t ≤ ts ∧ x.g = false ∧ ∀ u ∈ l, u.k = k → u.t ≤ ts → u.t ≤ x.t := by
  have hp := lastV_isP h k ts
  unfold outV
  constructor
  · intro hx
    split at hx
    · exact absurd hx (List.not_mem_nil)
    · rename_i hc
      rw [List.mem_singleton] at hx
      subst hx
      rcases hp with ⟨e, _⟩ | ⟨p1, p2, p3, p4⟩
      · exact absurd (.inl e) hc
      · refine ⟨p1, p2, p3, ?_, p4⟩
        cases hg : (lastV l k ts).g
        · rfl
        · exact absurd (.inr hg) hc
  · rintro ⟨p1, p2, p3, p4, p5⟩
    have e : lastV l k ts = x := IsP.uniq h.uni (fun v => Iff.rfl) hp (.inr ⟨p1, p2, p3, p5⟩)
    rw [e, if_neg, List.mem_singleton]
    rintro (e' | e')
    · have := hw x p1
      rw [e'] at this
      exact absurd this (by decide)
    · rw [p4] at e'; cases e'
theorem head_ex {l : List Vn} {k : Int} : ∀ i, i < l.length → (nthR l i).k = k → ∃ j, j ≤ i ∧ headB l j = true ∧ (nthR l j).k = k
  | 0, hi, hk => ⟨0, Nat.le_refl _, rfl, hk⟩
  | i + 1, hi, hk => by
    by_cases h : headB l (i + 1) = true
    · exact ⟨i + 1, Nat.le_refl _, h, hk⟩
    · rw [headB, Bool.or_eq_true, beq_iff_eq, decide_eq_true_iff, Nat.add_sub_cancel] at h
      obtain ⟨j, h1, h2, h3⟩ := head_ex (l := l) (k := k) i (by omega) (by rw [← hk]; exact Classical.byContradiction fun e => h (.inr e))
      exact ⟨j, by omega, h2, h3⟩
theorem readV_mem {l : List Vn} (h : AscV l) (hw : ∀ x ∈ l, wfV x = true) {ts : Int} {x : Vn} : x ∈ readV l ts ↔ x ∈ l ∧ x.t ≤ ts ∧ x.g = false ∧ ∀ u ∈ l, u.k = x.k → u.t ≤ ts → u.t ≤ x.t := by
  rw [readV, rdTo, List.mem_flatMap]
  constructor
  · rintro ⟨j, hj, hx⟩
    unfold oneV at hx
    split at hx
    · obtain ⟨p1, p2, p3, p4, p5⟩ := (outV_mem h hw).1 hx
      exact ⟨p1, p3, p4, by rw [p2]; exact p5⟩
    · exact absurd hx (List.not_mem_nil)
  · rintro ⟨p1, p2, p3, p4⟩
    obtain ⟨i, hi, rfl⟩ := List.mem_iff_getElem.1 p1
    obtain ⟨j, h1, h2, h3⟩ := head_ex i hi rfl
    refine ⟨j, List.mem_range.2 (by omega), ?_⟩
    rw [oneV, if_pos h2, outV_mem h hw]
    rw [nthR_get hi] at h3
    exact ⟨p1, h3.symm, p2, p3, by rw [h3]; exact p4⟩
theorem readV_asc {l : List Vn} (h : AscV l) (hw : ∀ x ∈ l, wfV x = true) (ts : Int) : (readV l ts).Pairwise fun a b => a.k < b.k := by
  have : ∀ i, i ≤ l.length → (rdTo l ts i).Pairwise (fun a b => a.k < b.k) ∧ ∀ x ∈ rdTo l ts i, ∃ j, j < i ∧ headB l j = true ∧ x.k = (nthR l j).k := by
    intro i
    induction i with
    | zero => intro _; exact ⟨List.Pairwise.nil, fun x hx => absurd hx (List.not_mem_nil)⟩
    | succ i ih =>
      intro hi
      obtain ⟨h1, h2⟩ := ih (by omega)
      rw [rdTo_succ]
      unfold oneV
      split
      · rename_i hh
        have hk : ∀ x ∈ outV l (nthR l i).k ts, x.k = (nthR l i).k := fun x hx => ((outV_mem h hw).1 hx).2.1
        refine ⟨List.pairwise_append.2 ⟨h1, ?_, fun a ha b hb => ?_⟩, fun x hx => ?_⟩
        · unfold outV; split
          · exact List.Pairwise.nil
          · exact List.pairwise_singleton _ _
        · obtain ⟨j, q1, q2, q3⟩ := h2 a ha
          rw [q3, hk b hb]
          rw [headB, Bool.or_eq_true, beq_iff_eq, decide_eq_true_iff] at hh
          have a1 := h.kle (i := j) (j := i - 1) (by omega) (by omega)
          have a2 := h.kle (i := i - 1) (j := i) (by omega) (by omega)
          have := hh.resolve_left (by omega)
          omega
        · rcases List.mem_append.1 hx with hx | hx
          · obtain ⟨j, q1, q2, q3⟩ := h2 x hx
            exact ⟨j, by omega, q2, q3⟩
          · exact ⟨i, by omega, hh, hk x hx⟩
      · rw [List.append_nil]
        exact ⟨h1, fun x hx => let ⟨j, q1, q2, q3⟩ := h2 x hx; ⟨j, by omega, q2, q3⟩⟩
  exact (this _ (Nat.le_refl _)).1
/-- Two lists with rising keys and the same members are equal. -/
theorem asc_ext : ∀ {a b : List Vn}, a.Pairwise (fun a b => a.k < b.k) → b.Pairwise (fun a b => a.k < b.k) → (∀ x, x ∈ a ↔ x ∈ b) → a = b
  | [], [], _, _, _ => rfl
  | [], y :: b, _, _, h => absurd ((h y).2 (List.mem_cons_self ..)) (List.not_mem_nil)
  | x :: a, [], _, _, h => absurd ((h x).1 (List.mem_cons_self ..)) (List.not_mem_nil)
  | x :: a, y :: b, ha, hb, h => by
    rw [List.pairwise_cons] at ha hb
    have e : x = y := by
      rcases List.mem_cons.1 ((h x).1 (List.mem_cons_self ..)) with e | e
      · exact e
      · rcases List.mem_cons.1 ((h y).2 (List.mem_cons_self ..)) with e' | e'
        · exact e'.symm
        · have := hb.1 x e; have := ha.1 y e'; omega
    subst e
    have : a = b := asc_ext ha.2 hb.2 fun z => by
      constructor
      · intro hz
        rcases List.mem_cons.1 ((h z).1 (List.mem_cons_of_mem _ hz)) with e | e
        · have := ha.1 z hz; rw [e] at this; omega
        · exact e
      · intro hz
        rcases List.mem_cons.1 ((h z).2 (List.mem_cons_of_mem _ hz)) with e | e
        · have := hb.1 z hz; rw [e] at this; omega
        · exact e
    rw [this]

/-! ### Reclaiming -/
/-- A step from behind: the key that was covered last, and what stays, the last one first. -/
def recStep (h : Int) (s : Int × List Vn) (v : Vn) : Int × List Vn := if v.t ≤ h then (v.k, if s.1 = v.k ∨ v.g = true then s.2 else s.2 ++ [v]) else (s.1, s.2 ++ [v])
/-- The state behind the last i versions. -/
def recTo (l : List Vn) (h : Int) (i : Nat) : Int × List Vn := (l.reverse.take i).foldl (recStep h) (0, [])
theorem recTo_zero (l : List Vn) (h : Int) : recTo l h 0 = (0, []) := by simp [recTo]
theorem recTo_succ {l : List Vn} {h : Int} {i : Nat} (hi : i < l.length) : recTo l h (i + 1) = recStep h (recTo l h i) (nthR l (l.length - 1 - i)) := by
  have hr : i < l.reverse.length := by rw [List.length_reverse]; exact hi
  rw [recTo, List.take_succ_eq_append_getElem hr, List.foldl_append, List.foldl_cons, List.foldl_nil, ← recTo, List.getElem_reverse, nthR_get (by omega)]
def recV (l : List Vn) (h : Int) : List Vn := (recTo l h l.length).2.reverse
def keepB (l : List Vn) (h : Int) (v : Vn) : Prop := ¬ (v.t ≤ h ∧ (v.g = true ∨ ∃ u ∈ l, u.k = v.k ∧ v.t < u.t ∧ u.t ≤ h))
theorem rec_fold (h : Int) : ∀ l : List Vn, l.Pairwise ltV → (∀ x ∈ l, wfV x = true) →
    ((l.reverse.foldl (recStep h) (0, [])).1 = 0 ∧ (∀ u ∈ l, ¬ u.t ≤ h) ∨ ∃ u ∈ l, u.t ≤ h ∧ (l.reverse.foldl (recStep h) (0, [])).1 = u.k ∧ ∀ v ∈ l, v.t ≤ h → u = v ∨ ltV u v) ∧
    (l.reverse.foldl (recStep h) (0, [])).2.reverse.Sublist l ∧ ∀ v, v ∈ (l.reverse.foldl (recStep h) (0, [])).2 ↔ v ∈ l ∧ keepB l h v := by
  intro l
  induction l with
  | nil => intro _ _; simp
  | cons x l ih =>
    intro hp hw
    rw [List.pairwise_cons] at hp
    obtain ⟨h1, h2, h3⟩ := ih hp.2 (fun y hy => hw y (List.mem_cons_of_mem _ hy))
    rw [List.reverse_cons, List.foldl_append, List.foldl_cons, List.foldl_nil]
    generalize l.reverse.foldl (recStep h) (0, []) = s at *
    have hx := hw x (List.mem_cons_self ..)
    simp only [wfV, Bool.and_eq_true, inT_iff] at hx
    -- what is kept of the rest
    have hrest : ∀ v ∈ l, (keepB (x :: l) h v ↔ keepB l h v) := by
      intro v hv
      have hlt := hp.1 v hv
      unfold keepB
      have : (∃ u ∈ x :: l, u.k = v.k ∧ v.t < u.t ∧ u.t ≤ h) ↔ ∃ u ∈ l, u.k = v.k ∧ v.t < u.t ∧ u.t ≤ h := by
        constructor
        · rintro ⟨u, hu, q⟩
          rcases List.mem_cons.1 hu with rfl | hu
          · unfold ltV at hlt; omega
          · exact ⟨u, hu, q⟩
        · rintro ⟨u, hu, q⟩; exact ⟨u, List.mem_cons_of_mem _ hu, q⟩
      rw [this]
    have hnot : x ∉ l := fun hm => by have := hp.1 x hm; unfold ltV at this; omega
    by_cases ht : x.t ≤ h
    · have hcov : s.1 = x.k ↔ ∃ u ∈ x :: l, u.k = x.k ∧ x.t < u.t ∧ u.t ≤ h := by
        constructor
        · intro e
          rcases h1 with ⟨q1, q2⟩ | ⟨u, q1, q2, q3, q4⟩
          · omega
          · refine ⟨u, List.mem_cons_of_mem _ q1, by omega, ?_, q2⟩
            have := hp.1 u q1
            unfold ltV at this; omega
        · rintro ⟨u, hu, q1, q2, q3⟩
          rcases List.mem_cons.1 hu with rfl | hu
          · omega
          · rcases h1 with ⟨_, r2⟩ | ⟨u', r1, r2, r3, r4⟩
            · exact absurd q3 (r2 u hu)
            · rw [r3]
              have a := hp.1 u' r1
              rcases r4 u hu q3 with rfl | b
              · exact q1
              · unfold ltV at a b; omega
      have hkx : keepB (x :: l) h x ↔ ¬ (s.1 = x.k ∨ x.g = true) := by
        unfold keepB
        rw [← hcov]
        constructor
        · intro q q'; exact q ⟨ht, q'.symm⟩
        · rintro q ⟨_, q'⟩; exact q q'.symm
      unfold recStep
      rw [if_pos ht]
      refine ⟨.inr ⟨x, List.mem_cons_self .., ht, rfl, fun v hv _ => ?_⟩, ?_, fun v => ?_⟩
      · rcases List.mem_cons.1 hv with rfl | hv
        · exact .inl rfl
        · exact .inr (hp.1 v hv)
      · split
        · exact h2.cons _
        · rw [List.reverse_append]; exact h2.cons_cons _
      · split
        · rename_i hc
          rw [h3, List.mem_cons]
          constructor
          · rintro ⟨q1, q2⟩; exact ⟨.inr q1, (hrest v q1).2 q2⟩
          · rintro ⟨rfl | q1, q2⟩
            · exact absurd hc (hkx.1 q2)
            · exact ⟨q1, (hrest v q1).1 q2⟩
        · rename_i hc
          rw [List.mem_append, h3, List.mem_singleton, List.mem_cons]
          constructor
          · rintro (⟨q1, q2⟩ | rfl)
            · exact ⟨.inr q1, (hrest v q1).2 q2⟩
            · exact ⟨.inl rfl, hkx.2 hc⟩
          · rintro ⟨rfl | q1, q2⟩
            · exact .inr rfl
            · exact .inl ⟨q1, (hrest v q1).1 q2⟩
    · unfold recStep
      rw [if_neg ht]
      refine ⟨?_, ?_, fun v => ?_⟩
      · rcases h1 with ⟨q1, q2⟩ | ⟨u, q1, q2, q3, q4⟩
        · exact .inl ⟨q1, List.forall_mem_cons.2 ⟨ht, q2⟩⟩
        · refine .inr ⟨u, List.mem_cons_of_mem _ q1, q2, q3, fun v hv hv' => ?_⟩
          rcases List.mem_cons.1 hv with rfl | hv
          · exact absurd hv' ht
          · exact q4 v hv hv'
      · show (s.2 ++ [x]).reverse.Sublist _
        rw [List.reverse_append]; exact h2.cons_cons _
      · show v ∈ s.2 ++ [x] ↔ _
        rw [List.mem_append, h3, List.mem_singleton, List.mem_cons]
        constructor
        · rintro (⟨q1, q2⟩ | rfl)
          · exact ⟨.inr q1, (hrest v q1).2 q2⟩
          · exact ⟨.inl rfl, fun q => ht q.1⟩
        · rintro ⟨rfl | q1, q2⟩
          · exact .inr rfl
          · exact .inl ⟨q1, (hrest v q1).1 q2⟩
theorem recV_spec {l : List Vn} (h : AscV l) (hw : ∀ x ∈ l, wfV x = true) (hz : Int) : (recV l hz).Sublist l ∧ ∀ v, v ∈ recV l hz ↔ v ∈ l ∧ keepB l hz v := by
  have e : recTo l hz l.length = l.reverse.foldl (recStep hz) (0, []) := by
    rw [recTo, List.take_of_length_le (by rw [List.length_reverse]; exact Nat.le_refl _)]
  obtain ⟨_, h2, h3⟩ := rec_fold hz l h.pw hw
  rw [recV, e]
  exact ⟨h2, fun v => by rw [List.mem_reverse]; exact h3 v⟩
theorem recV_valid {l : List Vn} (h : validV l = true) (hz : Int) : validV (recV l hz) = true := by
  obtain ⟨h1, h2, h3⟩ := validV_iff.1 h
  obtain ⟨s1, s2⟩ := recV_spec h2 h1 hz
  exact validV_iff.2 ⟨fun x hx => h1 x ((s2 x).1 hx).1, AscV.of (h2.pw.sublist s1), by have := s1.length_le; omega⟩
theorem grow_ind (l : List Vn) (k ts : Int) : ∀ n : Nat, ∀ u ∈ l, u.k = k → u.t ≤ ts → (ts - u.t).toNat ≤ n → ∃ r ∈ l, r.k = k ∧ r.t ≤ ts ∧ u.t ≤ r.t ∧ ∀ x ∈ l, x.k = k → x.t ≤ ts → x.t ≤ r.t := by
  intro n
  induction n with
  | zero =>
    intro u hu hk ht hn
    exact ⟨u, hu, hk, ht, Int.le_refl _, fun x _ _ hx => by omega⟩
  | succ n ih =>
    intro u hu hk ht hn
    by_cases hc : ∀ x ∈ l, x.k = k → x.t ≤ ts → x.t ≤ u.t
    · exact ⟨u, hu, hk, ht, Int.le_refl _, hc⟩
    · have : ∃ x, x ∈ l ∧ x.k = k ∧ x.t ≤ ts ∧ u.t < x.t := Classical.byContradiction fun hne => hc fun x h1 h2 h3 => by
        rcases Int.lt_or_le u.t x.t with h4 | h4
        · exact absurd ⟨x, h1, h2, h3, h4⟩ hne
        · exact h4
      obtain ⟨x, h1, h2, h3, h4⟩ := this
      obtain ⟨r, r1, r2, r3, r4, r5⟩ := ih x h1 h2 h3 (by omega)
      exact ⟨r, r1, r2, r3, by omega, r5⟩
/-- A read at or above the horizon returns the same of what stays. -/
theorem read_rec {l : List Vn} (h : validV l = true) {hz ts : Int} (hle : hz ≤ ts) : readV (recV l hz) ts = readV l ts := by
  obtain ⟨h1, h2, h3⟩ := validV_iff.1 h
  obtain ⟨s1, s2⟩ := recV_spec h2 h1 hz
  obtain ⟨k1, k2, k3⟩ := validV_iff.1 (recV_valid h hz)
  refine asc_ext (readV_asc k2 k1 ts) (readV_asc h2 h1 ts) fun x => ?_
  rw [readV_mem k2 k1, readV_mem h2 h1]
  constructor
  · rintro ⟨p1, p2, p3, p4⟩
    obtain ⟨q1, q2⟩ := (s2 x).1 p1
    refine ⟨q1, p2, p3, fun u hu hk ht => ?_⟩
    obtain ⟨r, r1, r2, r3, r4, r5⟩ := grow_ind l x.k ts _ u hu hk ht (Nat.le_refl _)
    rcases Int.lt_or_le x.t r.t with hlt | hge
    · exfalso
      by_cases hkr : keepB l hz r
      · have := p4 r ((s2 r).2 ⟨r1, hkr⟩) r2 r3; omega
      · have hkr' := Classical.not_not.1 hkr
        refine q2 ⟨by omega, .inr ⟨r, r1, r2, hlt, hkr'.1⟩⟩
    · omega
  · rintro ⟨p1, p2, p3, p4⟩
    refine ⟨(s2 x).2 ⟨p1, ?_⟩, p2, p3, fun u hu => p4 u ((s2 u).1 hu).1⟩
    rintro ⟨a, b | ⟨u, hu, hk, hlt, hle'⟩⟩
    · rw [p3] at b; cases b
    · have := p4 u hu hk (by omega); omega

/-! ### Leaders' answers -/
def okI (lo hi : Int) : Bool := decide (0 ≤ lo ∧ lo ≤ hi ∧ hi ≤ 3000000000000000)
def pastN (op : List Tx) (at_ : Int) : Nat := (op.filter fun t => decide (t.ts < at_)).length
theorem pastN_le (op : List Tx) (at_ : Int) : pastN op at_ ≤ op.length := List.length_filter_le _ _
theorem pastN_eq {op : List Tx} {a : Int} {i : Nat} (hi : i ≤ op.length) (h1 : ∀ j, j < i → (nthT op j).ts < a) (h2 : ∀ j, i ≤ j → j < op.length → a ≤ (nthT op j).ts) : pastN op a = i := by
  have e : op.take i ++ op.drop i = op := List.take_append_drop i op
  have a1 : (op.take i).filter (fun t => decide (t.ts < a)) = op.take i := by
    rw [List.filter_eq_self]
    intro x hx
    obtain ⟨j, hj, rfl⟩ := List.mem_iff_getElem.1 hx
    rw [List.length_take] at hj
    rw [List.getElem_take, ← nthT_get, decide_eq_true_iff]
    exact h1 j (by omega)
  have b1 : (op.drop i).filter (fun t => decide (t.ts < a)) = [] := by
    rw [List.filter_eq_nil_iff]
    intro x hx
    obtain ⟨j, hj, rfl⟩ := List.mem_iff_getElem.1 hx
    rw [List.length_drop] at hj
    rw [List.getElem_drop, ← nthT_get, decide_eq_true_iff]
    have := h2 (i + j) (by omega) (by omega)
    omega
  rw [pastN, ← e, List.filter_append, a1, b1, List.append_nil, List.length_take]
  omega
def shownL (l : Ld) (lo : Int) : Ld := ⟨l.last, putsV l.st (allV (l.op.take (pastN l.op lo))), l.op.drop (pastN l.op lo)⟩
theorem putsV_app (s a b : List Vn) : putsV s (a ++ b) = putsV (putsV s a) b := by simp [putsV]
theorem allV_len (d : List Tx) : (allV d).length = szO d := by
  induction d with
  | nil => rfl
  | cons t d ih =>
    have : allV (t :: d) = verT t ++ allV d := by simp [allV]
    rw [this, List.length_append, ih]
    simp [szO, verT]
theorem szO_app (a b : List Tx) : szO (a ++ b) = szO a + szO b := by simp [szO]
theorem Good.sub {a b : List Tx} (h : Good b) (hs : a.Sublist b) : Good a := ⟨h.asc.sublist hs, fun t ht => h.form t (hs.subset ht), fun t ht => h.pos t (hs.subset ht)⟩
theorem ValL.sp {l : Ld} (h : ValL l) : Sp l.st l.st := by
  obtain ⟨h1, h2, h3⟩ := validV_iff.1 h.st
  exact ⟨h2, fun _ => Iff.rfl, rfl, h1⟩
theorem AscV.ris {l : List Vn} (h : AscV l) : Ris l := h.pw.imp fun {a b} hab e => by unfold ltV at hab; omega
theorem ValL.risA {l : Ld} (h : ValL l) : Ris (l.st ++ allV l.op) := by
  refine List.pairwise_append.2 ⟨h.sp.asc.ris, h.good.ris, fun u hu v hv _ => ?_⟩
  obtain ⟨t, ht, hv⟩ := List.mem_flatMap.1 hv
  rw [((formT (h.good.form t ht)).ver (h.good.pos t ht) v hv).2]
  exact h.later t ht u hu
/-- Each put of the call that shows is taken. -/
theorem ValL.put {l : Ld} (h : ValL l) {k j : Nat} (hk : k < l.op.length) (hj : j < (nthT l.op k).wr.length) :
    putE (putsV l.st (allV (l.op.take k) ++ (verT (nthT l.op k)).take j)) (nthR (verT (nthT l.op k)) j) = 0 := by
  have e1 : l.op = l.op.take k ++ nthT l.op k :: l.op.drop (k + 1) := by
    rw [nthT_get hk, List.getElem_cons_drop hk, List.take_append_drop]
  have hj' : j < (verT (nthT l.op k)).length := by simpa [verT] using hj
  have e2 : verT (nthT l.op k) = (verT (nthT l.op k)).take j ++ nthR (verT (nthT l.op k)) j :: (verT (nthT l.op k)).drop (j + 1) := by
    rw [nthR_get hj', List.getElem_cons_drop hj', List.take_append_drop]
  have e3 : allV l.op = (allV (l.op.take k) ++ (verT (nthT l.op k)).take j) ++ nthR (verT (nthT l.op k)) j :: ((verT (nthT l.op k)).drop (j + 1) ++ allV (l.op.drop (k + 1))) := by
    conv => lhs; rw [e1, allV_app]
    have : allV (nthT l.op k :: l.op.drop (k + 1)) = verT (nthT l.op k) ++ allV (l.op.drop (k + 1)) := by simp [allV]
    rw [this]
    conv => lhs; rw [e2]
    simp
  have hr := h.risA
  have hw := h.good.wf
  have hl := h.sz
  rw [sizeL, ← allV_len] at hl
  rw [e3] at hr hw hl
  exact h.sp.put hr hw hl
theorem ValL.shown {l : Ld} (h : ValL l) (lo : Int) : Sp (shownL l lo).st (l.st ++ allV (l.op.take (pastN l.op lo))) ∧ ValL (shownL l lo) := by
  have e : l.op.take (pastN l.op lo) ++ l.op.drop (pastN l.op lo) = l.op := List.take_append_drop _ _
  have hr := h.risA
  have hg := h.good
  have hsz := h.sz
  rw [sizeL, ← e, szO_app] at hsz
  rw [← e, allV_app, ← List.append_assoc] at hr
  have g1 : Good (l.op.take (pastN l.op lo)) := hg.sub (List.take_sublist _ _)
  have g2 : Good (l.op.drop (pastN l.op lo)) := hg.sub (List.drop_sublist _ _)
  have s1 : Sp (putsV l.st (allV (l.op.take (pastN l.op lo)))) (l.st ++ allV (l.op.take (pastN l.op lo))) :=
    h.sp.puts _ (List.pairwise_append.1 hr).1 g1.wf (by rw [allV_len]; omega)
  have hts : ∀ v ∈ allV (l.op.take (pastN l.op lo)), ∃ t ∈ l.op.take (pastN l.op lo), v.t = t.ts := by
    intro v hv
    obtain ⟨t, ht, hv⟩ := List.mem_flatMap.1 hv
    exact ⟨t, ht, ((formT (g1.form t ht)).ver (g1.pos t ht) v hv).2⟩
  have hlen : (shownL l lo).st.length = l.st.length + szO (l.op.take (pastN l.op lo)) := by
    rw [← allV_len, ← List.length_append]; exact s1.len
  refine ⟨s1, ⟨validV_iff.2 ⟨fun x hx => s1.wf x ((s1.mem x).1 hx), s1.asc, by rw [hlen]; omega⟩, h.last, by simp only [shownL, List.length_drop]; have := h.nop; omega, ?_, g2, fun t ht v hv => ?_, fun v hv => ?_, fun t ht => h.opLe t (List.mem_of_mem_drop ht)⟩⟩
  · rw [sizeL, hlen]; show _ + szO (l.op.drop _) ≤ _; omega
  · rcases List.mem_append.1 ((s1.mem v).1 hv) with hv | hv
    · exact h.later t (List.mem_of_mem_drop ht) v hv
    · obtain ⟨t', ht', e'⟩ := hts v hv
      rw [e']
      have ha := hg.asc
      rw [← e] at ha
      exact (List.pairwise_append.1 ha).2.2 t' ht' t ht
  · rcases List.mem_append.1 ((s1.mem v).1 hv) with hv | hv
    · exact h.stLe v hv
    · obtain ⟨t', ht', e'⟩ := hts v hv
      rw [e']
      exact h.opLe t' (List.mem_of_mem_take ht')

/-! ### Courses -/
/-- The leader l of a course by which the transactions d were stamped. -/
structure CInv (l : Ld) (d : List Tx) : Prop where
  val : ValL l
  good : Good d
  le : ∀ t ∈ d, t.ts ≤ l.last
  split : ∃ sh, d = sh ++ l.op ∧ ∀ v, v ∈ l.st ↔ v ∈ allV sh
theorem CInv.zero : CInv ⟨0, [], []⟩ [] := by
  refine ⟨validL_iff.1 (by decide), ⟨List.Pairwise.nil, by simp, by simp⟩, by simp, [], rfl, by simp [allV]⟩
theorem CInv.show_ {l : Ld} {d : List Tx} (h : CInv l d) (lo : Int) : CInv (shownL l lo) d := by
  obtain ⟨h1, h2, h2', sh, h3, h4⟩ := h
  obtain ⟨s1, s2⟩ := h1.shown lo
  refine ⟨s2, h2, h2', sh ++ l.op.take (pastN l.op lo), ?_, fun v => ?_⟩
  · rw [h3, List.append_assoc]; show _ = sh ++ (_ ++ l.op.drop _); rw [List.take_append_drop]
  · rw [s1.mem, allV_app, List.mem_append, List.mem_append, h4]
def stampT (l : Ld) (t : Tx) (hi : Int) : Tx := { t with ts := max (l.last + 1) hi }
def stampL (l : Ld) (t : Tx) (hi : Int) : Ld := ⟨max (l.last + 1) hi, l.st, l.op ++ [stampT l t hi]⟩
theorem CInv.stamp {l : Ld} {d : List Tx} (h : CInv l d) {t : Tx} {hi : Int} (hf : formB t = true) (ho : l.op.length ≠ 2000) (hs : sizeL l + t.wr.length ≤ 4000) (hm : max (l.last + 1) hi ≤ 3000000000000000) : CInv (stampL l t hi) (d ++ [stampT l t hi]) := by
  obtain ⟨h1, h2, h2', sh, h3, h4⟩ := h
  have hl := h1.last
  have hts : (stampT l t hi).ts = max (l.last + 1) hi := rfl
  have hf' : formB (stampT l t hi) = true := formB_ts hf ⟨by omega, hm⟩
  have hgo : ∀ {x : List Tx}, Good x → (∀ t ∈ x, t.ts ≤ l.last) → Good (x ++ [stampT l t hi]) := fun hx hx' =>
    ⟨List.pairwise_append.2 ⟨hx.asc, List.pairwise_singleton _ _, fun a ha b hb => by rw [List.mem_singleton.1 hb, hts]; have := hx' a ha; omega⟩,
     fun a ha => by
       rcases List.mem_append.1 ha with ha | ha
       · exact hx.form a ha
       · rw [List.mem_singleton.1 ha]; exact hf',
     fun a ha => by
       rcases List.mem_append.1 ha with ha | ha
       · exact hx.pos a ha
       · rw [List.mem_singleton.1 ha, hts]; omega⟩
  refine ⟨⟨h1.st, ⟨by show 0 ≤ max _ _; omega, hm⟩, ?_, ?_, hgo h1.good h1.opLe, fun a ha v hv => ?_, fun v hv => ?_, fun a ha => ?_⟩, hgo h2 h2', fun a ha => ?_, sh, ?_, h4⟩
  · simp only [stampL, List.length_append, List.length_singleton]; have := h1.nop; omega
  · have e : szO [stampT l t hi] = t.wr.length := by simp [szO, stampT]
    simp only [sizeL, stampL, szO_app, e]
    unfold sizeL at hs; omega
  · rcases List.mem_append.1 ha with ha | ha
    · exact h1.later a ha v hv
    · rw [List.mem_singleton.1 ha, hts]; have := h1.stLe v hv; omega
  · have := h1.stLe v hv; show v.t ≤ max _ _; omega
  · show a.ts ≤ max _ _
    rcases List.mem_append.1 ha with ha | ha
    · have := h1.opLe a ha; omega
    · rw [List.mem_singleton.1 ha, hts]; omega
  · show a.ts ≤ max _ _
    rcases List.mem_append.1 ha with ha | ha
    · have := h2' a ha; omega
    · rw [List.mem_singleton.1 ha, hts]; omega
  · rw [h3, List.append_assoc]; rfl

/-- What was written last, by the order of writing. -/
def pickS (k ts : Int) (o v : Vn) : Vn := if v.k = k ∧ v.t ≤ ts then v else o
def pickV (l : List Vn) (k ts : Int) : Vn := l.foldl (pickS k ts) v0
theorem pickV_snoc (l : List Vn) (k ts : Int) (v : Vn) : pickV (l ++ [v]) k ts = pickS k ts (pickV l k ts) v := by simp [pickV]
theorem pickV_isP (k ts : Int) (l : List Vn) (h : Ris l) : IsP l k ts (pickV l k ts) := by
  have : ∀ n, n ≤ l.length → IsP (l.take n) k ts (pickV (l.take n) k ts) := by
    intro n
    induction n with
    | zero => intro _; exact .inl ⟨rfl, by simp⟩
    | succ n ih =>
      intro hn
      have ih := ih (by omega)
      have hn' : n < l.length := hn
      rw [List.take_succ_eq_append_getElem hn', pickV_snoc]
      have hr : Ris (l.take n ++ [l[n]]) := by rw [← List.take_succ_eq_append_getElem hn']; exact h.sublist (List.take_sublist _ _)
      have hr2 := (List.pairwise_append.1 hr).2.2
      unfold pickS
      split
      · rename_i hc
        refine .inr ⟨List.mem_append_right _ (List.mem_singleton.2 rfl), hc.1, hc.2, fun u hu hk ht => ?_⟩
        rcases List.mem_append.1 hu with hu | hu
        · have := hr2 u hu _ (List.mem_singleton.2 rfl) (by rw [hk, hc.1]); omega
        · rw [List.mem_singleton.1 hu]; exact Int.le_refl _
      · rename_i hc
        rcases ih with ⟨e, p⟩ | ⟨p1, p2, p3, p4⟩
        · refine .inl ⟨e, fun u hu hk ht => ?_⟩
          rcases List.mem_append.1 hu with hu | hu
          · exact p u hu hk ht
          · rw [List.mem_singleton.1 hu] at hk ht; exact hc ⟨hk, ht⟩
        · refine .inr ⟨List.mem_append_left _ p1, p2, p3, fun u hu hk ht => ?_⟩
          rcases List.mem_append.1 hu with hu | hu
          · exact p4 u hu hk ht
          · rw [List.mem_singleton.1 hu] at hk ht; exact absurd ⟨hk, ht⟩ hc
  have := this l.length (Nat.le_refl _)
  rwa [List.take_length] at this
def pickT (d : List Tx) (k ts : Int) : Vn := pickV (allV d) k ts
/-- A transaction that is stamped later does not matter. -/
theorem pickT_later {d : List Tx} {t : Tx} {k ts : Int} (h : ts < t.ts) : pickT (d ++ [t]) k ts = pickT d k ts := by
  have e : allV (d ++ [t]) = allV d ++ verT t := by simp [allV]
  have : ∀ (l : List Wr) (o : Vn), (l.map (verW t.ts)).foldl (pickS k ts) o = o := by
    intro l
    induction l with
    | nil => intro o; rfl
    | cons w l ih =>
      intro o
      rw [List.map_cons, List.foldl_cons, ih]
      have : (verW t.ts w).t = t.ts := rfl
      rw [pickS, if_neg (by omega)]
  rw [pickT, e, pickV, List.foldl_append]
  exact this t.wr _
/-- What a read finds. -/
theorem CInv.read {l : Ld} {d : List Tx} (h : CInv l d) {k ts : Int} (hp : ∀ t ∈ l.op, ts < t.ts) : lastV l.st k ts = pickT d k ts := by
  obtain ⟨h1, h2, h2', sh, h3, h4⟩ := h
  have g1 : Good sh := h2.sub (by rw [h3]; exact List.sublist_append_left _ _)
  have a := lastV_isP h1.sp.asc k ts
  have b := pickV_isP k ts _ g1.ris
  have e : pickT d k ts = pickV (allV sh) k ts := by
    have hv : ∀ v ∈ allV l.op, ts < v.t := by
      intro v hv
      obtain ⟨t, ht, hv⟩ := List.mem_flatMap.1 hv
      rw [((formT (h1.good.form t ht)).ver (h1.good.pos t ht) v hv).2]
      exact hp t ht
    have : ∀ (vs : List Vn) (o : Vn), (∀ v ∈ vs, ts < v.t) → vs.foldl (pickS k ts) o = o := by
      intro vs
      induction vs with
      | nil => intro o _; rfl
      | cons v vs ih =>
        intro o hh
        have := hh v (List.mem_cons_self ..)
        rw [List.foldl_cons, pickS, if_neg (by omega)]
        exact ih o fun x hx => hh x (List.mem_cons_of_mem _ hx)
    rw [h3, pickT, allV_app, pickV, List.foldl_append]
    exact this _ _ hv
  rw [e]
  exact IsP.uniq h1.sp.asc.uni h4 a b

/-- The answer of a read: none for a version that is gone. -/
def ansV (v : Vn) : Vn := if v.g = true ∨ v.k = 0 then v0 else v
def ansB (v : Vn) : Bool := !(v.g || decide (v.k = 0))
theorem IsP.zero_iff {l : List Vn} {k ts : Int} {r : Vn} (h : IsP l k ts r) (hk : 1 ≤ k) : r = v0 ↔ r.k = 0 := by
  constructor
  · intro e; rw [e]; rfl
  · intro e
    rcases h with ⟨h, _⟩ | ⟨_, h, _⟩
    · exact h
    · omega
theorem pastN_zero {op : List Tx} {a : Int} (h : pastN op a = 0) : ∀ t ∈ op, a ≤ t.ts := by
  intro t ht
  rw [pastN, List.length_eq_zero_iff, List.filter_eq_nil_iff] at h
  have := h t ht
  rw [decide_eq_true_iff] at this
  omega
/-- The versions of one key among those of a read. -/
theorem readV_key {l : List Vn} (h : validV l = true) {k ts : Int} (hk : 1 ≤ k) :
    (∀ x ∈ readV l ts, x.k = k → x = ansV (lastV l k ts)) ∧ ((∃ x ∈ readV l ts, x.k = k) ↔ ansB (lastV l k ts) = true) := by
  obtain ⟨h1, h2, h3⟩ := validV_iff.1 h
  have hp := lastV_isP h2 k ts
  have key : ∀ x ∈ readV l ts, x.k = k → lastV l k ts = x ∧ x.g = false := by
    intro x hx hxk
    obtain ⟨p1, p2, p3, p4⟩ := (readV_mem h2 h1).1 hx
    subst hxk
    exact ⟨IsP.uniq h2.uni (fun _ => Iff.rfl) hp (.inr ⟨p1, rfl, p2, p4⟩), p3⟩
  refine ⟨fun x hx hxk => ?_, ?_, fun e => ?_⟩
  · obtain ⟨e, e2⟩ := key x hx hxk
    rw [e, ansV, if_neg]
    rw [e2, hxk]
    rintro (q | q)
    · cases q
    · omega
  · rintro ⟨x, hx, hxk⟩
    obtain ⟨e, e2⟩ := key x hx hxk
    rw [e, ansB, e2, hxk, decide_eq_false (by omega)]; rfl
  · rcases hp with ⟨e', _⟩ | ⟨p1, p2, p3, p4⟩
    · rw [e'] at e; exact absurd e (by decide)
    · refine ⟨_, (readV_mem h2 h1).2 ⟨p1, p3, ?_, by rw [p2]; exact p4⟩, p2⟩
      rw [ansB, Bool.not_eq_true', Bool.or_eq_false_iff] at e
      exact e.1

end Go.Proofs.Ytacicanjmleikaa
