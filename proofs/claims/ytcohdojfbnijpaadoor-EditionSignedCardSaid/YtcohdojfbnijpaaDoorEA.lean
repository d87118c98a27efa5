/-
  Editions, in plain words: what makes one well-formed, what is signed of it, on which day two tables differ first.
-/
import Derived.Test.YtcohdojfbnijpaaDoorVA3
import Derived.Test.YtcohdojfbnijpaaDoorG7
namespace Go.Proofs.YtcohdojfbnijpaaDoor
open Go.RowKit Go.Sort
set_option linter.unusedSimpArgs false
set_option linter.unusedVariables false
set_option maxRecDepth 100000

/-- An edition. -/
structure Ed where
  v : Int
  f : Int
  u : Int
  l : List Lp
  C : Int
  S : Int

/-- Whether an edition is well-formed. -/
def frmB (v f u : Int) (l : List Lp) : Bool := decide (1 ≤ v) && (decide (v ≤ 1000) && (decide (0 ≤ f) && (decide (f < u) && (decide (u ≤ 3000000000000000) && validL l))))
theorem frmB_iff {v f u : Int} {l : List Lp} : frmB v f u l = true ↔ 1 ≤ v ∧ v ≤ 1000 ∧ 0 ≤ f ∧ f < u ∧ u ≤ 3000000000000000 ∧ validL l = true := by
  unfold frmB; simp only [Bool.and_eq_true, decide_eq_true_eq]
theorem frmB_no {v f u : Int} {l : List Lp} (h : ¬ (1 ≤ v ∧ v ≤ 1000 ∧ 0 ≤ f ∧ f < u ∧ u ≤ 3000000000000000 ∧ validL l = true)) : frmB v f u l = false := by
  rw [Bool.eq_false_iff]
  intro h2
  exact h (frmB_iff.1 h2)

/-- What is signed of a table. -/
def msgL (l : List Lp) : List Int := l.flatMap fun x => [x.d, x.s]
def msgE (v f u : Int) (l : List Lp) : List Int := v :: f :: u :: msgL l
theorem msgL_len (l : List Lp) : (msgL l).length = 2 * l.length := by
  induction l with
  | nil => rfl
  | cons x l ih => simp only [msgL, List.flatMap_cons, List.length_append, List.length_cons, List.length_nil] at *; omega
theorem msgL_snoc (l : List Lp) (x : Lp) : msgL (l ++ [x]) = msgL l ++ [x.d, x.s] := by simp [msgL]
theorem msgE_len (v f u : Int) (l : List Lp) : (msgE v f u l).length = 3 + 2 * l.length := by
  unfold msgE
  simp only [List.length_cons, msgL_len]; omega
theorem msgL_take {l : List Lp} {k : Nat} (h : k < l.length) : msgL (l.take (k + 1)) = msgL (l.take k) ++ [(nthR l k).d, (nthR l k).s] := by
  rw [take_nthR_succ h, msgL_snoc]

/-- The first day on which two tables differ. -/
def difL : List Lp → List Lp → Option Int
  | [], [] => none
  | [], y :: _ => some y.d
  | x :: _, [] => some x.d
  | x :: a, y :: b => if x = y then difL a b else some (min x.d y.d)
theorem difL_at : ∀ (k : Nat) {a b : List Lp}, k ≤ a.length → k ≤ b.length → (∀ i, i < k → nthR a i = nthR b i) → difL a b = difL (a.drop k) (b.drop k)
  | 0, a, b, _, _, _ => rfl
  | k + 1, [], b, h, _, _ => by simp at h
  | k + 1, x :: a, [], _, h, _ => by simp at h
  | k + 1, x :: a, y :: b, h1, h2, h => by
    have h0 : x = y := h 0 (by omega)
    subst h0
    have ih := difL_at k (a := a) (b := b) (by simpa using h1) (by simpa using h2) (fun i hi => h (i + 1) (by omega))
    simp only [difL, List.drop_succ_cons, if_true, ih]
theorem difL_none : ∀ {a b : List Lp}, difL a b = none ↔ a = b
  | [], [] => by simp [difL]
  | [], y :: b => by simp [difL]
  | x :: a, [] => by simp [difL]
  | x :: a, y :: b => by
    simp only [difL]
    by_cases h : x = y
    · rw [if_pos h, difL_none, h]; simp
    · rw [if_neg h]
      simp [h]
def difD (a b : List Lp) : Int := (difL a b).getD 0
def difS (a b : List Lp) : Bool := (difL a b).isSome

/-- The step of a table at the end of a day, or 0. -/
def stepAt : List Lp → Int → Int
  | [], _ => 0
  | x :: l, day => if x.d = day then x.s else stepAt l day
theorem stepAt_from : ∀ (l : List Lp) (day : Int) (k : Nat), k ≤ l.length → (∀ i, i < k → (nthR l i).d ≠ day) → stepAt l day = stepAt (l.drop k) day
  | l, day, 0, _, _ => rfl
  | [], day, k + 1, h, _ => by simp at h
  | x :: l, day, k + 1, h, hi => by
    have h0 : x.d ≠ day := hi 0 (by omega)
    simp only [stepAt, if_neg h0, List.drop_succ_cons]
    exact stepAt_from l day k (by simpa using h) (fun i hk => hi (i + 1) (by omega))
theorem stepAt_gt : ∀ {l : List Lp} {last day : Int}, vfrom last l = true → day ≤ last → stepAt l day = 0
  | [], _, _, _, _ => rfl
  | x :: l, last, day, h, hd => by
    have h1 := vfrom_gt h x (by simp)
    simp only [vfrom, Bool.and_eq_true] at h
    simp only [stepAt]
    rw [if_neg (by omega), stepAt_gt h.2 (by omega)]
theorem stepAt_mem : ∀ {l : List Lp} {last : Int}, vfrom last l = true → ∀ x ∈ l, stepAt l x.d = x.s
  | [], _, _, x, hx => by cases hx
  | y :: l, last, h, x, hx => by
    simp only [vfrom, Bool.and_eq_true] at h
    simp only [stepAt]
    rcases List.mem_cons.1 hx with rfl | hx
    · rw [if_pos rfl]
    · have := vfrom_gt h.2 x hx
      rw [if_neg (by omega), stepAt_mem h.2 x hx]
theorem stepAt_bd : ∀ {l : List Lp} {last : Int} (day : Int), vfrom last l = true → stepAt l day = 0 ∨ stepAt l day = 1 ∨ stepAt l day = -1
  | [], _, _, _ => by simp [stepAt]
  | x :: l, last, day, h => by
    have h1 := vfrom_gt h x (by simp)
    simp only [vfrom, Bool.and_eq_true] at h
    have ih := stepAt_bd day h.2
    simp only [stepAt]
    split <;> omega
/-- A table's step is the length's. -/
theorem stepL_at : ∀ {l : List Lp} {last day : Int}, vfrom last l = true → stepL l day = stepAt l day
  | [], _, _, _ => by simp [stepL, stepAt, offL]
  | x :: l, last, day, h => by
    simp only [vfrom, Bool.and_eq_true] at h
    have ih := stepL_at (day := day) h.2
    simp only [stepL, offL, stepAt] at ih ⊢
    by_cases e1 : x.d < day
    · rw [if_pos e1, if_pos (by omega), if_neg (by omega)]; omega
    · by_cases e2 : x.d = day
      · rw [if_neg e1, if_pos (by omega), if_pos e2, offL_zero h.2 (by omega)]; omega
      · rw [if_neg e1, if_neg (by omega), if_neg e2, stepAt_gt h.2 (by omega)]; omega
/-- Below the first different day all steps are the same; on it they are not. -/
theorem difL_step : ∀ {a b : List Lp} {la lb d : Int}, vfrom la a = true → vfrom lb b = true → difL a b = some d →
    (∀ day, day < d → stepAt a day = stepAt b day) ∧ stepAt a d ≠ stepAt b d ∧ ((∃ x ∈ a, x.d = d) ∨ (∃ y ∈ b, y.d = d)) ∧ (la < d ∨ lb < d)
  | [], [], _, _, _, _, _, h => by simp [difL] at h
  | [], y :: b, la, lb, d, _, hb, h => by
    simp only [difL, Option.some.injEq] at h
    subst h
    have h1 := vfrom_gt hb y (by simp)
    simp only [vfrom, Bool.and_eq_true] at hb
    refine ⟨fun day hd => ?_, ?_, .inr ⟨y, by simp, rfl⟩, by omega⟩
    · simp only [stepAt]
      rw [if_neg (by omega), stepAt_gt hb.2 (by omega)]
    · simp only [stepAt, if_true]; omega
  | x :: a, [], la, lb, d, ha, _, h => by
    simp only [difL, Option.some.injEq] at h
    subst h
    have h1 := vfrom_gt ha x (by simp)
    simp only [vfrom, Bool.and_eq_true] at ha
    refine ⟨fun day hd => ?_, ?_, .inl ⟨x, by simp, rfl⟩, by omega⟩
    · simp only [stepAt]
      rw [if_neg (by omega), stepAt_gt ha.2 (by omega)]
    · simp only [stepAt, if_true]; omega
  | x :: a, y :: b, la, lb, d, ha, hb, h => by
    have h1 := vfrom_gt ha x (by simp)
    have h2 := vfrom_gt hb y (by simp)
    simp only [vfrom, Bool.and_eq_true] at ha hb
    simp only [difL] at h
    by_cases he : x = y
    · subst he
      rw [if_pos rfl] at h
      obtain ⟨q1, q2, q3, q4⟩ := difL_step ha.2 hb.2 h
      have hxd : x.d < d := by omega
      refine ⟨fun day hd => ?_, ?_, ?_, by omega⟩
      · simp only [stepAt]
        split
        · rfl
        · exact q1 day hd
      · simp only [stepAt]
        rw [if_neg (by omega), if_neg (by omega)]
        exact q2
      · rcases q3 with ⟨z, hz, hzd⟩ | ⟨z, hz, hzd⟩
        · exact .inl ⟨z, by simp [hz], hzd⟩
        · exact .inr ⟨z, by simp [hz], hzd⟩
    · rw [if_neg he] at h
      simp only [Option.some.injEq] at h
      subst h
      refine ⟨fun day hd => ?_, ?_, ?_, by omega⟩
      · simp only [stepAt]
        rw [if_neg (by omega), if_neg (by omega), stepAt_gt ha.2 (by omega), stepAt_gt hb.2 (by omega)]
      · simp only [stepAt]
        by_cases q : x.d = y.d
        · rw [show min x.d y.d = x.d by omega, if_pos rfl, if_pos q.symm]
          intro hs
          exact he (by cases x; cases y; simp_all)
        · by_cases q2 : x.d < y.d
          · rw [show min x.d y.d = x.d by omega, if_pos rfl, if_neg (by omega), stepAt_gt hb.2 (by omega)]; omega
          · rw [show min x.d y.d = y.d by omega, if_neg q, if_pos rfl, stepAt_gt ha.2 (by omega)]; omega
      · by_cases q2 : x.d ≤ y.d
        · exact .inl ⟨x, by simp, by omega⟩
        · exact .inr ⟨y, by simp, by omega⟩
theorem difL_bd {a b : List Lp} {d : Int} (ha : validL a = true) (hb : validL b = true) (h : difL a b = some d) : 0 ≤ d ∧ d < 34000 := by
  obtain ⟨-, -, h3, -⟩ := difL_step (validL_from ha) (validL_from hb) h
  rcases h3 with ⟨x, hx, rfl⟩ | ⟨x, hx, rfl⟩
  · have := vfrom_gt (validL_from ha) x hx; omega
  · have := vfrom_gt (validL_from hb) x hx; omega
/-- Up to the first different day the days begin at the same times. -/
theorem offL_same {a b : List Lp} {d : Int} (ha : validL a = true) (hb : validL b = true) (hs : ∀ day, day < d → stepAt a day = stepAt b day) : ∀ (n : Nat), (n : Int) ≤ d → offL a n = offL b n
  | 0, _ => by rw [show ((0 : Nat) : Int) = 0 from rfl, offL_zero (validL_from ha) (by omega), offL_zero (validL_from hb) (by omega)]
  | n + 1, h => by
    have ih := offL_same ha hb hs n (by omega)
    have e1 := stepL_at (day := (n : Int)) (validL_from ha)
    have e2 := stepL_at (day := (n : Int)) (validL_from hb)
    have e3 := hs n (by omega)
    unfold stepL at e1 e2
    push_cast
    omega
theorem startL_same {a b : List Lp} {d : Int} (ha : validL a = true) (hb : validL b = true) (hs : ∀ day, day < d → stepAt a day = stepAt b day) {day : Int} (h0 : 0 ≤ day) (h : day ≤ d) : startL a day = startL b day := by
  have := offL_same ha hb hs day.toNat (by omega)
  rw [show ((day.toNat : Nat) : Int) = day by omega] at this
  unfold startL
  rw [this]
theorem lenL_step {l : List Lp} (h : validL l = true) (day : Int) : lenL l day = 86400000000 + stepAt l day * 1000000 := by
  unfold lenL
  rw [stepL_at (validL_from h)]

/-- Whether the k-th leap second of a is none of b's. -/
def candL (a b : List Lp) (k : Nat) : Prop := stepAt b (nthR a k).d ≠ (nthR a k).s
/-- The least day of those so far. -/
def BestL (a b : List Lp) (k : Nat) (m0 m : Int) : Prop := (m = m0 ∨ (0 ≤ m ∧ ∃ i, i < k ∧ candL a b i ∧ (nthR a i).d = m)) ∧ (m0 < 0 → m < 0 → m = m0) ∧ (0 ≤ m0 → 0 ≤ m ∧ m ≤ m0) ∧ (∀ i, i < k → candL a b i → 0 ≤ m ∧ m ≤ (nthR a i).d)
theorem BestL.zero (a b : List Lp) (m0 : Int) : BestL a b 0 m0 m0 := ⟨.inl rfl, fun _ _ => rfl, fun h => ⟨h, by omega⟩, fun i hi => by omega⟩
theorem BestL.skip {a b : List Lp} {k : Nat} {m0 m : Int} (h : BestL a b k m0 m) (hn : ¬ candL a b k ∨ (0 ≤ m ∧ m ≤ (nthR a k).d)) : BestL a b (k + 1) m0 m := by
  obtain ⟨h1, h2, h3, h4⟩ := h
  refine ⟨?_, h2, h3, fun i hi hc => ?_⟩
  · rcases h1 with h1 | ⟨h1, i, hi, hc, he⟩
    · exact .inl h1
    · exact .inr ⟨h1, i, by omega, hc, he⟩
  · by_cases hik : i = k
    · subst hik
      rcases hn with hn | hn
      · exact absurd hc hn
      · exact hn
    · exact h4 i (by omega) hc
theorem BestL.take {a b : List Lp} {k : Nat} {m0 m : Int} (h : BestL a b k m0 m) (hc : candL a b k) (h0 : 0 ≤ (nthR a k).d) (hm : m < 0 ∨ (nthR a k).d < m) : BestL a b (k + 1) m0 (nthR a k).d := by
  obtain ⟨-, h2, h3, h4⟩ := h
  refine ⟨.inr ⟨h0, k, by omega, hc, rfl⟩, fun _ h => by omega, fun h => ⟨h0, by have := h3 h; omega⟩, fun i hi hci => ?_⟩
  by_cases hik : i = k
  · subst hik; omega
  · have := h4 i (by omega) hci
    omega
theorem best_dif {a b : List Lp} {m1 m2 : Int} (ha : validL a = true) (hb : validL b = true) (h1 : BestL a b a.length (-1) m1) (h2 : BestL b a b.length m1 m2) :
    (difL a b = none ∧ m2 = -1) ∨ (difL a b = some m2 ∧ 0 ≤ m2) := by
  have va := validL_from ha
  have vb := validL_from hb
  have hca : ∀ x ∈ a, ∃ i, i < a.length ∧ nthR a i = x := fun x hx => by
    obtain ⟨i, hi, e⟩ := List.getElem_of_mem hx
    exact ⟨i, hi, by rw [nthR_get hi]; exact e⟩
  have hcb : ∀ x ∈ b, ∃ i, i < b.length ∧ nthR b i = x := fun x hx => by
    obtain ⟨i, hi, e⟩ := List.getElem_of_mem hx
    exact ⟨i, hi, by rw [nthR_get hi]; exact e⟩
  obtain ⟨p1, p2, p3, p4⟩ := h1
  obtain ⟨q1, q2, q3, q4⟩ := h2
  cases hd : difL a b with
  | none =>
    left
    refine ⟨rfl, ?_⟩
    have hab := difL_none.1 hd
    subst hab
    have hno : ∀ i, i < a.length → ¬ candL a a i := fun i hi hc => hc (stepAt_mem va _ (nthR_mem hi))
    have e1 : m1 = -1 := by
      rcases p1 with h | ⟨_, i, hi, hc, _⟩
      · exact h
      · exact absurd hc (hno i hi)
    rcases q1 with h | ⟨_, i, hi, hc, _⟩
    · omega
    · exact absurd hc (hno i hi)
  | some d =>
    right
    obtain ⟨s1, s2, s3, -⟩ := difL_step va vb hd
    -- no candidate comes before d
    have hge : ∀ i, i < a.length → candL a b i → d ≤ (nthR a i).d := fun i hi hc => by
      rcases Int.lt_or_le (nthR a i).d d with h | h
      · exact absurd ((s1 _ h).symm.trans (stepAt_mem va _ (nthR_mem hi))) hc
      · exact h
    have hge2 : ∀ i, i < b.length → candL b a i → d ≤ (nthR b i).d := fun i hi hc => by
      rcases Int.lt_or_le (nthR b i).d d with h | h
      · exact absurd ((s1 _ h).trans (stepAt_mem vb _ (nthR_mem hi))) hc
      · exact h
    have hup : (0 ≤ m1 ∧ m1 ≤ d) ∨ (0 ≤ m2 ∧ m2 ≤ d) := by
      rcases s3 with ⟨x, hx, hxd⟩ | ⟨x, hx, hxd⟩
      · obtain ⟨i, hi, e⟩ := hca x hx
        have := p4 i hi (by unfold candL; rw [e, hxd]; intro h; exact s2 ((hxd ▸ stepAt_mem va x hx).trans h.symm))
        rw [e, hxd] at this
        exact .inl this
      · obtain ⟨i, hi, e⟩ := hcb x hx
        have := q4 i hi (by unfold candL; rw [e, hxd]; intro h; exact s2 (h.trans (hxd ▸ stepAt_mem vb x hx).symm))
        rw [e, hxd] at this
        exact .inr this
    have hlo : 0 ≤ m1 → d ≤ m1 := fun h => by
      rcases p1 with h' | ⟨_, i, hi, hc, e⟩
      · omega
      · rw [← e]; exact hge i hi hc
    have hm2 : 0 ≤ m2 ∧ m2 ≤ d := by
      rcases hup with h | h
      · have := q3 h.1; omega
      · exact h
    have hlo2 : d ≤ m2 := by
      rcases q1 with h' | ⟨_, i, hi, hc, e⟩
      · rw [h']; exact hlo (by omega)
      · rw [← e]; exact hge2 i hi hc
    have : d = m2 := by omega
    subst this
    exact ⟨rfl, hm2.1⟩

/-- What Differ answers: day, whether some, error. -/
def dfrF (a b : List Lp) : Int × Bool × Int := if validL a = true ∧ validL b = true then (difD a b, difS a b, 0) else (0, false, 1)
/-- What Follows answers. -/
def folB (av af : Int) (al : List Lp) (bv bf : Int) (bl : List Lp) : Bool :=
  decide (bv = av + 1) && (decide (af ≤ bf) && (match difL al bl with | none => true | some d => decide (bf ≤ startL al d + lenL al d) && decide (bf ≤ startL al d + lenL bl d)))
def folF (av af au : Int) (al : List Lp) (bv bf bu : Int) (bl : List Lp) : Bool × Int :=
  if frmB av af au al = true ∧ frmB bv bf bu bl = true then (folB av af al bv bf bl, 0) else (false, 1)
/-- What Move answers. -/
noncomputable def movF (a b : List Lp) (d m : Int) : (Int × Int) × Int :=
  if validL a = true ∧ validL b = true then (if (froF a d m).2 = 0 then toF b (froF a d m).1 else ((0, 0), (froF a d m).2)) else ((0, 0), 1)
/-- What Right answers. -/
def rgtF (pub v f u : Int) (l : List Lp) (C S : Int) : Bool × Int := if frmB v f u l = true then (verB pub C S (msgE v f u l), verE pub C S) else (false, 1)
/-- Sign's error. -/
def sgnE (key once v f u : Int) (l : List Lp) : Int := if frmB v f u l = true then sgE key once else 1

/-! ### The newest one -/
def nthE (es : List Ed) (i : Nat) : Ed := es.getD i ⟨0, 0, 0, [], 0, 0⟩
theorem nthE_mem {es : List Ed} {i : Nat} (h : i < es.length) : nthE es i ∈ es := by
  unfold nthE
  rw [List.getD_eq_getElem?_getD, List.getElem?_eq_getElem h]
  exact List.getElem_mem h
theorem nthE_get {es : List Ed} {i : Nat} (h : i < es.length) : nthE es i = es[i] := by
  simp [nthE, List.getD_eq_getElem?_getD, h]
def hldB (e : Ed) (t : Int) : Bool := decide (e.f ≤ t) && decide (t < e.u)
/-- Which of the first n is the newest one. -/
def bstN (es : List Ed) (t : Int) : Nat → Int
  | 0 => -1
  | n + 1 => if hldB (nthE es n) t = true ∧ (bstN es t n < 0 ∨ (nthE es (bstN es t n).toNat).v < (nthE es n).v) then n else bstN es t n
theorem bstN_bd (es : List Ed) (t : Int) : ∀ n, -1 ≤ bstN es t n ∧ bstN es t n < n
  | 0 => by simp [bstN]
  | n + 1 => by
    have ih := bstN_bd es t n
    simp only [bstN]
    split <;> omega
def allF (es : List Ed) : Bool := es.all fun e => frmB e.v e.f e.u e.l
def nwF (es : List Ed) (t : Int) : Int × Bool × Int := if es.length ≤ 50 ∧ (0 ≤ t ∧ t ≤ 3000000000000000) ∧ allF es = true then (max (bstN es t es.length) 0, decide (0 ≤ bstN es t es.length), 0) else (0, false, 1)
end Go.Proofs.YtcohdojfbnijpaaDoor
