/-
  The inbox, in plain words: what was asked, what a box's own replies are, a reply put in its place, what Take answers.
-/
import Derived.Test.YtdmfdimhjemngaaGreatDoorCA
namespace Go.Proofs.YtdmfdimhjemngaaGreatDoor
open Go.RowKit Go.Sort
set_option linter.unusedSimpArgs false
set_option linter.unusedVariables false

/-- Authorities that rise strictly. -/
def ascI (last : Int) : List Int → Bool
  | [] => true
  | a :: l => decide (last < a) && (decide (a ≤ 16) && ascI a l)
def askB (l : List Int) : Bool := ascI 0 l
theorem ascI_gt : ∀ {l : List Int} {last : Int}, ascI last l = true → ∀ a ∈ l, last < a ∧ a ≤ 16
  | [], _, _, a, ha => by cases ha
  | x :: l, last, h, a, ha => by
    simp only [ascI, Bool.and_eq_true, decide_eq_true_eq] at h
    rcases List.mem_cons.1 ha with rfl | ha
    · exact ⟨h.1, h.2.1⟩
    · have := ascI_gt h.2.2 a ha
      omega
theorem ascI_len : ∀ {l : List Int} {last : Int}, ascI last l = true → last ≤ 16 → last + l.length ≤ 16
  | [], _, _, h => by simpa using h
  | x :: l, last, h, _ => by
    simp only [ascI, Bool.and_eq_true, decide_eq_true_eq] at h
    have := ascI_len h.2.2 h.2.1
    simp only [List.length_cons]
    push_cast
    omega
theorem askB_len {l : List Int} (h : askB l = true) : l.length ≤ 16 := by
  have := ascI_len h (by omega)
  omega
theorem ascI_take : ∀ {l : List Int} {last : Int} (k : Nat), ascI last l = true → ascI last (l.take k) = true
  | _, _, 0, _ => by simp [ascI]
  | [], _, k + 1, _ => by simp [ascI]
  | x :: l, last, k + 1, h => by
    simp only [ascI, Bool.and_eq_true] at h
    simp only [List.take_succ_cons, ascI, Bool.and_eq_true]
    exact ⟨h.1, h.2.1, ascI_take k h.2.2⟩

theorem ascI_iff : ∀ {l : List Int} {last : Int}, ascI last l = true ↔ ∀ i, i < l.length → nth l i ≤ 16 ∧ (i = 0 → last < nth l 0) ∧ (0 < i → nth l (i - 1) < nth l i)
  | [], _ => by simp [ascI]
  | x :: l, last => by
    simp only [ascI, Bool.and_eq_true, decide_eq_true_eq]
    rw [ascI_iff (l := l)]
    constructor
    · rintro ⟨h1, h2, h3⟩ i hi
      cases i with
      | zero => exact ⟨h2, fun _ => h1, fun h => absurd h (by omega)⟩
      | succ j =>
        have hj : j < l.length := by simpa using hi
        obtain ⟨q1, q2, q3⟩ := h3 j hj
        refine ⟨q1, fun h => by omega, fun _ => ?_⟩
        cases j with
        | zero => exact q2 rfl
        | succ m => exact q3 (by omega)
    · intro h
      obtain ⟨q1, q2, -⟩ := h 0 (by simp)
      refine ⟨q2 rfl, q1, fun i hi => ?_⟩
      obtain ⟨p1, -, p3⟩ := h (i + 1) (by simpa using hi)
      refine ⟨p1, fun hz => by subst hz; exact p3 (by omega), fun hz => ?_⟩
      have := p3 (by omega)
      cases i with
      | zero => omega
      | succ m => exact this
theorem askB_iff {l : List Int} : askB l = true ↔ ∀ i, i < l.length → (1 ≤ nth l i ∧ nth l i ≤ 16) ∧ (0 < i → nth l (i - 1) < nth l i) := by
  unfold askB
  constructor
  · intro h i hi
    have h1 := ascI_gt h (nth l i) (nth_mem hi)
    exact ⟨⟨by omega, h1.2⟩, (ascI_iff.1 h i hi).2.2⟩
  · intro h
    exact ascI_iff.2 fun i hi => ⟨(h i hi).1.2, fun hz => by subst hz; have := (h 0 hi).1.1; omega, (h i hi).2⟩
/-- A box. -/
structure Bx where
  host : Int
  round : Int
  head : Int
  sent : Int
  wait : Int
  asked : List Int
  got : List Rp
  deriving DecidableEq

/-- Whether a reply is one for a box. -/
def ownB (b : Bx) (x : Rp) : Bool := decide (x.a ∈ b.asked) && (x.h == b.host && (x.r == b.round && x.n == nonF b.head b.host b.round x.a))
def gfrom (b : Bx) (last : Int) : List Rp → Bool
  | [] => true
  | x :: l => decide (last < x.a) && (wfR x && (ownB b x && gfrom b x.a l))
def frmX (b : Bx) : Bool := inC b.host 1 64 && (inC b.round 1 200 && (inC b.sent 0 3000000000000000 && (inC b.wait 0 1000000000 && (askB b.asked && gfrom b 0 b.got))))

/-- A reply put in its place. -/
def insR (r : Rp) : List Rp → List Rp
  | [] => [r]
  | x :: l => if r.a < x.a then r :: x :: l else x :: insR r l
theorem insR_len (r : Rp) : ∀ l : List Rp, (insR r l).length = l.length + 1
  | [] => rfl
  | x :: l => by simp only [insR]; split <;> simp [insR_len r l]
/-- How many stand before it. -/
def posR (r : Rp) : List Rp → Nat
  | [] => 0
  | x :: l => if r.a < x.a then 0 else posR r l + 1
theorem posR_le (r : Rp) : ∀ l : List Rp, posR r l ≤ l.length
  | [] => Nat.le_refl 0
  | x :: l => by simp only [posR]; split <;> have := posR_le r l <;> simp only [List.length_cons] <;> omega
theorem insR_at (r : Rp) : ∀ l : List Rp, insR r l = l.take (posR r l) ++ r :: l.drop (posR r l)
  | [] => rfl
  | x :: l => by
    simp only [insR, posR]
    split
    · rfl
    · simp only [List.take_succ_cons, List.drop_succ_cons, List.cons_append, ← insR_at r l]
theorem gfrom_mem {b : Bx} : ∀ {l : List Rp} {last : Int}, gfrom b last l = true → ∀ x ∈ l, last < x.a ∧ wfR x = true ∧ ownB b x = true
  | [], _, _, x, hx => by cases hx
  | y :: l, last, h, x, hx => by
    simp only [gfrom, Bool.and_eq_true, decide_eq_true_eq] at h
    rcases List.mem_cons.1 hx with rfl | hx
    · exact ⟨h.1, h.2.1, h.2.2.1⟩
    · have := gfrom_mem h.2.2.2 x hx
      exact ⟨by omega, this.2⟩
theorem gfrom_ins {b : Bx} {r : Rp} (hw : wfR r = true) (ho : ownB b r = true) : ∀ {l : List Rp} {last : Int}, gfrom b last l = true → last < r.a → (∀ x ∈ l, x.a ≠ r.a) → gfrom b last (insR r l) = true
  | [], last, _, h, _ => by simp [insR, gfrom, h, hw, ho]
  | y :: l, last, hg, h, hn => by
    have hy : y.a ≠ r.a := hn y (by simp)
    simp only [gfrom, Bool.and_eq_true, decide_eq_true_eq] at hg
    simp only [insR]
    by_cases hlt : r.a < y.a
    · rw [if_pos hlt]
      simp only [gfrom, Bool.and_eq_true, decide_eq_true_eq]
      exact ⟨h, hw, ho, hlt, hg.2⟩
    · rw [if_neg hlt]
      simp only [gfrom, Bool.and_eq_true, decide_eq_true_eq]
      exact ⟨hg.1, hg.2.1, hg.2.2.1, gfrom_ins hw ho hg.2.2.2 (by omega) (fun x hx => hn x (by simp [hx]))⟩
theorem gfrom_iff {b : Bx} : ∀ {l : List Rp} {last : Int}, gfrom b last l = true ↔ ∀ i, i < l.length → wfR (nthR l i) = true ∧ ownB b (nthR l i) = true ∧ (i = 0 → last < (nthR l 0).a) ∧ (0 < i → (nthR l (i - 1)).a < (nthR l i).a)
  | [], _ => by simp [gfrom]
  | x :: l, last => by
    simp only [gfrom, Bool.and_eq_true, decide_eq_true_eq]
    rw [gfrom_iff (l := l)]
    constructor
    · rintro ⟨h1, h2, h2', h3⟩ i hi
      cases i with
      | zero => exact ⟨h2, h2', fun _ => h1, fun h => absurd h (by omega)⟩
      | succ j =>
        have hj : j < l.length := by simpa using hi
        obtain ⟨q1, q1', q2, q3⟩ := h3 j hj
        refine ⟨q1, q1', fun h => by omega, fun _ => ?_⟩
        cases j with
        | zero => exact q2 rfl
        | succ m => exact q3 (by omega)
    · intro h
      obtain ⟨q1, q1', q2, -⟩ := h 0 (by simp)
      refine ⟨q2 rfl, q1, q1', fun i hi => ?_⟩
      obtain ⟨p1, p1', -, p3⟩ := h (i + 1) (by simpa using hi)
      refine ⟨p1, p1', fun hz => by subst hz; exact p3 (by omega), fun hz => ?_⟩
      have := p3 (by omega)
      cases i with
      | zero => omega
      | succ m => exact this
theorem mem_insR {r x : Rp} : ∀ {l : List Rp}, x ∈ insR r l ↔ x = r ∨ x ∈ l
  | [] => by simp [insR]
  | y :: l => by
    simp only [insR]
    split
    · simp
    · simp only [List.mem_cons, mem_insR (l := l)]
      constructor
      · rintro (h | h | h) <;> simp [h]
      · rintro (h | h | h) <;> simp [h]
/-- The order in which two come does not matter. -/
theorem insR_comm {r s : Rp} (h : r.a ≠ s.a) : ∀ l : List Rp, insR r (insR s l) = insR s (insR r l)
  | [] => by
    simp only [insR]
    by_cases h1 : r.a < s.a
    · rw [if_pos h1, if_neg (by omega)]
    · rw [if_neg h1, if_pos (by omega)]
  | x :: l => by
    have ih := insR_comm h l
    by_cases h1 : r.a < x.a <;> by_cases h2 : s.a < x.a <;> by_cases h3 : r.a < s.a <;> (simp only [insR, h1, h2, h3, if_true, if_false, ih]; try (first | (rw [if_neg (by omega)]) | (rw [if_pos (by omega)]) | omega))

theorem insR_done {r : Rp} : ∀ {l m : List Rp}, (l.any fun x => decide (r.a < x.a)) = true → insR r (l ++ m) = insR r l ++ m
  | [], m, h => by simp at h
  | x :: l, m, h => by
    simp only [List.cons_append, insR]
    by_cases hx : r.a < x.a
    · rw [if_pos hx, if_pos hx]; rfl
    · rw [if_neg hx, if_neg hx, List.cons_append, insR_done (l := l) (by simpa [hx] using h)]
theorem insR_none {r : Rp} : ∀ {l m : List Rp}, (l.any fun x => decide (r.a < x.a)) = false → insR r (l ++ m) = l ++ insR r m
  | [], m, _ => rfl
  | x :: l, m, h => by
    have hx : ¬ r.a < x.a := fun hx => by simp [hx] at h
    simp only [List.cons_append, insR]
    rw [if_neg hx, insR_none (l := l) (by simpa [hx] using h)]
/-- What the reference's loop holds after k rounds. -/
def doneR (r : Rp) (l : List Rp) (k : Nat) : Bool := (l.take k).any fun x => decide (r.a < x.a)
def accR (r : Rp) (l : List Rp) (k : Nat) : List Rp := if doneR r l k = true then insR r (l.take k) else l.take k
theorem accR_zero (r : Rp) (l : List Rp) : accR r l 0 = [] ∧ doneR r l 0 = false := ⟨by simp [accR, doneR], by simp [doneR]⟩
theorem accR_succ {r : Rp} {l : List Rp} {k : Nat} (hk : k < l.length) :
    (doneR r l k = true → accR r l (k + 1) = accR r l k ++ [nthR l k] ∧ doneR r l (k + 1) = true) ∧
    (doneR r l k = false → r.a < (nthR l k).a → accR r l (k + 1) = accR r l k ++ [r] ++ [nthR l k] ∧ doneR r l (k + 1) = true) ∧
    (doneR r l k = false → ¬ r.a < (nthR l k).a → accR r l (k + 1) = accR r l k ++ [nthR l k] ∧ doneR r l (k + 1) = false) := by
  have e : doneR r l (k + 1) = (doneR r l k || decide (r.a < (nthR l k).a)) := by
    unfold doneR
    rw [take_nthR_succ hk, List.any_append]
    simp
  refine ⟨fun h => ?_, fun h hx => ?_, fun h hx => ?_⟩
  · have e2 : doneR r l (k + 1) = true := by rw [e, h]; rfl
    refine ⟨?_, e2⟩
    unfold accR
    rw [if_pos e2, if_pos h, take_nthR_succ hk]
    exact insR_done h
  · have e2 : doneR r l (k + 1) = true := by rw [e, h, decide_eq_true hx]; rfl
    refine ⟨?_, e2⟩
    unfold accR
    rw [if_pos e2, if_neg (by rw [h]; decide), take_nthR_succ hk, insR_none h]
    simp [insR, hx]
  · have e2 : doneR r l (k + 1) = false := by rw [e, h, decide_eq_false hx]; rfl
    refine ⟨?_, e2⟩
    unfold accR
    rw [if_neg (by rw [e2]; decide), if_neg (by rw [h]; decide), take_nthR_succ hk]
theorem accR_all {r : Rp} {l : List Rp} : (doneR r l l.length = true → accR r l l.length = insR r l) ∧ (doneR r l l.length = false → accR r l l.length ++ [r] = insR r l) := by
  unfold accR doneR
  rw [List.take_length]
  refine ⟨fun h => by rw [if_pos h], fun h => ?_⟩
  rw [if_neg (by rw [h]; decide)]
  have := insR_none (m := []) h
  rw [List.append_nil] at this
  exact this.symm
/-- Where the package's search ends. -/
theorem posR_uniq {r : Rp} : ∀ {l : List Rp} {k : Nat}, k ≤ l.length → (∀ i, i < k → (nthR l i).a < r.a) → (k < l.length → r.a < (nthR l k).a) → posR r l = k
  | [], k, h, _, _ => by simp only [List.length_nil, Nat.le_zero] at h; subst h; rfl
  | x :: l, 0, _, _, h => by
    have h0 : r.a < x.a := h (by simp)
    simp only [posR, if_pos h0]
  | x :: l, k + 1, hk, h1, h2 => by
    have h0 : x.a < r.a := h1 0 (by omega)
    simp only [posR]
    rw [if_neg (by omega), posR_uniq (l := l) (k := k) (by simpa using hk) (fun i hi => h1 (i + 1) (by omega)) (fun h => h2 (by simpa using h))]

/-- Which kind a packet is of: 1 fresh, and so on, by the numbers of the packages' constants. -/
def kindX (b : Bx) (p : Option Rp) (t kBad kOther kReplay kLate kFresh : Int) : Int :=
  match p with
  | none => kBad
  | some r => if ownB b r = false then kOther else if b.got.any (fun x => x.a == r.a) then kReplay else if b.sent + b.wait < t then kLate else kFresh
end Go.Proofs.YtdmfdimhjemngaaGreatDoor
