/-
  What the bound of the second form gives (the kit's lemmas, laid for this seat), and how a slice of slices of integers is opened.
-/
import Derived.Test.YthjldbefjkbniaaW16
import Derived.Deep.Matrix
namespace Go.Proofs.Ythjldbefjkbniaa
open Go.RowKit Go.Deep Go.ChangeShapes
set_option linter.unusedSimpArgs false
set_option linter.unusedVariables false

theorem Addr.add_none {b off i : Nat} : (⟨b, off, none⟩ : Addr).add i = ⟨b, off + i, none⟩ := by unfold Addr.add; split <;> simp_all

theorem Sl.ofCells {k : IntKind} {w : World} {A : Option Addr} {L C : Nat} {zs : List Int} (hl : L ≤ C) (hm : C ≤ maxLen) (hz : zs.length = C) (hw : ∀ n ∈ zs, (Lit.int k n).wf = true) (h0 : A = none → C = 0)
    (hc : ∀ a', A = some a' → ∀ c, c < C → w.cell? (a'.add c) = some (.int k (zs.getD c 0))) : Sl k w A L C (zs.take L) := by
  rcases A with _ | x
  · have := h0 rfl
    subst this
    exact ⟨by simp; omega, hl, hm, fun i hi => absurd hi (by omega), fun n hn => hw n (List.mem_of_mem_take hn)⟩
  · exact Sl.ofRow (.inr ⟨x, rfl, hl, hm, hz, fun i hi => hc x rfl i (by omega), hw⟩)

/-- The lists of the rows. -/
def rowsOf (len : Nat) (L : Nat → Nat) (Z : Nat → List Int) : List (List Int) := (List.range len).map fun r => (Z r).take (L r)

theorem Sll.ofRows {k : IntKind} {w : World} {a : Addr} {len cap : Nat} {A : Nat → Option Addr} {L C : Nat → Nat} {Z : Nat → List Int} (hl : len ≤ cap) (hm : cap ≤ maxLen)
    (h : ∀ r, r < cap → w.cell? (a.add r) = some (.slice (A r) (L r) (C r)) ∧ L r ≤ C r ∧ C r ≤ maxLen ∧ (Z r).length = C r ∧ (∀ n ∈ Z r, (Lit.int k n).wf = true) ∧ (A r = none → C r = 0) ∧
        ∀ a', A r = some a' → 0 ≤ a'.block ∧ ∀ c, c < C r → w.cell? (a'.add c) = some (.int k ((Z r).getD c 0))) :
    Sll k w (some a) len cap (rowsOf len L Z) := by
  refine ⟨by simp [rowsOf], hl, hm, fun i hi => ?_⟩
  have hs := World.cell?_spot (h 0 (by omega)).1
  obtain ⟨b, off, s⟩ := a
  simp [Addr.add] at hs
  subst hs
  obtain ⟨h1, h2, h3, h4, h5, h6, h7⟩ := h i (by omega)
  rw [Addr.add_none] at h1
  refine ⟨b, off, A i, L i, C i, rfl, h1, ?_⟩
  have e : nthL (rowsOf len L Z) i = (Z i).take (L i) := by simp [nthL, rowsOf, List.getD_eq_getElem?_getD, hi]
  rw [e]
  exact Sl.ofCells h2 h3 h4 h5 h6 (fun a' ha => (h7 a' ha).2)

theorem bulk_lits {H : Type} (k : IntKind) : ∀ zs : List Int, Rows.uptoBulkAll (lits (H := H) k zs) = zs.length
  | [] => rfl
  | z :: zs => by
    have := bulk_lits (H := H) k zs
    simp only [lits, List.map_cons, Rows.uptoBulkAll, Rows.uptoBulk, List.length_cons] at this ⊢
    omega

theorem bulk_row {H : Type} (k : IntKind) {A : Option Addr} {L C : Nat} {zs : List Int} (hl : L ≤ C) (hz : zs.length = C) (h0 : A = none → C = 0) : L + 1 ≤ Rows.uptoBulk (intRow (H := H) k A L zs) := by
  rcases A with _ | a
  · have := h0 rfl
    simp [intRow, Rows.uptoBulk]; omega
  · simp only [intRow, Rows.uptoBulk, bulk_lits, List.length_take, List.length_drop]
    omega

theorem tot_map {α : Type} (f : α → List Int) (l : List α) : tot (l.map f) = (l.map fun x => (f x).length + 1).sum := by
  induction l with
  | nil => rfl
  | cons x l ih =>
    unfold tot at ih ⊢
    simp only [List.map_cons, List.length_cons, List.sum_cons] at ih ⊢
    omega

theorem bulk_map {H α : Type} (f : α → DataW H) (g : α → Nat) : ∀ l : List α, (∀ x ∈ l, g x ≤ Rows.uptoBulk (f x)) → (l.map g).sum ≤ Rows.uptoBulkAll (l.map f)
  | [], _ => by simp
  | x :: l, h => by
    have h1 := h x (by simp)
    have h2 := bulk_map f g l (fun y hy => h y (by simp [hy]))
    simp only [List.map_cons, List.sum_cons, Rows.uptoBulkAll]
    omega

theorem tot_rows {H : Type} {k : IntKind} {len cap : Nat} {A : Nat → Option Addr} {L C : Nat → Nat} {Z : Nat → List Int} {sp : List (DataW H)} (hl : len ≤ cap)
    (h : ∀ r, r < cap → L r ≤ C r ∧ (Z r).length = C r ∧ (A r = none → C r = 0)) :
    tot (rowsOf len L Z) ≤ Rows.uptoBulk (.slice ((List.range len).map fun r => intRow (H := H) k (A r) (L r) (Z r)) sp) := by
  unfold rowsOf
  rw [tot_map]
  have h1 := bulk_map (fun r => intRow (H := H) k (A r) (L r) (Z r)) (fun r => ((Z r).take (L r)).length + 1) (List.range len) (by
    intro r hr
    have hr := List.mem_range.1 hr
    obtain ⟨h2, h3, h4⟩ := h r (by omega)
    have := bulk_row (H := H) k h2 h3 h4
    rw [List.length_take]
    omega)
  simp only [Rows.uptoBulk]
  omega

theorem bulk_le {H : Type} {d : DataW H} {l : List (DataW H)} (h : d ∈ l) : Rows.uptoBulk d ≤ Rows.uptoBulkAll l := by
  induction l with
  | nil => cases h
  | cons x r ih =>
    simp only [Rows.uptoBulkAll]
    cases List.mem_cons.1 h with
    | inl e => subst e; omega
    | inr e => have := ih e; omega

theorem bulk_bound {H : Type} {l : List (DataW H)} (hk : Rows.uptoSmall H l = true) : Rows.uptoBulkAll l ≤ 1048576 := of_decide_eq_true hk

/-- How an argument that is a slice of slices of integers is opened. -/
theorem open_rows {H : Type} {enc : TypeId × Value → H} {P : Program} {w : World} {t e q : TypeId} {k : IntKind} {a0 : Option Addr} {len cap : Nat} {d : DataW H} {p : List MemPlace} (ht : P.underlying t = some (.slice e)) (he : P.underlying e = some (.slice q)) (hq : P.underlying q = some (.int k))
    (ce : P.cellsOf e = 1) (cq : P.cellsOf q = 1) (h : DataW.Trod enc P w 0 (fun _ => true) true t (.slice a0 len cap) d p) :
    ∃ xs, Sll k w a0 len cap xs ∧ tot xs ≤ Rows.uptoBulk d := by
  obtain ⟨fuel, hf⟩ := h
  rcases open_int_rows ht he hq ce cq hf with ⟨hcs, hx⟩ | ⟨a, l, c, A, L, C, Z, hcs, _, hl, hm, hx, hcell⟩
  · simp [Value.cells] at hcs
    obtain ⟨rfl, rfl, rfl⟩ := hcs
    exact ⟨[], ⟨rfl, Nat.le_refl _, by simp [maxLen], fun i hi => absurd hi (by omega)⟩, by simp [tot]⟩
  · simp [Value.cells] at hcs
    obtain ⟨rfl, rfl, rfl⟩ := hcs
    simp only [Prod.mk.injEq] at hx
    obtain ⟨rfl, _⟩ := hx
    exact ⟨_, Sll.ofRows hl hm hcell, tot_rows hl (fun r hr => ⟨(hcell r hr).2.1, (hcell r hr).2.2.2.1, (hcell r hr).2.2.2.2.2.1⟩)⟩

end Go.Proofs.Ythjldbefjkbniaa
