/-
  A slice of integers that came in (the skeleton's 'IsRow') reads as its list ('Sl'); a flat struct of integers and bools that came in, opened by its type alone.
-/
import Derived.Test.YtacicanjmleikaaGreatDoorLibA
import Derived.OpenShut
import Derived.Below
namespace Go.Proofs.YtacicanjmleikaaGreatDoor
open Go.RowKit Go.ChangeShapes Go.WideShapes
set_option linter.unusedSimpArgs false
set_option linter.unusedVariables false

theorem Sl.none_nil (k : IntKind) (w : World) : Sl k w none 0 0 [] := (OwI.nil k 0 0 w).sl (by simp)

theorem Sl.ofRow {k : IntKind} {w : World} {a : Option Addr} {len cap : Nat} {zs : List Int} (h : (a = none ∧ len = 0 ∧ cap = 0 ∧ zs = []) ∨
    ∃ x, a = some x ∧ len ≤ cap ∧ cap ≤ maxLen ∧ zs.length = cap ∧ (∀ i, i < zs.length → w.cell? (x.add i) = some (.int k (zs.getD i 0))) ∧ ∀ n ∈ zs, (Lit.int k n).wf = true) : Sl k w a len cap (zs.take len) := by
  rcases h with ⟨rfl, rfl, rfl, rfl⟩ | ⟨x, rfl, hl, hm, hz, hc, hw⟩
  · exact Sl.none_nil _ _
  · refine ⟨by simp; omega, hl, hm, fun i hi => ?_, fun n hn => hw n (List.mem_of_mem_take hn)⟩
    have h0 := hc 0 (by omega)
    have hs := World.cell?_spot h0
    obtain ⟨b, off, s⟩ := x
    simp [Addr.add] at hs
    subst hs
    refine ⟨b, off, rfl, ?_⟩
    have h1 := hc i (by omega)
    have hadd : (⟨b, off, none⟩ : Addr).add i = ⟨b, off + i, none⟩ := by unfold Addr.add; split <;> simp_all
    rw [hadd] at h1
    rw [h1]
    simp [nth, List.getD_eq_getElem?_getD, List.getElem?_take, hi]

/-- What kind of leaf a cell is. -/
inductive Kd where
  | int (k : IntKind) | bool
  deriving DecidableEq

def Kd.ok : Kd → Value → Prop
  | .int k, v => ∃ n, v = .int k n ∧ (Lit.int k n).wf = true
  | .bool, v => ∃ b, v = .bool b

/-- Type t is made of these leaves and nothing else, one after the other. -/
def flatB (P : Program) : Nat → TypeId → List Kd → Bool
  | 0, _, _ => false
  | n + 1, t, ks =>
    (ks.length == P.cellsOf t) &&
    match P.underlying t with
    | some (.int k) => ks == [.int k]
    | some .bool => ks == [.bool]
    | some (.struct fs) =>
      (fs.toList.all fun f => flatB P n f.type ((ks.drop f.offset).take (P.cellsOf f.type))) &&
      ((List.range ks.length).all fun i => fs.toList.any fun f => decide (f.offset ≤ i ∧ i < f.offset + P.cellsOf f.type))
    | some (.array m e) =>
      ((List.range m).all fun i => flatB P n e ((ks.drop (i * P.cellsOf e)).take (P.cellsOf e))) &&
      ((List.range ks.length).all fun i => (List.range m).any fun j => decide (j * P.cellsOf e ≤ i ∧ i < j * P.cellsOf e + P.cellsOf e))
    | _ => false

section
variable {H : Type} {enc : TypeId × Value → H} {P : Program} {w : World} {base : Nat} {spare : Nat → Bool} {held : Bool}

theorem flat_trod : ∀ (n : Nat) (t : TypeId) (ks : List Kd) (fuel : Nat) (cs : List Value) (x : DataW H × List MemPlace), flatB P n t ks = true → DataW.trod enc P w base spare held fuel t cs = some x →
    cs.length = ks.length ∧ x.2 = [] ∧ ∀ (i : Nat) k v, ks[i]? = some k → cs[i]? = some v → k.ok v
  | 0, _, _, _, _, _, h, _ => by simp [flatB] at h
  | n + 1, t, ks, fuel, cs, x, h, ht => by
    unfold flatB at h
    simp only [Bool.and_eq_true, beq_iff_eq] at h
    obtain ⟨hl, h⟩ := h
    split at h
    · rename_i k hu
      obtain ⟨z, rfl, rfl, hw⟩ := DataW.trod_int hu ht
      have e := LawfulBEq.eq_of_beq h
      subst e
      refine ⟨rfl, rfl, fun i k v hk hv => ?_⟩
      rcases i with _ | i
      · simp at hk hv; subst hk hv; exact ⟨z, rfl, hw⟩
      · simp at hk
    · rename_i hu
      obtain ⟨z, rfl, rfl⟩ := DataW.trod_bool hu ht
      have e := LawfulBEq.eq_of_beq h
      subst e
      refine ⟨rfl, rfl, fun i k v hk hv => ?_⟩
      rcases i with _ | i
      · simp at hk hv; subst hk hv; exact ⟨z, rfl⟩
      · simp at hk
    · rename_i fs hu
      obtain ⟨xs, m, rfl, rfl, hcl, hxl, hf⟩ := DataW.trod_struct hu ht
      simp only [Bool.and_eq_true, List.all_eq_true, List.any_eq_true, List.mem_range, decide_eq_true_eq] at h
      obtain ⟨hall, hcov⟩ := h
      have key : ∀ (j : Nat) f, fs[j]? = some f → ∃ y, xs[j]? = some y ∧ y.2 = [] ∧ ∀ (i : Nat) k v, ((ks.drop f.offset).take (P.cellsOf f.type))[i]? = some k → ((cs.drop f.offset).take (P.cellsOf f.type))[i]? = some v → k.ok v := by
        intro j f hj
        have hlt : j < fs.size := by
          rcases Nat.lt_or_ge j fs.size with h | h
          · exact h
          · rw [Array.getElem?_eq_none h] at hj; cases hj
        have h1 := hf j f hj
        have hx : xs[j]? = some (xs[j]'(by omega)) := List.getElem?_eq_getElem (by omega)
        rw [hx] at h1
        have hm : f ∈ fs.toList := by
          rw [Array.getElem?_eq_getElem hlt] at hj
          cases hj
          simp
        obtain ⟨_, e2, e3⟩ := flat_trod n _ _ _ _ _ (hall f hm) h1
        exact ⟨_, hx, e2, e3⟩
      refine ⟨by omega, ?_, fun i k v hk hv => ?_⟩
      · show xs.flatMap (·.2) = []
        rw [List.flatMap_eq_nil_iff]
        intro y hy
        obtain ⟨j, hj, rfl⟩ := List.mem_iff_getElem.mp hy
        obtain ⟨y', h1, h2, _⟩ := key j (fs[j]'(by omega)) (Array.getElem?_eq_getElem (by omega))
        rw [List.getElem?_eq_getElem hj] at h1
        cases h1
        exact h2
      · have hi : i < ks.length := by
          rcases Nat.lt_or_ge i ks.length with h | h
          · exact h
          · rw [List.getElem?_eq_none h] at hk; cases hk
        obtain ⟨f, hm, h1, h2⟩ := hcov i hi
        obtain ⟨j, hj, rfl⟩ := List.mem_iff_getElem.mp hm
        have hj2 : j < fs.size := by simpa using hj
        have hj3 : fs[j]? = some (fs.toList[j]'hj) := by simp [Array.getElem?_eq_getElem hj2]
        generalize fs.toList[j]'hj = f at *
        obtain ⟨y', _, _, h3⟩ := key j _ hj3
        refine h3 (i - f.offset) k v ?_ ?_
        · rw [List.getElem?_take, if_pos (by omega), List.getElem?_drop, Nat.add_sub_cancel' h1]; exact hk
        · rw [List.getElem?_take, if_pos (by omega), List.getElem?_drop, Nat.add_sub_cancel' h1]; exact hv
    · rename_i m e hu
      obtain ⟨xs, m', rfl, rfl, hcl, hxl, hf⟩ := DataW.trod_array hu ht
      simp only [Bool.and_eq_true, List.all_eq_true, List.any_eq_true, List.mem_range, decide_eq_true_eq] at h
      obtain ⟨hall, hcov⟩ := h
      have key : ∀ (j : Nat), j < m → ∃ y, xs[j]? = some y ∧ y.2 = [] ∧ ∀ (i : Nat) k v, ((ks.drop (j * P.cellsOf e)).take (P.cellsOf e))[i]? = some k → ((cs.drop (j * P.cellsOf e)).take (P.cellsOf e))[i]? = some v → k.ok v := by
        intro j hj
        have h1 := hf j hj
        have hx : xs[j]? = some (xs[j]'(by omega)) := List.getElem?_eq_getElem (by omega)
        rw [hx] at h1
        obtain ⟨_, e2, e3⟩ := flat_trod n _ _ _ _ _ (hall j hj) h1
        exact ⟨_, hx, e2, e3⟩
      refine ⟨by omega, ?_, fun i k v hk hv => ?_⟩
      · show xs.flatMap (·.2) = []
        rw [List.flatMap_eq_nil_iff]
        intro y hy
        obtain ⟨j, hj, rfl⟩ := List.mem_iff_getElem.mp hy
        obtain ⟨y', h1, h2, _⟩ := key j (by omega)
        rw [List.getElem?_eq_getElem hj] at h1
        cases h1
        exact h2
      · have hi : i < ks.length := by
          rcases Nat.lt_or_ge i ks.length with h | h
          · exact h
          · rw [List.getElem?_eq_none h] at hk; cases hk
        obtain ⟨j, hm, h1, h2⟩ := hcov i hi
        obtain ⟨y', _, _, h3⟩ := key j hm
        refine h3 (i - j * P.cellsOf e) k v ?_ ?_
        · rw [List.getElem?_take, if_pos (by omega), List.getElem?_drop, Nat.add_sub_cancel' h1]; exact hk
        · rw [List.getElem?_take, if_pos (by omega), List.getElem?_drop, Nat.add_sub_cancel' h1]; exact hv
    · simp at h

/-- The leaves of a list of cells. -/
def Leaves : List Kd → List Value → Prop
  | [], cs => cs = []
  | k :: ks, cs => ∃ v vs, cs = v :: vs ∧ k.ok v ∧ Leaves ks vs

theorem Leaves.of : ∀ {ks : List Kd} {cs : List Value}, cs.length = ks.length → (∀ (i : Nat) k v, ks[i]? = some k → cs[i]? = some v → k.ok v) → Leaves ks cs
  | [], [], _, _ => rfl
  | [], _ :: _, h, _ => by simp at h
  | _ :: _, [], h, _ => by simp at h
  | k :: ks, v :: vs, h, hk => ⟨v, vs, rfl, hk 0 k v rfl rfl, Leaves.of (by simpa using h) (fun i k' v' h1 h2 => hk (i + 1) k' v' (by simpa using h1) (by simpa using h2))⟩

theorem Leaves.int {k : IntKind} {ks : List Kd} {cs : List Value} (h : Leaves (.int k :: ks) cs) : ∃ n vs, cs = .int k n :: vs ∧ (Lit.int k n).wf = true ∧ Leaves ks vs := by
  obtain ⟨v, vs, rfl, ⟨n, rfl, hn⟩, h⟩ := h
  exact ⟨n, vs, rfl, hn, h⟩
theorem Leaves.bool {ks : List Kd} {cs : List Value} (h : Leaves (.bool :: ks) cs) : ∃ b vs, cs = .bool b :: vs ∧ Leaves ks vs := by
  obtain ⟨v, vs, rfl, ⟨n, rfl⟩, h⟩ := h
  exact ⟨n, vs, rfl, h⟩
theorem Leaves.nil {cs : List Value} (h : Leaves [] cs) : cs = [] := h

/-- A flat struct (or array) that came in: its cells. -/
theorem open_flat {t : TypeId} {n : Nat} {ks : List Kd} {r : Reach} {b0 : Nat} {v : Value} {d : DataW H} {ps : List MemPlace} (hs : (match P.underlying t with | some (.struct _) | some (.array _ _) => true | _ => false) = true) (hB : flatB P n t ks = true)
    (hval : Value.okWide P w r b0 t v) (hd : DataW.Trod enc P w base spare held t v d ps) : ∃ cs : List Value, v = .agg cs.toArray ∧ Leaves ks cs ∧ ps = [] := by
  unfold Value.okWide at hval
  split at hval
  case h_3 => rename_i h1 h2; split at hs <;> first | (exact absurd ‹_› (h1 _)) | (exact absurd ‹_› (h2 _ _)) | simp at hs
  all_goals
    obtain ⟨cs, rfl, _, _⟩ := hval
    obtain ⟨fuel, hf⟩ := hd
    obtain ⟨h1, h2, h3⟩ := flat_trod n t ks fuel _ _ hB hf
    exact ⟨cs.toList, by simp, Leaves.of h1 h3, h2⟩
end
end Go.Proofs.YtacicanjmleikaaGreatDoor
