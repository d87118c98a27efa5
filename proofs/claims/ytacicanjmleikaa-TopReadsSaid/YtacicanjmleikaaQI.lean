/-
  slices.Insert of one version into a row of the call's own, walked. Written by wip/gen_qi.py.
-/
import Derived.Test.YtacicanjmleikaaQH
import Derived.Lib.Overlaps
import Derived.Lib.AppendZeros
import Derived.Lib.AppendZerosOnto
import Derived.Laws.Externs
import Derived.Laws.CopyOwn
import Derived.OwnWalk
namespace Go.Proofs.Ytacicanjmleikaa
open Go.RowKit Go.Sort Go.Shelf
set_option linter.unusedSimpArgs false
set_option linter.unusedVariables false
set_option maxRecDepth 100000

section
variable {α : Type} [Cel α]
/-- A row of the call's own, opened. -/
theorem OwR.row {E : TypeId} {base : Nat} {w : World} {a : Option Addr} {n c : Nat} {xs : List α} (h : OwR E base w a n c xs) (h0 : 0 < n) :
    ∃ g cur, a = some ⟨g, 0, none⟩ ∧ w.heap[g]? = some (.cells (List.toArray cur) E (0, 0)) ∧ base ≤ g ∧ n ≤ c ∧ c ≤ maxLen ∧ cur.length = c * Cel.sz α ∧ cur.take (n * Cel.sz α) = xs.flatMap Cel.enc := by
  obtain ⟨hl, h1, h2⟩ := h
  rcases h2 with ⟨hv, hz⟩ | ⟨g, cap, cur, hv, hb, hg, hle, hm, hs, ht⟩
  · simp only [Value.slice.injEq] at hv; omega
  · simp only [Value.slice.injEq] at hv
    obtain ⟨rfl, _, rfl⟩ := hv
    exact ⟨g, cur.toList, rfl, by simpa using hg, hb, hle, hm, by simpa using hs, by simpa using ht⟩
theorem OwR.ofRow {E : TypeId} {base : Nat} {w : World} {g n c : Nat} {cur : List Value} {xs : List α} (hl : xs.length = n) (hg : w.heap[g]? = some (.cells (List.toArray cur) E (0, 0))) (hb : base ≤ g) (hle : n ≤ c) (hm : c ≤ maxLen) (hs : cur.length = c * Cel.sz α) (ht : cur.take (n * Cel.sz α) = xs.flatMap Cel.enc) : OwR E base w (some ⟨g, 0, none⟩) n c xs := by
  have hf := flat_len xs
  rw [hl] at hf
  exact ⟨hl, hf, .inr ⟨g, c, cur.toArray, rfl, hb, hg, hle, hm, by simpa using hs, by simpa using ht⟩⟩

/-- 'copy(d, s)' of records, d in a row that is known whole, s no longer than d. -/
theorem run_copyR {P : Program} {w : World} (dT sT ty : TypeId) (elem : TypeId) (hu : P.underlying dT = some (.slice elem)) (hsz : (P.info? elem).map (·.size) = some (Cel.sz α))
    (dLen dCap sLen sCap m mc : Nat) (hmin : Nat.min sLen dLen = m) (sp : Option Addr) (ys : List α) (hr : Rw w sp m mc ys) (h0 : 0 < m)
    (g off : Nat) (cur : List Value) (t : TypeId) (hg : w.heap[g]? = some (.cells cur.toArray t (0, 0))) (hfit : off + m * Cel.sz α ≤ cur.length) :
    (Builtin.copy_ #[dT, sT] ty #[.slice (some ⟨g, off, none⟩) dLen dCap, .slice sp sLen sCap]).run P w = .ok (goInt m) (w.setRow g (splice cur off (ys.flatMap Cel.enc)).toArray) := by
  have hfl := flat_len ys
  rw [hr.hlen] at hfl
  cases hq : P.info? elem with
  | none => simp [hq] at hsz
  | some i =>
    have hi : i.size = Cel.sz α := by simpa [hq] using hsz
    obtain ⟨b, o2, rfl, _⟩ := hr.at h0
    have hl := run_loadCells_list (P := P) w ⟨b, o2, none⟩ (ys.flatMap Cel.enc) (fun j v hv => by rw [Addr.add_mid]; exact hr.flat j v hv)
    rw [hfl] at hl
    have hst := run_storeCells_at P g off t (ys.flatMap Cel.enc) 0 cur.toArray w hg (by simp only [Nat.add_zero, List.size_toArray]; rw [hfl]; exact hfit) (flat_one ys)
    simp only [Nat.add_zero] at hst
    have e : ∀ n, n * i.size = n * Cel.sz α := fun n => by rw [hi]
    simp [Builtin.copy_, run_underlying hu, Builtin.lenOf, Builtin.firstCells, sizeOf, typeInfo, hq, hi, hmin, hl, hst, splice]
theorem wpList_copyV {P : Program} {w : World} {ops : Array Oper} {rest : List Oper} {o : Oper} {a : Act} {Q : Exit → Act → World → Prop} (hgd : o.guard = none) (d s : Operand) (dT sT : TypeId)
    (ho : o.op = .call { callee := .builtin .copy, args := #[d, s], argTypes := #[dT, sT] }) (elem : TypeId) (hu : P.underlying dT = some (.slice elem)) (hsz : (P.info? elem).map (·.size) = some (Cel.sz α))
    (dLen dCap sLen sCap m mc : Nat) (sp : Option Addr) (g off : Nat) (hd : a.eval d = .slice (some ⟨g, off, none⟩) dLen dCap) (hs : a.eval s = .slice sp sLen sCap) (hmin : Nat.min sLen dLen = m) (ys : List α) (hr : Rw w sp m mc ys) (h0 : 0 < m)
    (cur : List Value) (t : TypeId) (hg : w.heap[g]? = some (.cells cur.toArray t (0, 0))) (hfit : off + m * Cel.sz α ≤ cur.length)
    (h : wpList P ops Q rest (a.put o.dst (goInt m)) (w.setRow g (splice cur off (ys.flatMap Cel.enc)).toArray)) : wpList P ops Q (o :: rest) a w := by
  refine wpList_plain hgd fun K hK => ?_
  have hrun := run_copyR (P := P) dT sT o.type elem hu hsz dLen dCap sLen sCap m mc hmin sp ys hr h0 g off cur t hg hfit
  unfold Oper.wp
  simp [execOp, ho, resolve, invoke, builtin, hd, hs, hrun, Result.andThen]
  exact hK _ _ h
theorem Rw.dropO {w : World} {g n c : Nat} {xs : List α} (h : Rw w (some ⟨g, 0, none⟩) n c xs) {k : Nat} (hk : k ≤ n) : Rw w (some ⟨g, k * Cel.sz α, none⟩) (n - k) (c - k) (xs.drop k) := by
  have := h.dropA hk
  rwa [Nat.zero_add] at this
end
/-- Two parts spliced behind what stays: the tail first, then the new one. -/
theorem splice_tail {β : Type} (L A B C : List β) (hL : L.take A.length = A) (hl : A.length + (B.length + C.length) ≤ L.length) :
    (splice (splice L (A.length + B.length) C) A.length B).take (A.length + (B.length + C.length)) = A ++ (B ++ C) := by
  have hA : A.length ≤ L.length := by omega
  have e1 : splice L (A.length + B.length) C = L.take (A.length + B.length) ++ C ++ L.drop (A.length + B.length + C.length) := by simp [splice, Nat.add_comm, Nat.add_left_comm]
  have t1 : (L.take (A.length + B.length)).length = A.length + B.length := by rw [List.length_take]; omega
  have t2 : (L.take (A.length + B.length)).take A.length = A := by rw [List.take_take, Nat.min_eq_left (by omega), hL]
  rw [e1]
  generalize L.drop (A.length + B.length + C.length) = D
  generalize hM : L.take (A.length + B.length) = M at *
  have e2 : splice (M ++ C ++ D) A.length B = A ++ B ++ (C ++ D) := by
    have : (M ++ C ++ D).take A.length = A := by rw [List.append_assoc, List.take_append_of_le_length (by omega), t2]
    have h2 : (M ++ C ++ D).drop (A.length + B.length) = C ++ D := by rw [List.append_assoc, ← t1, List.drop_left]
    simp only [splice, this]
    rw [h2, List.append_assoc]
  rw [e2]
  have : A ++ B ++ (C ++ D) = (A ++ (B ++ C)) ++ D := by simp
  rw [this, List.take_left' (by simp)]
/-- .. the new one first. -/
theorem splice_head {β : Type} (L A B C : List β) (hL : L.take A.length = A) (hl : A.length + (B.length + C.length) ≤ L.length) :
    (splice (splice L A.length B) (A.length + B.length) C).take (A.length + (B.length + C.length)) = A ++ (B ++ C) := by
  have e1 : splice L A.length B = A ++ B ++ L.drop (A.length + B.length) := by simp [splice, hL]
  rw [e1]
  have t1 : (A ++ B).length = A.length + B.length := List.length_append
  have e2 : splice (A ++ B ++ L.drop (A.length + B.length)) (A.length + B.length) C = A ++ B ++ (C ++ (L.drop (A.length + B.length)).drop C.length) := by
    have h1 : (A ++ B ++ L.drop (A.length + B.length)).take (A.length + B.length) = A ++ B := by rw [← t1, List.take_left]
    have h2 : (A ++ B ++ L.drop (A.length + B.length)).drop (A.length + B.length + C.length) = (L.drop (A.length + B.length)).drop C.length := by rw [← List.drop_drop, ← t1, List.drop_left]
    simp only [splice, h1, h2]
  rw [e2]
  generalize (L.drop (A.length + B.length)).drop C.length = D
  have : A ++ B ++ (C ++ D) = (A ++ (B ++ C)) ++ D := by simp
  rw [this, List.take_left' (by simp)]
theorem splice_lenV {β : Type} (L : List β) (o : Nat) (C : List β) (h : o + C.length ≤ L.length) : (splice L o C).length = L.length := length_splice L o C h
theorem inf_vn : (Try.prog.info? 47).map (·.size) = some (Cel.sz Vn) := by kernel_rfl
end Go.Proofs.Ytacicanjmleikaa
