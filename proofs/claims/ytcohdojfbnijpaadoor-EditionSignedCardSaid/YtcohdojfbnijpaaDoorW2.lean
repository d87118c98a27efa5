
import Derived.Test.YtcohdojfbnijpaaDoorW1
namespace Go.Proofs.YtcohdojfbnijpaaDoor
open Go.RowKit
set_option linter.unusedSimpArgs false
set_option linter.unusedVariables false
set_option maxRecDepth 100000

/-- The eight bytes of a number, the most significant one first. -/
def be8 (d : Nat) : List Int := [((d / 72057594037927936 % 256 : Nat) : Int), ((d / 281474976710656 % 256 : Nat) : Int), ((d / 1099511627776 % 256 : Nat) : Int), ((d / 4294967296 % 256 : Nat) : Int),
  ((d / 16777216 % 256 : Nat) : Int), ((d / 65536 % 256 : Nat) : Int), ((d / 256 % 256 : Nat) : Int), ((d % 256 : Nat) : Int)]

theorem be8_wf (d : Nat) : ∀ x ∈ be8 d, (Lit.int .u8 x).wf = true := by
  intro x hx
  simp only [be8, List.mem_cons, List.not_mem_nil, or_false] at hx
  rcases hx with rfl | rfl | rfl | rfl | rfl | rfl | rfl | rfl <;> simp [Lit.wf, IntKind.min, IntKind.max, IntKind.bits, IntKind.signed] <;> omega

theorem fnv_wf (xs : List Int) : (Lit.int .u64 (fnv xs)).wf = true := by
  unfold fnv
  rcases List.eq_nil_or_concat xs with rfl | ⟨ys, y, rfl⟩
  · decide
  · rw [List.concat_eq_append, List.foldl_append]; exact wf_wrap _ _
theorem fnv_bd (xs : List Int) : 0 ≤ fnv xs ∧ fnv xs ≤ 18446744073709551615 := wf_u64 (fnv_wf xs)

/-- The bytes of the digest. -/
def dig8 (xs : List Int) : List Int := be8 (fnv xs).toNat

theorem be8_step (d k : Nat) (hk : k < 8) : (be8 d).drop (7 - k) = (((d / 256 ^ k) % 256 : Nat) : Int) :: (be8 d).drop (8 - k) := by
  unfold be8
  rcases k with _ | _ | _ | _ | _ | _ | _ | _ | k <;> simp <;> first | omega | done

theorem set_rep (k : Nat) (hk : k < 8) (t : List Int) (x : Int) : (List.replicate (8 - k) 0 ++ t).set (7 - k) x = List.replicate (7 - k) 0 ++ x :: t := by
  rw [List.set_append, if_pos (by simp; omega)]
  have : 8 - k = (7 - k) + 1 := by omega
  rw [this, List.replicate_succ', List.set_append, if_neg (by simp)]
  simp

/-- The bytes of a list: those of its length, and those of each element. -/
def lput (xs : List Int) : List Int := digs (num xs.length) ++ xs.flatMap fun x => digs (num x)

theorem flatMap_take_succ {xs : List Int} {k : Nat} (h : k < xs.length) (f : Int → List Int) : (xs.take (k+1)).flatMap f = (xs.take k).flatMap f ++ f (nth xs k) := by
  rw [take_nth_succ h, List.flatMap_append]; simp

theorem flatMap_len_le (xs : List Int) (f : Int → List Int) (hf : ∀ x ∈ xs, (f x).length ≤ 10) : (xs.flatMap f).length ≤ 10 * xs.length := by
  induction xs with
  | nil => simp
  | cons x xs ih =>
    have h1 := hf x (by simp)
    have h2 := ih (fun y hy => hf y (by simp [hy]))
    simp only [List.flatMap_cons, List.length_append, List.length_cons]; omega

theorem lput_len {xs : List Int} (hw : ∀ x ∈ xs, (Lit.int .i64 x).wf = true) (hl : xs.length ≤ 1100) : 1 ≤ (lput xs).length ∧ (lput xs).length ≤ 10 + 10 * xs.length := by
  have h1 := digs_num_len (n := xs.length) (by omega)
  have h2 := flatMap_len_le xs (fun x => digs (num x)) fun x hx => (digs_num_len (wf_i64 (hw x hx))).2
  unfold lput
  rw [List.length_append]; omega

theorem lput_wf (xs : List Int) : ∀ x ∈ lput xs, (Lit.int .u8 x).wf = true := by
  intro x hx
  unfold lput at hx
  rcases List.mem_append.1 hx with h | h
  · exact digs_wf _ x h
  · obtain ⟨y, _, h⟩ := List.mem_flatMap.1 h
    exact digs_wf _ x h

end Go.Proofs.YtcohdojfbnijpaaDoor
