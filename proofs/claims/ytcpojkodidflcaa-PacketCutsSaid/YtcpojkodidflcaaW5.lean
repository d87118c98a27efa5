
import Derived.Test.YtcpojkodidflcaaW4
import Derived.Test.YtcpojkodidflcaaLib2
namespace Go.Proofs.Ytcpojkodidflcaa
open Go.RowKit Go.Sort
set_option linter.unusedSimpArgs false
set_option linter.unusedVariables false
set_option maxRecDepth 100000

theorem all_eq_of_nthL (xs ys : List (List Int)) (h : xs.length = ys.length) (hn : ∀ i, i < xs.length → nthL xs i = nthL ys i) : xs = ys := by
  apply List.ext_getElem h
  intro i h1 h2
  have := hn i h1
  simp [nthL, List.getD_eq_getElem?_getD, h1, h2] at this
  exact this

def beg (xs ys : List Int) : Bool := xs.take ys.length == ys

/-- The length that three bytes say. -/
def n3 (xs : List Int) : Nat := (nth xs 0 * 65536 + nth xs 1 * 256 + nth xs 2).toNat

/-- The list of the frame with which bytes begin, and the frame's length. -/
def lnext (xs : List Int) : Option (List Int × Nat) :=
  if xs.length < 3 then none else
  if xs.length < n3 xs + 11 then none else
  if dig8 (xs.take (n3 xs + 3)) = (xs.drop (n3 xs + 3)).take 8 then (lget ((xs.drop 3).take (n3 xs))).map fun l => (l, n3 xs + 11) else none

def NextPost (w w' : World) (e : Ending) (r : Option (List Int × Nat)) : Prop :=
  match r with
  | none => ∃ a n c m, e = .returned (.tuple #[.slice a n c, .int .i64 m, .bool false]) ∧ Ext w w'
  | some (l, n) => ∃ a c, e = .returned (.tuple #[.slice a l.length c, .int .i64 n, .bool true]) ∧ OwI .i64 3 w.heap.size w' a l.length c l ∧ (∀ x ∈ l, (Lit.int .i64 x).wf = true) ∧ Ext w w'

theorem nextPost_none {w w' : World} {e : Ending} {r : Option (List Int × Nat)} (hr : r = none) (a : Option Addr) (n c : Nat) (m : Int) (h : e = .returned (.tuple #[.slice a n c, .int .i64 m, .bool false])) (hE : Ext w w') : NextPost w w' e r := by
  subst hr; exact ⟨a, n, c, m, h, hE⟩
theorem nextPost_some {w w' : World} {e : Ending} {r : Option (List Int × Nat)} {l : List Int} {n : Nat} (hr : r = some (l, n)) (a : Option Addr) (c : Nat) (h : e = .returned (.tuple #[.slice a l.length c, .int .i64 n, .bool true])) (hs : OwI .i64 3 w.heap.size w' a l.length c l) (hw : ∀ x ∈ l, (Lit.int .i64 x).wf = true) (hE : Ext w w') : NextPost w w' e r := by
  subst hr; exact ⟨a, c, h, hs, hw, hE⟩

theorem lget_wf {xs l : List Int} (hw : ∀ x ∈ xs, (Lit.int .u8 x).wf = true) {i j : Nat} (h : lget ((xs.drop i).take j) = some l) : ∀ x ∈ l, (Lit.int .i64 x).wf = true := by
  unfold lget at h
  split at h
  · cases h
  · split at h
    · cases h
    · split at h
      · cases h
      · rename_i l' e hm
        split at h
        · cases h
          exact (rdMany_wf (fun x hx => hw x (List.mem_of_mem_drop (List.mem_of_mem_take hx))) _ _ _ _ hm).2
        · cases h

end Go.Proofs.Ytcpojkodidflcaa
