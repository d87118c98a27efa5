/-
  Digests, plain: the digest's step is one to one in the state and in the byte.
-/
import Derived.Test.YtfohekfhcolnfaaDoorW1
namespace Go.Proofs.YtfohekfhcolnfaaDoor
open Go.RowKit
set_option linter.unusedSimpArgs false
set_option linter.unusedVariables false

def stepB (a b : BitVec 64) : BitVec 64 := (a ^^^ b) * 1099511628211#64
theorem stepB_undo (a b : BitVec 64) : stepB a b * 14886173955864302971#64 = a ^^^ b := by
  unfold stepB
  rw [BitVec.mul_assoc, show (1099511628211#64 * 14886173955864302971#64 : BitVec 64) = 1#64 by decide, BitVec.mul_one]
theorem stepB_inj {a a' b b' : BitVec 64} (h : stepB a b = stepB a' b') : a ^^^ b = a' ^^^ b' := by
  rw [← stepB_undo a b, h, stepB_undo]

theorem fnv1_bv (h x : Int) : fnv1 h x = ((stepB (BitVec.ofInt 64 h) (BitVec.ofInt 64 x)).toNat : Int) := by
  have e1 : bits .xor .u64 h x = ((BitVec.ofInt 64 h ^^^ BitVec.ofInt 64 x).toNat : Int) := by
    show IntKind.u64.wrap ((BitVec.ofInt 64 h ^^^ BitVec.ofInt 64 x).toNat : Int) = _
    rw [IntKind.wrap_u64]
    have := (BitVec.ofInt 64 h ^^^ BitVec.ofInt 64 x).isLt
    omega
  unfold fnv1 stepB
  rw [e1, IntKind.wrap_u64, BitVec.toNat_mul]
  have : (1099511628211#64).toNat = 1099511628211 := by decide
  rw [this]
  omega
theorem fnv1_wf (h x : Int) : 0 ≤ fnv1 h x ∧ fnv1 h x ≤ 18446744073709551615 := by
  rw [fnv1_bv]
  have := (stepB (BitVec.ofInt 64 h) (BitVec.ofInt 64 x)).isLt
  omega
theorem ofInt_inj64 {x y : Int} (hx : 0 ≤ x ∧ x ≤ 18446744073709551615) (hy : 0 ≤ y ∧ y ≤ 18446744073709551615) (h : BitVec.ofInt 64 x = BitVec.ofInt 64 y) : x = y := by
  have h1 := congrArg BitVec.toNat h
  rw [BitVec.toNat_ofInt, BitVec.toNat_ofInt] at h1
  omega
theorem fnv1_eq {h h' x x' : Int} (he : fnv1 h x = fnv1 h' x') : BitVec.ofInt 64 h ^^^ BitVec.ofInt 64 x = BitVec.ofInt 64 h' ^^^ BitVec.ofInt 64 x' := by
  rw [fnv1_bv, fnv1_bv] at he
  exact stepB_inj (BitVec.eq_of_toNat_eq (by omega))
theorem fnv1_state {h h' x : Int} (hh : 0 ≤ h ∧ h ≤ 18446744073709551615) (hh' : 0 ≤ h' ∧ h' ≤ 18446744073709551615) (he : fnv1 h x = fnv1 h' x) : h = h' := by
  refine ofInt_inj64 hh hh' ?_
  have := congrArg (· ^^^ BitVec.ofInt 64 x) (fnv1_eq he)
  simpa [BitVec.xor_assoc] using this
theorem fnv1_byte {h x x' : Int} (hx : 0 ≤ x ∧ x ≤ 255) (hx' : 0 ≤ x' ∧ x' ≤ 255) (he : fnv1 h x = fnv1 h x') : x = x' := by
  refine ofInt_inj64 (by omega) (by omega) ?_
  have := congrArg (BitVec.ofInt 64 h ^^^ ·) (fnv1_eq he)
  simpa [← BitVec.xor_assoc] using this

/-- The digest from a state on. -/
def fnvFrom (h : Int) (xs : List Int) : Int := xs.foldl fnv1 h
theorem fnv_from (xs : List Int) : fnv xs = fnvFrom 14695981039346656037 xs := rfl
theorem fnvFrom_app (h : Int) (xs ys : List Int) : fnvFrom h (xs ++ ys) = fnvFrom (fnvFrom h xs) ys := List.foldl_append
theorem fnvFrom_wf {h : Int} (hh : 0 ≤ h ∧ h ≤ 18446744073709551615) : ∀ xs : List Int, 0 ≤ fnvFrom h xs ∧ fnvFrom h xs ≤ 18446744073709551615 := by
  intro xs
  induction xs generalizing h with
  | nil => exact hh
  | cons x xs ih => exact ih (fnv1_wf h x)
theorem fnvFrom_inj {h h' : Int} (hh : 0 ≤ h ∧ h ≤ 18446744073709551615) (hh' : 0 ≤ h' ∧ h' ≤ 18446744073709551615) (xs : List Int) : fnvFrom h xs = fnvFrom h' xs ↔ h = h' := by
  constructor
  · induction xs generalizing h h' with
    | nil => exact id
    | cons x xs ih => exact fun e => fnv1_state hh hh' (ih (fnv1_wf h x) (fnv1_wf h' x) e)
  · rintro rfl; rfl
theorem fnv_rng (xs : List Int) : 0 ≤ fnv xs ∧ fnv xs ≤ 18446744073709551615 := fnvFrom_wf (by omega) xs
/-- The same bytes behind both. -/
theorem fnv_behind (xs ys zs : List Int) : fnv (xs ++ zs) = fnv (ys ++ zs) ↔ fnv xs = fnv ys := by
  rw [fnv_from, fnv_from, fnvFrom_app, fnvFrom_app]
  exact fnvFrom_inj (fnv_rng xs) (fnv_rng ys) zs
/-- One byte is another one. -/
theorem fnv_byte {xs zs : List Int} {x y : Int} (hx : 0 ≤ x ∧ x ≤ 255) (hy : 0 ≤ y ∧ y ≤ 255) (hne : x ≠ y) : fnv (xs ++ x :: zs) ≠ fnv (xs ++ y :: zs) := by
  intro he
  rw [fnv_from, fnv_from, fnvFrom_app, fnvFrom_app] at he
  have := (fnvFrom_inj (fnv1_wf _ _) (fnv1_wf _ _) zs).1 he
  exact hne (fnv1_byte hx hy this)
end Go.Proofs.YtfohekfhcolnfaaDoor
