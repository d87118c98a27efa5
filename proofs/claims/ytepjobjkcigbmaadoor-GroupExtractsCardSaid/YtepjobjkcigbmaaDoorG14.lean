/-
  Two signatures with the same number show the secret, plain.
-/
import Derived.Test.YtepjobjkcigbmaaDoorG12
namespace Go.Proofs.YtepjobjkcigbmaaDoor
open Go.RowKit Go.Sort Go.Shelf
set_option linter.unusedSimpArgs false
set_option linter.unusedVariables false
set_option maxRecDepth 100000

theorem extract_gen {q e f o k c1 c2 d : Nat} (he : e + 1 = f) (hk : k < q) (hd : ((c1 : Int) - c2) % (q : Int) = (d : Int)) (hf : pw q d f = 1) :
    (((((o + c1 * k) % q : Nat) : Int) - (((o + c2 * k) % q : Nat) : Int)) % (q : Int)).toNat * pw q d e % q = k := by
  have es : ((((o + c1 * k) % q : Nat) : Int) - (((o + c2 * k) % q : Nat) : Int)) % (q : Int) = ((d * k % q : Nat) : Int) := by
    rw [Int.natCast_emod, Int.natCast_emod, Int.natCast_emod, ← Int.sub_emod]
    push_cast
    rw [← hd]
    have e1 : ((o : Int) + c1 * k) - (o + c2 * k) = (c1 - c2) * k := by
      rw [Int.sub_mul]; omega
    have g1 := Int.mul_emod ((c1 : Int) - c2) k q
    have g2 := Int.mul_emod (((c1 : Int) - c2) % (q : Int)) k q
    rw [Int.emod_emod] at g2
    rw [e1, g1, g2]
  rw [pw_def] at hf
  rw [es, Int.toNat_natCast, pw_def, ← Nat.mul_mod, Nat.mul_comm d k, Nat.mul_assoc, ← Nat.pow_succ', Nat.succ_eq_add_one, he, Nat.mul_mod, hf, Nat.mul_one, Nat.mod_mod, Nat.mod_eq_of_lt hk]

theorem fermat_pw {p f d : Nat} (he : p - 1 = f) (hp : 1 < p) (hc : ∀ d, 0 < d → d < p → Nat.Coprime d p) (d0 : 0 < d) (d1 : d < p) : pw p d f = 1 := by
  rw [pw_def, ← he]
  exact fermat hp hc d0 d1
theorem fermat_Q {d : Nat} (d0 : 0 < d) (d1 : d < 1073741789) : pw 1073741789 d 1073741788 = 1 :=
  fermat_pw (p := 1073741789) rfl (by decide) (fun e he0 he1 => coprime_Q he0 he1) d0 d1

theorem extract_eq {o k c1 c2 : Nat} (hk : k < 1073741789) (h1 : c1 < 1073741789) (h2 : c2 < 1073741789) (hne : c1 ≠ c2) :
    (((((o + c1 * k) % 1073741789 : Nat) : Int) - (((o + c2 * k) % 1073741789 : Nat) : Int)) % 1073741789).toNat * pw 1073741789 ((((c1 : Int) - c2) % 1073741789).toNat) 1073741787 % 1073741789 = k := by
  have hd : ∃ d : Nat, ((c1 : Int) - c2) % 1073741789 = (d : Int) ∧ 0 < d ∧ d < 1073741789 := ⟨(((c1 : Int) - c2) % 1073741789).toNat, by omega, by omega, by omega⟩
  obtain ⟨d, ed, d0, d1⟩ := hd
  rw [ed, Int.toNat_natCast]
  exact extract_gen (q := 1073741789) (e := 1073741787) (f := 1073741788) rfl hk ed (fermat_Q d0 d1)
end Go.Proofs.YtepjobjkcigbmaaDoor
