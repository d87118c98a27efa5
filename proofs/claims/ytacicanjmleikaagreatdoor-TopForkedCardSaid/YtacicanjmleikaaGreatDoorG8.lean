/-
  What signing and verifying answer, plain; the head of the laws of groups.
-/
import Derived.Test.YtacicanjmleikaaGreatDoorG7
namespace Go.Proofs.YtacicanjmleikaaGreatDoor
open Go.RowKit Go.Sort Go.Shelf
set_option linter.unusedSimpArgs false
set_option linter.unusedVariables false
set_option maxRecDepth 100000

theorem memB_elem {a : Nat} : memB (a : Int) = true ↔ Elem a := by
  have e1 : pP = 2147483579 := rfl
  have e2 : pQ = 1073741789 := rfl
  constructor
  · intro h
    simp only [memB, Bool.and_eq_true, decide_eq_true_eq, beq_iff_eq, Int.toNat_natCast] at h
    refine ⟨by rw [e1]; omega, ?_⟩
    have h3 : pw pP a pQ = 1 := by have := h.2.2; rw [e1, e2]; omega
    rw [← pw_def]
    exact h3
  · intro h
    have h0 := h.pos
    have h1 := h.lt
    have h2 := h.one
    rw [e1] at h1
    rw [← pw_def, e1, e2] at h2
    simp only [memB, Bool.and_eq_true, decide_eq_true_eq, beq_iff_eq, Int.toNat_natCast]
    exact ⟨by omega, by omega, by omega⟩
theorem memB_pw (x : Nat) : memB ((pw 2147483579 4 x : Nat) : Int) = true := memB_elem.2 (by rw [pw_def]; exact Elem.gen.pow x)

theorem pw_pw (a x y : Nat) : pw 2147483579 (pw 2147483579 a x) y = pw 2147483579 a (x * y) := by
  rw [pw_def, pw_def, pw_def, ← Nat.pow_mod, ← Nat.pow_mul]
theorem pw_mul (a x y : Nat) : pw 2147483579 a x * pw 2147483579 a y % 2147483579 = pw 2147483579 a (x + y) := by
  rw [pw_def, pw_def, pw_def, ← Nat.mul_mod, ← Nat.pow_add]
theorem pw_red {a : Nat} (h : Elem a) (x : Nat) : pw 2147483579 a x = pw 2147483579 a (x % 1073741789) := by
  have e := h.red x
  rw [show pP = 2147483579 from rfl, show pQ = 1073741789 from rfl] at e
  rw [pw_def, pw_def]; exact e

theorem exp_mod (o C key : Nat) (hC : C < 1073741789) (ho : o < 1073741789) : ((o + C * key) % 1073741789 + key * ((1073741789 - C) % 1073741789)) % 1073741789 = o := by
  rw [Nat.add_mod, Nat.mod_mod, Nat.mul_mod, Nat.mod_mod, ← Nat.mul_mod, ← Nat.add_mod]
  have e : o + C * key + key * (1073741789 - C) = o + 1073741789 * key := by
    rw [Nat.mul_comm C key, Nat.add_assoc, ← Nat.mul_add, show C + (1073741789 - C) = 1073741789 by omega, Nat.mul_comm key]
  rw [e, Nat.add_mul_mod_self_left, Nat.mod_eq_of_lt ho]

theorem back_sign (key o C : Nat) (hC : C < 1073741789) (ho : o < 1073741789) : backN (pw 2147483579 4 key) C ((o + C * key) % 1073741789) = pw 2147483579 4 o := by
  unfold backN
  rw [pw_pw, pw_mul, pw_red Elem.gen, exp_mod o C key hC ho]

/-- A secret. -/
structure Sec (k : Nat) : Prop where
  lo : 1 ≤ k
  lt : k < 1073741789
theorem Sec.inQ {k : Nat} (h : Sec k) : inQ (k : Int) 1 = true := by have := h.lo; have := h.lt; simp [Go.Proofs.YtacicanjmleikaaGreatDoor.inQ]; omega
theorem inQ_nat {k : Nat} (h : k < 1073741789) : inQ (k : Int) 0 = true := by simp [inQ]; omega

theorem sgC_ok {k o : Nat} (hk : Sec k) (ho : Sec o) (ms : List Int) : sgC k o ms = chal (pw 2147483579 4 o : Nat) (pw 2147483579 4 k : Nat) ms := by
  simp [sgC, sgOk, hk.inQ, ho.inQ]
theorem sgE_ok {k o : Nat} (hk : Sec k) (ho : Sec o) : sgE k o = 0 := by simp [sgE, sgOk, hk.inQ, ho.inQ]
theorem sgS_ok {k o : Nat} (hk : Sec k) (ho : Sec o) (ms : List Int) : ∃ c : Nat, chal (pw 2147483579 4 o : Nat) (pw 2147483579 4 k : Nat) ms = (c : Int) ∧ c < 1073741789 ∧ sgS k o ms = (((o + c * k) % 1073741789 : Nat) : Int) := by
  have hc := chal_lt (pw 2147483579 4 o : Nat) (pw 2147483579 4 k : Nat) ms
  refine ⟨(chal (pw 2147483579 4 o : Nat) (pw 2147483579 4 k : Nat) ms).toNat, by omega, by omega, ?_⟩
  have h1 : sgS k o ms = ((o : Int) + sgC k o ms * k) % 1073741789 := by simp [sgS, sgOk, hk.inQ, ho.inQ]
  rw [h1, sgC_ok hk ho]
  generalize chal (pw 2147483579 4 o : Nat) (pw 2147483579 4 k : Nat) ms = C at *
  obtain ⟨c, rfl⟩ : ∃ c : Nat, C = c := ⟨C.toNat, by omega⟩
  simp

theorem vOk_pub {k c s : Nat} (hc : c < 1073741789) (hs : s < 1073741789) : vOk ((pw 2147483579 4 k : Nat) : Int) c s = true := by
  simp [vOk, memB_pw, inQ_nat hc, inQ_nat hs]

/-- Of the signature of a message, whether it is right for another one. -/
theorem verB_sign {k o : Nat} (hk : Sec k) (ho : Sec o) (one two : List Int) :
    verB ((pw 2147483579 4 k : Nat) : Int) (sgC k o one) (sgS k o one) two = (chal (pw 2147483579 4 o : Nat) (pw 2147483579 4 k : Nat) two == chal (pw 2147483579 4 o : Nat) (pw 2147483579 4 k : Nat) one) ∧
    verE ((pw 2147483579 4 k : Nat) : Int) (sgC k o one) (sgS k o one) = 0 := by
  obtain ⟨c, h1, h2, h3⟩ := sgS_ok hk ho one
  have hs : (o + c * k) % 1073741789 < 1073741789 := Nat.mod_lt _ (by omega)
  rw [sgC_ok hk ho, h3, h1]
  refine ⟨?_, by unfold verE; rw [vOk_pub h2 hs]; rfl⟩
  unfold verB
  rw [vOk_pub h2 hs, Int.toNat_natCast, Int.toNat_natCast, Int.toNat_natCast, back_sign k o c h2 ho.lt, Bool.true_and]

/-! ### The head -/
theorem ev4 : memB 4 = true := memB_elem (a := 4).2 Elem.gen
theorem ev9 : memB 9 = true := by
  have : pw 2147483579 9 1073741789 = 1 := by rw [pw_fast (by decide) (by decide)]; decide +kernel
  simp [memB, this]
theorem ev2 : memB 2 = false := by
  have : pw 2147483579 2 1073741789 = 2147483578 := by rw [pw_fast (by decide) (by decide)]; decide +kernel
  simp [memB, this]
theorem ev0 : memB 0 = false := by simp [memB]
theorem ev_mul : mulV 4 9 = 36 ∧ mulE 4 9 = 0 ∧ mulE 2 4 = 1 := by
  refine ⟨by simp [mulV, ev4, ev9], by simp [mulE, ev4, ev9], by simp [mulE, ev2]⟩
theorem ev_exp : expV 4 3 = 64 ∧ expE 4 3 = 0 := by
  have : pw 2147483579 4 3 = 64 := by rw [pw_fast (by decide) (by decide)]; decide
  refine ⟨by simp [expV, ev4, inQ, this], by simp [expE, ev4, inQ]⟩
theorem ev_pub : pw 2147483579 4 5 = 1024 := by rw [pw_fast (by decide) (by decide)]; decide
theorem s5 : Sec 5 := ⟨by omega, by omega⟩
theorem s7 : Sec 7 := ⟨by omega, by omega⟩
theorem ev_sign : sgE 5 7 = 0 ∧ sgE 0 7 = 1 := ⟨sgE_ok s5 s7, by simp [sgE, sgOk, inQ]⟩
theorem ev_ver : verB 1024 (sgC 5 7 [1, 2]) (sgS 5 7 [1, 2]) [1, 2] = true ∧ verE 1024 (sgC 5 7 [1, 2]) (sgS 5 7 [1, 2]) = 0 := by
  have := verB_sign s5 s7 [1, 2] [1, 2]
  rw [ev_pub] at this
  exact ⟨this.1.trans (by simp), this.2⟩

end Go.Proofs.YtacicanjmleikaaGreatDoor
