/-
  The plain laws of the lists' bytes: what is put is got, what is got was put, no bytes begin others. No program in sight.
-/
import Derived.Test.YtcpojkodidflcaaW6
namespace Go.Proofs.Ytcpojkodidflcaa
set_option linter.unusedSimpArgs false
set_option linter.unusedVariables false
set_option maxRecDepth 100000

theorem pow128_le {a b : Nat} (h : a ≤ b) : 128 ^ a ≤ 128 ^ b := Nat.pow_le_pow_right (by omega) h

theorem rdL_digs (t : List Int) : ∀ (u k : Nat), u * 128 ^ k < 18446744073709551616 → (0 < k → u ≠ 0) → rdL k (digs u ++ t) = some (u, (digs u).length) := by
  intro u
  induction u using Nat.strongRecOn with
  | _ u ih =>
    intro k hu hk
    have hk9 : k ≤ 9 := by
      rcases Nat.lt_or_ge 9 k with h | h
      · have h1 := hk (by omega)
        have h2 : 128 ^ 10 ≤ 128 ^ k := pow128_le h
        have h3 : 1 * 128 ^ k ≤ u * 128 ^ k := Nat.mul_le_mul_right _ (by omega)
        have h4 : (128 : Nat) ^ 10 = 1180591620717411303424 := by decide
        omega
      · exact h
    by_cases hs : u < 128
    · rw [digs_small hs]
      have h9 : k = 9 → u ≤ 1 := by
        intro h
        subst h
        have h4 : (128 : Nat) ^ 9 = 9223372036854775808 := by decide
        rw [h4] at hu
        omega
      show rdL k ((u : Int) :: ([] ++ t)) = _
      unfold rdL
      rw [if_neg (by
        rintro (h | ⟨h, h'⟩ | ⟨h, h'⟩)
        · omega
        · have := h9 h; omega
        · have := hk h; omega), if_pos (by omega)]
      simp
    · rw [digs_big hs]
      have hk8 : k ≤ 8 := by
        rcases Nat.lt_or_ge 8 k with h | h
        · have h2 : 128 ^ 9 ≤ 128 ^ k := pow128_le h
          have h3 : 128 * 128 ^ k ≤ u * 128 ^ k := Nat.mul_le_mul_right _ (by omega)
          have h4 : (128 : Nat) ^ 9 = 9223372036854775808 := by decide
          omega
        · exact h
      have hr := ih (u / 128) (by omega) (k + 1) (by
        have h1 : u / 128 * 128 ^ (k + 1) ≤ u * 128 ^ k := by
          rw [Nat.pow_succ, ← Nat.mul_assoc, Nat.mul_right_comm]
          exact Nat.mul_le_mul_right _ (Nat.div_mul_le_self _ _)
        omega) (fun _ => by omega)
      show rdL k (((u % 128 + 128 : Nat) : Int) :: (digs (u / 128) ++ t)) = _
      unfold rdL
      rw [if_neg (by
        rintro (h | ⟨h, h'⟩ | ⟨h, h'⟩)
        · omega
        · omega
        · omega), if_neg (by omega), hr]
      simp
      omega

theorem unnum_num (n : Int) : unnum (num n) = n := by
  unfold unnum num
  split <;> split <;> omega
theorem num_unnum (v : Nat) : num (unnum v) = v := by
  unfold unnum num
  split <;> split <;> omega

theorem rdAt_digs (p t : List Int) {n : Int} (h : -9223372036854775808 ≤ n ∧ n ≤ 9223372036854775807) : rdAt (p ++ (digs (num n) ++ t)) p.length = some (n, p.length + (digs (num n)).length) := by
  unfold rdAt
  rw [List.drop_left, rdL_digs t (num n) 0 (by have := num_lt h; omega) (by omega)]
  simp [unnum_num]

theorem rdMany_put (t : List Int) : ∀ (l p : List Int), (∀ x ∈ l, (Lit.int .i64 x).wf = true) → rdMany (p ++ ((l.flatMap fun x => digs (num x)) ++ t)) l.length p.length = some (l, p.length + (l.flatMap fun x => digs (num x)).length)
  | [], p, _ => by simp [rdMany]
  | x :: l, p, hw => by
    have h1 := rdAt_digs p ((l.flatMap fun x => digs (num x)) ++ t) (wf_i64 (hw x (by simp)))
    have h2 := rdMany_put t l (p ++ digs (num x)) (fun y hy => hw y (by simp [hy]))
    simp only [List.flatMap_cons, List.length_cons, List.append_assoc] at h1 h2 ⊢
    unfold rdMany
    rw [h1]
    simp only [List.length_append] at h2 ⊢
    rw [h2]
    simp [Nat.add_assoc]

/-- What is put is got, and no further. -/
theorem lget_more {l : List Int} (hw : ∀ x ∈ l, (Lit.int .i64 x).wf = true) (hl : l.length ≤ 1000) (t : List Int) : lget (lput l ++ t) = if t = [] then some l else none := by
  have h1 := rdAt_digs [] ((l.flatMap fun x => digs (num x)) ++ t) (n := (l.length : Int)) (by omega)
  have h2 := rdMany_put t l (digs (num l.length)) hw
  unfold lget
  rw [show lput l ++ t = digs (num l.length) ++ ((l.flatMap fun x => digs (num x)) ++ t) from by simp [lput]]
  simp only [List.nil_append, List.length_nil, Nat.zero_add] at h1
  rw [h1]
  simp only
  rw [if_neg (by omega), show ((l.length : Int)).toNat = l.length from by simp, h2]
  simp only [List.length_append]
  by_cases ht : t = []
  · subst ht; simp
  · rw [if_neg ht, if_neg]
    have : 0 < t.length := List.length_pos_iff.2 ht
    omega

theorem lget_lput {l : List Int} (hw : ∀ x ∈ l, (Lit.int .i64 x).wf = true) (hl : l.length ≤ 1000) : lget (lput l) = some l := by
  have := lget_more hw hl []
  simpa using this

theorem rdL_conv : ∀ (xs : List Int) (k v m : Nat), (∀ x ∈ xs, (Lit.int .u8 x).wf = true) → rdL k xs = some (v, m) → xs.take m = digs v ∧ (0 < k → v ≠ 0)
  | [], k, v, m, _, h => by simp [rdL] at h
  | c :: rest, k, v, m, hw, h => by
    have hc := wf_u8 (hw c (by simp))
    unfold rdL at h
    split at h
    · cases h
    · rename_i hk
      split at h
      · rename_i hlt
        simp at h
        obtain ⟨rfl, rfl⟩ := h
        rw [digs_small (by omega)]
        refine ⟨by simp; omega, fun h0 => ?_⟩
        intro hz
        exact hk (.inr (.inr ⟨h0, by omega⟩))
      · rename_i hge
        rcases hr : rdL (k + 1) rest with _ | ⟨v', m'⟩
        · rw [hr] at h; cases h
        · rw [hr] at h
          simp at h
          obtain ⟨rfl, rfl⟩ := h
          obtain ⟨h1, h2⟩ := rdL_conv rest (k + 1) v' m' (fun x hx => hw x (by simp [hx])) hr
          have hv := h2 (by omega)
          refine ⟨?_, fun _ => by omega⟩
          rw [digs_big (by omega), List.take_succ_cons, h1]
          congr 1
          · omega
          · congr 1; omega

theorem rdAt_conv {xs : List Int} {a next : Nat} {x : Int} (hw : ∀ x ∈ xs, (Lit.int .u8 x).wf = true) (h : rdAt xs a = some (x, next)) : a ≤ next ∧ (xs.drop a).take (next - a) = digs (num x) := by
  unfold rdAt at h
  rcases hr : rdL 0 (xs.drop a) with _ | ⟨v, m⟩
  · rw [hr] at h; cases h
  · rw [hr] at h
    simp at h
    obtain ⟨rfl, rfl⟩ := h
    obtain ⟨h1, _⟩ := rdL_conv _ _ _ _ (fun x hx => hw x (List.mem_of_mem_drop hx)) hr
    refine ⟨by omega, ?_⟩
    rw [num_unnum, show a + m - a = m from by omega, h1]

theorem take_split (xs : List Int) {a b c : Nat} (h1 : a ≤ b) (h2 : b ≤ c) : (xs.drop a).take (c - a) = (xs.drop a).take (b - a) ++ (xs.drop b).take (c - b) := by
  have h3 : c - a = (b - a) + (c - b) := by omega
  rw [h3, List.take_add, List.drop_drop]
  congr 3
  omega

theorem rdMany_conv {xs : List Int} (hw : ∀ x ∈ xs, (Lit.int .u8 x).wf = true) : ∀ (n a e : Nat) (l : List Int), rdMany xs n a = some (l, e) → a ≤ e ∧ (xs.drop a).take (e - a) = l.flatMap fun x => digs (num x)
  | 0, a, e, l, h => by
    simp [rdMany] at h
    obtain ⟨rfl, rfl⟩ := h
    simp
  | n + 1, a, e, l, h => by
    unfold rdMany at h
    rcases hr : rdAt xs a with _ | ⟨x, next⟩
    · rw [hr] at h; cases h
    · rw [hr] at h
      simp only at h
      rcases hm : rdMany xs n next with _ | ⟨l', e'⟩
      · rw [hm] at h; cases h
      · rw [hm] at h
        simp at h
        obtain ⟨rfl, rfl⟩ := h
        obtain ⟨h1, h2⟩ := rdAt_conv hw hr
        obtain ⟨h3, h4⟩ := rdMany_conv hw n next e' l' hm
        refine ⟨by omega, ?_⟩
        rw [take_split xs h1 h3, h2, h4, List.flatMap_cons]

/-- What is got was put. -/
theorem lput_lget {xs l : List Int} (hw : ∀ x ∈ xs, (Lit.int .u8 x).wf = true) (h : lget xs = some l) : lput l = xs ∧ l.length ≤ 1000 ∧ ∀ x ∈ l, (Lit.int .i64 x).wf = true := by
  unfold lget at h
  rcases hr : rdAt xs 0 with _ | ⟨m, a⟩
  · rw [hr] at h; cases h
  · rw [hr] at h
    simp only at h
    split at h
    · cases h
    · rename_i hm
      rcases hq : rdMany xs m.toNat a with _ | ⟨l', e⟩
      · rw [hq] at h; cases h
      · rw [hq] at h
        simp only at h
        split at h
        · rename_i he
          cases h
          obtain ⟨h1, h2⟩ := rdAt_conv hw hr
          obtain ⟨h3, h4⟩ := rdMany_conv hw _ _ _ _ hq
          obtain ⟨h5, h6⟩ := rdMany_wf hw _ _ _ _ hq
          refine ⟨?_, by omega, h6⟩
          unfold lput
          rw [← h4, show (l.length : Int) = m from by omega, ← h2]
          have := take_split xs (a := 0) (b := a) (c := e) (by omega) h3
          rw [← this, he]
          simp
        · cases h

/-- No bytes of a list begin those of another one. -/
theorem lput_prefix {l m t : List Int} (hl : l.length ≤ 1000) (hm : m.length ≤ 1000) (wl : ∀ x ∈ l, (Lit.int .i64 x).wf = true) (wm : ∀ x ∈ m, (Lit.int .i64 x).wf = true) (h : lput m = lput l ++ t) : l = m := by
  have h1 := lget_more wl hl t
  rw [← h, lget_lput wm hm] at h1
  split at h1
  · simpa using h1.symm
  · cases h1

/-- No proper beginning of the bytes of a list is accepted. -/
theorem lget_cut {l : List Int} (hl : l.length ≤ 1000) (wl : ∀ x ∈ l, (Lit.int .i64 x).wf = true) {k : Nat} (hk : k < (lput l).length) : lget ((lput l).take k) = none := by
  rcases h : lget ((lput l).take k) with _ | m
  · rfl
  · obtain ⟨h1, h2, h3⟩ := lput_lget (fun x hx => lput_wf l x (List.mem_of_mem_take hx)) h
    have h4 := lget_more h3 h2 ((lput l).drop k)
    rw [h1, List.take_append_drop, lget_lput wl hl, if_neg (by
      intro hd
      have := congrArg List.length hd
      simp at this
      omega)] at h4
    cases h4

/-- The bytes of a greater number are no fewer. -/
theorem digs_mono : ∀ (v u : Nat), u ≤ v → (digs u).length ≤ (digs v).length := by
  intro v
  induction v using Nat.strongRecOn with
  | _ v ih =>
    intro u hu
    by_cases h1 : u < 128
    · rw [digs_small h1]
      have := (digs_len v).1
      simpa using this
    · rw [digs_big h1, digs_big (u := v) (by omega)]
      have := ih (v / 128) (by omega) (u / 128) (by omega)
      simpa using this

end Go.Proofs.Ytcpojkodidflcaa
