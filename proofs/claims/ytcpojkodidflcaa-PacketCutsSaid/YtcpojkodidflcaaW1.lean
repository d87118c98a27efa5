
import Derived.Test.YtcpojkodidflcaaLib
namespace Go.Proofs.Ytcpojkodidflcaa
open Go.RowKit
set_option linter.unusedSimpArgs false
set_option linter.unusedVariables false
set_option maxRecDepth 100000

theorem all_eq_of_nth (xs ys : List Int) (h : xs.length = ys.length) (hn : ∀ i, i < xs.length → nth xs i = nth ys i) : xs = ys := by
  apply List.ext_getElem h
  intro i h1 h2
  have := hn i h1
  simp [nth, List.getD_eq_getElem?_getD, h1, h2] at this
  exact this

set_option maxHeartbeats 400000 in
theorem same_any (a1 a2 : Option Addr) (n1 c1 n2 c2 : Nat) (xs ys : List Int) (w : World) (h1 : Sl .u8 w a1 n1 c1 xs) (h2 : Sl .u8 w a2 n2 c2 ys) :
    Calls Try.prog 13 #[.slice a1 n1 c1, .slice a2 n2 c2] w fun e w' => e = .returned (.bool (xs == ys)) ∧ Ext w w' := by
  have b1 := h1.bd
  have b2 := h2.bd
  have e1 := Lib.hid h1.hlen
  have e2 := Lib.hid h2.hlen
  by_cases hn : n1 = n2
  · subst hn
    have hb : ((n1 : Int) != n1) = false := by simp
    go_enter Try.func13, Try.ntmps13
    go_wp2
    go_loopw [5] (fun i wr => ∃ k : Nat, k ≤ n1 ∧ i = .int .i64 k ∧ (∀ j, j < k → nth xs j = nth ys j) ∧ Ext w wr) (fun i _ => n1 - (intOf i).toNat)
    case atStart => exact ⟨0, by omega, rfl, fun j hj => absurd hj (Nat.not_lt_zero _), Ext.refl _⟩
    case round =>
      obtain ⟨k, hk, rfl, ht, hE⟩ := hrel
      have HT := Lib.hid ht
      clear ht
      by_cases hlt : k < n1
      · obtain ⟨x1, o1, rfl, hc1⟩ := h1.at (by omega)
        obtain ⟨x2, o2, rfl, hc2⟩ := h2.at (by omega)
        have g1 := hE.cell (hc1 k hlt)
        have g2 := hE.cell (hc2 k hlt)
        clear hc1 hc2
        by_cases hx : nth xs k = nth ys k
        · have hx' : (nth xs k != nth ys k) = false := by simpa using hx
          have HX := Lib.hid hx
          clear hx
          go_wp2
          go_quiet (fail)
          go_wp2
          go_roundw
          case rel =>
            refine ⟨k+1, by omega, by go_num, fun j hj => ?_, hE.drewN _⟩
            by_cases hjk : j = k
            · subst hjk; exact HX.out
            · exact HT.out j (by omega)
          case measure => simp [intOf]; omega
        · have hx' : (nth xs k != nth ys k) = true := by simpa using hx
          have HX := Lib.hid hx
          clear hx
          go_wp2
          go_quiet (fail)
          go_wp2
          go_ret
          refine ⟨ret_bool ?_, hE.drewN _⟩
          symm; simp only [beq_eq_false_iff_ne, ne_eq]
          intro h; exact HX.out (by rw [h])
      · go_wp2
        go_ret
        refine ⟨ret_bool ?_, hE⟩
        symm; simp only [beq_iff_eq]
        exact all_eq_of_nth _ _ (by rw [e1.out, e2.out]) fun i hi => HT.out i (by have := e1.out; omega)
  · have hn' : ((n1 : Int) != n2) = true := by simp; omega
    go_enter Try.func13, Try.ntmps13
    go_wp2
    go_ret
    refine ⟨ret_bool ?_, Ext.refl _⟩
    symm; simp only [beq_eq_false_iff_ne, ne_eq]
    intro h; apply hn; rw [← e1.out, ← e2.out, h]

/-- FNV-1a, one byte. -/
def fnv1 (h x : Int) : Int := IntKind.u64.wrap (bits .xor .u64 h x * 1099511628211)
/-- FNV-1a. -/
def fnv (xs : List Int) : Int := xs.foldl fnv1 14695981039346656037


theorem fnv_succ {xs : List Int} {k : Nat} (h : k < xs.length) : fnv (xs.take (k+1)) = fnv1 (fnv (xs.take k)) (nth xs k) := by
  unfold fnv; rw [take_nth_succ h, List.foldl_append]; rfl

/-! ### one: the bytes of an integer -/
theorem el_u8 : ElT Try.prog 31 5 (.int .u8 0) 1 1 := ⟨by kernel_rfl, by kernel_rfl⟩
theorem el_i64 : ElT Try.prog 57 3 (.int .i64 0) 1 8 := ⟨by kernel_rfl, by kernel_rfl⟩

/-- The number of an integer. -/
def num (n : Int) : Nat := if n < 0 then (2 * (-1 - n) + 1).toNat else (2 * n).toNat
/-- Its digits with the base 128. -/
def digs (u : Nat) : List Int := if h : u < 128 then [(u : Int)] else ((u % 128 + 128 : Nat) : Int) :: digs (u / 128)
termination_by u

theorem digs_small {u : Nat} (h : u < 128) : digs u = [(u : Int)] := by rw [digs]; simp [h]
theorem digs_big {u : Nat} (h : ¬ u < 128) : digs u = ((u % 128 + 128 : Nat) : Int) :: digs (u / 128) := by rw [digs]; simp [h]

theorem digs_wf (u : Nat) : ∀ x ∈ digs u, (Lit.int .u8 x).wf = true := by
  induction u using Nat.strongRecOn with
  | _ u ih =>
    by_cases h : u < 128
    · rw [digs_small h]; intro x hx; simp at hx; subst hx; simp [Lit.wf, IntKind.min, IntKind.max, IntKind.bits, IntKind.signed]; omega
    · rw [digs_big h]; intro x hx
      rcases List.mem_cons.1 hx with rfl | hx
      · simp [Lit.wf, IntKind.min, IntKind.max, IntKind.bits, IntKind.signed]; omega
      · exact ih _ (by omega) x hx

theorem digs_len (u : Nat) : 1 ≤ (digs u).length ∧ ∀ m, u < 128 ^ m → (digs u).length ≤ max m 1 := by
  induction u using Nat.strongRecOn with
  | _ u ih =>
    by_cases h : u < 128
    · rw [digs_small h]; exact ⟨by simp, fun m _ => by simp; omega⟩
    · rw [digs_big h]
      refine ⟨by simp, fun m hm => ?_⟩
      rcases m with _ | m
      · simp at hm; omega
      · have := (ih (u / 128) (by omega)).2 m (by rw [Nat.pow_succ] at hm; omega)
        rcases m with _ | m
        · simp at hm; omega
        · simp; omega

theorem num_lt {n : Int} (h : -9223372036854775808 ≤ n ∧ n ≤ 9223372036854775807) : num n < 18446744073709551616 := by unfold num; split <;> omega
theorem digs_num_len {n : Int} (h : -9223372036854775808 ≤ n ∧ n ≤ 9223372036854775807) : 1 ≤ (digs (num n)).length ∧ (digs (num n)).length ≤ 10 := by
  refine ⟨(digs_len _).1, ?_⟩
  have := (digs_len (num n)).2 10 (by have := num_lt h; omega)
  simpa using this

theorem num_neg {n : Int} (h : n < 0) : (num n : Int) = 2 * (-1 - n) + 1 := by unfold num; rw [if_pos h]; omega
theorem num_pos {n : Int} (h : ¬ n < 0) : (num n : Int) = 2 * n := by unfold num; rw [if_neg h]; omega

set_option maxHeartbeats 400000 in
theorem one_any (base : Nat) (a1 : Option Addr) (n1 c1 : Nat) (xs : List Int) (n : Int) (w : World) (hn : -9223372036854775808 ≤ n ∧ n ≤ 9223372036854775807)
    (h1 : OwI .u8 5 base w a1 n1 c1 xs) (hb : base ≤ w.heap.size) (hsz : n1 ≤ 1000000) :
    Calls Try.prog 48 #[.slice a1 n1 c1, .int .i64 n] w fun e w' => ∃ g c, e = .returned (.slice (some ⟨g, 0, none⟩) (n1 + (digs (num n)).length) c) ∧
      OwI .u8 5 base w' (some ⟨g, 0, none⟩) (n1 + (digs (num n)).length) c (xs ++ digs (num n)) ∧ Below base w w' := by
  have hl := Lib.hid (digs_num_len hn)
  have hnl := num_lt hn
  have hneg' : Hid (n < 0 → 2 * (-1 - n) + 1 = (num n : Int)) := fun h => (num_neg h).symm
  have hpos' : Hid (¬ n < 0 → 2 * n = (num n : Int)) := fun h => (num_pos h).symm
  generalize num n = U at *
  by_cases hneg : n < 0
  all_goals
    go_enter Try.func48, Try.ntmps48
    go_wp2
    go_loopw [0, 5] (fun o uu wr => ∃ (u m : Nat) (a : Option Addr) (c : Nat) (ys : List Int), uu = .int .u64 u ∧ u < 18446744073709551616 ∧ digs U = ys ++ digs u ∧ ys.length = m ∧ o = .slice a (n1 + m) c ∧
      OwI .u8 5 base wr a (n1 + m) c (xs ++ ys) ∧ Below base w wr) (fun _ uu _ => (intOf uu).toNat)
    case atStart =>
      refine ⟨U, 0, a1, c1, [], ?_, hnl, rfl, rfl, rfl, by rw [List.append_nil]; exact h1, Below.refl _ _⟩
      first | rw [hneg'.out hneg] | rw [hpos'.out hneg]
    case round =>
      obtain ⟨u, m, a, c, ys, rfl, hu, hd, hm, rfl, hown, hB⟩ := hrel
      have HM := Lib.hid hm
      have HD := Lib.hid hd
      have hm10 : m ≤ 10 := by have := hl.out; rw [hd, List.length_append] at this; omega
      clear hm hd
      have hsz := hB.size
      by_cases hlt : u < 128
      · have hby : IntKind.u8.wrap u = u := by rw [IntKind.wrap_u8]; omega
        go_wp2_with (at_builtin; refine app1 el_u8 rfl _ _ rfl _ base _ _ _ _ _ rfl hown rfl (by omega) (by unfold maxLen; omega) (by omega) ?_; intro g c2 w2 hown2 hB2)
        go_ret
        have hD := HD.out
        rw [digs_small hlt] at hD
        have hL : (digs U).length = m + 1 := by rw [hD, List.length_append, HM.out]; rfl
        rw [hL, hD, ← List.append_assoc]
        exact ⟨g, c2, rfl, hown2, hB.trans hB2⟩
      · go_wp2_with (at_builtin; refine app1 el_u8 rfl _ _ rfl _ base _ _ _ _ _ rfl hown rfl (by omega) (by unfold maxLen; omega) (by omega) ?_; intro g c2 w2 hown2 hB2)
        go_roundw
        case rel =>
          have hD := HD.out
          rw [digs_big hlt] at hD
          refine ⟨u / 128, m + 1, _, c2, ys ++ [((u % 128 + 128 : Nat) : Int)], by simp, by omega, by rw [hD, List.append_assoc]; rfl, by rw [List.length_append, HM.out]; rfl, rfl, ?_, hB.trans hB2⟩
          rw [← List.append_assoc]
          exact hown2
        case measure => simp [intOf]; omega

end Go.Proofs.Ytcpojkodidflcaa
