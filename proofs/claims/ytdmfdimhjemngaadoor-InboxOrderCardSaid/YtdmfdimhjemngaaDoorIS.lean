/-
  The bits of the authorities; a box that is opened for a chain: walked. Written by wip/gen_is.py.
-/
import Derived.Test.YtdmfdimhjemngaaDoorIR
namespace Go.Proofs.YtdmfdimhjemngaaDoor
open Go.RowKit Go.Sort Go.Shelf
set_option linter.unusedSimpArgs false
set_option linter.unusedVariables false
set_option maxRecDepth 100000

theorem and1u {n : Int} (h : 0 ≤ n ∧ n ≤ 65535) : bits .and .u16 n 1 = n % 2 := by
  show IntKind.u16.wrap ((BitVec.ofInt 16 n &&& BitVec.ofInt 16 1).toNat : Int) = _
  rw [BitVec.toNat_and, BitVec.toNat_ofInt, show (BitVec.ofInt 16 1).toNat = 2 ^ 1 - 1 from rfl, Nat.and_two_pow_sub_one_eq_mod]
  have e : (n % ((2 ^ 16 : Nat) : Int)).toNat = n.toNat := by omega
  rw [e]
  have : ((n.toNat % 2 ^ 1 : Nat) : Int) = n % 2 := by omega
  rw [this]
  unfold IntKind.wrap
  simp [IntKind.signed, IntKind.bits, IntKind.min, IntKind.max]
  try omega
/-- The k-th bit, as the program computes it. -/
def bitV (au : Int) (k : Nat) : Int := bits BinOp.and IntKind.u16 (au / 2 ^ k) 1
theorem bitV_01 {au : Int} (h : 0 ≤ au ∧ au ≤ 65535) (k : Nat) : bitV au k = 0 ∨ bitV au k = 1 := by
  unfold bitV
  have h1 : 0 ≤ au / 2 ^ k := Int.ediv_nonneg h.1 (by have : (0 : Int) < 2 ^ k := Int.pow_pos (by omega); omega)
  have h2 : au / 2 ^ k ≤ au := Int.ediv_le_self _ h.1
  rw [and1u ⟨h1, by omega⟩]
  omega
def askU (au : Int) (k : Nat) : List Int := ((List.range k).filter fun i => bitV au i == 1).map fun i : Nat => ((i : Int) + 1)
theorem askU_succ (au : Int) (k : Nat) : askU au (k + 1) = if (bitV au k == 1) = true then askU au k ++ [(k : Int) + 1] else askU au k := by
  unfold askU
  rw [List.range_succ, List.filter_append, List.map_append]
  by_cases h : (bitV au k == 1) = true
  · rw [if_pos h]; simp [h]
  · rw [if_neg h]; simp [h]
theorem askU_len (au : Int) (k : Nat) : (askU au k).length ≤ k := by
  unfold askU
  rw [List.length_map]
  exact Nat.le_trans (List.length_filter_le _ _) (by simp)
theorem askU_le (au : Int) (k : Nat) : ∀ x ∈ askU au k, 1 ≤ x ∧ x ≤ k := by
  intro x hx
  unfold askU at hx
  obtain ⟨i, hi, rfl⟩ := List.mem_map.1 hx
  have := List.mem_range.1 (List.mem_filter.1 hi).1
  omega
theorem ascI_snoc : ∀ {l : List Int} {last x : Int}, ascI last l = true → (∀ y ∈ l, y < x) → last < x → x ≤ 16 → ascI last (l ++ [x]) = true
  | [], last, x, _, _, h1, h2 => by simp [ascI, h1, h2]
  | y :: l, last, x, h, hy, h1, h2 => by
    simp only [ascI, Bool.and_eq_true, decide_eq_true_eq, List.cons_append] at h ⊢
    exact ⟨h.1, h.2.1, ascI_snoc h.2.2 (fun z hz => hy z (by simp [hz])) (hy y (by simp)) h2⟩
theorem askU_ask (au : Int) : ∀ k, k ≤ 16 → askB (askU au k) = true
  | 0, _ => rfl
  | k + 1, h => by
    rw [askU_succ]
    by_cases hb : (bitV au k == 1) = true
    · rw [if_pos hb]
      exact ascI_snoc (askU_ask au k (by omega)) (fun y hy => by have := askU_le au k y hy; omega) (by omega) (by omega)
    · rw [if_neg hb]
      exact askU_ask au k (by omega)
theorem askU_wf (au : Int) {k : Nat} (hk : k ≤ 16) : ∀ x ∈ askU au k, (Lit.int .i64 x).wf = true := by
  intro x hx
  have := askU_le au k x hx
  exact wf_of_i64 (by omega) (by omega)

set_option maxHeartbeats 1000000 in
theorem bits_any (au : Int) (hau : 0 ≤ au ∧ au ≤ 65535) (w : World) :
    Calls Tryd.prog 12 #[.int .u16 au] w fun e w' => e = .returned (.int .i64 ((askU au 16).length : Int)) ∧ Ext w w' := by
  go_enter Tryd.func12, Tryd.ntmps12
  go_wp2_with fail
  go_loopw [3, 4] (fun s i wr => ∃ (k : Nat), k ≤ 16 ∧ i = .int .i64 (k : Int) ∧ s = .int .i64 ((askU au k).length : Int) ∧ Ext w wr) (fun _ i _ => 16 - (intOf i).toNat)
  case atStart => exact ⟨0, by omega, rfl, rfl, Ext.refl w⟩
  case round =>
    obtain ⟨k, hk, rfl, rfl, hE⟩ := hrel
    have hlen := askU_len au k
    obtain ⟨m, hm⟩ : ∃ m, (askU au k).length = m := ⟨_, rfl⟩
    rw [hm] at hlen
    rw [hm]
    by_cases hlt : k < 16
    · rcases bitV_01 hau k with h0 | h0
      · have HS : Hid ((askU au (k + 1)).length = m) := Lib.hid (by rw [askU_succ, h0, if_neg (by decide)]; exact hm)
        have hb : bits BinOp.and IntKind.u16 (au / 2 ^ k) 1 = 0 := h0
        clear h0 hm
        go_wp2_with fail
        exact ⟨⟨k + 1, by omega, by go_num, by rw [HS.out]; try go_num, hE⟩, by simp [intOf]; omega⟩
      · have HS : Hid ((askU au (k + 1)).length = m + 1) := Lib.hid (by rw [askU_succ, h0, if_pos (by decide), List.length_append, hm]; rfl)
        have hb : bits BinOp.and IntKind.u16 (au / 2 ^ k) 1 = 1 := h0
        clear h0 hm
        go_wp2_with fail
        exact ⟨⟨k + 1, by omega, by go_num, by rw [HS.out]; go_num, hE⟩, by simp [intOf]; omega⟩
    · obtain rfl : k = 16 := by omega
      have HM := Lib.hid hm
      clear hm
      go_wp2_with fail
      go_ret
      exact ⟨by rw [HM.out]; rfl, hE⟩
end Go.Proofs.YtdmfdimhjemngaaDoor
