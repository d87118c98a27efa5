/-
  The reference's digits and number, walked.
-/
import Derived.Test.YtchbeheekahhiaaDoorVA4
import Derived.Test.YtchbeheekahhiaaDoorVZ
namespace Go.Proofs.YtchbeheekahhiaaDoor
open Go.RowKit Go.Sort Go.Shelf
set_option linter.unusedSimpArgs false
set_option linter.unusedVariables false
set_option maxRecDepth 100000

/-- What number answers. -/
def numF (l : List UInt8) : Int := if allB l 0 l.length = true then numB l 0 l.length else -1

set_option maxHeartbeats 2000000 in
theorem r18num_any (l : List UInt8) (hl : l.length ≤ 6) (w : World) :
    Calls Tryd.prog 45 #[.string (mkS l)] w fun e w' => e = .returned (.int .i64 (numF l)) ∧ w' = w := by
  have hLz := mkS_size l
  go_enter Tryd.func45, Tryd.ntmps45
  go_wp2_with fail
  go_loopw [3, 4] (fun s i wr => ∃ (k : Nat) (N : Int), k ≤ l.length ∧ i = .int .i64 (k : Int) ∧ s = .int .i64 N ∧ Hid (N = numB l 0 k ∧ allB l 0 k = true) ∧ 0 ≤ N ∧ N < 10 ^ k ∧ wr = w) (fun _ i _ => l.length - (intOf i).toNat)
  case atStart => exact ⟨0, 0, by omega, rfl, rfl, Lib.hid ⟨rfl, rfl⟩, by omega, by decide, rfl⟩
  case round =>
    obtain ⟨k, N, hk, rfl, rfl, HK, n0, n9, rfl⟩ := hrel
    by_cases hlt : k < l.length
    · have hix : ∀ W : World, (Instr.index 9 (.string (mkS l)) (.int .i64 (k : Int))).run Tryd.prog W = .ok (.int .u8 (nthB l k)) W := fun W => index_mkS l k hlt 9 (by kernel_rfl) W
      have hbd := nthB_bd l k
      have hN9 : N ≤ 99999 := by
        have : k = 0 ∨ k = 1 ∨ k = 2 ∨ k = 3 ∨ k = 4 ∨ k = 5 := by omega
        rcases this with rfl | rfl | rfl | rfl | rfl | rfl <;> omega
      have HB : Hid (allB l 0 (k + 1) = digB (nthB l k)) := Lib.hid (by simp only [allB]; rw [HK.out.2, Nat.zero_add]; rfl)
      have HN : Hid (numB l 0 (k + 1) = 10 * N + (nthB l k - 48)) := Lib.hid (by simp only [numB]; rw [HK.out.1, Nat.zero_add])
      have HP : Hid ((10 : Int) ^ (k + 1) = 10 ^ k * 10) := Lib.hid (Int.pow_succ _ _)
      have HBF : Hid (digB (nthB l k) = false → numF l = -1) := Lib.hid (fun h => by
        unfold numF
        rw [if_neg]
        rw [allB_not (o := 0) (j := k) hlt (by rw [Nat.zero_add]; exact h)]
        decide)
      have HN9 := Lib.hid n9
      clear n9
      generalize nthB l k = x at *
      by_cases g1 : x < 48
      · have HR : Hid (numF l = -1) := Lib.hid (HBF.out (by rw [Bool.eq_false_iff]; intro h; have := digB_iff.1 h; omega))
        go_wp2_with fail
        go_ret
        exact ⟨by rw [HR.out]; rfl, by first | rfl | trivial⟩
      · by_cases g2 : 57 < x
        · have HR : Hid (numF l = -1) := Lib.hid (HBF.out (by rw [Bool.eq_false_iff]; intro h; have := digB_iff.1 h; omega))
          go_wp2_with fail
          go_ret
          exact ⟨by rw [HR.out]; rfl, by first | rfl | trivial⟩
        · have HH : Hid (digB x = true) := Lib.hid (digB_iff.2 (by omega))
          go_wp2_with fail
          exact ⟨⟨k + 1, 10 * N + (x - 48), by omega, by go_num, rfl, Lib.hid ⟨HN.out.symm, by rw [HB.out, HH.out]⟩, by omega, by rw [HP.out]; have := HN9.out; omega, by first | rfl | trivial⟩, by simp only [intOf]; omega⟩
    · obtain rfl : k = l.length := by omega
      have HR : Hid (numF l = N) := Lib.hid (by unfold numF; rw [if_pos HK.out.2, ← HK.out.1])
      have HN9 := Lib.hid n9
      clear n9
      go_wp2_with fail
      go_ret
      exact ⟨by rw [HR.out]; rfl, by first | rfl | trivial⟩

/-! ### digits -/
theorem digU_cons : ∀ (k n : Nat), digU (k + 1) n = UInt8.ofNat (48 + n / 10 ^ k % 10) :: digU k n
  | 0, n => by simp [digU]
  | k + 1, n => by
    have ih := digU_cons k (n / 10)
    show digU (k + 1) (n / 10) ++ [_] = _
    rw [ih, Nat.pow_succ, show n / (10 ^ k * 10) = n / 10 / 10 ^ k by rw [Nat.mul_comm, Nat.div_div_eq_div_mul]]
    rfl
theorem mkS_app (a b : List UInt8) : mkS a ++ mkS b = mkS (a ++ b) := by
  apply ByteArray.ext
  simp [mkS]
theorem add_mkS (c : UInt8) (L : List UInt8) (hL : L.length ≤ 1000) (W : World) : (Op.stringOp .add (mkS [c]) (mkS L)).run Tryd.prog W = .ok (.string (mkS (c :: L))) W := by
  rw [run_string_add_sum (w := W) (mkS [c]) (mkS L) (by rw [mkS_size, mkS_size]; simp; omega), mkS_app]
  rfl

set_option maxHeartbeats 2000000 in
theorem r18digits_any (n D : Nat) (hD : D ≤ 7) (hn : n ≤ 10000000) (w : World) :
    Calls Tryd.prog 41 #[.int .i64 (n : Int), .int .i64 (D : Int)] w fun e w' => e = .returned (.string (mkS (digU D n))) ∧ Ext w w' := by
  go_enter Tryd.func41, Tryd.ntmps41
  go_wp2_with fail
  go_loopw [0, 5, 6] (fun v s i wr => ∃ (k m : Nat) (S : List UInt8), k ≤ D ∧ i = .int .i64 (k : Int) ∧ v = .int .i64 (m : Int) ∧ s = .string (mkS S) ∧ Hid (m = n / 10 ^ k ∧ S = digU k n) ∧ m ≤ 10000000 ∧ Ext w wr) (fun _ _ i _ => D - (intOf i).toNat)
  case atStart => exact ⟨0, n, [], by omega, rfl, rfl, rfl, Lib.hid ⟨by simp, rfl⟩, hn, Ext.refl _⟩
  case round =>
    obtain ⟨k, m, S, hk, rfl, rfl, rfl, HK, hm, hx⟩ := hrel
    by_cases hlt : k < D
    · obtain ⟨x, hxe⟩ : ∃ x, m % 10 = x := ⟨_, rfl⟩
      have hx10 : x < 10 := by omega
      have hmx : (m : Int) % 10 = (x : Int) := by omega
      have HS : Hid (digU (k + 1) n = UInt8.ofNat (48 + x) :: S) := Lib.hid (by rw [digU_cons, HK.out.2, ← hxe, HK.out.1])
      have hSl : S.length ≤ 1000 := by rw [HK.out.2, digU_len]; omega
      have hcv := run_convert_bytes_arg (P := Tryd.prog) (wr.alloc (.cells #[.int .u8 (48 + (x : Int))] 5)) 66 5 (by kernel_rfl) (by kernel_rfl) wr.heap.size 0 1 1 [48 + (x : Int)] rfl (fun i hi => by
        obtain rfl : i = 0 := by omega
        exact cell_of_block (World.alloc_heap_new wr _) 0 _ rfl) 9 (by kernel_rfl)
      have hso : strOfNums [48 + (x : Int)] = mkS [UInt8.ofNat (48 + x)] := by
        show mkS (bytesOf [48 + (x : Int)]) = _
        simp only [bytesOf, List.map_cons, List.map_nil]
        congr 3
      rw [hso] at hcv
      have hadd := fun W => add_mkS (UInt8.ofNat (48 + x)) S hSl W
      have HN : Hid (m / 10 = n / 10 ^ (k + 1)) := Lib.hid (by rw [HK.out.1, Nat.pow_succ, Nat.div_div_eq_div_mul])
      clear hso hxe
      generalize UInt8.ofNat (48 + x) = cx at *
      go_wp2_with fail
      exact ⟨⟨k + 1, m / 10, cx :: S, by omega, by go_num, by go_num, rfl, Lib.hid ⟨HN.out, HS.out.symm⟩, by omega, hx.alloc _⟩, by simp only [intOf]; omega⟩
    · obtain rfl : k = D := by omega
      have HR : Hid (S = digU k n) := Lib.hid HK.out.2
      go_wp2_with fail
      go_ret
      exact ⟨by rw [HR.out]; rfl, hx⟩
end Go.Proofs.YtchbeheekahhiaaDoor
