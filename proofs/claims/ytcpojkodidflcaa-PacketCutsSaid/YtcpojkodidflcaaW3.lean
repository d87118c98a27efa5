
import Derived.Test.YtcpojkodidflcaaW2
namespace Go.Proofs.Ytcpojkodidflcaa
open Go.RowKit
set_option linter.unusedSimpArgs false
set_option linter.unusedVariables false
set_option maxRecDepth 100000

/-- The number whose digits a list begins with, and how many digits it has; k have been read before. -/
def rdL (k : Nat) : List Int → Option (Nat × Nat)
  | [] => none
  | c :: rest => if 10 ≤ k ∨ (k = 9 ∧ 1 < c) ∨ (0 < k ∧ c = 0) then none else if c < 128 then some (c.toNat, 1) else (rdL (k + 1) rest).map fun (v, m) => ((c - 128).toNat + 128 * v, m + 1)

/-- The integer of a number. -/
def unnum (v : Nat) : Int := if v % 2 = 1 then -1 - (v / 2 : Nat) else (v / 2 : Nat)

/-- What Read returns. -/
def rdAt (xs : List Int) (at_ : Nat) : Option (Int × Nat) := (rdL 0 (xs.drop at_)).map fun (v, m) => (unnum v, at_ + m)

theorem rdL_bd : ∀ (xs : List Int) (k : Nat) (v m : Nat), (∀ x ∈ xs, (Lit.int .u8 x).wf = true) → rdL k xs = some (v, m) → k + m ≤ 10 ∧ 1 ≤ m ∧ m ≤ xs.length ∧ v * 128 ^ k < 18446744073709551616
  | [], k, v, m, _, h => by simp [rdL] at h
  | c :: rest, k, v, m, hw, h => by
    have hc := wf_u8 (hw c (by simp))
    unfold rdL at h
    split at h
    · cases h
    · rename_i hk
      split at h
      · rename_i hlt
        simp only [Option.some.injEq, Prod.mk.injEq] at h
        obtain ⟨rfl, rfl⟩ := h
        refine ⟨by omega, by omega, by simp, ?_⟩
        have hk9 : k ≤ 9 := by omega
        rcases Nat.lt_or_ge k 9 with h9 | h9
        · have hp : 128 ^ k ≤ 128 ^ 8 := Nat.pow_le_pow_right (by omega) (by omega)
          have : c.toNat * 128 ^ k ≤ 127 * 128 ^ 8 := Nat.mul_le_mul (by omega) hp
          omega
        · obtain rfl : k = 9 := by omega
          have : c.toNat ≤ 1 := by omega
          have h2 : c.toNat * 128 ^ 9 ≤ 1 * 128 ^ 9 := Nat.mul_le_mul_right _ this
          omega
      · rename_i hlt
        simp only [Option.map_eq_some_iff, Prod.mk.injEq, Prod.exists] at h
        obtain ⟨v', m', h1, rfl, rfl⟩ := h
        obtain ⟨i1, i2, i3, i4⟩ := rdL_bd rest (k + 1) v' m' (fun x hx => hw x (by simp [hx])) h1
        refine ⟨by omega, by omega, by simp; omega, ?_⟩
        have hk8 : k ≤ 8 := by omega
        have hv : v' * 128 ^ k < 144115188075855872 := by rw [Nat.pow_succ, ← Nat.mul_assoc] at i4; omega
        have hp : 128 ^ k ≤ 128 ^ 8 := Nat.pow_le_pow_right (by omega) (by omega)
        have hlow : ((c - 128).toNat + 1) * 128 ^ k ≤ 128 * 128 ^ k := Nat.mul_le_mul_right _ (by omega)
        have e1 : ((c - 128).toNat + 128 * v') * 128 ^ k = (c - 128).toNat * 128 ^ k + 128 * (v' * 128 ^ k) := by rw [Nat.add_mul, Nat.mul_assoc]
        rw [e1]
        have hd : 128 ^ k ∣ 18446744073709551616 := ⟨2 ^ (64 - 7 * k), by rw [show (128 : Nat) = 2 ^ 7 by rfl, ← Nat.pow_mul, ← Nat.pow_add, show 7 * k + (64 - 7 * k) = 64 by omega]⟩
        rw [Nat.pow_succ] at i4
        obtain ⟨q, hq⟩ := hd
        have hpos : 0 < 128 ^ k := Nat.pow_pos (by omega)
        have i5 : v' * 128 < q := by
          have : (v' * 128) * 128 ^ k < q * 128 ^ k := by rw [Nat.mul_assoc, Nat.mul_comm 128, Nat.mul_comm q, ← hq]; exact i4
          exact Nat.lt_of_mul_lt_mul_right this
        have hq128 : q % 128 = 0 := by
          have hq2 : q = 2 ^ (64 - 7 * k) := by
            have : 128 ^ k * q = 128 ^ k * 2 ^ (64 - 7 * k) := by rw [← hq, show (128 : Nat) = 2 ^ 7 by rfl, ← Nat.pow_mul, ← Nat.pow_add, show 7 * k + (64 - 7 * k) = 64 by omega]
            exact Nat.eq_of_mul_eq_mul_left hpos this
          rw [hq2, show 64 - 7 * k = 7 + (57 - 7 * k) by omega, Nat.pow_add]; omega
        have i6 : (c - 128).toNat + 128 * v' < q := by omega
        have : ((c - 128).toNat + 128 * v') * 128 ^ k < q * 128 ^ k := Nat.mul_lt_mul_of_pos_right i6 hpos
        rw [e1] at this
        rw [hq, Nat.mul_comm (128 ^ k) q]; exact this

/-- What Read returns, as values. -/
def rdV (r : Option (Int × Nat)) : Value := match r with | some (n, m) => .tuple #[.int .i64 n, .int .i64 m, .bool true] | none => .tuple #[.int .i64 0, .int .i64 0, .bool false]

theorem drop_nth {xs : List Int} {i : Nat} (h : i < xs.length) : xs.drop i = nth xs i :: xs.drop (i + 1) := by
  rw [List.drop_eq_getElem_cons h]
  simp [nth, List.getD_eq_getElem?_getD, h]

theorem pow128 (k : Nat) (hk : k ≤ 8) : 128 ^ k ≤ 72057594037927936 := by
  have : 128 ^ k ≤ 128 ^ 8 := Nat.pow_le_pow_right (by omega) hk
  omega

/-- What one byte makes of the number that has been read so far. -/
theorem vfacts {k U S : Nat} {c : Int} (hS : k < 10 → S = 128 ^ k) (hk : k < 10) (hU : U < S) (hc : 0 ≤ c ∧ c ≤ 255) (h9 : 9 ≤ k → c ≤ 1) :
    ∃ V : Nat, IntKind.u64.wrap ((U : Int) + IntKind.u64.wrap (c % 128 * (S : Int))) = (V : Int) ∧ V < 18446744073709551616 ∧ V = U + S * (c % 128).toNat ∧ V < S * 128 := by
  have hS' := hS hk
  obtain ⟨d, hd⟩ : ∃ d : Nat, c % 128 = (d : Int) := ⟨(c % 128).toNat, by omega⟩
  have hd2 : d ≤ 127 := by omega
  have hm : S * d ≤ S * 127 := Nat.mul_le_mul_left _ hd2
  have hlt : U + S * d < 18446744073709551616 := by
    rcases Nat.lt_or_ge k 9 with h | h
    · have := pow128 k (by omega); rw [← hS'] at this; omega
    · obtain rfl : k = 9 := by omega
      have : d ≤ 1 := by have := h9 (by omega); omega
      have h2 : S * d ≤ S * 1 := Nat.mul_le_mul_left _ this
      have h3 : S = 9223372036854775808 := by rw [hS']
      omega
  have e1 : (d : Int) * (S : Int) = ((S * d : Nat) : Int) := by rw [Int.natCast_mul, Int.mul_comm]
  refine ⟨U + S * d, ?_, hlt, by simp [hd], by omega⟩
  rw [hd, e1, IntWalk.u64_in ((S * d : Nat) : Int) ⟨by omega, by omega⟩, IntWalk.u64_in _ ⟨by omega, by omega⟩]
  omega

theorem rd_end {xs : List Int} {at_ k U S V : Nat} {c : Int} {t : List Int} (hR : rdL 0 (xs.drop at_) = (rdL k (xs.drop (at_ + k))).map fun (v, m) => (U + S * v, m + k)) (hd : xs.drop (at_ + k) = c :: t)
    (hc : 0 ≤ c ∧ c < 128) (hg : ¬ (10 ≤ k ∨ (k = 9 ∧ 1 < c) ∨ (0 < k ∧ c = 0))) (hV : V = U + S * (c % 128).toNat) : rdAt xs at_ = some (unnum V, at_ + k + 1) := by
  unfold rdAt
  rw [hR, hd]
  unfold rdL
  rw [if_neg hg, if_pos hc.2]
  rw [show c % 128 = c by omega] at hV
  simp [hV]
  omega

theorem rd_bad {xs : List Int} {at_ k U S : Nat} {c : Int} {t : List Int} (hR : rdL 0 (xs.drop at_) = (rdL k (xs.drop (at_ + k))).map fun (v, m) => (U + S * v, m + k)) (hd : xs.drop (at_ + k) = c :: t)
    (hg : (10 ≤ k ∨ (k = 9 ∧ 1 < c) ∨ (0 < k ∧ c = 0))) : rdAt xs at_ = none := by
  unfold rdAt
  rw [hR, hd]
  unfold rdL
  rw [if_pos hg]
  rfl

theorem rd_out {xs : List Int} {at_ k U S : Nat} (hR : rdL 0 (xs.drop at_) = (rdL k (xs.drop (at_ + k))).map fun (v, m) => (U + S * v, m + k)) (hd : xs.length ≤ at_ + k) : rdAt xs at_ = none := by
  unfold rdAt
  rw [hR, List.drop_eq_nil_of_le hd]
  rfl

theorem rd_next {xs : List Int} {at_ k U S V : Nat} {c : Int} {t : List Int} (hR : rdL 0 (xs.drop at_) = (rdL k (xs.drop (at_ + k))).map fun (v, m) => (U + S * v, m + k)) (hd : xs.drop (at_ + k) = c :: t) (ht : xs.drop (at_ + (k + 1)) = t)
    (hc : 128 ≤ c ∧ c ≤ 255) (hg : ¬ (10 ≤ k ∨ (k = 9 ∧ 1 < c) ∨ (0 < k ∧ c = 0))) (hV : V = U + S * (c % 128).toNat) :
    rdL 0 (xs.drop at_) = (rdL (k + 1) (xs.drop (at_ + (k + 1)))).map fun (v, m) => (V + (S * 128) * v, m + (k + 1)) := by
  rw [hR, hd, ht]
  conv => lhs; unfold rdL
  rw [if_neg hg, if_neg (by omega)]
  rw [show c % 128 = c - 128 by omega] at hV
  rw [Option.map_map]
  congr 1
  funext ⟨v, m⟩
  simp only [Function.comp, Prod.mk.injEq, hV]
  refine ⟨?_, by omega⟩
  rw [Nat.mul_add, Nat.mul_assoc]; omega

theorem unnum_odd {V : Nat} (h : (V : Int) % 2 = 1) : unnum V = -1 - (V : Int) / 2 := by unfold unnum; rw [if_pos (by omega)]; omega
theorem unnum_even {V : Nat} (h : ¬ (V : Int) % 2 = 1) : unnum V = (V : Int) / 2 := by unfold unnum; rw [if_neg (by omega)]; omega

theorem rdV_some (n : Int) (m : Nat) : rdV (some (n, m)) = .tuple #[.int .i64 n, .int .i64 m, .bool true] := rfl
theorem ret3 {a b c d : Int} {t : Bool} (h1 : a = b) (h2 : c = d) : Ending.returned (.tuple #[.int .i64 a, .int .i64 c, .bool t]) = .returned (.tuple #[.int .i64 b, .int .i64 d, .bool t]) := by rw [h1, h2]

set_option maxHeartbeats 400000 in
theorem rread_any (a1 : Option Addr) (n1 c1 : Nat) (xs : List Int) (at_ : Nat) (w : World) (h1 : Sl .u8 w a1 n1 c1 xs) (hat : at_ ≤ 1000000000) :
    Calls Try.prog 45 #[.slice a1 n1 c1, .int .i64 at_] w fun e w' => e = .returned (rdV (rdAt xs at_)) ∧ w = w' := by
  have b1 := h1.bd
  have e1 := Lib.hid h1.hlen
  go_enter Try.func45, Try.ntmps45
  go_wp2
  go_loop [7, 8, 9] (fun u s i => ∃ k U S : Nat, k < 10 ∧ i = .int .i64 k ∧ u = .int .u64 U ∧ s = .int .u64 S ∧ (k < 10 → S = 128 ^ k) ∧ U < S ∧ (k < 9 → S ≤ 72057594037927936) ∧
    rdL 0 (xs.drop at_) = (rdL k (xs.drop (at_ + k))).map fun (v, m) => (U + S * v, m + k)) (fun _ _ i => 10 - (intOf i).toNat)
  case atStart => exact ⟨0, 0, 1, by omega, rfl, rfl, rfl, fun _ => rfl, by omega, fun _ => by omega, by simp⟩
  case round =>
    obtain ⟨k, U, S, hk, rfl, rfl, rfl, hSk, hUS, hS8, hrd⟩ := hrel
    have HS := Lib.hid hSk
    have HR := Lib.hid hrd
    clear hSk hrd
    have hlt : k < 10 := hk
    · by_cases hlt2 : at_ + k < n1
      · obtain ⟨x1, o1, rfl, hc1⟩ := h1.at (by omega)
        have g1 := hc1 (at_ + k) hlt2
        have w1 := wf_u8 (h1.wfAt hlt2)
        clear hc1
        have hdr := Lib.hid (drop_nth (xs := xs) (i := at_ + k) (by rw [e1.out]; exact hlt2))
        generalize nth xs (at_ + k) = c at *
        have bF9 : k < 9 → ((k : Int) == 9) = false := by intro h; simp; omega
        have bT9 : 9 ≤ k → ((k : Int) == 9) = true := by intro h; simp; omega
        have bF0 : 0 < c → (c == 0) = false := by intro h; simp; omega
        have bT0 : c ≤ 0 → (c == 0) = true := by intro h; simp; omega
        rcases Nat.lt_or_ge k 9 with hk9 | hk9
        · replace bF9 := bF9 hk9; clear bT9
          replace hS8 := hS8 hk9
          obtain ⟨V, hV, hVb, hV2, hV3⟩ := vfacts HS.out hlt hUS w1 (fun h => absurd h (by omega))
          have HV := Lib.hid hV2
          clear hV2
          rcases Nat.eq_zero_or_pos k with hk0 | hk0
          · replace hk0 : k ≤ 0 := by omega
            clear bF0 bT0
            by_cases hsm : c < 128
            · have hend := Lib.hid (rd_end HR.out hdr.out ⟨w1.1, hsm⟩ (by omega) HV.out)
              by_cases hodd : (V : Int) % 2 = 1
              · go_wp2
                go_ret3
                exact ⟨by rw [hend.out, rdV_some, unnum_odd hodd]; exact ret3 rfl (by simp), rfl⟩
              · have hodd' : (V : Int) % 2 = 0 := by omega
                go_wp2
                go_ret3
                exact ⟨by rw [hend.out, rdV_some, unnum_even hodd]; exact ret3 rfl (by simp), rfl⟩
            · have hnx := Lib.hid (rd_next HR.out hdr.out rfl ⟨by omega, w1.2⟩ (by omega) HV.out)
              go_wp2
              go_round
              case rel => exact ⟨k + 1, V, S * 128, by omega, by go_num, rfl, by simp, fun _ => by rw [HS.out hlt, Nat.pow_succ], hV3, fun h => by have := pow128 (k + 1) (by omega); rw [Nat.pow_succ, ← HS.out hlt] at this; exact this, hnx.out⟩
              case measure => simp [intOf]; omega
          · rcases Int.lt_or_le 0 c with hc0 | hc0
            · replace bF0 := bF0 hc0; clear bT0
              by_cases hsm : c < 128
              · have hend := Lib.hid (rd_end HR.out hdr.out ⟨w1.1, hsm⟩ (by omega) HV.out)
                by_cases hodd : (V : Int) % 2 = 1
                · go_wp2
                  go_ret3
                  exact ⟨by rw [hend.out, rdV_some, unnum_odd hodd]; exact ret3 rfl (by simp), rfl⟩
                · have hodd' : (V : Int) % 2 = 0 := by omega
                  go_wp2
                  go_ret3
                  exact ⟨by rw [hend.out, rdV_some, unnum_even hodd]; exact ret3 rfl (by simp), rfl⟩
              · have hnx := Lib.hid (rd_next HR.out hdr.out rfl ⟨by omega, w1.2⟩ (by omega) HV.out)
                go_wp2
                go_round
                case rel => exact ⟨k + 1, V, S * 128, by omega, by go_num, rfl, by simp, fun _ => by rw [HS.out hlt, Nat.pow_succ], hV3, fun h => by have := pow128 (k + 1) (by omega); rw [Nat.pow_succ, ← HS.out hlt] at this; exact this, hnx.out⟩
                case measure => simp [intOf]; omega
            · replace bT0 := bT0 hc0; clear bF0
              go_wp2
              go_ret3
              exact ⟨by rw [rd_bad HR.out hdr.out (by omega)]; rfl, rfl⟩
        · replace bT9 := bT9 hk9; clear bF9 hS8
          rcases Int.lt_or_le 1 c with hc1 | hc1
          · clear bF0 bT0
            go_wp2
            go_ret3
            exact ⟨by rw [rd_bad HR.out hdr.out (by omega)]; rfl, rfl⟩
          · obtain ⟨V, hV, hVb, hV2, hV3⟩ := vfacts HS.out hlt hUS w1 (fun _ => hc1)
            have HV := Lib.hid hV2
            clear hV2
            rcases Int.lt_or_le 0 c with hc0 | hc0
            · replace bF0 := bF0 hc0; clear bT0
              have hend := Lib.hid (rd_end HR.out hdr.out ⟨w1.1, by omega⟩ (by omega) HV.out)
              by_cases hodd : (V : Int) % 2 = 1
              · go_wp2
                go_ret3
                exact ⟨by rw [hend.out, rdV_some, unnum_odd hodd]; exact ret3 rfl (by simp), rfl⟩
              · have hodd' : (V : Int) % 2 = 0 := by omega
                go_wp2
                go_ret3
                exact ⟨by rw [hend.out, rdV_some, unnum_even hodd]; exact ret3 rfl (by simp), rfl⟩
            · replace bT0 := bT0 hc0; clear bF0
              go_wp2
              go_ret3
              exact ⟨by rw [rd_bad HR.out hdr.out (by omega)]; rfl, rfl⟩
      · go_wp2
        go_ret3
        exact ⟨by rw [rd_out HR.out (by rw [e1.out]; omega)]; rfl, rfl⟩

end Go.Proofs.Ytcpojkodidflcaa
