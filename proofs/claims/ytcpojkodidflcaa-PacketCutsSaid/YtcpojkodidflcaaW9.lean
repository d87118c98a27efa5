
import Derived.Test.YtcpojkodidflcaaW8
import Derived.StillTailTactics
namespace Go.Proofs.Ytcpojkodidflcaa
open Go.RowKit Go.Sort Go.Shelf
set_option linter.unusedSimpArgs false
set_option linter.unusedVariables false
set_option maxRecDepth 100000

/-- The panic that a reader's need ends in. -/
def formPanic : List PanicEntry := [{ v := .iface 33 (.int .i64 7), recovered := false }]

set_option maxHeartbeats 400000 in
theorem need_yes (w : World) : Calls Try.prog 51 #[.bool true] w fun e w' => e = .returned (.tuple #[]) ∧ w = w' := by
  go_enter Try.func51, Try.ntmps51
  go_wp2
  go_end0
  exact ⟨rfl, rfl⟩

set_option maxHeartbeats 400000 in
theorem need_no (w : World) : Calls Try.prog 51 #[.bool false] w fun e w' => e = .panicked formPanic ∧ w = w' := by
  go_enter Try.func51, Try.ntmps51
  go_wp2
  exact ⟨rfl, rfl, rfl⟩

/-- The reader in block R: its bytes and its place. -/
def Rdr (w : World) (R : Nat) (a : Option Addr) (n c at_ : Nat) : Prop := w.heap[R]? = some (.cells #[.slice a n c, .int .i64 at_] 90 (0, 0))

theorem Rdr.c0 {w : World} {R : Nat} {a : Option Addr} {n c at_ : Nat} (h : Rdr w R a n c at_) : w.cell? ⟨R, 0, none⟩ = some (.slice a n c) := by
  rw [cell_of_row w R 0 _ _ _ h]; rfl
theorem Rdr.c1 {w : World} {R : Nat} {a : Option Addr} {n c at_ : Nat} (h : Rdr w R a n c at_) : w.cell? ⟨R, 1, none⟩ = some (.int .i64 at_) := by
  rw [cell_of_row w R 1 _ _ _ h]; rfl
theorem Rdr.f {w : World} {R : Nat} {a : Option Addr} {n c at_ : Nat} (h : Rdr w R a n c at_) (j : Nat) : w.frozen? ⟨R, j, none⟩ = false := frozen_of_row w R j _ _ h
theorem Rdr.set {w : World} {R : Nat} {a : Option Addr} {n c at_ : Nat} (h : Rdr w R a n c at_) (m : Nat) : Rdr (w.setCell ⟨R, 1, none⟩ (.int .i64 m)) R a n c m := by
  have := heap_setCell_same w R 1 _ _ (.int .i64 m) h
  exact this
theorem Rdr.ext {w w' : World} {R : Nat} {a : Option Addr} {n c at_ : Nat} (h : Rdr w R a n c at_) (he : Ext w w') : Rdr w' R a n c at_ :=
  (he.block R (Array.getElem?_eq_some_iff.1 h).1).trans h

theorem grown_ext {w wr w' : World} {row : Option Nat} (hg : w.grownBy wr row) (he : Ext wr w') : w.grownBy w' row :=
  ⟨he.os.trans hg.os, he.tape.trans hg.tape, he.output.trans hg.output, Nat.le_trans hg.size he.size, fun k hk hne => (he.block k (Nat.lt_of_lt_of_le hk hg.size)).trans (hg.block k hk hne)⟩
theorem grown_set {w w' : World} {R : Nat} (hg : w.grownBy w' (some R)) (j : Nat) (v : Value) : w.grownBy (w'.setCell ⟨R, j, none⟩ v) (some R) :=
  ⟨hg.os, hg.tape, hg.output, by simpa [World.setCell] using hg.size, fun k hk hne => (Below.heap_setCell _ _ _ k (fun e => hne (by rw [e]))).trans (hg.block k hk hne)⟩

theorem and127 {c : Int} (h : 0 ≤ c ∧ c ≤ 255) : bits .and .u8 c 127 = c % 128 := by
  obtain ⟨n, rfl⟩ : ∃ n : Nat, c = (n : Int) := ⟨c.toNat, by omega⟩
  have : n < 256 := by omega
  have key : ∀ n, n < 256 → bits .and .u8 ((n : Nat) : Int) 127 = ((n : Nat) : Int) % 128 := by decide
  exact key n this

theorem vfacts2 {k U S : Nat} {c : Int} (hS : k < 10 → S = 128 ^ k) (hk : k < 10) (hU : U < S) (hc : 0 ≤ c ∧ c ≤ 255) (h9 : 9 ≤ k → c ≤ 1) :
    ∃ V : Nat, bits .or .u64 (U : Int) (IntKind.u64.wrap (IntKind.u64.wrap (bits .and .u8 c 127) * 2 ^ (7 * k))) = (V : Int) ∧ V < 18446744073709551616 ∧ V = U + S * (c % 128).toNat ∧ V < S * 128 := by
  obtain ⟨V, _, hVb, hV, hV3⟩ := vfacts hS hk hU hc h9
  refine ⟨V, ?_, hVb, hV, hV3⟩
  have hS' := hS hk
  have e2 : S = 2 ^ (7 * k) := by rw [hS', show (128 : Nat) = 2 ^ 7 by rfl, ← Nat.pow_mul]
  rw [and127 hc]
  obtain ⟨d, hd⟩ : ∃ d : Nat, c % 128 = (d : Int) := ⟨(c % 128).toNat, by omega⟩
  rw [hd] at hV ⊢
  simp only [Int.toNat_natCast] at hV
  rw [IntWalk.u64_in (d : Int) ⟨by omega, by omega⟩]
  have e1 : (d : Int) * 2 ^ (7 * k) = ((S * d : Nat) : Int) := by rw [e2, Int.natCast_mul, Int.mul_comm]; simp
  rw [e1, IntWalk.u64_in _ ⟨by omega, by omega⟩, u64_or_nat _ _ (by omega) (by omega)]
  have := Nat.two_pow_add_eq_or_of_lt (i := 7 * k) (b := U) (by rw [← e2]; exact hU) d
  rw [← e2] at this
  rw [Nat.or_comm, ← this, hV]
  omega

theorem unnum_bits {V : Nat} (h : V < 18446744073709551616) : bits .xor .i64 ((V : Int) / 2) (-((V : Int) % 2)) = unnum V := by
  have e0 : (V : Int) / 2 = ((V / 2 : Nat) : Int) := by omega
  have h2 : (BitVec.ofInt 64 ((V / 2 : Nat) : Int)).toNat = V / 2 := by
    rw [BitVec.ofInt_natCast, BitVec.toNat_ofNat]; exact Nat.mod_eq_of_lt (by omega)
  by_cases hodd : (V : Int) % 2 = 1
  · rw [unnum_odd hodd, hodd, e0]
    show IntKind.i64.wrap ((BitVec.ofInt 64 ((V / 2 : Nat) : Int) ^^^ BitVec.ofInt 64 (-1)).toNat : Int) = _
    have h1 : (BitVec.ofInt 64 (-1)).toNat = 2 ^ 64 - 1 := by decide
    rw [BitVec.toNat_xor, h1, h2, Nat.xor_comm, Lib.xor_ones64 _ (by omega), IntKind.wrap_i64]
    omega
  · have h0 : (V : Int) % 2 = 0 := by omega
    rw [unnum_even hodd, h0, e0]
    show IntKind.i64.wrap ((BitVec.ofInt 64 ((V / 2 : Nat) : Int) ^^^ BitVec.ofInt 64 (-0)).toNat : Int) = _
    have h1 : (BitVec.ofInt 64 (-0)).toNat = 0 := by decide
    rw [BitVec.toNat_xor, h1, h2, Nat.xor_zero, IntKind.wrap_i64]
    omega

theorem rdr_apart {w : World} {R : Nat} {a : Option Addr} {n c at_ : Nat} (h : Rdr w R a n c at_) {x j : Nat} {v : Int} (hc : w.cell? ⟨x, j, none⟩ = some (.int .u8 v)) : x ≠ R := by
  rintro rfl
  rw [cell_of_row w x j _ _ _ h] at hc
  rcases j with _ | _ | j <;> simp at hc

set_option maxHeartbeats 1000000 in
theorem int_any (R : Nat) (a1 : Option Addr) (n1 c1 at_ : Nat) (xs : List Int) (w : World) (h1 : Sl .u8 w a1 n1 c1 xs) (hr : Rdr w R a1 n1 c1 at_) (hat : at_ ≤ n1) (hn1 : n1 ≤ 1000000000) :
    Calls Try.prog 50 #[.pointer (some ⟨R, 0, none⟩)] w fun e w' => 
      (∀ n next, rdAt xs at_ = some (n, next) → e = .returned (.int .i64 n) ∧ Rdr w' R a1 n1 c1 next) ∧ (rdAt xs at_ = none → e = .panicked formPanic) ∧ w.grownBy w' (some R) := by
  have b1 := h1.bd
  have e1 := Lib.hid h1.hlen
  go_enter Try.func50, Try.ntmps50
  go_wp2
  go_loopw [3, 4] (fun u i wr => ∃ k U S : Nat, k < 10 ∧ i = .int .i64 k ∧ u = .int .u64 U ∧ (k < 10 → S = 128 ^ k) ∧ U < S ∧ (k < 9 → S ≤ 72057594037927936) ∧
    rdL 0 (xs.drop at_) = (rdL k (xs.drop (at_ + k))).map (fun (v, m) => (U + S * v, m + k)) ∧ at_ + k ≤ n1 ∧ Rdr wr R a1 n1 c1 (at_ + k) ∧ w.grownBy wr (some R)) (fun _ i _ => 10 - (intOf i).toNat)
  case atStart => exact ⟨0, 0, 1, by omega, rfl, rfl, fun _ => rfl, by omega, fun _ => by omega, by simp, hat, hr, World.grownBy.refl _ _⟩
  case round =>
    obtain ⟨k, U, S, hk, rfl, rfl, hSk, hUS, hS8, hrd, hak, hR, hG⟩ := hrel
    have HS := Lib.hid hSk
    have HR := Lib.hid hrd
    have HRR := Lib.hid hR
    clear hSk hrd
    have r0 := hR.c0
    have r1 := hR.c1
    have rf := hR.f 1
    have hk10 : decide ((k : Int) < 10) = true := by simp; omega
    by_cases hlt2 : at_ + k < n1
    · have hd : decide ((at_ : Int) + k < n1) = true := by simp; omega
      obtain ⟨x1, o1, rfl, hc1⟩ := h1.at (by omega)
      have w1 := wf_u8 (h1.wfAt hlt2)
      have g1 : wr.cell? ⟨x1, o1 + (at_ + k), none⟩ = some (.int .u8 (nth xs (at_ + k))) :=
        hG.cell (hc1 (at_ + k) hlt2) (fun e => rdr_apart hr (hc1 (at_ + k) hlt2) (by simpa using e))
      clear hc1
      have hdr := Lib.hid (drop_nth (xs := xs) (i := at_ + k) (by rw [e1.out]; exact hlt2))
      generalize nth xs (at_ + k) = c at *
      have r0' := cellG r0
      have r1' := cellG r1
      go_wp2
      refine region_ext (by kernel_rfl) (by kernel_rfl) ?_
      repeat (go_big_quiet_step ((go_at_call 51; exact Calls.regrown_of ((need_yes _).mono fun e w' ⟨h, h2⟩ => ⟨h, by subst h2; exact Ext.refl _⟩))))
      refine wpQuiet_nil ?_
      intro w2 hE2
      replace r0 := hE2.cell r0
      replace r1 := hE2.cell r1
      replace g1 := hE2.cell g1
      have r0' := cellG r0
      have r1' := cellG r1
      have g1' := cellG g1
      go_wp2
      refine region_ext (by kernel_rfl) (by kernel_rfl) ?_
      repeat (go_big_quiet_step (fail))
      refine wpQuiet_nil ?_
      intro w3 hE3
      have HR3 := (HRR.out.ext hE2).ext hE3
      replace r0 := HR3.c0
      replace r1 := HR3.c1
      replace rf := HR3.f 1
      clear r0' r1' g1' g1 hR hr h1
      have bF9 : k < 9 → decide ((k : Int) < 9) = true := by intro h; simp; omega
      have bT9 : 9 ≤ k → decide ((k : Int) < 9) = false := by intro h; simp; omega
      have bF0 : 0 < k → ((k : Int) == 0) = false := by intro h; simp; omega
      have bT0 : k ≤ 0 → ((k : Int) == 0) = true := by intro h; simp; omega
      rcases Nat.lt_or_ge k 9 with hk9 | hk9
      · replace bF9 := bF9 hk9; clear bT9
        replace hS8 := hS8 hk9
        obtain ⟨V, hV, hVb, hV2, hV3⟩ := vfacts2 HS.out hk hUS w1 (fun h => absurd h (by omega))
        have hand := Lib.u64_and1 (V : Int) (by omega) (by omega)
        have HV := Lib.hid hV2
        clear hV2
        rcases Nat.eq_zero_or_pos k with hk0 | hk0
        · replace hk0 : k ≤ 0 := by omega
          replace bT0 := bT0 hk0; clear bF0
          by_cases hsm : c < 128
          · have hend := Lib.hid (rd_end HR.out hdr.out ⟨w1.1, hsm⟩ (by omega) HV.out)
            go_wp2_with (go_at_call 51; refine (need_yes _).mono ?_; rintro e w' ⟨rfl, rfl⟩)
            go_ret
            refine ⟨fun n next hnn => ?_, fun hnn => absurd (hnn.symm.trans hend.out) (by simp), grown_set (grown_ext (grown_ext hG hE2) hE3) _ _⟩
            obtain ⟨rfl, rfl⟩ : unnum V = n ∧ at_ + k + 1 = next := by have := hend.out.symm.trans hnn; simpa using this
            exact ⟨ret_int (unnum_bits hVb), HR3.set (at_ + k + 1)⟩
          · have hnx := Lib.hid (rd_next HR.out hdr.out rfl ⟨by omega, w1.2⟩ (by omega) HV.out)
            go_wp2_with (go_at_call 51; refine (need_yes _).mono ?_; rintro e w' ⟨rfl, rfl⟩)
            go_roundw
            case rel => exact ⟨k + 1, V, S * 128, by omega, by go_num, rfl, fun _ => by rw [HS.out hk, Nat.pow_succ], hV3, fun h => by have := pow128 (k + 1) (by omega); rw [Nat.pow_succ, ← HS.out hk] at this; exact this, hnx.out, by omega, HR3.set (at_ + (k + 1)), grown_set (grown_ext (grown_ext hG hE2) hE3) _ _⟩
            case measure => simp [intOf]; omega
        · replace bF0 := bF0 hk0; clear bT0
          rcases Int.lt_or_le 0 c with hc0 | hc0
          · by_cases hsm : c < 128
            · have hend := Lib.hid (rd_end HR.out hdr.out ⟨w1.1, hsm⟩ (by omega) HV.out)
              go_wp2_with (go_at_call 51; refine (need_yes _).mono ?_; rintro e w' ⟨rfl, rfl⟩)
              go_ret
              refine ⟨fun n next hnn => ?_, fun hnn => absurd (hnn.symm.trans hend.out) (by simp), grown_set (grown_ext (grown_ext hG hE2) hE3) _ _⟩
              obtain ⟨rfl, rfl⟩ : unnum V = n ∧ at_ + k + 1 = next := by have := hend.out.symm.trans hnn; simpa using this
              exact ⟨ret_int (unnum_bits hVb), HR3.set (at_ + k + 1)⟩
            · have hnx := Lib.hid (rd_next HR.out hdr.out rfl ⟨by omega, w1.2⟩ (by omega) HV.out)
              go_wp2_with (go_at_call 51; refine (need_yes _).mono ?_; rintro e w' ⟨rfl, rfl⟩)
              go_roundw
              case rel => exact ⟨k + 1, V, S * 128, by omega, by go_num, rfl, fun _ => by rw [HS.out hk, Nat.pow_succ], hV3, fun h => by have := pow128 (k + 1) (by omega); rw [Nat.pow_succ, ← HS.out hk] at this; exact this, hnx.out, by omega, HR3.set (at_ + (k + 1)), grown_set (grown_ext (grown_ext hG hE2) hE3) _ _⟩
              case measure => simp [intOf]; omega
          · have hc3 : decide (0 < c) = false := by simp; omega
            go_wp2_with (go_at_call 51; refine (need_no _).mono ?_; rintro e w' ⟨rfl, rfl⟩)
            exact ⟨rfl, fun n next hnn => absurd (hnn.symm.trans (rd_bad HR.out hdr.out (by omega))) (by simp), fun _ => rfl, grown_ext (grown_ext hG hE2) hE3⟩
      · replace bT9 := bT9 hk9; clear bF9 hS8
        replace bF0 := bF0 (by omega); clear bT0
        rcases Int.lt_or_le 1 c with hc1 | hc1
        · have hc2 : decide (c < 2) = false := by simp; omega
          go_wp2_with (go_at_call 51; refine (need_no _).mono ?_; rintro e w' ⟨rfl, rfl⟩)
          exact ⟨rfl, fun n next hnn => absurd (hnn.symm.trans (rd_bad HR.out hdr.out (by omega))) (by simp), fun _ => rfl, grown_ext (grown_ext hG hE2) hE3⟩
        · have hc2 : decide (c < 2) = true := by simp; omega
          obtain ⟨V, hV, hVb, hV2, hV3⟩ := vfacts2 HS.out hk hUS w1 (fun _ => hc1)
          have hand := Lib.u64_and1 (V : Int) (by omega) (by omega)
          have HV := Lib.hid hV2
          clear hV2
          rcases Int.lt_or_le 0 c with hc0 | hc0
          · have hend := Lib.hid (rd_end HR.out hdr.out ⟨w1.1, by omega⟩ (by omega) HV.out)
            go_wp2_with (go_at_call 51; refine (need_yes _).mono ?_; rintro e w' ⟨rfl, rfl⟩)
            go_ret
            refine ⟨fun n next hnn => ?_, fun hnn => absurd (hnn.symm.trans hend.out) (by simp), grown_set (grown_ext (grown_ext hG hE2) hE3) _ _⟩
            obtain ⟨rfl, rfl⟩ : unnum V = n ∧ at_ + k + 1 = next := by have := hend.out.symm.trans hnn; simpa using this
            exact ⟨ret_int (unnum_bits hVb), HR3.set (at_ + k + 1)⟩
          · have hc3 : decide (0 < c) = false := by simp; omega
            go_wp2_with (go_at_call 51; refine (need_no _).mono ?_; rintro e w' ⟨rfl, rfl⟩)
            exact ⟨rfl, fun n next hnn => absurd (hnn.symm.trans (rd_bad HR.out hdr.out (by omega))) (by simp), fun _ => rfl, grown_ext (grown_ext hG hE2) hE3⟩
    · have hd : decide ((at_ : Int) + k < n1) = false := by simp; omega
      go_wp2
      go_still_tail 14, (by kernel_rfl)
      change wpList _ _ _ _ _ wr.drew
      go_wp2_with (go_at_call 51; refine (need_no _).mono ?_; rintro e w' ⟨rfl, rfl⟩)
      exact ⟨rfl, fun n next hnn => absurd (hnn.symm.trans (rd_out HR.out (by rw [e1.out]; omega))) (by simp), fun _ => rfl, grown_ext hG ((Ext.refl _).drew)⟩

end Go.Proofs.Ytcpojkodidflcaa
