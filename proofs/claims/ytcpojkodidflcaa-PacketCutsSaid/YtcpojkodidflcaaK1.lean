/-
  The packets: what is within, valid requests, halves of nonces, packets of integers.
-/
import Derived.Test.YtcpojkodidflcaaW11
import Derived.Test.YtcpojkodidflcaaPl
import Derived.Test.YtcpojkodidflcaaLib8
namespace Go.Proofs.Ytcpojkodidflcaa
open Go.RowKit Go.Sort Go.Shelf
set_option linter.unusedSimpArgs false
set_option linter.unusedVariables false
set_option maxRecDepth 100000

/-- n is from lo to hi. -/
def inB (n lo hi : Int) : Bool := decide (lo ≤ n ∧ n ≤ hi)
theorem inB_iff {n lo hi : Int} : inB n lo hi = true ↔ lo ≤ n ∧ n ≤ hi := by unfold inB; exact decide_eq_true_iff

theorem within_any (n lo hi : Int) (w : World) : Calls Try.prog 38 #[.int .i64 n, .int .i64 lo, .int .i64 hi] w fun e w' => e = .returned (.bool (inB n lo hi)) ∧ w = w' := by
  by_cases h1 : lo ≤ n
  · by_cases h2 : n ≤ hi
    · have e : inB n lo hi = true := inB_iff.2 ⟨h1, h2⟩
      rw [e]; clear e
      go_enter Try.func38, Try.ntmps38
      go_wp2
      go_ret
      exact ⟨rfl, rfl⟩
    · have e : inB n lo hi = false := by unfold inB; simp; omega
      rw [e]; clear e
      go_enter Try.func38, Try.ntmps38
      go_wp2
      go_ret
      exact ⟨ret_bool (by simp), rfl⟩
  · have e : inB n lo hi = false := by unfold inB; simp; omega
    rw [e]; clear e
    go_enter Try.func38, Try.ntmps38
    go_wp2
    go_ret
    exact ⟨ret_bool (by simp), rfl⟩

theorem in_any (n lo hi : Int) (w : World) : Calls Try.prog 36 #[.int .i64 n, .int .i64 lo, .int .i64 hi] w fun e w' => e = .returned (.bool (inB n lo hi)) ∧ w = w' := by
  by_cases h1 : lo ≤ n
  · by_cases h2 : n ≤ hi
    · have e : inB n lo hi = true := inB_iff.2 ⟨h1, h2⟩
      rw [e]; clear e
      go_enter Try.func36, Try.ntmps36
      go_wp2
      go_ret
      exact ⟨rfl, rfl⟩
    · have e : inB n lo hi = false := by unfold inB; simp; omega
      rw [e]; clear e
      go_enter Try.func36, Try.ntmps36
      go_wp2
      go_ret
      exact ⟨ret_bool (by simp), rfl⟩
  · have e : inB n lo hi = false := by unfold inB; simp; omega
    rw [e]; clear e
    go_enter Try.func36, Try.ntmps36
    go_wp2
    go_ret
    exact ⟨ret_bool (by simp), rfl⟩

/-- A valid request. -/
def reqB (h a r : Int) : Bool := inB h 1 64 && (inB a 1 16 && inB r 1 200)

theorem request_any (h a r n : Int) (w : World) : Calls Try.prog 22 #[.agg #[.int .i64 h, .int .i64 a, .int .i64 r, .int .u64 n]] w fun e w' => e = .returned (.bool (reqB h a r)) ∧ Ext w w' := by
  unfold reqB
  rcases h1 : inB h 1 64 with _ | _
  · have H1 := Lib.hid h1
    clear h1
    go_enter Try.func22, Try.ntmps22
    go_wp2_with fail
    refine (within_any _ _ _ _).mono ?_
    rintro e w' ⟨rfl, rfl⟩
    rw [H1.out]
    go_wp2
    go_ret
    exact ⟨rfl, (Ext.refl w).alloc _⟩
  · rcases h2 : inB a 1 16 with _ | _
    · have H1 := Lib.hid h1
      have H2 := Lib.hid h2
      clear h1 h2
      go_enter Try.func22, Try.ntmps22
      go_wp2_with fail
      refine (within_any _ _ _ _).mono ?_
      rintro e w' ⟨rfl, rfl⟩
      rw [H1.out]
      go_wp2_with fail
      refine (within_any _ _ _ _).mono ?_
      rintro e w' ⟨rfl, rfl⟩
      rw [H2.out]
      go_wp2
      go_ret
      exact ⟨rfl, (Ext.refl w).alloc _⟩
    · have H1 := Lib.hid h1
      have H2 := Lib.hid h2
      clear h1 h2
      go_enter Try.func22, Try.ntmps22
      go_wp2_with fail
      refine (within_any _ _ _ _).mono ?_
      rintro e w' ⟨rfl, rfl⟩
      rw [H1.out]
      go_wp2_with fail
      refine (within_any _ _ _ _).mono ?_
      rintro e w' ⟨rfl, rfl⟩
      rw [H2.out]
      go_wp2_with fail
      refine (within_any _ _ _ _).mono ?_
      rintro e w' ⟨rfl, rfl⟩
      go_wp2
      go_ret
      exact ⟨rfl, (Ext.refl w).alloc _⟩

theorem and32 {n : Int} (h : 0 ≤ n ∧ n ≤ 18446744073709551615) : bits .and .u64 n 4294967295 = n % 4294967296 := by
  obtain ⟨m, rfl⟩ : ∃ m : Nat, n = (m : Int) := ⟨n.toNat, by omega⟩
  show IntKind.u64.wrap ((BitVec.ofInt 64 (m : Int) &&& BitVec.ofInt 64 4294967295).toNat : Int) = _
  rw [BitVec.toNat_and, BitVec.ofInt_natCast, show BitVec.ofInt 64 4294967295 = BitVec.ofNat 64 4294967295 from rfl, BitVec.toNat_ofNat, BitVec.toNat_ofNat, Nat.mod_eq_of_lt (by omega), Nat.mod_eq_of_lt (by omega)]
  have : m &&& 4294967295 = m % 4294967296 := Nat.and_two_pow_sub_one_eq_mod m 32
  rw [this, IntKind.wrap_u64]
  omega

theorem halves_any (n : Int) (w : World) (hn : 0 ≤ n ∧ n ≤ 18446744073709551615) : Calls Try.prog 23 #[.int .u64 n] w fun e w' => e = .returned (.agg #[.int .i64 (n / 4294967296), .int .i64 (n % 4294967296)]) ∧ Ext w w' := by
  have ha := and32 hn
  go_enter Try.func23, Try.ntmps23
  go_wp2
  go_returns
  exact ⟨by simp, (Ext.refl w).alloc _⟩

/-- The bytes of a packet. -/
def pkt (k : Int) (l : List Int) : List Int := k :: lput l
theorem pkt_wf {k : Int} (hk : 0 ≤ k ∧ k ≤ 255) (l : List Int) : ∀ x ∈ pkt k l, (Lit.int .u8 x).wf = true := by
  intro x hx
  rcases List.mem_cons.1 hx with rfl | hx
  · simp [Lit.wf, IntKind.min, IntKind.max, IntKind.bits, IntKind.signed]; omega
  · exact lput_wf l x hx

/-- A slice of bytes that the call has made. -/
def NewB (w w' : World) (v : Value) (bs : List Int) : Prop := ∃ g c, v = .slice (some ⟨g, 0, none⟩) bs.length c ∧ OwI .u8 5 w.heap.size w' (some ⟨g, 0, none⟩) bs.length c bs ∧ Ext w w'

theorem put_pkt (k : Int) (hk : 0 ≤ k ∧ k ≤ 255) (a1 : Option Addr) (n1 c1 : Nat) (xs : List Int) (w : World) (h1 : Sl .i64 w a1 n1 c1 xs) (hs : n1 ≤ 1000) :
    Calls Try.prog 24 #[.int .u8 k, .slice a1 n1 c1] w fun e w' => ∃ v, e = .returned (.tuple #[v, .int .i64 0]) ∧ NewB w w' v (pkt k xs) := by
  have hll := (lput_len h1.wf (by rw [h1.hlen]; omega)).1
  have hl2 := (lput_len h1.wf (by rw [h1.hlen]; omega)).2
  have hxl := h1.hlen
  go_enter Try.func24, Try.ntmps24
  go_wp2_with fail
  refine (put2_any _ _ _ xs _ h1 hs).mono ?_
  rintro e w1 ⟨g1, c1, rfl, ho1, hE1⟩
  have hs1 := ho1.sl (lput_wf xs)
  have hL : (lput xs).length ≤ 10010 := by omega
  clear ho1 hl2 hxl
  have hP : pkt k xs = [k] ++ lput xs := rfl
  have HP := Lib.hid hP
  clear hP
  generalize lput xs = PX at *
  have hn0 : OwI .u8 5 w1.heap.size (w1.alloc (.cells #[.int .u8 k] 5)) (some ⟨w1.heap.size, 0, none⟩) 1 1 [k] := OwI.lit .u8 5 w1 [k] (Nat.le_refl _) (by simp [maxLen]) #[.int .u8 k] rfl
  have hs1e := hs1.ext ((Ext.refl w1).alloc (.cells #[.int .u8 k] 5))
  go_wp2_with (at_builtin; refine appS el_u8 rfl _ _ rfl _ w1.heap.size _ 1 1 [k] rfl hn0 _ _ _ PX rfl hs1e (by omega) (by simp) (by unfold maxLen; omega) (by omega) ?_; refine hold ?_)
  refine held ?_
  intro g6 c6 w6 ho6 hB6
  have hE6 : Ext w1 w6 := Below.trans ((Ext.refl w1).alloc _) hB6
  clear hn0 hs1e hB6
  go_wp2
  go_ret2
  refine ⟨_, rfl, g6, c6, ?_, ?_, hE1.trans hE6⟩
  · rw [HP.out]; simp; omega
  · rw [HP.out]; rw [show ([k] ++ PX).length = 1 + PX.length by simp; omega]; exact ho6.mono hE1.sz

theorem rpacket_any (k : Int) (hk : 0 ≤ k ∧ k ≤ 255) (a1 : Option Addr) (n1 c1 : Nat) (xs : List Int) (w : World) (h1 : Sl .i64 w a1 n1 c1 xs) (hs : n1 ≤ 1000) :
    Calls Try.prog 25 #[.int .u8 k, .slice a1 n1 c1] w fun e w' => ∃ v, e = .returned v ∧ NewB w w' v (pkt k xs) := by
  have hll := (lput_len h1.wf (by rw [h1.hlen]; omega)).1
  have hl2 := (lput_len h1.wf (by rw [h1.hlen]; omega)).2
  have hxl := h1.hlen
  go_enter Try.func25, Try.ntmps25
  go_wp2_with fail
  refine (rput_any _ _ _ xs _ h1 hs).mono ?_
  rintro e w1 ⟨g1, c1, rfl, ho1, hE1⟩
  have hs1 := ho1.sl (lput_wf xs)
  have hL : (lput xs).length ≤ 10010 := by omega
  clear ho1 hl2 hxl
  have hP : pkt k xs = [k] ++ lput xs := rfl
  have HP := Lib.hid hP
  clear hP
  generalize lput xs = PX at *
  have hn0 : OwI .u8 5 w1.heap.size (w1.alloc (.cells #[.int .u8 k] 5)) (some ⟨w1.heap.size, 0, none⟩) 1 1 [k] := OwI.lit .u8 5 w1 [k] (Nat.le_refl _) (by simp [maxLen]) #[.int .u8 k] rfl
  have hs1e := hs1.ext ((Ext.refl w1).alloc (.cells #[.int .u8 k] 5))
  go_wp2_with (at_builtin; refine appS el_u8 rfl _ _ rfl _ w1.heap.size _ 1 1 [k] rfl hn0 _ _ _ PX rfl hs1e (by omega) (by simp) (by unfold maxLen; omega) (by omega) ?_; refine hold ?_)
  refine held ?_
  intro g6 c6 w6 ho6 hB6
  have hE6 : Ext w1 w6 := Below.trans ((Ext.refl w1).alloc _) hB6
  clear hn0 hs1e hB6
  go_wp2
  go_ret
  refine ⟨_, rfl, g6, c6, ?_, ?_, hE1.trans hE6⟩
  · rw [HP.out]; simp; omega
  · rw [HP.out]; rw [show ([k] ++ PX).length = 1 + PX.length by simp; omega]; exact ho6.mono hE1.sz

end Go.Proofs.Ytcpojkodidflcaa
