/-
  Numbers with so many digits; pad, walked.
-/
import Derived.Test.YtchbeheekahhiaaDoorVK
import Derived.Test.YtchbeheekahhiaaDoorSh
import Derived.Lib.AppendStr
import Derived.Lib.ItoaLen
namespace Go.Proofs.YtchbeheekahhiaaDoor
open Go.RowKit Go.Sort Go.Shelf
set_option linter.unusedSimpArgs false
set_option linter.unusedVariables false
set_option maxRecDepth 100000

/-- The last k decimal digits of a number, as bytes. -/
def dgs : Nat → Nat → List Int
  | 0, _ => []
  | k + 1, n => dgs k (n / 10) ++ [48 + ((n % 10 : Nat) : Int)]
theorem dgs_len : ∀ (k n : Nat), (dgs k n).length = k
  | 0, _ => rfl
  | k + 1, n => by simp [dgs, dgs_len k]
theorem dgs_zero : ∀ (k : Nat), dgs k 0 = List.replicate k 48
  | 0 => rfl
  | k + 1 => by
    rw [List.replicate_succ']
    simp [dgs, dgs_zero k]
def strI (s : List UInt8) : List Int := s.map fun b => (b.toNat : Int)
theorem strI_app (a b : List UInt8) : strI (a ++ b) = strI a ++ strI b := by simp [strI]
theorem strI_dig {d : Nat} (h : d < 10) : strI [UInt8.ofNat (48 + d)] = [48 + (d : Int)] := by
  simp [strI]; omega
theorem pad_dgs : ∀ (k n : Nat), n < 10 ^ (k + 1) → (Lib.nDigits n ≤ k + 1) ∧ List.replicate (k + 1 - Lib.nDigits n) 48 ++ strI (Lib.decDigits n) = dgs (k + 1) n
  | k, n, h => by
    by_cases h10 : n < 10
    · have e1 : Lib.nDigits n = 1 := by rw [Lib.nDigits, dif_pos h10]
      rw [e1, Lib.decDigits_one h10, strI_dig h10]
      refine ⟨by omega, ?_⟩
      show List.replicate k 48 ++ _ = dgs k (n / 10) ++ _
      rw [show n / 10 = 0 by omega, dgs_zero, Nat.mod_eq_of_lt h10]
    · have e1 : Lib.nDigits n = Lib.nDigits (n / 10) + 1 := by rw [Lib.nDigits, dif_neg h10]
      have e2 : Lib.decDigits n = Lib.decDigits (n / 10) ++ [UInt8.ofNat (48 + n % 10)] := by rw [Lib.decDigits, dif_neg h10]
      cases k with
      | zero => simp at h; omega
      | succ k =>
        obtain ⟨h1, h2⟩ := pad_dgs k (n / 10) (by rw [Nat.pow_succ] at h; omega)
        rw [e1, e2, strI_app, strI_dig (by omega)]
        refine ⟨by omega, ?_⟩
        show _ = dgs (k + 1) (n / 10) ++ _
        rw [← h2, show k + 1 + 1 - (Lib.nDigits (n / 10) + 1) = k + 1 - Lib.nDigits (n / 10) by omega, List.append_assoc]

/-- The table of the powers of ten lies here. -/
def TB (w : World) : Prop := Lib.TabBelow Tryd.prog w.heap.size w "internal/strconv.uint64pow10" .u64 Lib.pow10Tab
theorem TB.ext {w W : World} (h : TB w) (hE : Ext w W) : TB W := fun w' h' => h w' (Below.trans hE (Below.mono h' hE.sz))

theorem strCells_int (s : List UInt8) : Lib.strCells ⟨s.toArray⟩ = (strI s).map (Value.int .u8) := by
  simp [Lib.strCells, strI]

theorem itoa_any (n : Nat) (hn : n < 10000000) (w : World) (ht : TB w) : Calls Tryd.prog 55 #[.int .i64 (n : Int)] w fun e w' => (∃ S : ByteArray, e = .returned (.string S) ∧ S.size = Lib.nDigits n ∧ Lib.strCells S = (strI (Lib.decDigits n)).map (Value.int .u8)) ∧ Ext w w' := by
  refine (Any.strconv_Itoa laysIt (n : Int) (by omega) (by omega) w (Lib.TabBelow.here ht)).mono ?_
  rintro e w' ⟨rfl, k, os, rfl⟩
  have e1 : Lib.itoa (n : Int) = Lib.decDigits n := Lib.itoa_nonneg n
  rw [e1]
  exact ⟨⟨_, rfl, by show (Lib.decDigits n).toArray.size = _; simp [Lib.decDigits_length], strCells_int _⟩, (ext_grow w (w.drawn + k) os : Ext w (grow (w.drewN k) os))⟩

/-- 'append(s, t...)', t a string. -/
theorem appStr {T E : TypeId} {U : TypeId} (hT : Tryd.prog.underlying T = some (.slice E)) (hU : Tryd.prog.underlying U = some .string) (hI : (Tryd.prog.info? E).map (fun i => (i.zero, i.size, i.bytes)) = some (some (.int .u8 0), 1, 1)) {ops : Array Oper} {rest : List Oper} {o : Oper} {a : Act} {Q : Exit → Act → World → Prop} (hgd : o.guard = none) (s x : Operand)
    (ho : o.op = .call { callee := .builtin .append, args := #[s, x], argTypes := #[T, U] })
    (w : World) (base : Nat) (sa : Option Addr) (n c : Nat) (xs : List Int) (hs : a.eval s = .slice sa n c) (hown : OwI .u8 E base w sa n c xs) (S : ByteArray) (ys : List Int) (hS : Lib.strCells S = ys.map (Value.int .u8)) (h0 : 0 < S.size)
    (hx : a.eval x = .string S) (hbase : base ≤ w.heap.size) (h63 : n + S.size ≤ 100000)
    (h : ∀ g cap w', OwI .u8 E base w' (some ⟨g, 0, none⟩) (n + S.size) cap (xs ++ ys) → Below base w w' → wpList Tryd.prog ops Q rest (a.put o.dst (.slice (some ⟨g, 0, none⟩) (n + S.size) cap)) w') :
    wpList Tryd.prog ops Q (o :: rest) a w := by
  obtain ⟨i, hi, hz, hsz, hby⟩ := info_parts hI
  refine Lib.wpList_append_own_string w hgd s x T U ho base E i hT hU hi hz hsz hby _ n _ hs hown S hx (by unfold maxLen; omega) (by omega) hbase ?_
  intro v' w' h2 h3 h4
  rcases h2.2 with ⟨hv, hn⟩ | ⟨g, cap, cur, hv, _⟩
  · omega
  · subst hv
    refine h g cap w' ?_ (below_grown hown hbase h3)
    unfold OwI
    rw [List.map_append, ← hS]
    exact h2

theorem pad_dgs' {D n : Nat} (hD : 1 ≤ D) (h : n < 10 ^ D) : Lib.nDigits n ≤ D ∧ List.replicate (D - Lib.nDigits n) 48 ++ strI (Lib.decDigits n) = dgs D n := by
  obtain ⟨k, rfl⟩ : ∃ k, D = k + 1 := ⟨D - 1, by omega⟩
  exact pad_dgs k n h
theorem nDigits_pos (n : Nat) : 0 < Lib.nDigits n := by
  rw [Lib.nDigits]; split <;> omega

set_option maxHeartbeats 2000000 in
/-- pad: the digits of a number behind bytes of the caller's own. -/
theorem pad_any (w0 : World) (aa : Option Addr) (m cc : Nat) (xs : List Int) (n D : Nat) (hD : 1 ≤ D ∧ D ≤ 7) (hn : n < 10 ^ D) (hm : m ≤ 1000) (w : World) (hE : Ext w0 w) (ho : OwI .u8 5 w0.heap.size w aa m cc xs) (ht : TB w0) :
    Calls Tryd.prog 39 #[.slice aa m cc, .int .i64 (n : Int), .int .i64 (D : Int)] w fun e w' => (∃ g c', e = .returned (.slice (some ⟨g, 0, none⟩) (m + D) c') ∧ OwI .u8 5 w0.heap.size w' (some ⟨g, 0, none⟩) (m + D) c' (xs ++ dgs D n)) ∧ Ext w0 w' := by
  have HT := Lib.hid ht
  clear ht
  have hn6 : n < 10000000 := Nat.lt_of_lt_of_le hn (by have := Nat.pow_le_pow_right (show 0 < 10 by decide) hD.2; simpa using this)
  obtain ⟨hL, hP⟩ := pad_dgs' hD.1 hn
  have hL0 := nDigits_pos n
  have HP := Lib.hid hP
  clear hP hn
  go_enter Tryd.func39, Tryd.ntmps39
  go_wp2_with fail
  refine (itoa_any n hn6 w (TB.ext HT.out hE)).mono ?_
  rintro e w1 ⟨⟨S, rfl, hS, hC⟩, hx⟩
  have HC := Lib.hid hC
  have HS := Lib.hid hS
  have ho1 := ho.ext hx
  have hE1 := hE.trans hx
  generalize strI (Lib.decDigits n) = SI at *
  generalize Lib.nDigits n = NL at *
  have hSz : 0 < S.size := by omega
  have hSz2 : S.size ≤ D := by omega
  clear hC hS ho hx hE
  have qd : (D : Int) - (S.size : Int) = ((D - S.size : Nat) : Int) := by omega
  go_wp2_with fail
  go_loopw [0, 14] (fun b i wr => ∃ (j : Nat) (ab : Option Addr) (cb : Nat), j ≤ D - S.size ∧ i = .int .i64 (j : Int) ∧ b = .slice ab (m + j) cb ∧ OwI .u8 5 w0.heap.size wr ab (m + j) cb (xs ++ List.replicate j 48) ∧ Ext w0 wr) (fun _ i _ => D - (intOf i).toNat)
  case atStart => exact ⟨0, aa, cc, by omega, rfl, rfl, by simpa using ho1, hE1⟩
  case round =>
    obtain ⟨j, ab, cb, hj, rfl, rfl, ho, hx⟩ := hrel
    have hz := hx.sz
    by_cases hlt : j < D - S.size
    · have q1 : (j : Int) < (D : Int) - (S.size : Int) := by omega
      have HR : Hid (xs ++ List.replicate (j + 1) 48 = xs ++ List.replicate j 48 ++ [48]) := Lib.hid (by rw [List.replicate_succ', List.append_assoc])
      clear qd
      go_wp2_with (at_builtin; refine app1 el_u8 rfl _ _ rfl _ w0.heap.size _ _ _ _ 48 rfl ho rfl hz (by unfold maxLen; omega) (by omega) ?_; intro g5 c5 w5 ho5 hB5; refine hold ?_)
      refine held ?_
      go_wp2_with fail
      exact ⟨⟨j + 1, _, c5, by omega, by go_num, rfl, by rw [HR.out]; exact ho5, Below.trans hx hB5⟩, by simp only [intOf]; omega⟩
    · obtain rfl : j = D - S.size := by omega
      have q1 : ¬ (((D - S.size : Nat) : Int) < (D : Int) - (S.size : Int)) := by omega
      clear qd
      go_wp2_with (at_builtin; refine appStr (by kernel_rfl) (by kernel_rfl) (by kernel_rfl) rfl _ _ rfl _ w0.heap.size _ _ _ _ rfl ho S SI HC.out hSz rfl hz (by omega) ?_; intro g5 c5 w5 ho5 hB5; refine hold ?_)
      refine held ?_
      go_wp2_with fail
      go_ret
      have e2 : m + (D - S.size) + S.size = m + D := by omega
      rw [e2] at ho5 ⊢
      refine ⟨⟨g5, c5, rfl, ?_⟩, Below.trans hx hB5⟩
      rw [← HP.out, ← List.append_assoc, ← HS.out]
      exact ho5
end Go.Proofs.YtchbeheekahhiaaDoor
