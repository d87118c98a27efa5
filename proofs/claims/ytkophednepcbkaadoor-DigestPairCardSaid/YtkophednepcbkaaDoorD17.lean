/-
  The law DigestOneByte, walked.
-/
import Derived.Test.YtkophednepcbkaaDoorD16
namespace Go.Proofs.YtkophednepcbkaaDoor
open Go.RowKit Go.Sort
set_option linter.unusedSimpArgs false
set_option linter.unusedVariables false
set_option maxRecDepth 100000

theorem xor_u8 {x y : Int} (hx : 0 ≤ x ∧ x ≤ 255) (hy : 0 ≤ y ∧ y ≤ 255) : bits .xor .u8 x y = ((x.toNat ^^^ y.toNat : Nat) : Int) := by
  show IntKind.u8.wrap ((BitVec.ofInt 8 x ^^^ BitVec.ofInt 8 y).toNat : Int) = _
  rw [IntKind.wrap_u8, BitVec.toNat_xor, BitVec.toNat_ofInt, BitVec.toNat_ofInt]
  have e : ∀ x : Int, 0 ≤ x ∧ x ≤ 255 → (x % ((2 ^ 8 : Nat) : Int)).toNat = x.toNat := fun x hx => by omega
  rw [e x hx, e y hy]
  have := xor_lt (x := x.toNat) (w := y.toNat) (by omega) (by omega)
  omega
theorem xor_u8_ne {x y : Int} (hx : 0 ≤ x ∧ x ≤ 255) (hy : 0 ≤ y ∧ y ≤ 255) (h0 : y ≠ 0) : bits .xor .u8 x y ≠ x ∧ 0 ≤ bits .xor .u8 x y ∧ bits .xor .u8 x y ≤ 255 := by
  rw [xor_u8 hx hy]
  have := xor_lt (x := x.toNat) (w := y.toNat) (by omega) (by omega)
  have h1 := xor_ne (x := x.toNat) (w := y.toNat) (by omega)
  refine ⟨fun h => h1 ?_, by omega, by omega⟩
  omega

theorem set_fnv {xs : List Int} {k : Nat} {v : Int} (hk : k < xs.length) (hx : 0 ≤ nth xs k ∧ nth xs k ≤ 255) (hv : 0 ≤ v ∧ v ≤ 255) (hne : v ≠ nth xs k) : fnv (xs.set k v) ≠ fnv xs := by
  have e1 : xs = xs.take k ++ nth xs k :: xs.drop (k + 1) := by
    rw [show nth xs k = xs[k] by simp [nth, List.getD_eq_getElem?_getD, hk]]
    simp
  have e2 : xs.set k v = xs.take k ++ v :: xs.drop (k + 1) := by
    rw [List.set_eq_take_append_cons_drop, if_pos hk]
  rw [e2]
  conv => rhs; rw [e1]
  exact fnv_byte hv hx hne

theorem done_law (a1 : Option Addr) (n1 c1 : Nat) (xs : List Int) (a2 : Option Addr) (n2 c2 : Nat) (ys : List Int) (a3 : Option Addr) (n3 c3 : Nat) (zs : List Int) (at_ by_ : Int) (hat : -9223372036854775808 ≤ at_ ∧ at_ ≤ 9223372036854775807) (hby : 0 ≤ by_ ∧ by_ ≤ 255) (w : World)
    (h1 : Sl .u8 w a1 n1 c1 xs) (h2 : Sl .u8 w a2 n2 c2 ys) (h3 : Sl .u8 w a3 n3 c3 zs) (ht : TB w) :
    Calls Tryd.prog 4 #[.slice a1 n1 c1, .slice a2 n2 c2, .slice a3 n3 c3, .int .i64 at_, .int .u8 by_] w (Yes w) := by
  have b1 := h1.bd
  have b2 := h2.bd
  have b3 := h3.bd
  have HT := Lib.hid ht
  clear ht
  by_cases hs1 : 300 < n1
  · go_enter Tryd.func4, Tryd.ntmps4
    go_wp2_with fail
    refine (head_any w HT.out).mono ?_
    rintro e w1 ⟨rfl, hE1⟩
    go_wp2_with fail
    go_ret
    exact ⟨rfl, hE1⟩
  have q1 : decide ((300 : Int) < (n1 : Int)) = false := by simp; omega
  by_cases hs2 : 300 < n2
  · go_enter Tryd.func4, Tryd.ntmps4
    go_wp2_with fail
    refine (head_any w HT.out).mono ?_
    rintro e w1 ⟨rfl, hE1⟩
    go_wp2_with fail
    go_ret
    exact ⟨rfl, hE1⟩
  have q2 : decide ((300 : Int) < (n2 : Int)) = false := by simp; omega
  by_cases hs3 : 300 < n3
  · go_enter Tryd.func4, Tryd.ntmps4
    go_wp2_with fail
    refine (head_any w HT.out).mono ?_
    rintro e w1 ⟨rfl, hE1⟩
    go_wp2_with fail
    go_ret
    exact ⟨rfl, hE1⟩
  have q3 : decide ((300 : Int) < (n3 : Int)) = false := by simp; omega
  go_enter Tryd.func4, Tryd.ntmps4
  go_wp2_with fail
  refine (head_any w HT.out).mono ?_
  rintro e w1 ⟨rfl, hE1⟩
  have hl0 : Ext w1 (w1.alloc (.cells #[] 5)) := (Ext.refl w1).alloc _
  have ho0 := OwI.lit .u8 5 (base := w1.heap.size) w1 [] (Nat.le_refl _) (by simp) #[] rfl
  have k1 := h1.ext (hE1.trans hl0)
  simp only [List.length_nil] at ho0
  go_wp2_with (at_builtin; refine appA el_u8 rfl _ _ rfl _ w1.heap.size _ _ _ _ rfl ho0 _ _ _ _ rfl k1 (by simp) (by unfold maxLen; omega) (by omega) ?_; intro ax cx w2 ho2 hB2; refine hold ?_)
  refine held ?_
  have hE2 : Ext w w2 := hE1.trans (Below.trans hl0 hB2)
  have hz2 : w1.heap.size ≤ w2.heap.size := (Below.trans hl0 hB2).size
  have k3 := h3.ext hE2
  simp only [Nat.zero_add, List.nil_append] at ho2 ⊢
  clear hB2 ho0 k1
  go_wp2_with (at_builtin; refine appA el_u8 rfl _ _ rfl _ w1.heap.size _ _ _ _ rfl ho2 _ _ _ _ rfl k3 hz2 (by unfold maxLen; omega) (by omega) ?_; intro ay cy w3 ho3 hB3; refine hold ?_)
  refine held ?_
  have hE3 : Ext w w3 := Below.trans hE2 (Below.mono hB3 hE1.sz)
  have sx := ho3.sl (fun x hx => (List.mem_append.1 hx).elim (h1.wf x) (h3.wf x))
  clear hB3 ho3 ho2 k3 hE2 hz2 hE1 hl0
  have hl1 : Ext w3 (w3.alloc (.cells #[] 5)) := (Ext.refl w3).alloc _
  have ho4 := OwI.lit .u8 5 (base := w3.heap.size) w3 [] (Nat.le_refl _) (by simp) #[] rfl
  have k2 := h2.ext (hE3.trans hl1)
  simp only [List.length_nil] at ho4
  go_wp2_with (at_builtin; refine appA el_u8 rfl _ _ rfl _ w3.heap.size _ _ _ _ rfl ho4 _ _ _ _ rfl k2 (by simp) (by unfold maxLen; omega) (by omega) ?_; intro au cu w4 ho5 hB4; refine hold ?_)
  refine held ?_
  have hE4 : Ext w3 w4 := Below.trans hl1 hB4
  have k4 := h3.ext (hE3.trans hE4)
  have hz4 := hE4.sz
  simp only [Nat.zero_add, List.nil_append] at ho5 ⊢
  clear hB4 ho4 k2
  go_wp2_with (at_builtin; refine appA el_u8 rfl _ _ rfl _ w3.heap.size _ _ _ _ rfl ho5 _ _ _ _ rfl k4 hz4 (by unfold maxLen; omega) (by omega) ?_; intro av cv w5 ho6 hB5; refine hold ?_)
  refine held ?_
  have hE5 : Ext w3 w5 := Below.trans hE4 hB5
  have sy := ho6.sl (fun x hx => (List.mem_append.1 hx).elim (h2.wf x) (h3.wf x))
  have tx := sx.ext hE5
  have hE : Ext w w5 := hE3.trans hE5
  clear hB5 ho6 ho5 k4 hE4 hz4 hl1 hE5 hE3 sx
  have HF := Lib.hid (beq_iff (fnv_behind xs ys zs))
  go_wp2_with fail
  refine (sum_any _ _ _ _ w5 tx).mono ?_
  rintro e w' ⟨rfl, rfl⟩
  go_wp2_with fail
  refine (sum_any _ _ _ _ w5 sy).mono ?_
  rintro e w' ⟨rfl, rfl⟩
  go_wp2_with fail
  refine (sum_any _ _ _ _ w5 (h1.ext hE)).mono ?_
  rintro e w' ⟨rfl, rfl⟩
  go_wp2_with fail
  refine (sum_any _ _ _ _ w5 (h2.ext hE)).mono ?_
  rintro e w' ⟨rfl, rfl⟩
  clear tx sy
  by_cases hn : n1 = 0
  · have hn' : ((n1 : Int) == 0) = true := by simp [hn]
    have HN := Lib.hid hn
    clear hn
    have hF := HF.out
    go_wp2_with fail
    go_ret
    exact ⟨rfl, hE⟩
  have hn' : ((n1 : Int) == 0) = false := by simp [hn]
  by_cases hy0 : by_ = 0
  · have hq : (by_ == 0) = true := by simpa using hy0
    have HN := Lib.hid hy0
    clear hy0
    have hF := HF.out
    go_wp2_with fail
    go_ret
    exact ⟨rfl, hE⟩
  have hq : (by_ == 0) = false := by simpa using hy0
  have HY := Lib.hid hy0
  clear hy0
  have hr : -(n1 : Int) < at_.tmod n1 ∧ at_.tmod n1 < n1 := by
    have h2 := Int.tmod_lt_of_pos at_ (show (0 : Int) < n1 by omega)
    have h3 := Int.lt_tmod_of_pos at_ (show (0 : Int) < n1 by omega)
    exact ⟨h3, h2⟩
  have hk2 : ∃ k : Nat, (at_.tmod n1 + n1).tmod n1 = (k : Int) ∧ k < n1 := by
    refine ⟨((at_.tmod n1 + n1).tmod n1).toNat, ?_, ?_⟩
    · have := Int.tmod_nonneg (n1 : Int) (show 0 ≤ at_.tmod n1 + n1 by omega)
      omega
    · have := Int.tmod_lt_of_pos (at_.tmod n1 + n1) (show (0 : Int) < n1 by omega)
      omega
  obtain ⟨k, hk, hkn⟩ := hk2
  generalize hrr : at_.tmod n1 = r at *
  have hF := HF.out
  have hl2 : Ext w5 (w5.alloc (.cells #[] 5)) := (Ext.refl w5).alloc _
  have ho7 := OwI.lit .u8 5 (base := w5.heap.size) w5 [] (Nat.le_refl _) (by simp) #[] rfl
  have k5 := h1.ext (hE.trans hl2)
  simp only [List.length_nil] at ho7
  go_wp2_with (at_builtin; refine appS el_u8 rfl _ _ rfl _ w5.heap.size _ _ _ _ rfl ho7 _ _ _ _ rfl k5 (by omega) (by simp) (by unfold maxLen; omega) (by omega) ?_; intro g6 c6 w6 ho8 hB6; refine hold ?_)
  refine held ?_
  simp only [Nat.zero_add, List.nil_append] at ho8 ⊢
  have hE6 : Ext w5 w6 := Below.trans hl2 hB6
  have p1 := ho8.frozenAt k
  have p2 := ho8.cellAt hkn
  have p3 := ho8.ge
  have p4 := (ho8.sl h1.wf).bd
  have w8 := wf_u8 (h1.wfAt hkn)
  obtain ⟨hx1, hx2⟩ := xor_u8_ne w8 hby HY.out
  have ho9 := ho8.set k (bits .xor .u8 (nth xs k) by_)
  have s9 := ho9.sl (fun y hy => by
    rcases List.mem_or_eq_of_mem_set hy with h | rfl
    · exact h1.wf y h
    · simp [Lit.wf, IntKind.min, IntKind.max, IntKind.signed, IntKind.bits]; omega)
  have hne : (fnv (xs.set k (bits .xor .u8 (nth xs k) by_)) != fnv xs) = true := by simpa using set_fnv (by rw [h1.hlen]; exact hkn) w8 hx2 hx1
  have hE9 : Ext w (w6.setCell ⟨g6, k, none⟩ (.int .u8 (bits .xor .u8 (nth xs k) by_))) := hE.trans (hE6.setCell p3.1 _)
  have HN := Lib.hid hne
  clear hB6 ho7 k5 hl2 hE6 ho9 hne hx1 hx2 hF
  go_wp2_with fail
  refine (sum_any _ _ _ _ _ s9).mono ?_
  rintro e w' ⟨rfl, rfl⟩
  go_wp2_with fail
  refine (sum_any _ _ _ _ _ (h1.ext hE9)).mono ?_
  rintro e w' ⟨rfl, rfl⟩
  have hne := HN.out
  go_wp2_with fail
  go_ret
  exact ⟨rfl, hE9⟩
end Go.Proofs.YtkophednepcbkaaDoor
