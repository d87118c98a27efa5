/-
  strconv.AppendInt at base 10 onto a full row that is not the call's own.
-/
import Derived.Test.YtacicanjmleikaaGreatDoorDA
namespace Go.Proofs.YtacicanjmleikaaGreatDoor
open Go.RowKit Go.Sort
set_option linter.unusedSimpArgs false
set_option linter.unusedVariables false
set_option maxRecDepth 100000

/-- The decimal digits of a number, as integers. -/
def decN (u : Nat) : List Int := (Lib.decDigits u).map fun b => (b.toNat : Int)
theorem decN_len (u : Nat) : (decN u).length = Lib.nDigits u := by rw [decN, List.length_map, Lib.decDigits_length]
theorem decN_wf (u : Nat) : ∀ x ∈ decN u, (Lit.int .u8 x).wf = true := by
  intro x hx
  simp only [decN, List.mem_map] at hx
  obtain ⟨b, _, rfl⟩ := hx
  have := b.toNat_lt
  simp [Lit.wf, IntKind.min, IntKind.max, IntKind.signed, IntKind.bits]; omega
theorem byteCells_decN (u : Nat) : Lib.byteCells (Lib.decDigits u) = (decN u).map (Value.int .u8) := by simp [Lib.byteCells, decN, List.map_map, Function.comp_def]

set_option maxHeartbeats 2000000 in
theorem auint_small (u : Nat) (hu : u < 100) (b off n : Nat) (xs : List Int) (w : World) (hsl : Sl .u8 w (some ⟨b, off, none⟩) n n xs) (hlim : n ≤ 1000000) :
    Calls Tryz.prog 116 #[.slice (some ⟨b, off, none⟩) n n, .int .u64 u, .int .i64 10] w fun e w' => ∃ a' c', e = .returned (.slice a' (n + (decN u).length) c') ∧ OwI .u8 5 w.heap.size w' a' (n + (decN u).length) c' (xs ++ decN u) ∧ Ext w w' := by
  have hlen : (Lib.decDigits u).length ≤ 20 ∧ 0 < (Lib.decDigits u).length := by
    rw [Lib.decDigits_length]
    by_cases h10 : u < 10
    · rw [Lib.nDigits_small h10]; omega
    · rw [Lib.nDigits_big h10, Lib.nDigits_small (show u / 10 < 10 by omega)]; omega
  have hu' : (u : Int) < 100 := by omega
  have e1 : (decN u).length = (Lib.decDigits u).length := by simp [decN]
  rw [e1]
  go_enter Tryz.func116, Tryz.ntmps116
  go_wp2_with (first | (go_at_call 117; refine (Any.internal_strconv_small { laysAI with } u hu _).mono ?_; rintro e w' ⟨rfl, rfl⟩) | (at_builtin; refine appFs el_u8 (by kernel_rfl) rfl _ _ rfl _ _ _ _ _ rfl hsl (Lib.decDigits u) rfl hlen.2 (by omega) ?_; intro g3 c3 w3 ho3 hE3; refine hold ?_))
  refine held ?_
  go_wp2
  go_ret
  exact ⟨_, c3, rfl, ho3, hE3⟩

set_option maxHeartbeats 4000000 in
theorem auint_big (u : Nat) (hu : 100 ≤ u) (hu64 : u < 18446744073709551616) (b off n : Nat) (xs : List Int) (w : World) (hsl : Sl .u8 w (some ⟨b, off, none⟩) n n xs) (hlim : n ≤ 1000000)
    (htab : Lib.TabIs Tryz.prog w "internal/strconv.uint64pow10" .u64 Lib.pow10Tab) :
    Calls Tryz.prog 116 #[.slice (some ⟨b, off, none⟩) n n, .int .u64 u, .int .i64 10] w fun e w' => ∃ a' c', e = .returned (.slice a' (n + (decN u).length) c') ∧ OwI .u8 5 w.heap.size w' a' (n + (decN u).length) c' (xs ++ decN u) ∧ Ext w w' := by
  have hnd : Lib.nDigits u ≤ 20 ∧ 0 < Lib.nDigits u := by
    have := Lib.numDigits_eq u (by omega) hu64
    have h2 : Lib.nDigits u = Lib.nDigits (u / 10) + 1 := Lib.nDigits_big (by omega)
    split at this <;> omega
  have hslc : ∀ W, (Instr.sliceAt 174 (.pointer (some ⟨w.heap.size, 0, none⟩)) none (some (.int .i64 (Lib.nDigits u : Int))) none).run Tryz.prog W = .ok (.slice (some ⟨w.heap.size, 0, none⟩) (Lib.nDigits u) 24) W := fun W => by
    have hal : Tryz.prog.arrayLen 174 = 24 := by kernel_rfl
    rw [run_sliceAt_array_h W 174 ⟨w.heap.size, 0, none⟩ (by kernel_rfl) .i64 (Lib.nDigits u : Int) (by omega) (by rw [hal]; omega), hal]
    go_simp
  have hH0 := Lib.holds_zero0 w 174 (Lib.nDigits u) (by omega)
  have hfmt := Any.internal_strconv_formatBase10 { laysAI with } w.heap.size 0 24 u (Array.replicate (Lib.nDigits u) 0) (w.alloc (.cells Lib.zeros24 174)) hH0 (by rw [Array.size_replicate]; exact Lib.lt_pow_nDigits u) hu64 (by rw [Array.size_replicate]; omega)
  rw [Array.size_replicate] at hfmt
  have hnumd := Any.internal_strconv_numDigits { laysAI with } u (by omega) hu64 _ (Lib.tabIs_alloc htab (.cells Lib.zeros24 174))
  have HH0 := Lib.hid hH0
  have HF := Lib.hid hfmt
  have HN := Lib.hid hnumd
  have iu : (100 : Int) ≤ (u : Int) := by omega
  rw [decN_len u]
  clear hH0 hfmt hnumd
  go_enter Tryz.func116, Tryz.ntmps116
  go_wp2_with (go_at_call 118; refine HN.out.mono ?_; rintro e w' ⟨rfl, rfl⟩)
  go_at_call 119
  refine HF.out.mono ?_
  rintro e w2 ⟨rfl, k, v', dk, rfl, hF⟩
  have hrow : ∀ j, j < Lib.nDigits u → ((putRow (fun (b : UInt8) => Value.int .u8 (b.toNat : Int)) (w.alloc (.cells Lib.zeros24 174)) w.heap.size 0 dk).drewN k).cell? ⟨w.heap.size, 0 + j, none⟩ = some (Value.int .u8 (nth (decN u) j)) := by
    intro j hj
    have hjl : j < (Lib.decDigits u).length := by rw [Lib.decDigits_length]; exact hj
    rw [World.cell?_drewN, cell?_putRow (fun (b : UInt8) => Value.int .u8 (b.toNat : Int)) _ w.heap.size 0 _ dk HH0.out (by rw [hF.size, Array.size_replicate]) j (by rw [hF.size]; exact hj), ← Lib.row_is_numeral hF j hjl]
    simp [nth, decN, List.getD_eq_getElem?_getD, hjl]
  have hE2 : Ext w ((putRow (fun (b : UInt8) => Value.int .u8 (b.toNat : Int)) (w.alloc (.cells Lib.zeros24 174)) w.heap.size 0 dk).drewN k) := by
    obtain ⟨os, eo⟩ := Lib.fin_at w (.cells Lib.zeros24 174) dk k 0
    rw [eo]; exact Lib.below_grow w.heap.size w (Nat.le_refl _) k os
  clear HH0 HF HN hF
  generalize (putRow (fun (b : UInt8) => Value.int .u8 (b.toNat : Int)) (w.alloc (.cells Lib.zeros24 174)) w.heap.size 0 dk).drewN k = W2 at hrow hE2 ⊢
  have hs2 := hsl.ext hE2
  have ht2 : Sl .u8 W2 (some ⟨w.heap.size, 0, none⟩) (Lib.nDigits u) 24 (decN u) := ⟨decN_len u, by omega, by unfold maxLen; omega, fun j hj => ⟨_, _, rfl, hrow j hj⟩, decN_wf u⟩
  clear hrow
  go_wp2_with (at_builtin; refine appF el_u8 rfl _ _ rfl _ _ _ _ _ rfl hs2 _ _ _ _ _ rfl ht2 hnd.2 (by unfold maxLen; omega) (by omega) ?_; intro g3 c3 w3 ho3 hE3; refine hold ?_)
  refine held ?_
  go_wp2
  go_ret
  exact ⟨_, c3, rfl, ho3.mono hE2.sz, hE2.trans hE3⟩

theorem auint_full (u : Nat) (hu64 : u < 18446744073709551616) (b off n : Nat) (xs : List Int) (w : World) (hsl : Sl .u8 w (some ⟨b, off, none⟩) n n xs) (hlim : n ≤ 1000000)
    (htab : Lib.TabIs Tryz.prog w "internal/strconv.uint64pow10" .u64 Lib.pow10Tab) :
    Calls Tryz.prog 116 #[.slice (some ⟨b, off, none⟩) n n, .int .u64 u, .int .i64 10] w fun e w' => ∃ a' c', e = .returned (.slice a' (n + (decN u).length) c') ∧ OwI .u8 5 w.heap.size w' a' (n + (decN u).length) c' (xs ++ decN u) ∧ Ext w w' := by
  by_cases hu : u < 100
  · exact auint_small u hu b off n xs w hsl hlim
  · exact auint_big u (by omega) hu64 b off n xs w hsl hlim htab

theorem dec_neg {u : Nat} (h : 1 ≤ u) : dec (-(u : Int)) = 45 :: decN u := by
  rw [dec, Lib.itoa_neg u h]; rfl
theorem dec_nonneg (u : Nat) : dec (u : Int) = decN u := by
  rw [dec, Lib.itoa_nonneg]; rfl

set_option maxHeartbeats 2000000 in
theorem aint_full (i : Int) (h0 : -9223372036854775808 ≤ i) (h1 : i ≤ 9223372036854775807) (b off n : Nat) (xs : List Int) (w : World) (hsl : Sl .u8 w (some ⟨b, off, none⟩) n n xs) (hlim : n ≤ 1000000)
    (htab : Lib.TabBelow Tryz.prog w.heap.size w "internal/strconv.uint64pow10" .u64 Lib.pow10Tab) :
    Calls Tryz.prog 115 #[.slice (some ⟨b, off, none⟩) n n, .int .i64 i, .int .i64 10] w fun e w' => ∃ a' c', e = .returned (.slice a' (n + (dec i).length) c') ∧ OwI .u8 5 w.heap.size w' a' (n + (dec i).length) c' (xs ++ dec i) ∧ Ext w w' := by
  by_cases hneg : i < 0
  · obtain ⟨u, rfl⟩ : ∃ u : Nat, i = -(u : Int) := ⟨i.natAbs, by omega⟩
    have hu1 : 1 ≤ u := by omega
    have hwr : IntKind.u64.wrap (-IntKind.u64.wrap (-(u : Int))) = (u : Int) := by rw [IntKind.wrap_u64, IntKind.wrap_u64]; omega
    have ho0 := (OwI.lit .u8 5 (base := w.heap.size) w [45] (Nat.le_refl _) (by unfold maxLen; simp) #[.int .u8 45] rfl).sl (by decide)
    have hE0 : Ext w (w.alloc (.cells #[.int .u8 45] 5)) := (Ext.refl w).alloc _
    have hs0 := hsl.ext hE0
    rw [dec_neg hu1]
    go_enter Tryz.func115, Tryz.ntmps115
    go_wp2_with (at_builtin; refine appF el_u8 rfl _ _ rfl _ _ _ _ _ rfl hs0 _ _ _ _ _ rfl ho0 (by simp) (by unfold maxLen; simp; omega) (by simp; omega) ?_; intro g1 c1 w1 ho1 hE1; refine hold ?_)
    refine held ?_
    have hE := hE0.trans hE1
    have ho2 := ho1.mono hE0.sz
    have hT := htab.on hE
    clear hE0 hE1 ho0 hs0 ho1
    simp only [List.length_cons, List.length_nil, Nat.zero_add] at ho2 ⊢
    go_wp2_with (go_at_call 116; refine (Any.internal_strconv_AppendUint_10 { laysAI with } w.heap.size (n + 1) u (by omega) _ _ w1 ho2 hE.sz (by omega) hT.here).mono ?_; rintro e w2 ⟨v2, rfl, ho3, hB3, _⟩; refine hold ?_)
    refine held ?_
    have hl : n + ((decN u).length + 1) = n + 1 + (Lib.decDigits u).length := by simp [decN]; omega
    have hv : ∃ a' c', v2 = .slice a' (n + 1 + (Lib.decDigits u).length) c' := by
      rcases ho3.2 with ⟨hv, h0⟩ | ⟨g, cap, cur, hv, _⟩
      · omega
      · exact ⟨_, _, hv⟩
    obtain ⟨a', c', rfl⟩ := hv
    go_wp2
    go_ret
    refine ⟨a', c', by rw [hl]; rfl, ?_, Below.trans hE hB3⟩
    rw [hl]
    unfold OwI
    rw [byteCells_decN] at ho3
    rw [show xs ++ 45 :: decN u = (xs ++ [45]) ++ decN u by simp, List.map_append]
    exact ho3
  · obtain ⟨u, rfl⟩ : ∃ u : Nat, i = u := ⟨i.toNat, by omega⟩
    rw [dec_nonneg]
    go_enter Tryz.func115, Tryz.ntmps115
    go_wp2_with (go_at_call 116; refine (auint_full u (by omega) b off n xs w hsl hlim htab.here).mono ?_; rintro e w2 ⟨a', c', rfl, ho3, hB3⟩)
    go_ret
    exact ⟨a', c', rfl, ho3, hB3⟩

theorem appendInt_full (i : Int) (h0 : -9223372036854775808 ≤ i) (h1 : i ≤ 9223372036854775807) (b off n : Nat) (xs : List Int) (w : World) (hsl : Sl .u8 w (some ⟨b, off, none⟩) n n xs) (hlim : n ≤ 1000000)
    (htab : Lib.TabBelow Tryz.prog w.heap.size w "internal/strconv.uint64pow10" .u64 Lib.pow10Tab) :
    Calls Tryz.prog 114 #[.slice (some ⟨b, off, none⟩) n n, .int .i64 i, .int .i64 10] w fun e w' => ∃ a' c', e = .returned (.slice a' (n + (dec i).length) c') ∧ OwI .u8 5 w.heap.size w' a' (n + (dec i).length) c' (xs ++ dec i) ∧ Ext w w' := by
  go_enter Tryz.func114, Tryz.ntmps114
  go_wp2_with (go_at_call 115; refine (aint_full i h0 h1 b off n xs w hsl hlim htab).mono ?_; rintro e w2 ⟨a', c', rfl, ho3, hB3⟩)
  go_ret
  exact ⟨a', c', rfl, ho3, hB3⟩
end Go.Proofs.YtacicanjmleikaaGreatDoor
