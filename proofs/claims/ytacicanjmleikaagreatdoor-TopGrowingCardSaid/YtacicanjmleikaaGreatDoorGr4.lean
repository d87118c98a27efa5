
import Derived.Test.YtacicanjmleikaaGreatDoorGr3
import Derived.LaidMore
import Derived.OpenShut
import Derived.Stop.Joined
import Derived.Laws.CopyOwn
import Derived.Lib.SmallJoins
import Derived.Lib.SlBytesConst
import Derived.Test.YtacicanjmleikaaGreatDoorGr1
/- A part of the proof. -/
namespace Go.Proofs.YtacicanjmleikaaGreatDoor
open Go.RowKit
set_option linter.unusedSimpArgs false
set_option linter.unusedVariables false
def TB (w : World) : Prop := Lib.TabBelow Tryz.prog w.heap.size w "internal/strconv.uint64pow10" .u64 Lib.pow10Tab
theorem TB.ext {w W : World} (h : TB w) (hE : Ext w W) : TB W := fun w' h' => h w' (Below.trans hE (Below.mono h' hE.sz))
theorem tabOf {W : World} (h : laidMetH Tryz.prog [("math/bits.deBruijn32tab", Rows.laid_math_bits_deBruijn32tab), ("math/bits.deBruijn64tab", Rows.laid_math_bits_deBruijn64tab), ("internal/strconv.uint64pow10", Rows.laid_internal_strconv_uint64pow10)] W) : TB W := by
 rw [MakeChecks.laidMetH_plain _ _ _ (by kernel_rfl)] at h
 obtain ⟨ps, ⟨g0, t0, cs0, f0, p0, q0, hg0, ht0, hv0, hd0, ⟨g1, t1, cs1, f1, p1, q1, hg1, ht1, hv1, hd1, ⟨g2, t2, cs2, f2, p2, q2, hg2, ht2, hv2, hd2, _, _⟩, _⟩, _⟩, _⟩ := h
 refine Lib.tabBelow_of_tabIs ?_
 unfold Lib.TabIs
 have hgg : Tryz.prog.globalNamed "internal/strconv.uint64pow10" = some g2 := hg2
 have ht : (Tryz.prog.globals[g2]?).map (·.type) = some t2 := ht2
 have hT : t2 = 179 := by
  have h1 : (Tryz.prog.globalNamed "internal/strconv.uint64pow10").bind (fun g => (Tryz.prog.globals[g]?).map (·.type)) = some 179 := by kernel_rfl
  rw [hgg] at h1
  exact Option.some.inj (ht.symm.trans h1)
 subst hT
 rw [hv2]
 exact congrArg (fun l : List Value => some l.toArray) (Lib.cells_of_tab (k := .u64) (zs := Lib.pow10Tab) (e := 25) (n := 20) Tryz.underlying179 Tryz.underlying25 (by kernel_rfl) (by kernel_rfl) hd2)
open Go.RowKit Go.Sort
set_option maxRecDepth 100000
def decN (u : Nat) : List Int := (Lib.decDigits u).map fun b => (b.toNat : Int)
theorem decN_len (u : Nat) : (decN u).length = Lib.nDigits u := by rw [decN, List.length_map, Lib.decDigits_length]
theorem decN_wf (u : Nat) : ∀ x ∈ decN u, (Lit.int .u8 x).wf = true := by
 intro x hx
 simp only [decN, List.mem_map] at hx
 obtain ⟨b, _, rfl⟩ := hx
 have := b.toNat_lt
 simp [Lit.wf, IntKind.min, IntKind.max, IntKind.signed, IntKind.bits]; omega
theorem byteCells_decN (u : Nat) : Lib.byteCells (Lib.decDigits u) = (decN u).map (Value.int .u8) := by simp [Lib.byteCells, decN, List.map_map, Function.comp_def]
set_option maxHeartbeats 2000000 in
theorem auint_small (u : Nat) (hu : u < 100) (b off n : Nat) (xs : List Int) (w : World) (hsl : Sl .u8 w (some ⟨b, off, none⟩) n n xs) (hlim : n ≤ 1000000) :
  Calls Tryz.prog 116 #[.slice (some ⟨b, off, none⟩) n n, .int .u64 u, .int .i64 10] w fun e w' => ∃ a' c', e = .returned (.slice a' (n + (decN u).length) c') ∧ OwI .u8 5 w.heap.size w' a' (n + (decN u).length) c' (xs ++ decN u) ∧ Ext w w' := by
 have hlen : (Lib.decDigits u).length ≤ 20 ∧ 0 < (Lib.decDigits u).length := by
  rw [Lib.decDigits_length]
  by_cases h10 : u < 10
  ·rw [Lib.nDigits_small h10]; omega
  ·rw [Lib.nDigits_big h10, Lib.nDigits_small (show u / 10 < 10 by omega)]; omega
 have hu' : (u : Int) < 100 := by omega
 have e1 : (decN u).length = (Lib.decDigits u).length := by simp [decN]
 rw [e1]
 go_enter Tryz.func116, Tryz.ntmps116
 go_wp2_with (first | (go_at_call 117; refine (Any.internal_strconv_small { laysAI with } u hu _).mono ?_; rintro e w' ⟨rfl, rfl⟩) | (at_builtin; refine appFs el_u8 (by kernel_rfl) rfl _ _ rfl _ _ _ _ _ rfl hsl (Lib.decDigits u) rfl hlen.2 (by omega) ?_; intro g3 c3 w3 ho3 hE3; refine hold ?_))
 refine held ?_
 go_wp2
 go_ret
 exact ⟨_, c3, rfl, ho3, hE3⟩
set_option maxHeartbeats 4000000 in
theorem auint_big (u : Nat) (hu : 100 ≤ u) (hu64 : u < 18446744073709551616) (b off n : Nat) (xs : List Int) (w : World) (hsl : Sl .u8 w (some ⟨b, off, none⟩) n n xs) (hlim : n ≤ 1000000)
  (htab : Lib.TabIs Tryz.prog w "internal/strconv.uint64pow10" .u64 Lib.pow10Tab) :
  Calls Tryz.prog 116 #[.slice (some ⟨b, off, none⟩) n n, .int .u64 u, .int .i64 10] w fun e w' => ∃ a' c', e = .returned (.slice a' (n + (decN u).length) c') ∧ OwI .u8 5 w.heap.size w' a' (n + (decN u).length) c' (xs ++ decN u) ∧ Ext w w' := by
 have hnd : Lib.nDigits u ≤ 20 ∧ 0 < Lib.nDigits u := by
  have := Lib.numDigits_eq u (by omega) hu64
  have h2 : Lib.nDigits u = Lib.nDigits (u / 10) + 1 := Lib.nDigits_big (by omega)
  split at this <;> omega
 have hslc : ∀ W, (Instr.sliceAt 174 (.pointer (some ⟨w.heap.size, 0, none⟩)) none (some (.int .i64 (Lib.nDigits u : Int))) none).run Tryz.prog W = .ok (.slice (some ⟨w.heap.size, 0, none⟩) (Lib.nDigits u) 24) W := fun W => by
  have hal : Tryz.prog.arrayLen 174 = 24 := by kernel_rfl
  rw [run_sliceAt_array_h W 174 ⟨w.heap.size, 0, none⟩ (by kernel_rfl) .i64 (Lib.nDigits u : Int) (by omega) (by rw [hal]; omega), hal]
  go_simp
 have hH0 := Lib.holds_zero0 w 174 (Lib.nDigits u) (by omega)
 have hfmt := Any.internal_strconv_formatBase10 { laysAI with } w.heap.size 0 24 u (Array.replicate (Lib.nDigits u) 0) (w.alloc (.cells Lib.zeros24 174)) hH0 (by rw [Array.size_replicate]; exact Lib.lt_pow_nDigits u) hu64 (by rw [Array.size_replicate]; omega)
 rw [Array.size_replicate] at hfmt
 have hnumd := Any.internal_strconv_numDigits { laysAI with } u (by omega) hu64 _ (Lib.tabIs_alloc htab (.cells Lib.zeros24 174))
 have HH0 := Lib.hid hH0
 have HF := Lib.hid hfmt
 have HN := Lib.hid hnumd
 have iu : (100 : Int) ≤ (u : Int) := by omega
 rw [decN_len u]
 clear hH0 hfmt hnumd
 go_enter Tryz.func116, Tryz.ntmps116
 go_wp2_with (go_at_call 118; refine HN.out.mono ?_; rintro e w' ⟨rfl, rfl⟩)
 go_at_call 119
 refine HF.out.mono ?_
 rintro e w2 ⟨rfl, k, v', dk, rfl, hF⟩
 have hrow : ∀ j, j < Lib.nDigits u → ((putRow (fun (b : UInt8) => Value.int .u8 (b.toNat : Int)) (w.alloc (.cells Lib.zeros24 174)) w.heap.size 0 dk).drewN k).cell? ⟨w.heap.size, 0 + j, none⟩ = some (Value.int .u8 (nth (decN u) j)) := by
  intro j hj
  have hjl : j < (Lib.decDigits u).length := by rw [Lib.decDigits_length]; exact hj
  rw [World.cell?_drewN, cell?_putRow (fun (b : UInt8) => Value.int .u8 (b.toNat : Int)) _ w.heap.size 0 _ dk HH0.out (by rw [hF.size, Array.size_replicate]) j (by rw [hF.size]; exact hj), ← Lib.row_is_numeral hF j hjl]
  simp [nth, decN, List.getD_eq_getElem?_getD, hjl]
 have hE2 : Ext w ((putRow (fun (b : UInt8) => Value.int .u8 (b.toNat : Int)) (w.alloc (.cells Lib.zeros24 174)) w.heap.size 0 dk).drewN k) := by
  obtain ⟨os, eo⟩ := Lib.fin_at w (.cells Lib.zeros24 174) dk k 0
  rw [eo]; exact Lib.below_grow w.heap.size w (Nat.le_refl _) k os
 clear HH0 HF HN hF
 generalize (putRow (fun (b : UInt8) => Value.int .u8 (b.toNat : Int)) (w.alloc (.cells Lib.zeros24 174)) w.heap.size 0 dk).drewN k = W2 at hrow hE2 ⊢
 have hs2 := hsl.ext hE2
 have ht2 : Sl .u8 W2 (some ⟨w.heap.size, 0, none⟩) (Lib.nDigits u) 24 (decN u) := ⟨decN_len u, by omega, by unfold maxLen; omega, fun j hj => ⟨_, _, rfl, hrow j hj⟩, decN_wf u⟩
 clear hrow
 go_wp2_with (at_builtin; refine appF el_u8 rfl _ _ rfl _ _ _ _ _ rfl hs2 _ _ _ _ _ rfl ht2 hnd.2 (by unfold maxLen; omega) (by omega) ?_; intro g3 c3 w3 ho3 hE3; refine hold ?_)
 refine held ?_
 go_wp2
 go_ret
 exact ⟨_, c3, rfl, ho3.mono hE2.sz, hE2.trans hE3⟩
theorem auint_full (u : Nat) (hu64 : u < 18446744073709551616) (b off n : Nat) (xs : List Int) (w : World) (hsl : Sl .u8 w (some ⟨b, off, none⟩) n n xs) (hlim : n ≤ 1000000)
  (htab : Lib.TabIs Tryz.prog w "internal/strconv.uint64pow10" .u64 Lib.pow10Tab) :
  Calls Tryz.prog 116 #[.slice (some ⟨b, off, none⟩) n n, .int .u64 u, .int .i64 10] w fun e w' => ∃ a' c', e = .returned (.slice a' (n + (decN u).length) c') ∧ OwI .u8 5 w.heap.size w' a' (n + (decN u).length) c' (xs ++ decN u) ∧ Ext w w' := by
 by_cases hu : u < 100
 ·exact auint_small u hu b off n xs w hsl hlim
 ·exact auint_big u (by omega) hu64 b off n xs w hsl hlim htab
theorem dec_neg {u : Nat} (h : 1 ≤ u) : dec (-(u : Int)) = 45 :: decN u := by
 rw [dec, Lib.itoa_neg u h]; rfl
theorem dec_nonneg (u : Nat) : dec (u : Int) = decN u := by
 rw [dec, Lib.itoa_nonneg]; rfl
set_option maxHeartbeats 2000000 in
theorem aint_full (i : Int) (h0 : -9223372036854775808 ≤ i) (h1 : i ≤ 9223372036854775807) (b off n : Nat) (xs : List Int) (w : World) (hsl : Sl .u8 w (some ⟨b, off, none⟩) n n xs) (hlim : n ≤ 1000000)
  (htab : Lib.TabBelow Tryz.prog w.heap.size w "internal/strconv.uint64pow10" .u64 Lib.pow10Tab) :
  Calls Tryz.prog 115 #[.slice (some ⟨b, off, none⟩) n n, .int .i64 i, .int .i64 10] w fun e w' => ∃ a' c', e = .returned (.slice a' (n + (dec i).length) c') ∧ OwI .u8 5 w.heap.size w' a' (n + (dec i).length) c' (xs ++ dec i) ∧ Ext w w' := by
 by_cases hneg : i < 0
 ·obtain ⟨u, rfl⟩ : ∃ u : Nat, i = -(u : Int) := ⟨i.natAbs, by omega⟩
  have hu1 : 1 ≤ u := by omega
  have hwr : IntKind.u64.wrap (-IntKind.u64.wrap (-(u : Int))) = (u : Int) := by rw [IntKind.wrap_u64, IntKind.wrap_u64]; omega
  have ho0 := (OwI.lit .u8 5 (base := w.heap.size) w [45] (Nat.le_refl _) (by unfold maxLen; simp) #[.int .u8 45] rfl).sl (by decide)
  have hE0 : Ext w (w.alloc (.cells #[.int .u8 45] 5)) := (Ext.refl w).alloc _
  have hs0 := hsl.ext hE0
  rw [dec_neg hu1]
  go_enter Tryz.func115, Tryz.ntmps115
  go_wp2_with (at_builtin; refine appF el_u8 rfl _ _ rfl _ _ _ _ _ rfl hs0 _ _ _ _ _ rfl ho0 (by simp) (by unfold maxLen; simp; omega) (by simp; omega) ?_; intro g1 c1 w1 ho1 hE1; refine hold ?_)
  refine held ?_
  have hE := hE0.trans hE1
  have ho2 := ho1.mono hE0.sz
  have hT := htab.on hE
  clear hE0 hE1 ho0 hs0 ho1
  simp only [List.length_cons, List.length_nil, Nat.zero_add] at ho2 ⊢
  go_wp2_with (go_at_call 116; refine (Any.internal_strconv_AppendUint_10 { laysAI with } w.heap.size (n + 1) u (by omega) _ _ w1 ho2 hE.sz (by omega) hT.here).mono ?_; rintro e w2 ⟨v2, rfl, ho3, hB3, _⟩; refine hold ?_)
  refine held ?_
  have hl : n + ((decN u).length + 1) = n + 1 + (Lib.decDigits u).length := by simp [decN]; omega
  have hv : ∃ a' c', v2 = .slice a' (n + 1 + (Lib.decDigits u).length) c' := by
   rcases ho3.2 with ⟨hv, h0⟩ | ⟨g, cap, cur, hv, _⟩
   ·omega
   ·exact ⟨_, _, hv⟩
  obtain ⟨a', c', rfl⟩ := hv
  go_wp2
  go_ret
  refine ⟨a', c', by rw [hl]; rfl, ?_, Below.trans hE hB3⟩
  rw [hl]
  unfold OwI
  rw [byteCells_decN] at ho3
  rw [show xs ++ 45 :: decN u = (xs ++ [45]) ++ decN u by simp, List.map_append]
  exact ho3
 ·obtain ⟨u, rfl⟩ : ∃ u : Nat, i = u := ⟨i.toNat, by omega⟩
  rw [dec_nonneg]
  go_enter Tryz.func115, Tryz.ntmps115
  go_wp2_with (go_at_call 116; refine (auint_full u (by omega) b off n xs w hsl hlim htab.here).mono ?_; rintro e w2 ⟨a', c', rfl, ho3, hB3⟩)
  go_ret
  exact ⟨a', c', rfl, ho3, hB3⟩
theorem appendInt_full (i : Int) (h0 : -9223372036854775808 ≤ i) (h1 : i ≤ 9223372036854775807) (b off n : Nat) (xs : List Int) (w : World) (hsl : Sl .u8 w (some ⟨b, off, none⟩) n n xs) (hlim : n ≤ 1000000)
  (htab : Lib.TabBelow Tryz.prog w.heap.size w "internal/strconv.uint64pow10" .u64 Lib.pow10Tab) :
  Calls Tryz.prog 114 #[.slice (some ⟨b, off, none⟩) n n, .int .i64 i, .int .i64 10] w fun e w' => ∃ a' c', e = .returned (.slice a' (n + (dec i).length) c') ∧ OwI .u8 5 w.heap.size w' a' (n + (dec i).length) c' (xs ++ dec i) ∧ Ext w w' := by
 go_enter Tryz.func114, Tryz.ntmps114
 go_wp2_with (go_at_call 115; refine (aint_full i h0 h1 b off n xs w hsl hlim htab).mono ?_; rintro e w2 ⟨a', c', rfl, ho3, hB3⟩)
 go_ret
 exact ⟨a', c', rfl, ho3, hB3⟩
open Go.RowKit Go.Sort
set_option maxHeartbeats 1000000 in
theorem dtext_full (b off n0 : Nat) (zs : List Int) (a1 : Option Addr) (n1 c1 : Nat) (xs : List Int) (w : World) (h0 : Sl .u8 w (some ⟨b, off, none⟩) n0 n0 zs) (hn0 : n0 ≤ 1000) (h1 : Sl .i64 w a1 n1 c1 xs) (hs : n1 ≤ 1000)
  (htab : Lib.TabBelow Tryz.prog w.heap.size w "internal/strconv.uint64pow10" .u64 Lib.pow10Tab) :
  Calls Tryz.prog 110 #[.slice (some ⟨b, off, none⟩) n0 n0, .slice a1 n1 c1] w fun e w' => ∃ a' c', e = .returned (.slice a' (n0 + (txt xs).length) c') ∧ Sl .u8 w' a' (n0 + (txt xs).length) c' (zs ++ txt xs) ∧ Ext w w' := by
 have b1 := h1.bd
 have e1 := Lib.hid h1.hlen
 go_enter Tryz.func110, Tryz.ntmps110
 have HT := Lib.hid htab
 clear htab
 go_wp2_with fail
 go_loopw [0, 9] (fun o i wr => ∃ (k m c : Nat) (a : Option Addr) (ys : List Int), k ≤ n1 ∧ i = .int .i64 k ∧ o = .slice a m c ∧ m = ys.length ∧ m ≤ n0 + 22 * k ∧ ys = zs ++ txt (xs.take k) ∧ Ext w wr ∧
   ((k = 0 ∧ a = some ⟨b, off, none⟩ ∧ c = n0) ∨ (0 < k ∧ OwI .u8 5 w.heap.size wr a m c ys))) (fun _ i _ => n1 - (intOf i).toNat)
 case atStart => exact ⟨0, n0, n0, _, zs, by omega, rfl, rfl, h0.hlen.symm, by omega, by simp [txt], Ext.refl w, .inl ⟨rfl, rfl, rfl⟩⟩
 case round =>
  obtain ⟨k, m, c, a, ys, hk, rfl, rfl, hm, hm2, hys, hE, hcase⟩ := hrel
  have HM := Lib.hid hm
  have HY := Lib.hid hys
  have HC := Lib.hid hcase
  clear hm hys hcase
  have hBr := hE.sz
  by_cases hlt : k < n1
  ·obtain ⟨x1, o1, rfl, hc1⟩ := h1.at (by omega)
   have g1 := hE.cell (hc1 k hlt)
   have w1 := wf_i64 (h1.wfAt hlt)
   have hl2 := dec_le w1
   have hcall : Calls Tryz.prog 114 #[.slice a m c, .int .i64 (nth xs k), .int .i64 10] wr fun e w' => ∃ a' c', e = .returned (.slice a' (m + (dec (nth xs k)).length) c') ∧ OwI .u8 5 w.heap.size w' a' (m + (dec (nth xs k)).length) c' (ys ++ dec (nth xs k)) ∧ Below w.heap.size wr w' := by
    rcases HC.out with ⟨h2, h3, h4⟩ | ⟨h2, h3⟩
    ·subst h2; subst h3; subst h4
     have h5 : ys = zs := by rw [HY.out]; simp [txt]
     subst h5
     obtain rfl : m = c := by rw [HM.out]; exact h0.hlen
     have htab2 : Lib.TabBelow Tryz.prog wr.heap.size wr "internal/strconv.uint64pow10" .u64 Lib.pow10Tab := fun w' h => (HT.out.on hE) w' (Below.mono h hBr)
     refine (appendInt_full _ w1.1 w1.2 b off _ ys wr (h0.ext hE) (by omega) htab2).mono ?_
     rintro e w' ⟨a', c', rfl, ho, hx⟩
     exact ⟨a', c', rfl, ho.mono hBr, Below.mono hx hBr⟩
    ·exact appendInt_any w.heap.size _ w1.1 w1.2 a m c ys wr h3 hBr (by omega) (HT.out.on hE)
   have HCall := Lib.hid hcall
   clear hcall
   clear hc1
   go_wp2_with (go_at_call 114; refine HCall.out.mono ?_; rintro e w2 ⟨g2, c2, rfl, ho2, hB2⟩; refine hold ?_)
   refine held ?_
   have hB2' : w.heap.size ≤ w2.heap.size := Nat.le_trans hBr hB2.size
   go_wp2_with (at_builtin; refine app1 el_u8 rfl _ _ rfl _ w.heap.size _ _ _ _ 32 rfl ho2 rfl hB2' (by unfold maxLen; omega) (by omega) ?_; intro g3 c3 w3 ho3 hB3)
   go_roundw
   case rel => exact ⟨k + 1, _, c3, _, _, by omega, by go_num, rfl, by rw [List.length_append, List.length_append, HM.out]; rfl, by omega, by rw [txt, fm_take_succ (by rw [e1.out]; omega), ← List.append_assoc, ← List.append_assoc, HY.out, txt], Below.trans hE (Below.trans hB2 hB3), .inr ⟨by omega, ho3⟩⟩
   case measure => simp [intOf]; omega
  ·go_wp2
   go_ret
   have hx : zs ++ txt xs = ys := by rw [HY.out, List.take_of_length_le (by have := e1.out; omega)]
   have hy : n0 + (txt xs).length = m := by rw [HM.out, ← hx, List.length_append, h0.hlen]
   rw [hx, hy]
   refine ⟨a, c, rfl, ?_, hE⟩
   rcases HC.out with ⟨h2, h3, h4⟩ | ⟨h2, h3⟩
   ·subst h2; subst h3; subst h4
    have h5 : ys = zs := by rw [HY.out]; simp [txt]
    subst h5
    obtain rfl : m = c := by rw [HM.out]; exact h0.hlen
    exact h0.ext hE
   ·refine h3.sl fun x hxm => ?_
    rw [← hx] at hxm
    exact (List.mem_append.1 hxm).elim (h0.wf x) (txt_wf xs x)
theorem be8_len (n : Nat) : (be8 n).length = 8 := rfl
theorem octets_lit (n : Int) (hn : 0 ≤ n ∧ n ≤ 18446744073709551615) (w : World) :
  Calls Tryz.prog 96 #[.int .u64 n] w fun e w' => ∃ y0 y1 y2 y3 y4 y5 y6 y7 : Int, be8 n.toNat = [y0, y1, y2, y3, y4, y5, y6, y7] ∧ e = .returned (.agg #[.int .u8 y0, .int .u8 y1, .int .u8 y2, .int .u8 y3, .int .u8 y4, .int .u8 y5, .int .u8 y6, .int .u8 y7]) ∧ Ext w w' :=
 (octets_any n hn w).mono fun e w' ⟨h, hE⟩ => ⟨_, _, _, _, _, _, _, _, rfl, by rw [h]; rfl, hE⟩
theorem sl8_of_block {W : World} {b : Nat} {T : TypeId} {y0 y1 y2 y3 y4 y5 y6 y7 : Int} {n : Nat} (hy : be8 n = [y0, y1, y2, y3, y4, y5, y6, y7])
  (hb : W.heap[b]? = some (.cells #[.int .u8 y0, .int .u8 y1, .int .u8 y2, .int .u8 y3, .int .u8 y4, .int .u8 y5, .int .u8 y6, .int .u8 y7] T (0, 0))) : Sl .u8 W (some ⟨b, 0, none⟩) 8 8 (be8 n) := by
 refine ⟨rfl, Nat.le_refl _, by unfold maxLen; omega, fun i hi => ⟨b, 0, rfl, ?_⟩, be8_wf n⟩
 rw [hy]
 rw [cell_of_row W b (0 + i) _ _ _ hb]
 match i, hi with
 | 0, _ => rfl
 | 1, _ => rfl
 | 2, _ => rfl
 | 3, _ => rfl
 | 4, _ => rfl
 | 5, _ => rfl
 | 6, _ => rfl
 | 7, _ => rfl
theorem dnext_any (d : Int) (hd : 0 ≤ d ∧ d ≤ 18446744073709551615) (a1 : Option Addr) (n1 c1 : Nat) (xs : List Int) (w : World) (h1 : Sl .i64 w a1 n1 c1 xs) (hs : n1 ≤ 1000)
  (htab : Lib.TabBelow Tryz.prog w.heap.size w "internal/strconv.uint64pow10" .u64 Lib.pow10Tab) :
  Calls Tryz.prog 104 #[.int .u64 d, .slice a1 n1 c1] w fun e w' => e = .returned (.int .u64 (fnv (be8 d.toNat ++ txt xs))) ∧ Ext w w' := by
 have b1 := h1.bd
 go_enter Tryz.func104, Tryz.ntmps104
 go_wp2_with fail
 refine (octets_lit d hd _).mono ?_
 rintro e w1 ⟨y0, y1, y2, y3, y4, y5, y6, y7, hy, rfl, hE1⟩
 go_wp2_with fail
 have hE2 : Ext w (w1.alloc (.cells #[.int .u8 y0, .int .u8 y1, .int .u8 y2, .int .u8 y3, .int .u8 y4, .int .u8 y5, .int .u8 y6, .int .u8 y7] 155)) := hE1.alloc _
 have hs8 := sl8_of_block hy (World.alloc_heap_new w1 (.cells #[.int .u8 y0, .int .u8 y1, .int .u8 y2, .int .u8 y3, .int .u8 y4, .int .u8 y5, .int .u8 y6, .int .u8 y7] 155))
 clear hy
 generalize w1.heap.size = g at hs8 ⊢
 generalize (w1.alloc (.cells #[.int .u8 y0, .int .u8 y1, .int .u8 y2, .int .u8 y3, .int .u8 y4, .int .u8 y5, .int .u8 y6, .int .u8 y7] 155)) = w2 at hE2 hs8 ⊢
 have htab2 : Lib.TabBelow Tryz.prog w2.heap.size w2 "internal/strconv.uint64pow10" .u64 Lib.pow10Tab := fun w' h => (htab.on hE2) w' (Below.mono h hE2.sz)
 refine (dtext_full g 0 8 _ a1 n1 c1 xs w2 hs8 (by omega) (h1.ext hE2) hs htab2).mono ?_
 rintro e w3 ⟨a', c', rfl, hsl, hE3⟩
 go_wp2_with (go_at_call 97; refine (sum_any _ _ _ _ _ hsl).mono ?_; rintro e w4 ⟨rfl, rfl⟩)
 go_ret
 exact ⟨rfl, hE2.trans hE3⟩
theorem sl_of_block {W : World} {b : Nat} {T : TypeId} {xs : List Int} {n : Nat} (hn : xs.length = n) (hm : n ≤ maxLen) (hw : ∀ x ∈ xs, (Lit.int .u8 x).wf = true)
  (hb : W.heap[b]? = some (.cells (xs.map (Value.int .u8)).toArray T (0, 0))) : Sl .u8 W (some ⟨b, 0, none⟩) n n xs := by
 refine ⟨hn, Nat.le_refl _, hm, fun i hi => ⟨b, 0, rfl, ?_⟩, hw⟩
 rw [cell_of_row W b (0 + i) _ _ _ hb]
 have h : i < xs.length := by omega
 simp [nth, List.getD_eq_getElem?_getD, h]
theorem oneCell_ints (xs : List Int) : ∀ v ∈ xs.map (Value.int .u8), v.oneCell' = true := by
 intro v hv
 simp only [List.mem_map] at hv
 obtain ⟨x, _, rfl⟩ := hv
 simp [Value.oneCell']
theorem copyI {P : Program} {k : IntKind} {ops : Array Oper} {rest : List Oper} {o : Oper} {a : Act} {Q : Exit → Act → World → Prop} (hgd : o.guard = none) (d s : Operand) (T E : TypeId)
  (ho : o.op = .call { callee := .builtin .copy, args := #[d, s], argTypes := #[T, T] }) (hT : P.underlying T = some (.slice E)) (hsz : (P.info? E).map (·.size) = some 1) (w : World)
  (g off dLen dCap b so m sc : Nat) (cur ys : List Int) (t : TypeId) (hd : a.eval d = .slice (some ⟨g, off, none⟩) dLen dCap) (hs : a.eval s = .slice (some ⟨b, so, none⟩) m sc)
  (hg : w.heap[g]? = some (.cells (cur.map (Value.int k)).toArray t (0, 0))) (hsrc : Sl k w (some ⟨b, so, none⟩) m sc ys) (hm : m ≤ dLen) (hfit : off + m ≤ cur.length)
  (h : ∀ w', w'.heap[g]? = some (.cells ((cur.take off ++ (ys ++ cur.drop (off + m))).map (Value.int k)).toArray t (0, 0)) → (∀ b, b ≠ g → w'.heap[b]? = w.heap[b]?) → Below g w w' → wpList P ops Q rest (a.put o.dst (.int .i64 m)) w') :
  wpList P ops Q (o :: rest) a w := by
 have hl := hsrc.hlen
 refine wpList_copy_own hgd d s T T ho E hT hsz g off dLen dCap ⟨b, so, none⟩ m sc hd hs _ t hg (ys.map (Value.int k)) (by simp only [List.length_map, hl]; exact (Nat.min_eq_left hm).symm) hsrc.cellsAt (by simp [hl]; omega) ?_ ?_
 ·intro v hv
  simp only [List.mem_map] at hv
  obtain ⟨x, _, rfl⟩ := hv
  simp [Value.oneCell']
 ·have h1 := setRow_heap w g _ ((List.take off (List.map (Value.int k) cur).toArray.toList ++ (List.map (Value.int k) ys ++ List.drop (off + (List.map (Value.int k) ys).length) (List.map (Value.int k) cur).toArray.toList)).toArray) t _ hg
  have h2 := h _ (by rw [h1]; simp [hl]) (fun b hb => setRow_other w g b _ hb) (below_setRow (Below.refl g w) (Nat.le_refl _) _)
  rw [show goInt ((List.map (Value.int k) ys).length : Int) = .int .i64 m by simp [goInt, hl]]
  exact h2
theorem dpair_any (d b : Int) (hd : 0 ≤ d ∧ d ≤ 18446744073709551615) (hb : 0 ≤ b ∧ b ≤ 18446744073709551615) (w : World) :
  Calls Tryz.prog 63 #[.int .u64 d, .int .u64 b] w fun e w' => e = .returned (.int .u64 (fnv (1 :: be8 d.toNat ++ be8 b.toNat))) ∧ Ext w w' := by
 go_enter Tryz.func63, Tryz.ntmps63
 go_wp2_with fail
 refine (octets_lit d hd _).mono ?_
 rintro e w1 ⟨y0, y1, y2, y3, y4, y5, y6, y7, hy, rfl, hE1⟩
 go_wp2_with fail
 refine (octets_lit b hb _).mono ?_
 rintro e w2 ⟨z0, z1, z2, z3, z4, z5, z6, z7, hz, rfl, hE2⟩
 go_wp2_with fail
 have hG : ((w2.alloc (.cells #[.int .u8 y0, .int .u8 y1, .int .u8 y2, .int .u8 y3, .int .u8 y4, .int .u8 y5, .int .u8 y6, .int .u8 y7] 155)).alloc (.cells #[.int .u8 z0, .int .u8 z1, .int .u8 z2, .int .u8 z3, .int .u8 z4, .int .u8 z5, .int .u8 z6, .int .u8 z7] 155)).heap[w.heap.size]? = some (.cells (([1, 0, 0, 0, 0, 0, 0, 0, 0, 0, 0, 0, 0, 0, 0, 0, 0] : List Int).map (Value.int .u8)).toArray 154 (0, 0)) :=
  (((((Ext.refl w2).alloc _).alloc _).block _ (by have := hE1.sz; have := hE2.sz; simp at *; omega)).trans ((hE1.trans hE2).block _ (by simp))).trans (World.alloc_heap_new w _)
 have hX : ((w2.alloc (.cells #[.int .u8 y0, .int .u8 y1, .int .u8 y2, .int .u8 y3, .int .u8 y4, .int .u8 y5, .int .u8 y6, .int .u8 y7] 155)).alloc (.cells #[.int .u8 z0, .int .u8 z1, .int .u8 z2, .int .u8 z3, .int .u8 z4, .int .u8 z5, .int .u8 z6, .int .u8 z7] 155)).heap[w2.heap.size]? = some (.cells ((be8 d.toNat).map (Value.int .u8)).toArray 155 (0, 0)) := by
  rw [hy]; exact (((Ext.refl _).alloc _).block _ (by simp)).trans (World.alloc_heap_new w2 _)
 have hY : ((w2.alloc (.cells #[.int .u8 y0, .int .u8 y1, .int .u8 y2, .int .u8 y3, .int .u8 y4, .int .u8 y5, .int .u8 y6, .int .u8 y7] 155)).alloc (.cells #[.int .u8 z0, .int .u8 z1, .int .u8 z2, .int .u8 z3, .int .u8 z4, .int .u8 z5, .int .u8 z6, .int .u8 z7] 155)).heap[w2.heap.size + 1]? = some (.cells ((be8 b.toNat).map (Value.int .u8)).toArray 155 (0, 0)) := by
  rw [hz]; have := World.alloc_heap_new (w2.alloc (.cells #[.int .u8 y0, .int .u8 y1, .int .u8 y2, .int .u8 y3, .int .u8 y4, .int .u8 y5, .int .u8 y6, .int .u8 y7] 155)) (.cells #[.int .u8 z0, .int .u8 z1, .int .u8 z2, .int .u8 z3, .int .u8 z4, .int .u8 z5, .int .u8 z6, .int .u8 z7] 155)
  simpa using this
 have hE3 : Ext w ((w2.alloc (.cells #[.int .u8 y0, .int .u8 y1, .int .u8 y2, .int .u8 y3, .int .u8 y4, .int .u8 y5, .int .u8 y6, .int .u8 y7] 155)).alloc (.cells #[.int .u8 z0, .int .u8 z1, .int .u8 z2, .int .u8 z3, .int .u8 z4, .int .u8 z5, .int .u8 z6, .int .u8 z7] 155)) :=
  ((((Ext.refl w).alloc _).trans (hE1.trans hE2)).alloc _).alloc _
 have hgx : w.heap.size < w2.heap.size := by have := (hE1.trans hE2).sz; simp at this; omega
 generalize ((w2.alloc (.cells #[.int .u8 y0, .int .u8 y1, .int .u8 y2, .int .u8 y3, .int .u8 y4, .int .u8 y5, .int .u8 y6, .int .u8 y7] 155)).alloc (.cells #[.int .u8 z0, .int .u8 z1, .int .u8 z2, .int .u8 z3, .int .u8 z4, .int .u8 z5, .int .u8 z6, .int .u8 z7] 155)) = W at hG hX hY hE3 ⊢
 clear hE1 hE2 hy hz
 generalize w2.heap.size = gx at hX hY hgx ⊢
 refine region_tail 2 (by kernel_rfl) (by kernel_rfl) ?_
 simp only [List.take_succ_cons, List.take_zero, List.drop_succ_cons, List.drop_zero]
 repeat (go_big_quiet_step (fail))
 refine wpQuiet_nil ?_
 intro W1 hE4
 have G1 := (hE4.block _ (lt_of_block hG)).trans hG
 have X1 := (hE4.block _ (lt_of_block hX)).trans hX
 have Y1 := (hE4.block _ (lt_of_block hY)).trans hY
 have hE5 := hE3.trans hE4
 clear hE3 hE4 hG hX hY
 refine copyI rfl _ _ _ 5 rfl (by kernel_rfl) (by kernel_rfl) W1 w.heap.size 1 16 16 gx 0 8 8 _ _ _ rfl rfl G1 (sl_of_block (be8_len _) (by unfold maxLen; omega) (be8_wf _) X1) (by omega) (by simp) ?_
 intro W2 G2 hO2 hB2
 have Y2 := (hO2 _ (by omega)).trans Y1
 have hE6 : Ext w W2 := Below.trans hE5 hB2
 clear hO2 hB2 G1 X1 Y1 hE5
 refine wpList_nil ?_
 simp only [Act.put, List.setIfInBounds_toArray, List.set_cons_succ, List.set_cons_zero]
 go_wp2_with fail
 refine region_tail 2 (by kernel_rfl) (by kernel_rfl) ?_
 simp only [List.take_succ_cons, List.take_zero, List.drop_succ_cons, List.drop_zero]
 repeat (go_big_quiet_step (fail))
 refine wpQuiet_nil ?_
 intro W3 hE7
 have G3 := (hE7.block _ (lt_of_block G2)).trans G2
 have Y3 := (hE7.block _ (lt_of_block Y2)).trans Y2
 have hE8 := hE6.trans hE7
 clear hE6 hE7 G2 Y2
 refine copyI rfl _ _ _ 5 rfl (by kernel_rfl) (by kernel_rfl) W3 w.heap.size 9 8 8 (gx + 1) 0 8 8 _ _ _ rfl rfl G3 (sl_of_block (be8_len _) (by unfold maxLen; omega) (be8_wf _) Y3) (by omega) (by simp [be8_len]) ?_
 intro W4 G4 hO4 hB4
 have hE9 : Ext w W4 := Below.trans hE8 hB4
 clear hO4 hB4 G3 Y3 hE8
 refine wpList_nil ?_
 have hfin : Sl .u8 W4 (some ⟨w.heap.size, 0, none⟩) 17 17 (1 :: be8 d.toNat ++ be8 b.toNat) := by
  refine sl_of_block (T := 154) (by simp [be8_len]) (by unfold maxLen; omega) (fun x hx => ?_) ?_
  ·exact (List.mem_append.1 hx).elim (fun hx => (List.mem_cons.1 hx).elim (fun hx => by subst hx; decide) (be8_wf _ x)) (be8_wf _ x)
  ·exact G4
 clear G4
 simp only [Act.put, List.setIfInBounds_toArray, List.set_cons_succ, List.set_cons_zero]
 go_wp2_with (go_at_call 97; refine (sum_any _ _ _ _ _ hfin).mono ?_; rintro e w4 ⟨rfl, rfl⟩)
 go_ret
 exact ⟨rfl, hE9⟩
open Go.RowKit Go.Sort
theorem litSl (k : IntKind) (E : TypeId) (w : World) (b n : Nat) (xs : List Int) (cs : Array Value) (hb : w.heap.size = b) (hn : xs.length = n) (hcs : cs.toList = xs.map (Value.int k)) (hm : xs.length ≤ maxLen) (hw : ∀ x ∈ xs, (Lit.int k x).wf = true) :
  Sl k (w.alloc (.cells cs E)) (some ⟨b, 0, none⟩) n n xs := by
 subst hb hn
 exact (OwI.lit k E (base := w.heap.size) w xs (Nat.le_refl _) hm cs hcs).sl hw
open Go.RowKit Go.Sort
open Go.RowKit
@[irreducible] def pw (m a x : Nat) : Nat := a ^ x % m
theorem pw_def (m a x : Nat) : pw m a x = a ^ x % m := by unfold pw; rfl
def pwf : Nat → Nat → Nat → Nat → Nat → Nat
 | 0, _, out, _, _ => out
 | f + 1, m, out, a, x => if x = 0 then out else pwf f m (if x % 2 = 1 then out * a % m else out) (a * a % m) (x / 2)
theorem sq_step (m out a x : Nat) : ((if x % 2 = 1 then out * a % m else out) * (a * a % m) ^ (x / 2)) % m = out * a ^ x % m := by
 have e1 : ((a * a % m) ^ (x / 2)) % m = (a * a) ^ (x / 2) % m := (Nat.pow_mod (a * a) (x / 2) m).symm
 have e2 : a ^ x = (a * a) ^ (x / 2) * a ^ (x % 2) := by
  rw [← Nat.pow_two, ← Nat.pow_mul, ← Nat.pow_add]
  congr 1
  omega
 rw [Nat.mul_mod, e1, ← Nat.mul_mod, e2]
 by_cases h : x % 2 = 1
 ·rw [if_pos h, h, Nat.pow_one, Nat.mod_mul_mod, Nat.mul_assoc, Nat.mul_comm a]
 ·rw [if_neg h, show x % 2 = 0 by omega, Nat.pow_zero, Nat.mul_one]
theorem pwf_eq : ∀ (f m out a x : Nat), x < 2 ^ f → out < m → pwf f m out a x = out * a ^ x % m
 | 0, m, out, a, x, hx, ho => by
  obtain rfl : x = 0 := by simpa using hx
  simp [pwf, Nat.mod_eq_of_lt ho]
 | f + 1, m, out, a, x, hx, ho => by
  unfold pwf
  by_cases h : x = 0
  ·subst h; simp [Nat.mod_eq_of_lt ho]
  ·rw [if_neg h, pwf_eq f m _ _ _ (by rw [Nat.pow_succ] at hx; omega) (by split; exact Nat.mod_lt _ (by omega); exact ho), sq_step]
theorem pw_fast {m a x : Nat} (hx : x < 2 ^ 31) (hm : 1 < m) : pw m a x = pwf 31 m 1 a x := by
 rw [pwf_eq 31 m 1 a x hx hm, Nat.one_mul, pw_def]
def pP : Nat := 2147483579
def pQ : Nat := 1073741789
structure Elem (a : Nat) : Prop where
 lt : a < pP
 one : a ^ pQ % pP = 1
theorem one_lt_pP : 1 < pP := by decide
theorem Elem.pos {a : Nat} (h : Elem a) : 0 < a := by
 rcases Nat.eq_zero_or_pos a with rfl | h0
 ·have := h.one
  rw [Nat.zero_pow (by decide)] at this
  simp at this
 ·exact h0
theorem Elem.pow {a : Nat} (ha : Elem a) (x : Nat) : Elem (a ^ x % pP) := by
 refine ⟨Nat.mod_lt _ (by decide), ?_⟩
 rw [← Nat.pow_mod, ← Nat.pow_mul, Nat.mul_comm, Nat.pow_mul, Nat.pow_mod, ha.one, Nat.one_pow]
 decide
theorem gen_pw : pw pP 4 pQ = 1 := by rw [pw_fast (by decide) (by decide)]; decide +kernel
theorem Elem.gen : Elem 4 := ⟨by decide, by rw [← pw_def]; exact gen_pw⟩
theorem Elem.red {a : Nat} (ha : Elem a) (x : Nat) : a ^ x % pP = a ^ (x % pQ) % pP := by
 conv => lhs; rw [← Nat.div_add_mod x pQ]
 rw [Nat.pow_add, Nat.pow_mul, Nat.mul_mod, Nat.pow_mod (a ^ pQ), ha.one, Nat.one_pow]
 simp [Nat.mod_eq_of_lt one_lt_pP]
theorem pow_gcd {a m : Nat} : ∀ (x y : Nat), a ^ x % m = 1 % m → a ^ y % m = 1 % m → a ^ (Nat.gcd x y) % m = 1 % m := by
 intro x y
 induction x, y using Nat.gcd.induction with
 | H0 y => intro _ h; simpa using h
 | H1 x y hx ih =>
  intro h1 h2
  rw [Nat.gcd_rec]
  refine ih ?_ h1
  have : a ^ y % m = a ^ (y % x) % m := by
   conv => lhs; rw [← Nat.div_add_mod y x]
   rw [Nat.pow_add, Nat.pow_mul, Nat.mul_mod, Nat.pow_mod (a ^ x), h1, ← Nat.pow_mod, Nat.one_pow, ← Nat.mul_mod, Nat.one_mul]
  rw [← this]; exact h2
def chk (n : Nat) : Nat → Nat → Bool
 | 0, lo => n % lo != 0
 | d + 1, lo => chk n d lo && chk n d (lo + 2 ^ d)
theorem chk_spec {n : Nat} : ∀ (d lo : Nat), chk n d lo = true → ∀ k, lo ≤ k → k < lo + 2 ^ d → n % k ≠ 0
 | 0, lo, h, k, h1, h2 => by
  obtain rfl : k = lo := by simp at h2; omega
  simpa [chk] using h
 | d + 1, lo, h, k, h1, h2 => by
  simp only [chk, Bool.and_eq_true] at h
  rw [Nat.pow_succ] at h2
  by_cases hk : k < lo + 2 ^ d
  ·exact chk_spec d lo h.1 k h1 hk
  ·exact chk_spec d (lo + 2 ^ d) h.2 k (by omega) (by omega)
theorem chk_Q : chk pQ 15 2 = true := by decide +kernel
theorem coprime_Q {d : Nat} (h0 : 0 < d) (h1 : d < pQ) : Nat.gcd d pQ = 1 := by
 have hc : ∀ k, 2 ≤ k → k < 32770 → pQ % k ≠ 0 := fun k hk hk2 => chk_spec 15 2 chk_Q k hk (by omega)
 have hg := Nat.gcd_pos_of_pos_left pQ h0
 have hle := Nat.gcd_le_left pQ h0
 obtain ⟨e, he⟩ := Nat.gcd_dvd_right d pQ
 generalize Nat.gcd d pQ = g at *
 rcases Nat.lt_or_ge g 2 with hlt | hge
 ·omega
 ·exfalso
  by_cases hs : g < 32770
  ·exact hc g hge hs (by rw [he]; exact Nat.mul_mod_right g e)
  ·have he2 : e < 32770 := by
    rcases Nat.lt_or_ge e 32770 with h | h
    ·exact h
    ·have := Nat.mul_le_mul (show 32770 ≤ g by omega) h
     have hq : pQ = 1073741789 := rfl
     omega
   have he3 : 2 ≤ e := by
    rcases e with _ | _ | e
    ·rw [Nat.mul_zero] at he; exact absurd he (by decide)
    ·omega
    ·omega
   exact hc e he3 he2 (by rw [he]; exact Nat.mul_mod_left g e)
theorem Elem.inj {a : Nat} (ha : Elem a) (h1 : a ≠ 1) {r s : Nat} (hr : r < pQ) (hs : s < pQ) (h : a ^ r % pP = a ^ s % pP) : r = s := by
 have key : ∀ r s : Nat, r < s → s < pQ → a ^ r % pP = a ^ s % pP → False := by
  intro r s hrs hs h
  have e1 : a ^ (s - r) % pP = 1 % pP := by
   have h2 : (a ^ (pQ - r) * a ^ r) % pP = 1 := by rw [← Nat.pow_add, show pQ - r + r = pQ by omega]; exact ha.one
   have h3 : (a ^ (pQ - r) * a ^ s) % pP = a ^ (s - r) % pP := by
    rw [← Nat.pow_add, show pQ - r + s = pQ + (s - r) by omega, Nat.pow_add, Nat.mul_mod, ha.one, Nat.one_mul, Nat.mod_mod]
   rw [← h3, Nat.mul_mod, ← h, ← Nat.mul_mod, h2]
   decide
  have e2 : a ^ pQ % pP = 1 % pP := by rw [ha.one]; decide
  have e3 := pow_gcd (s - r) pQ e1 e2
  rw [coprime_Q (by omega) (by omega), Nat.pow_one, Nat.mod_eq_of_lt ha.lt] at e3
  exact h1 (by rw [e3]; decide)
 rcases Nat.lt_trichotomy r s with h2 | h2 | h2
 ·exact (key r s h2 hs h).elim
 ·exact h2
 ·exact (key s r h2 hr h.symm).elim
open Go.RowKit Go.Sort
theorem times_any (b o : Nat) (n by_ : Nat) (hn : n < 2147483579) (hb : by_ < 2147483579) (w : World) (hc : w.cell? ⟨b, o, none⟩ = some (.int .i64 n)) (hf : w.frozen? ⟨b, o, none⟩ = false) :
  Calls Tryz.prog 98 #[.pointer (some ⟨b, o, none⟩), .int .i64 by_] w fun e w' => e = .returned (.tuple #[]) ∧ w' = w.setCell ⟨b, o, none⟩ (.int .i64 ((n * by_ % 2147483579 : Nat) : Int)) := by
 have h1 : n * by_ ≤ 2147483579 * 2147483579 := Nat.mul_le_mul (by omega) (by omega)
 have h2 : (n : Int) * by_ = ((n * by_ : Nat) : Int) := by push_cast; rfl
 have h3 : ((n * by_ : Nat) : Int).tmod 2147483579 = ((n * by_ % 2147483579 : Nat) : Int) := rfl
 generalize hm : n * by_ = m at *
 go_enter Tryz.func98, Tryz.ntmps98
 go_wp2_with fail
 go_end0
 exact ⟨rfl, rfl⟩
theorem rpower_any (m a x : Nat) (hm1 : 1 < m) (hm : m ≤ 2147483579) (ha : a < m) (hx : x < 9223372036854775808) (w : World) :
  Calls Tryz.prog 37 #[.int .i64 a, .int .i64 x, .int .i64 m] w fun e w' => e = .returned (.int .i64 (pw m a x : Nat)) ∧ w' = w := by
 go_enter Tryz.func37, Tryz.ntmps37
 go_wp2_with fail
 go_loop [0, 1, 7] (fun va vx vo => ∃ (a' k o : Nat), va = .int .i64 a' ∧ vx = .int .i64 k ∧ vo = .int .i64 o ∧ a' < m ∧ k < 9223372036854775808 ∧ o < m ∧ o * a' ^ k % m = pw m a x) (fun _ vx _ => (intOf vx).toNat)
 case atStart => exact ⟨a, x, 1, rfl, rfl, rfl, ha, hx, hm1, by rw [Nat.one_mul, pw_def]⟩
 case round =>
  obtain ⟨a', k, o, rfl, rfl, rfl, h1, h2, h3, h4⟩ := hrel
  have H4 := Lib.hid h4
  clear h4
  have hmm : m * m ≤ 2147483579 * 2147483579 := Nat.mul_le_mul hm hm
  have p1 : o * a' ≤ m * m := Nat.mul_le_mul (by omega) (by omega)
  have p2 : a' * a' ≤ m * m := Nat.mul_le_mul (by omega) (by omega)
  have e1 : (o : Int) * a' = ((o * a' : Nat) : Int) := by push_cast; rfl
  have e2 : (a' : Int) * a' = ((a' * a' : Nat) : Int) := by push_cast; rfl
  have m1 : ((o * a' : Nat) : Int).tmod (m : Int) = ((o * a' % m : Nat) : Int) := rfl
  have m2 : ((a' * a' : Nat) : Int).tmod (m : Int) = ((a' * a' % m : Nat) : Int) := rfl
  have st := sq_step m o a' k
  have l1 : o * a' % m < m := Nat.mod_lt _ (by omega)
  have l2 : a' * a' % m < m := Nat.mod_lt _ (by omega)
  generalize hA : o * a' = A at *
  generalize hB : a' * a' = B at *
  have ST := Lib.hid st
  clear st
  by_cases hk : k = 0
  ·subst hk
   go_wp2
   go_ret
   exact ⟨ret_int (by rw [← H4.out, Nat.pow_zero, Nat.mul_one, Nat.mod_eq_of_lt h3]), rfl⟩
  ·have hk0 : decide ((0 : Int) < (k : Int)) = true := by simp; omega
   by_cases h2' : k % 2 = 1
   ·have g1 : (((k : Int) % 2) == 1) = true := by simp; omega
    go_wp2_with fail
    refine ⟨⟨B % m, k / 2, A % m, by simp, by simp, by simp, l2, by omega, l1, ?_⟩, by simp [intOf]; omega⟩
    have := ST.out
    rw [if_pos h2'] at this
    rw [this]; exact H4.out
   ·have g1 : (((k : Int) % 2) == 1) = false := by simp; omega
    go_wp2_with fail
    refine ⟨⟨B % m, k / 2, o, by simp, by simp, rfl, l2, by omega, h3, ?_⟩, by simp [intOf]; omega⟩
    have := ST.out
    rw [if_neg h2'] at this
    rw [this]; exact H4.out
theorem and_one {k : Int} (h : 0 ≤ k ∧ k ≤ 9223372036854775807) : bits .and .i64 k 1 = k % 2 := by
 show IntKind.i64.wrap ((BitVec.ofInt 64 k &&& BitVec.ofInt 64 1).toNat : Int) = _
 rw [BitVec.toNat_and, BitVec.toNat_ofInt, show (BitVec.ofInt 64 1).toNat = 1 from rfl, Nat.and_one_is_mod, IntKind.wrap_i64]
 have : (k % ((2 ^ 64 : Nat) : Int)).toNat = k.toNat := by omega
 rw [this]
 omega
theorem power_any (a x : Nat) (ha : a < 2147483579) (hx : x < 9223372036854775808) (w : World) :
  Calls Tryz.prog 66 #[.int .i64 a, .int .i64 x] w fun e w' => e = .returned (.int .i64 (pw 2147483579 a x : Nat)) ∧ Ext w w' := by
 have hx0 := Lib.hid hx
 go_enter Tryz.func66, Tryz.ntmps66
 go_wp2_with fail
 go_loopw [1] (fun vx wr => ∃ (a' k o : Nat), vx = .int .i64 k ∧ a' < 2147483579 ∧ k < 9223372036854775808 ∧ o < 2147483579 ∧ o * a' ^ k % 2147483579 = pw 2147483579 a x ∧
  wr.cell? ⟨w.heap.size, 0, none⟩ = some (.int .i64 a') ∧ wr.frozen? ⟨w.heap.size, 0, none⟩ = false ∧ wr.cell? ⟨w.heap.size + 1, 0, none⟩ = some (.int .i64 o) ∧ wr.frozen? ⟨w.heap.size + 1, 0, none⟩ = false ∧ Ext w wr) (fun vx _ => (intOf vx).toNat)
 case atStart =>
  refine ⟨a, x, 1, rfl, ha, hx, by omega, by rw [Nat.one_mul, pw_def], ?_, ?_, ?_, ?_, ?_⟩
  ·exact cell_of_block (((((Ext.refl _).alloc _).block _ (by simp)).trans (World.alloc_heap_new w _))) 0 _ rfl
  ·exact free_of_block (((((Ext.refl _).alloc _).block _ (by simp)).trans (World.alloc_heap_new w _))) 0
  ·exact cell_of_block (by simpa using World.alloc_heap_new (w.alloc (.cells #[.int .i64 (a : Int)] 3)) (.cells #[.int .i64 1] 3)) 0 _ rfl
  ·exact free_of_block (by simpa using World.alloc_heap_new (w.alloc (.cells #[.int .i64 (a : Int)] 3)) (.cells #[.int .i64 1] 3)) 0
  ·exact ((Ext.refl w).alloc _).alloc _
 case round =>
  obtain ⟨a', k, o, rfl, h1, h2, h3, h4, ca, fa, co, fo, hE⟩ := hrel
  have H4 := Lib.hid h4
  clear h4
  have st := sq_step 2147483579 o a' k
  have l1 : o * a' % 2147483579 < 2147483579 := Nat.mod_lt _ (by omega)
  have l2 : a' * a' % 2147483579 < 2147483579 := Nat.mod_lt _ (by omega)
  have ST := Lib.hid st
  clear st
  by_cases hk : k = 0
  ·subst hk
   go_wp2
   go_ret
   exact ⟨ret_int (by rw [← H4.out, Nat.pow_zero, Nat.mul_one, Nat.mod_eq_of_lt h3]), hE⟩
  ·have hk0 : decide ((0 : Int) < (k : Int)) = true := by simp; omega
   have hkI : (0 : Int) < (k : Int) := by omega
   have hsq : ∀ (W : World) (r : Nat), r < 2147483579 → W.cell? ⟨w.heap.size, 0, none⟩ = some (.int .i64 a') → W.frozen? ⟨w.heap.size, 0, none⟩ = false → W.cell? ⟨w.heap.size + 1, 0, none⟩ = some (.int .i64 r) → W.frozen? ⟨w.heap.size + 1, 0, none⟩ = false → Ext w W →
     ∀ W', W' = W.setCell ⟨w.heap.size, 0, none⟩ (.int .i64 ((a' * a' % 2147483579 : Nat) : Int)) → W'.cell? ⟨w.heap.size, 0, none⟩ = some (.int .i64 ((a' * a' % 2147483579 : Nat) : Int)) ∧ W'.frozen? ⟨w.heap.size, 0, none⟩ = false ∧ W'.cell? ⟨w.heap.size + 1, 0, none⟩ = some (.int .i64 r) ∧ W'.frozen? ⟨w.heap.size + 1, 0, none⟩ = false ∧ Ext w W' := by
    rintro W r hr e1 e2 e3 e4 e5 W' rfl
    refine ⟨World.cell?_setCell_same _ _ _ e1, by rw [World.frozen?_setCell]; exact e2, ?_, by rw [World.frozen?_setCell]; exact e4, e5.setCell (Nat.le_refl _) _⟩
    rw [World.cell?_setCell_other _ _ _ _ (by simp)]; exact e3
   by_cases h2' : k % 2 = 1
   ·have g0 : bits .and .i64 (k : Int) 1 = 1 := by rw [and_one (by omega)]; omega
    go_wp2_with (go_at_call 98; refine (times_any _ _ o a' h3 h1 _ co fo).mono ?_; rintro e w2 ⟨rfl, hw2⟩; have HW2 := Lib.hid hw2; clear hw2; refine hold ?_)
    refine held ?_
    have hw2 := HW2.out
    clear HW2
    have d1 : w2.cell? ⟨w.heap.size, 0, none⟩ = some (.int .i64 a') := by rw [hw2, World.cell?_setCell_other _ _ _ _ (by simp)]; exact ca
    have d2 : w2.frozen? ⟨w.heap.size, 0, none⟩ = false := by rw [hw2, World.frozen?_setCell]; exact fa
    have d3 : w2.cell? ⟨w.heap.size + 1, 0, none⟩ = some (.int .i64 ((o * a' % 2147483579 : Nat) : Int)) := by rw [hw2]; exact World.cell?_setCell_same _ _ _ co
    have d4 : w2.frozen? ⟨w.heap.size + 1, 0, none⟩ = false := by rw [hw2, World.frozen?_setCell]; exact fo
    have d5 : Ext w w2 := by rw [hw2]; exact hE.setCell (by simp) _
    clear hw2 ca fa co fo hE
    go_wp2_with (go_at_call 98; refine (times_any _ _ a' a' h1 h1 _ d1 d2).mono ?_; rintro e w3 ⟨rfl, hw3⟩; have HW3 := Lib.hid hw3; clear hw3; refine hold ?_)
    refine held ?_
    have hw3 := HW3.out
    clear HW3
    obtain ⟨f1, f2, f3, f4, f5⟩ := hsq w2 _ l1 d1 d2 d3 d4 d5 w3 hw3
    clear hw3 hsq d1 d2 d3 d4 d5
    go_wp2_with fail
    refine ⟨⟨a' * a' % 2147483579, k / 2, o * a' % 2147483579, by simp, l2, by omega, l1, ?_, f1, f2, f3, f4, f5⟩, by simp [intOf]; omega⟩
    have := ST.out
    rw [if_pos h2'] at this
    rw [this]; exact H4.out
   ·have g0 : bits .and .i64 (k : Int) 1 = 0 := by rw [and_one (by omega)]; omega
    go_wp2_with (go_at_call 98; refine (times_any _ _ a' a' h1 h1 _ ca fa).mono ?_; rintro e w3 ⟨rfl, hw3⟩; have HW3 := Lib.hid hw3; clear hw3; refine hold ?_)
    refine held ?_
    have hw3 := HW3.out
    clear HW3
    obtain ⟨f1, f2, f3, f4, f5⟩ := hsq wr _ h3 ca fa co fo hE w3 hw3
    clear hw3 hsq ca fa co fo hE
    go_wp2_with fail
    refine ⟨⟨a' * a' % 2147483579, k / 2, o, by simp, l2, by omega, h3, ?_, f1, f2, f3, f4, f5⟩, by simp [intOf]; omega⟩
    have := ST.out
    rw [if_neg h2'] at this
    rw [this]; exact H4.out
open Go.RowKit Go.Sort
def memB (a : Int) : Bool := decide (0 < a) && (decide (a < 2147483579) && (((pw 2147483579 a.toNat 1073741789 : Nat) : Int) == 1))
def inQ (x lo : Int) : Bool := decide (lo ≤ x) && decide (x < 1073741789)
theorem memB_lt {a : Int} (h : memB a = true) : 0 < a ∧ a < 2147483579 := by
 simp only [memB, Bool.and_eq_true, decide_eq_true_eq] at h
 exact ⟨h.1, h.2.1⟩
theorem inQ_lt {x lo : Int} (h : inQ x lo = true) : lo ≤ x ∧ x < 1073741789 := by
 simpa [inQ] using h
theorem member_any (a : Int) (w : World) : Calls Tryz.prog 92 #[.int .i64 a] w fun e w' => e = .returned (.bool (memB a)) ∧ Ext w w' := by
 by_cases h0 : 0 < a
 ·by_cases h1 : a < 2147483579
  ·have hm : memB a = (((pw 2147483579 a.toNat 1073741789 : Nat) : Int) == 1) := by simp [memB, h0, h1]
   rw [hm]
   have hp := fun w => power_any a.toNat 1073741789 (by omega) (by omega) w
   rw [show ((a.toNat : Nat) : Int) = a by omega] at hp
   generalize pw 2147483579 a.toNat 1073741789 = V at *
   clear hm
   go_enter Tryz.func92, Tryz.ntmps92
   go_wp2_with (go_at_call 66; refine (hp _).mono ?_; rintro e w1 ⟨rfl, hE1⟩)
   go_ret
   exact ⟨rfl, hE1⟩
  ·have hm : memB a = false := by simp [memB, h1]
   rw [hm]
   go_enter Tryz.func92, Tryz.ntmps92
   go_wp2_with fail
   go_ret
   exact ⟨rfl, Ext.refl w⟩
 ·have hm : memB a = false := by simp [memB, h0]
  rw [hm]
  go_enter Tryz.func92, Tryz.ntmps92
  go_wp2_with fail
  go_ret
  exact ⟨rfl, Ext.refl w⟩
theorem within_any (x lo : Int) (w : World) : Calls Tryz.prog 64 #[.int .i64 x, .int .i64 lo] w fun e w' => e = .returned (.bool (inQ x lo)) ∧ w' = w := by
 unfold inQ
 by_cases h0 : lo ≤ x
 all_goals
  go_enter Tryz.func64, Tryz.ntmps64
  go_wp2_with fail
  go_ret
  exact ⟨ret_bool (by first | (simp [h0]; done) | (rw [Bool.eq_iff_iff]; simp; omega)), rfl⟩
open Go.RowKit Go.Sort
def chal (b p : Int) (ms : List Int) : Int := fnv (txt (b :: p :: ms)) % 1073741789
theorem chal_lt (b p : Int) (ms : List Int) : 0 ≤ chal b p ms ∧ chal b p ms < 1073741789 := by unfold chal; omega
theorem two_sl {w : World} {a b : Int} (ha : (Lit.int .i64 a).wf = true) (hb : (Lit.int .i64 b).wf = true) {ms : List Int} (hm : ∀ x ∈ ms, (Lit.int .i64 x).wf = true) : ∀ x ∈ [a, b] ++ ms, (Lit.int .i64 x).wf = true := by
 intro x hx
 simp only [List.cons_append, List.nil_append, List.mem_cons] at hx
 rcases hx with rfl | rfl | hx
 ·exact ha
 ·exact hb
 ·exact hm x hx
theorem challenge_any (b p : Int) (hb : (Lit.int .i64 b).wf = true) (hp : (Lit.int .i64 p).wf = true) (a1 : Option Addr) (n1 c1 : Nat) (ms : List Int) (w : World) (h1 : Sl .i64 w a1 n1 c1 ms) (hn : n1 ≤ 500) (ht : TB w) :
  Calls Tryz.prog 65 #[.int .i64 b, .int .i64 p, .slice a1 n1 c1] w fun e w' => e = .returned (.int .i64 (chal b p ms)) ∧ Ext w w' := by
 have b1 := h1.bd
 have HT := Lib.hid ht
 clear ht
 have ho0 := OwI.lit .i64 3 (base := w.heap.size) w [b, p] (Nat.le_refl _) (by unfold maxLen; simp) #[.int .i64 b, .int .i64 p] rfl
 have hE0 : Ext w (w.alloc (.cells #[.int .i64 b, .int .i64 p] 3)) := (Ext.refl w).alloc _
 have k1 := h1.ext hE0
 simp only [List.length_cons, List.length_nil, Nat.zero_add, Nat.reduceAdd] at ho0
 unfold chal
 go_enter Tryz.func65, Tryz.ntmps65
 go_wp2_with (at_builtin; refine appA el_i64 rfl _ _ rfl _ w.heap.size _ _ _ _ rfl ho0 _ _ _ _ rfl k1 (by simp) (by unfold maxLen; omega) (by omega) ?_; intro a2 c2 w2 ho2 hB2; refine hold ?_)
 refine held ?_
 have hE2 : Ext w w2 := Below.trans hE0 hB2
 have hs2 := ho2.sl (two_sl (w := w) hb hp h1.wf)
 clear ho0 hE0 k1 ho2 hB2
 go_wp2_with fail
 refine (dints_any _ _ _ _ w2 hs2 (by omega) (TB.ext HT.out hE2)).mono ?_
 rintro e w3 ⟨rfl, hE3⟩
 have hr := fnv_rng (txt ([b, p] ++ ms))
 simp only [List.cons_append, List.nil_append] at hr ⊢
 generalize hF : fnv (txt (b :: p :: ms)) = F at *
 have HF := Lib.hid hF
 clear hF
 go_wp2_with fail
 go_ret
 exact ⟨ret_int (by rw [HF.out]), hE2.trans hE3⟩
theorem rsecret_any (n : Int) (hn : 0 ≤ n ∧ n ≤ 18446744073709551615) (w : World) : Calls Tryz.prog 10 #[.int .u64 n] w fun e w' => e = .returned (.int .i64 (1 + n % 1073741788)) ∧ w' = w := by
 go_enter Tryz.func10, Tryz.ntmps10
 go_wp2_with fail
 go_ret
 exact ⟨rfl, rfl⟩
theorem rpublic_any (x : Nat) (hx : x < 9223372036854775808) (w : World) : Calls Tryz.prog 13 #[.int .i64 x] w fun e w' => e = .returned (.int .i64 (pw 2147483579 4 x : Nat)) ∧ w' = w := by
 have hp := fun w => rpower_any 2147483579 4 x (by omega) (by omega) (by omega) (by omega) w
 generalize pw 2147483579 4 x = V at *
 go_enter Tryz.func13, Tryz.ntmps13
 go_wp2_with (go_at_call 37; refine (hp _).mono ?_; rintro e w1 ⟨rfl, rfl⟩)
 go_ret
 exact ⟨rfl, rfl⟩
theorem pw_lt {m a x : Nat} (hm : 0 < m) : pw m a x < m := by rw [pw_def]; exact Nat.mod_lt _ hm
end Go.Proofs.YtacicanjmleikaaGreatDoor
