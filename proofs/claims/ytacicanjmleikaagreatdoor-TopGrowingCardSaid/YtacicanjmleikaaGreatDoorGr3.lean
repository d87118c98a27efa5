
import Derived.Test.YtacicanjmleikaaGreatDoorGr2
import Derived.Test.YtacicanjmleikaaGreatDoorSh
import Derived.Lib.ItoaLen
import Derived.Test.YtacicanjmleikaaGreatDoorGr1
import Derived.Laws.IdiomStrings
import Derived.ArgAppend
import Derived.Lib.AppendStr
/- A part of the proof. -/
namespace Go.Proofs.YtacicanjmleikaaGreatDoor
open Go.RowKit
set_option linter.unusedSimpArgs false
set_option linter.unusedVariables false
def stepB (a b : BitVec 64) : BitVec 64 := (a ^^^ b) * 1099511628211#64
theorem fnv1_bv (h x : Int) : fnv1 h x = ((stepB (BitVec.ofInt 64 h) (BitVec.ofInt 64 x)).toNat : Int) := by
 have e1 : bits .xor .u64 h x = ((BitVec.ofInt 64 h ^^^ BitVec.ofInt 64 x).toNat : Int) := by
  show IntKind.u64.wrap ((BitVec.ofInt 64 h ^^^ BitVec.ofInt 64 x).toNat : Int) = _
  rw [IntKind.wrap_u64]
  have := (BitVec.ofInt 64 h ^^^ BitVec.ofInt 64 x).isLt
  omega
 unfold fnv1 stepB
 rw [e1, IntKind.wrap_u64, BitVec.toNat_mul]
 have : (1099511628211#64).toNat = 1099511628211 := by decide
 rw [this]
 omega
theorem fnv1_wf (h x : Int) : 0 ≤ fnv1 h x ∧ fnv1 h x ≤ 18446744073709551615 := by
 rw [fnv1_bv]
 have := (stepB (BitVec.ofInt 64 h) (BitVec.ofInt 64 x)).isLt
 omega
def fnvFrom (h : Int) (xs : List Int) : Int := xs.foldl fnv1 h
theorem fnvFrom_wf {h : Int} (hh : 0 ≤ h ∧ h ≤ 18446744073709551615) : ∀ xs : List Int, 0 ≤ fnvFrom h xs ∧ fnvFrom h xs ≤ 18446744073709551615 := by
 intro xs
 induction xs generalizing h with
 | nil => exact hh
 | cons x xs ih => exact ih (fnv1_wf h x)
theorem fnv_rng (xs : List Int) : 0 ≤ fnv xs ∧ fnv xs ≤ 18446744073709551615 := fnvFrom_wf (by omega) xs
open Go.RowKit Go.Sort
def dec (n : Int) : List Int := (Lib.itoa n).map fun b => (b.toNat : Int)
theorem byteCells_dec (n : Int) : Lib.byteCells (Lib.itoa n) = (dec n).map (Value.int .u8) := by
 simp [Lib.byteCells, dec, List.map_map, Function.comp_def]
theorem dec_len (n : Int) : (dec n).length = (Lib.itoa n).length := by simp [dec]
theorem appendInt_any (B : Nat) (i : Int) (h0 : -9223372036854775808 ≤ i) (h1 : i ≤ 9223372036854775807) (a : Option Addr) (n c : Nat) (xs : List Int) (w : World) (hown : OwI .u8 5 B w a n c xs) (hBw : B ≤ w.heap.size) (hlim : n + 21 ≤ 140737488355328)
  (htab : Lib.TabBelow Tryz.prog B w "internal/strconv.uint64pow10" .u64 Lib.pow10Tab) :
  Calls Tryz.prog 114 #[.slice a n c, .int .i64 i, .int .i64 10] w fun e w' => ∃ a' c', e = .returned (.slice a' (n + (dec i).length) c') ∧ OwI .u8 5 B w' a' (n + (dec i).length) c' (xs ++ dec i) ∧ Below B w w' := by
 refine (Any.strconv_AppendInt_10 laysAI B n i h0 h1 (.slice a n c) _ w hown hBw hlim htab).mono ?_
 rintro e w' ⟨v', rfl, ho, hB, _⟩
 rw [byteCells_dec, ← dec_len] at ho
 have hv : ∃ a' c', v' = .slice a' (n + (dec i).length) c' := by
  rcases ho.2 with ⟨hv, h0⟩ | ⟨g, cap, cur, hv, _⟩
  ·exact ⟨none, 0, by rw [hv]; congr 1; omega⟩
  ·exact ⟨_, _, hv⟩
 obtain ⟨a', c', rfl⟩ := hv
 exact ⟨a', c', rfl, by unfold OwI; rw [List.map_append]; exact ho, hB⟩
open Go.RowKit Go.Sort
set_option maxRecDepth 100000
theorem fm_take_succ {xs : List Int} {k : Nat} (h : k < xs.length) (f : Int → List Int) : (xs.take (k+1)).flatMap f = (xs.take k).flatMap f ++ f (nth xs k) := by
 rw [take_nth_succ h, List.flatMap_append]; simp
def txt (xs : List Int) : List Int := xs.flatMap fun n => dec n ++ [32]
theorem dec_le {n : Int} (h : -9223372036854775808 ≤ n ∧ n ≤ 9223372036854775807) : (dec n).length ≤ 21 := by
 rw [dec_len]; exact Lib.itoa_length_le n h.1 h.2
theorem dtext_any (B : Nat) (a0 : Option Addr) (n0 c0 : Nat) (zs : List Int) (a1 : Option Addr) (n1 c1 : Nat) (xs : List Int) (w : World) (h0 : OwI .u8 5 B w a0 n0 c0 zs) (hB : B ≤ w.heap.size) (hn0 : n0 ≤ 1000000) (h1 : Sl .i64 w a1 n1 c1 xs) (hs : n1 ≤ 1000) (hbl : ∀ b off, a1 = some ⟨b, off, none⟩ → 0 < n1 → b < B)
  (htab : Lib.TabBelow Tryz.prog B w "internal/strconv.uint64pow10" .u64 Lib.pow10Tab) :
  Calls Tryz.prog 110 #[.slice a0 n0 c0, .slice a1 n1 c1] w fun e w' => ∃ a' c', e = .returned (.slice a' (n0 + (txt xs).length) c') ∧ OwI .u8 5 B w' a' (n0 + (txt xs).length) c' (zs ++ txt xs) ∧ Below B w w' := by
 have b1 := h1.bd
 have e1 := Lib.hid h1.hlen
 go_enter Tryz.func110, Tryz.ntmps110
 have HT := Lib.hid htab
 clear htab
 go_wp2_with fail
 go_loopw [0, 9] (fun o i wr => ∃ (k m c : Nat) (a : Option Addr) (ys : List Int), k ≤ n1 ∧ i = .int .i64 k ∧ o = .slice a m c ∧ m = ys.length ∧ m ≤ n0 + 22 * k ∧ ys = zs ++ txt (xs.take k) ∧ OwI .u8 5 B wr a m c ys ∧ Below B w wr) (fun _ i _ => n1 - (intOf i).toNat)
 case atStart => exact ⟨0, n0, c0, a0, zs, by omega, rfl, rfl, h0.hlen.symm, by omega, by simp [txt], h0, Below.refl _ _⟩
 case round =>
  obtain ⟨k, m, c, a, ys, hk, rfl, rfl, hm, hm2, hys, ho, hE⟩ := hrel
  have HM := Lib.hid hm
  have HY := Lib.hid hys
  clear hm hys
  have hBr : B ≤ wr.heap.size := Nat.le_trans hB hE.size
  by_cases hlt : k < n1
  ·obtain ⟨x1, o1, rfl, hc1⟩ := h1.at (by omega)
   have g1 := (hE.cell (p := ⟨x1, o1 + k, none⟩) (hbl x1 o1 rfl (by omega))).trans (hc1 k hlt)
   have w1 := wf_i64 (h1.wfAt hlt)
   have hl2 := dec_le w1
   clear hc1
   go_wp2_with (go_at_call 114; refine (appendInt_any B _ w1.1 w1.2 a m c ys wr ho hBr (by omega) (HT.out.on hE)).mono ?_; rintro e w2 ⟨g2, c2, rfl, ho2, hB2⟩; refine hold ?_)
   refine held ?_
   have hB2' : B ≤ w2.heap.size := Nat.le_trans hBr hB2.size
   go_wp2_with (at_builtin; refine app1 el_u8 rfl _ _ rfl _ B _ _ _ _ 32 rfl ho2 rfl hB2' (by unfold maxLen; omega) (by omega) ?_; intro g3 c3 w3 ho3 hB3)
   go_roundw
   case rel => exact ⟨k + 1, _, c3, _, _, by omega, by go_num, rfl, by rw [List.length_append, List.length_append, HM.out]; rfl, by omega, by rw [txt, fm_take_succ (by rw [e1.out]; omega), ← List.append_assoc, ← List.append_assoc, HY.out, txt], ho3, Below.trans hE (Below.trans hB2 hB3)⟩
   case measure => simp [intOf]; omega
  ·go_wp2
   go_ret
   have hx : zs ++ txt xs = ys := by rw [HY.out, List.take_of_length_le (by have := e1.out; omega)]
   have hy : n0 + (txt xs).length = m := by rw [HM.out, ← hx, List.length_append, h0.hlen]
   rw [hx, hy]
   exact ⟨a, c, rfl, ho, hE⟩
open Go.RowKit Go.Sort
theorem res_octets (W : World) (b : Nat) (y0 y1 y2 y3 y4 y5 y6 y7 : Int) (tmps : Array Value) (h2 : tmps[2]?.getD undef = .pointer (some ⟨b, 0, none⟩))
  (hb : W.heap[b]? = some (.cells #[.int .u8 y0, .int .u8 y1, .int .u8 y2, .int .u8 y3, .int .u8 y4, .int .u8 y5, .int .u8 y6, .int .u8 y7] 155 (0, 0))) :
  (results Tryz.f96 tmps).run Tryz.prog W = .ok (.agg #[.int .u8 y0, .int .u8 y1, .int .u8 y2, .int .u8 y3, .int .u8 y4, .int .u8 y5, .int .u8 y6, .int .u8 y7]) W := by
 have c0 := cell_of_block hb 0 (.int .u8 y0) rfl
 have c1 := cell_of_block hb 1 (.int .u8 y1) rfl
 have c2 := cell_of_block hb 2 (.int .u8 y2) rfl
 have c3 := cell_of_block hb 3 (.int .u8 y3) rfl
 have c4 := cell_of_block hb 4 (.int .u8 y4) rfl
 have c5 := cell_of_block hb 5 (.int .u8 y5) rfl
 have c6 := cell_of_block hb 6 (.int .u8 y6) rfl
 have c7 := cell_of_block hb 7 (.int .u8 y7) rfl
 simp [results, Tryz.results96, go_sem, h2, c0, c1, c2, c3, c4, c5, c6, c7]
theorem octets_any (n : Int) (hn : 0 ≤ n ∧ n ≤ 18446744073709551615) (w : World) :
  Calls Tryz.prog 96 #[.int .u64 n] w fun e w' => e = .returned (.agg (((be8 n.toNat).map (Value.int .u8)).toArray)) ∧ Ext w w' := by
 go_enter Tryz.func96, Tryz.ntmps96
 go_wp2_with fail
 refine wp_loop_rounds 9 ?_
 rw [rounds_succ]
 go_wp2_with fail
 rw [rounds_succ]
 go_wp2_with fail
 rw [rounds_succ]
 go_wp2_with fail
 rw [rounds_succ]
 go_wp2_with fail
 rw [rounds_succ]
 go_wp2_with fail
 rw [rounds_succ]
 go_wp2_with fail
 rw [rounds_succ]
 go_wp2_with fail
 rw [rounds_succ]
 go_wp2_with fail
 rw [rounds_succ]
 go_wp2_with fail
 have e8 : #[Value.int .u8 (n / 72057594037927936), .int .u8 (n / 281474976710656 % 256), .int .u8 (n / 1099511627776 % 256), .int .u8 (n / 4294967296 % 256), .int .u8 (n / 16777216 % 256), .int .u8 (n / 65536 % 256), .int .u8 (n / 256 % 256), .int .u8 (n % 256)] = ((be8 n.toNat).map (Value.int .u8)).toArray := by
  simp [be8]
  omega
 refine bodyPost_ret (res_octets _ w.heap.size _ _ _ _ _ _ _ _ _ (by rfl) (World.alloc_heap_new w _)) rfl ⟨?_, (Ext.refl w).alloc _⟩
 rw [e8]
theorem txt_wf (xs : List Int) : ∀ x ∈ txt xs, (Lit.int .u8 x).wf = true := by
 intro x hx
 simp only [txt, List.mem_flatMap, List.mem_append, List.mem_singleton, dec, List.mem_map] at hx
 obtain ⟨n, _, ⟨b, _, rfl⟩ | rfl⟩ := hx
 ·have := b.toNat_lt
  simp [Lit.wf, IntKind.min, IntKind.max, IntKind.signed, IntKind.bits]; omega
 ·decide
theorem dints_any (a1 : Option Addr) (n1 c1 : Nat) (xs : List Int) (w : World) (h1 : Sl .i64 w a1 n1 c1 xs) (hs : n1 ≤ 1000)
  (htab : Lib.TabBelow Tryz.prog w.heap.size w "internal/strconv.uint64pow10" .u64 Lib.pow10Tab) :
  Calls Tryz.prog 89 #[.slice a1 n1 c1] w fun e w' => e = .returned (.int .u64 (fnv (txt xs))) ∧ Ext w w' := by
 have b1 := h1.bd
 go_enter Tryz.func89, Tryz.ntmps89
 go_wp2_with fail
 refine (dtext_any w.heap.size none 0 0 [] a1 n1 c1 xs w (OwI.nil _ _ _ _) (Nat.le_refl _) (by omega) h1 hs (fun b off hb hp => ?_) htab).mono ?_
 ·subst hb
  obtain ⟨x1, o1, hx, hc⟩ := h1.at hp
  cases hx
  exact lt_of_cell (hc 0 hp)
 ·rintro e w1 ⟨a', c', rfl, ho, hB⟩
  have hwf : ∀ x ∈ txt xs, (Lit.int .u8 x).wf = true := txt_wf xs
  simp only [Nat.zero_add, List.nil_append] at ho
  go_wp2_with (refine (sum_any _ _ _ _ _ (ho.sl hwf)).mono ?_; rintro e w2 ⟨rfl, rfl⟩)
  go_ret
  exact ⟨rfl, hB⟩
open Go.RowKit Go.Sort
set_option maxHeartbeats 1000000 in
theorem eight_any (n : Int) (hn : 0 ≤ n ∧ n ≤ 18446744073709551615) (w : World) :
  Calls Tryz.prog 105 #[.int .u64 n] w fun e w' => ∃ g c, e = .returned (.slice (some ⟨g, 0, none⟩) 8 c) ∧ OwI .u8 5 w.heap.size w' (some ⟨g, 0, none⟩) 8 c (be8 n.toNat) ∧ Ext w w' := by
 go_enter Tryz.func105, Tryz.ntmps105
 have ho0 := OwI.nil .u8 5 w.heap.size w
 have hE0 : Below w.heap.size w w := Below.refl _ _
 go_wp2_with fail
 refine wp_loop_rounds 9 ?_
 have hz0 : w.heap.size ≤ w.heap.size := hE0.size
 rw [rounds_succ]
 go_wp2_with (at_builtin; refine app1 el_u8 rfl _ _ rfl _ w.heap.size _ _ _ _ _ rfl ho0 rfl hz0 (by unfold maxLen; omega) (by omega) ?_; intro g0 c0 w1 ho1 hB1; refine hold ?_)
 refine held ?_
 try simp only [Nat.zero_add, Nat.reduceAdd, List.nil_append, List.cons_append] at ho1
 have hE1 := hE0.trans hB1
 clear ho0 hz0 hB1
 go_wp2_with fail
 have hz1 : w.heap.size ≤ w1.heap.size := hE1.size
 rw [rounds_succ]
 go_wp2_with (at_builtin; refine app1 el_u8 rfl _ _ rfl _ w.heap.size _ _ _ _ _ rfl ho1 rfl hz1 (by unfold maxLen; omega) (by omega) ?_; intro g1 c1 w2 ho2 hB2; refine hold ?_)
 refine held ?_
 try simp only [Nat.zero_add, Nat.reduceAdd, List.nil_append, List.cons_append] at ho2
 have hE2 := hE1.trans hB2
 clear ho1 hz1 hB2
 go_wp2_with fail
 have hz2 : w.heap.size ≤ w2.heap.size := hE2.size
 rw [rounds_succ]
 go_wp2_with (at_builtin; refine app1 el_u8 rfl _ _ rfl _ w.heap.size _ _ _ _ _ rfl ho2 rfl hz2 (by unfold maxLen; omega) (by omega) ?_; intro g2 c2 w3 ho3 hB3; refine hold ?_)
 refine held ?_
 try simp only [Nat.zero_add, Nat.reduceAdd, List.nil_append, List.cons_append] at ho3
 have hE3 := hE2.trans hB3
 clear ho2 hz2 hB3
 go_wp2_with fail
 have hz3 : w.heap.size ≤ w3.heap.size := hE3.size
 rw [rounds_succ]
 go_wp2_with (at_builtin; refine app1 el_u8 rfl _ _ rfl _ w.heap.size _ _ _ _ _ rfl ho3 rfl hz3 (by unfold maxLen; omega) (by omega) ?_; intro g3 c3 w4 ho4 hB4; refine hold ?_)
 refine held ?_
 try simp only [Nat.zero_add, Nat.reduceAdd, List.nil_append, List.cons_append] at ho4
 have hE4 := hE3.trans hB4
 clear ho3 hz3 hB4
 go_wp2_with fail
 have hz4 : w.heap.size ≤ w4.heap.size := hE4.size
 rw [rounds_succ]
 go_wp2_with (at_builtin; refine app1 el_u8 rfl _ _ rfl _ w.heap.size _ _ _ _ _ rfl ho4 rfl hz4 (by unfold maxLen; omega) (by omega) ?_; intro g4 c4 w5 ho5 hB5; refine hold ?_)
 refine held ?_
 try simp only [Nat.zero_add, Nat.reduceAdd, List.nil_append, List.cons_append] at ho5
 have hE5 := hE4.trans hB5
 clear ho4 hz4 hB5
 go_wp2_with fail
 have hz5 : w.heap.size ≤ w5.heap.size := hE5.size
 rw [rounds_succ]
 go_wp2_with (at_builtin; refine app1 el_u8 rfl _ _ rfl _ w.heap.size _ _ _ _ _ rfl ho5 rfl hz5 (by unfold maxLen; omega) (by omega) ?_; intro g5 c5 w6 ho6 hB6; refine hold ?_)
 refine held ?_
 try simp only [Nat.zero_add, Nat.reduceAdd, List.nil_append, List.cons_append] at ho6
 have hE6 := hE5.trans hB6
 clear ho5 hz5 hB6
 go_wp2_with fail
 have hz6 : w.heap.size ≤ w6.heap.size := hE6.size
 rw [rounds_succ]
 go_wp2_with (at_builtin; refine app1 el_u8 rfl _ _ rfl _ w.heap.size _ _ _ _ _ rfl ho6 rfl hz6 (by unfold maxLen; omega) (by omega) ?_; intro g6 c6 w7 ho7 hB7; refine hold ?_)
 refine held ?_
 try simp only [Nat.zero_add, Nat.reduceAdd, List.nil_append, List.cons_append] at ho7
 have hE7 := hE6.trans hB7
 clear ho6 hz6 hB7
 go_wp2_with fail
 have hz7 : w.heap.size ≤ w7.heap.size := hE7.size
 rw [rounds_succ]
 go_wp2_with (at_builtin; refine app1 el_u8 rfl _ _ rfl _ w.heap.size _ _ _ _ _ rfl ho7 rfl hz7 (by unfold maxLen; omega) (by omega) ?_; intro g7 c7 w8 ho8 hB8; refine hold ?_)
 refine held ?_
 try simp only [Nat.zero_add, Nat.reduceAdd, List.nil_append, List.cons_append] at ho8
 have hE8 := hE7.trans hB8
 clear ho7 hz7 hB8
 go_wp2_with fail
 rw [rounds_succ]
 go_wp2
 go_ret
 have e8 : be8 n.toNat = [n / 72057594037927936, n / 281474976710656 % 256, n / 1099511627776 % 256, n / 4294967296 % 256, n / 16777216 % 256, n / 65536 % 256, n / 256 % 256, n % 256] := by
  simp [be8]
  omega
 rw [e8]
 exact ⟨_, _, rfl, ho8, hE8⟩
open Go.RowKit Go.Sort
theorem conv_one (W : World) (b : UInt8) (x : Int) (hx : x = (b.toNat : Int)) : (convert 157 9 (.slice (some ⟨W.heap.size, 0, none⟩) 1 1)).run Tryz.prog (W.alloc (.cells #[.int .u8 x] 5)) = .ok (.string ⟨#[b]⟩) (W.alloc (.cells #[.int .u8 x] 5)) := by
 subst hx
 exact run_convert_bytes_back _ _ _ 5 _ 1 [b] Tryz.underlying157 Tryz.underlying5 Tryz.underlying9 (fun j hj => by
  have : j = 0 := by simpa using hj
  subst this
  exact World.cell?_alloc_new W _ _ 0)
theorem conv_at (W : World) (g : Nat) (b : UInt8) (x : Int) (hx : x = (b.toNat : Int)) (hb : W.heap[g]? = some (.cells #[.int .u8 x] 5 (0, 0))) : (convert 157 9 (.slice (some ⟨g, 0, none⟩) 1 1)).run Tryz.prog W = .ok (.string ⟨#[b]⟩) W := by
 subst hx
 exact run_convert_bytes_back _ _ _ 5 _ 1 [b] Tryz.underlying157 Tryz.underlying5 Tryz.underlying9 (fun j hj => by
  have : j = 0 := by simpa using hj
  subst this
  exact cell_of_block hb 0 _ rfl)
theorem itoa_neg_one {n : Int} (h0 : n < 0) (h1 : -10 < n) : Lib.itoa n = [45, UInt8.ofNat (48 - n).toNat] := by
 unfold Lib.itoa
 rw [if_pos h0, Lib.decDigits_one (by omega)]
 congr 3
 omega
theorem itoa_neg {n : Int} (h1 : n ≤ -10) : Lib.itoa n = Lib.itoa (n.tdiv 10) ++ [UInt8.ofNat (48 - n.tmod 10).toNat] := by
 obtain ⟨u, rfl⟩ : ∃ u : Nat, n = -(u : Int) := ⟨n.natAbs, by omega⟩
 have hd : (-(u : Int)).tdiv 10 = -((u / 10 : Nat) : Int) := by rw [Int.neg_tdiv]; rfl
 have hm : (-(u : Int)).tmod 10 = -((u % 10 : Nat) : Int) := by rw [Int.neg_tmod]; rfl
 rw [hd, hm]
 unfold Lib.itoa
 rw [if_pos (by omega), if_pos (by omega)]
 simp only [Int.natAbs_neg, Int.natAbs_natCast]
 rw [Lib.decDigits, dif_neg (by omega), List.cons_append]
 congr 4
 omega
theorem itoa_pos {n : Int} (h1 : 10 ≤ n) : Lib.itoa n = Lib.itoa (n / 10) ++ [UInt8.ofNat (48 + n % 10).toNat] := by
 obtain ⟨u, rfl⟩ : ∃ u : Nat, n = (u : Int) := ⟨n.natAbs, by omega⟩
 unfold Lib.itoa
 rw [if_neg (by omega), if_neg (by omega), Lib.decDigits, dif_neg (by omega)]
 congr 3
theorem itoa_one {n : Int} (h0 : 0 ≤ n) (h1 : n < 10) : Lib.itoa n = [UInt8.ofNat (48 + n).toNat] := by
 unfold Lib.itoa
 rw [if_neg (by omega), Lib.decDigits_one (by omega)]
 congr 2
 omega
theorem ba_app (a b : List UInt8) : (⟨a.toArray⟩ ++ ⟨b.toArray⟩ : ByteArray) = ⟨(a ++ b).toArray⟩ := by
 apply ByteArray.ext
 simp
set_option maxHeartbeats 4000000 in
theorem decimal_any : ∀ (m : Nat) (n : Int), n.natAbs = m → -9223372036854775808 ≤ n → n ≤ 9223372036854775807 → ∀ w : World,
  Calls Tryz.prog 113 #[.int .i64 n] w fun e w' => e = .returned (.string ⟨(Lib.itoa n).toArray⟩) ∧ Ext w w' := by
 intro m
 induction m using Nat.strongRecOn with
 | _ m ih =>
  intro n hm h0 h1 w
  by_cases hneg : n < 0
  ·by_cases hs : -10 < n
   ·have hq : n.tdiv 10 = 0 := by
     obtain ⟨u, rfl⟩ : ∃ u : Nat, n = -(u : Int) := ⟨n.natAbs, by omega⟩
     rw [Int.neg_tdiv, show (u : Int).tdiv 10 = ((u / 10 : Nat) : Int) from rfl]; omega
    have hcv := conv_one w (UInt8.ofNat (48 - n).toNat) (48 - n) (by rw [UInt8.toNat_ofNat']; omega)
    rw [itoa_neg_one hneg hs]
    clear ih hm
    go_enter Tryz.func113, Tryz.ntmps113
    go_wp2_with fail
    go_ret
    exact ⟨by rw [show (⟨#[45]⟩ ++ ⟨#[UInt8.ofNat (48 - n).toNat]⟩ : ByteArray) = _ from ba_app [45] [UInt8.ofNat (48 - n).toNat]]; rfl, (Ext.refl w).alloc _⟩
   ·have hb : -9 ≤ n.tmod 10 ∧ n.tmod 10 ≤ 0 ∧ n.tdiv 10 < 0 ∧ n < n.tdiv 10 ∧ (n.tdiv 10).natAbs < m := by
     obtain ⟨u, rfl⟩ : ∃ u : Nat, n = -(u : Int) := ⟨n.natAbs, by omega⟩
     rw [Int.neg_tdiv, Int.neg_tmod, show (u : Int).tdiv 10 = ((u / 10 : Nat) : Int) from rfl, show (u : Int).tmod 10 = ((u % 10 : Nat) : Int) from rfl]; omega
    obtain ⟨b1, b2, b3, b4, b5⟩ := hb
    have hcv := fun W => conv_one W (UInt8.ofNat (48 - n.tmod 10).toNat) (48 - n.tmod 10) (by rw [UInt8.toNat_ofNat']; omega)
    have hih := fun W => ih _ b5 (n.tdiv 10) rfl (by omega) (by omega) W
    rw [itoa_neg (by omega)]
    have HIH := Lib.hid hih
    clear ih hm b5 hih
    generalize hq : n.tdiv 10 = q at *
    generalize hr : n.tmod 10 = r at *
    have hq0 : (q == 0) = false := by simp; omega
    have hlen := Lib.itoa_length_le q (by omega) (by omega)
    go_enter Tryz.func113, Tryz.ntmps113
    go_wp2_with fail
    refine region_rely (S := Ext) (fun W => Ext w W) [some 14, some 15, some 16, some 17, some 18, some 19, some 20, some 21, some 22, some 23, some 2] [[], [0], [0, 1], [], [3], [3, 4], [3, 4, 5], [3, 4, 5, 6], [3, 4, 5, 6, 7], [0, 1, 2, 3, 4, 5, 6, 7, 8], [0, 1, 2, 3, 4, 5, 6, 7, 8, 9]] [[], [], [], [], [], [], [], [], [], [], []] [.one (.int .i64 n), .one (.int .i64 q), .one (.string ⟨(Lib.itoa q).toArray⟩), .one (.int .i64 n), .one (.int .i64 r), .one (.int .i64 (48 - r)), .one (.int .u8 (48 - r)), .blk #[.int .u8 (48 - r)] 5 (fun b => .slice (some ⟨b, 0, none⟩) 1 1), .one (.string ⟨#[UInt8.ofNat (48 - r).toNat]⟩), .one (.string (⟨(Lib.itoa q).toArray⟩ ++ ⟨#[UInt8.ofNat (48 - r).toNat]⟩)), .one (.string (⟨(Lib.itoa q).toArray⟩ ++ ⟨#[UInt8.ofNat (48 - r).toNat]⟩))] (by kernel_rfl) (by kernel_rfl) (Ext.refl w).drew ?_ ?_
    ·refine stepsR_cons ?_ (stepsR_cons ?_ (stepsR_cons ?_ (stepsR_cons ?_ (stepsR_cons ?_ (stepsR_cons ?_ (stepsR_cons ?_ (stepsR_cons ?_ (stepsR_cons ?_ (stepsR_cons ?_ (stepsR_cons ?_ (trivial)))))))))))
     ·intro vs W hl hI hd ho
      obtain ⟨x0, v0, rfl, l0⟩ := len_cons hl; obtain ⟨x1, v1, rfl, l1⟩ := len_cons l0; obtain ⟨x2, v2, rfl, l2⟩ := len_cons l1; obtain ⟨x3, v3, rfl, l3⟩ := len_cons l2; obtain ⟨x4, v4, rfl, l4⟩ := len_cons l3; obtain ⟨x5, v5, rfl, l5⟩ := len_cons l4; obtain ⟨x6, v6, rfl, l6⟩ := len_cons l5; obtain ⟨x7, v7, rfl, l7⟩ := len_cons l6; obtain ⟨x8, v8, rfl, l8⟩ := len_cons l7; obtain ⟨x9, v9, rfl, l9⟩ := len_cons l8; obtain ⟨x10, v10, rfl, l10⟩ := len_cons l9; obtain rfl := len_nil l10; clear hl l0 l1 l2 l3 l4 l5 l6 l7 l8 l9 l10
      simp only [factsR, atR, List.getElem?_cons_succ, List.getElem?_cons_zero, Rel.one, Rel.blk] at hd
      obtain ⟨-⟩ := hd
      simp only [putAll, Act.put, List.setIfInBounds_toArray, List.set_cons_succ, List.set_cons_zero]
      go_wp2_with fail
      exact rely_done _ rfl rfl (Ext.refl _) hI
     ·intro vs W hl hI hd ho
      obtain ⟨x0, v0, rfl, l0⟩ := len_cons hl; obtain ⟨x1, v1, rfl, l1⟩ := len_cons l0; obtain ⟨x2, v2, rfl, l2⟩ := len_cons l1; obtain ⟨x3, v3, rfl, l3⟩ := len_cons l2; obtain ⟨x4, v4, rfl, l4⟩ := len_cons l3; obtain ⟨x5, v5, rfl, l5⟩ := len_cons l4; obtain ⟨x6, v6, rfl, l6⟩ := len_cons l5; obtain ⟨x7, v7, rfl, l7⟩ := len_cons l6; obtain ⟨x8, v8, rfl, l8⟩ := len_cons l7; obtain ⟨x9, v9, rfl, l9⟩ := len_cons l8; obtain ⟨x10, v10, rfl, l10⟩ := len_cons l9; obtain rfl := len_nil l10; clear hl l0 l1 l2 l3 l4 l5 l6 l7 l8 l9 l10
      simp only [factsR, atR, List.getElem?_cons_succ, List.getElem?_cons_zero, Rel.one, Rel.blk] at hd
      obtain ⟨rfl, -⟩ := hd
      simp only [putAll, Act.put, List.setIfInBounds_toArray, List.set_cons_succ, List.set_cons_zero]
      go_wp2_with fail
      exact rely_done _ rfl rfl (Ext.refl _) hI
     ·intro vs W hl hI hd ho
      obtain ⟨x0, v0, rfl, l0⟩ := len_cons hl; obtain ⟨x1, v1, rfl, l1⟩ := len_cons l0; obtain ⟨x2, v2, rfl, l2⟩ := len_cons l1; obtain ⟨x3, v3, rfl, l3⟩ := len_cons l2; obtain ⟨x4, v4, rfl, l4⟩ := len_cons l3; obtain ⟨x5, v5, rfl, l5⟩ := len_cons l4; obtain ⟨x6, v6, rfl, l6⟩ := len_cons l5; obtain ⟨x7, v7, rfl, l7⟩ := len_cons l6; obtain ⟨x8, v8, rfl, l8⟩ := len_cons l7; obtain ⟨x9, v9, rfl, l9⟩ := len_cons l8; obtain ⟨x10, v10, rfl, l10⟩ := len_cons l9; obtain rfl := len_nil l10; clear hl l0 l1 l2 l3 l4 l5 l6 l7 l8 l9 l10
      simp only [factsR, atR, List.getElem?_cons_succ, List.getElem?_cons_zero, Rel.one, Rel.blk] at hd
      obtain ⟨rfl, rfl, -⟩ := hd
      simp only [putAll, Act.put, List.setIfInBounds_toArray, List.set_cons_succ, List.set_cons_zero]
      go_wp2_with (go_at_call 113; refine (HIH.out _).mono ?_; rintro e w1 ⟨rfl, hE1⟩)
      exact rely_done _ rfl rfl hE1 (hI.trans hE1)
     ·intro vs W hl hI hd ho
      obtain ⟨x0, v0, rfl, l0⟩ := len_cons hl; obtain ⟨x1, v1, rfl, l1⟩ := len_cons l0; obtain ⟨x2, v2, rfl, l2⟩ := len_cons l1; obtain ⟨x3, v3, rfl, l3⟩ := len_cons l2; obtain ⟨x4, v4, rfl, l4⟩ := len_cons l3; obtain ⟨x5, v5, rfl, l5⟩ := len_cons l4; obtain ⟨x6, v6, rfl, l6⟩ := len_cons l5; obtain ⟨x7, v7, rfl, l7⟩ := len_cons l6; obtain ⟨x8, v8, rfl, l8⟩ := len_cons l7; obtain ⟨x9, v9, rfl, l9⟩ := len_cons l8; obtain ⟨x10, v10, rfl, l10⟩ := len_cons l9; obtain rfl := len_nil l10; clear hl l0 l1 l2 l3 l4 l5 l6 l7 l8 l9 l10
      simp only [factsR, atR, List.getElem?_cons_succ, List.getElem?_cons_zero, Rel.one, Rel.blk] at hd
      obtain ⟨-⟩ := hd
      simp only [putAll, Act.put, List.setIfInBounds_toArray, List.set_cons_succ, List.set_cons_zero]
      go_wp2_with fail
      exact rely_done _ rfl rfl (Ext.refl _) hI
     ·intro vs W hl hI hd ho
      obtain ⟨x0, v0, rfl, l0⟩ := len_cons hl; obtain ⟨x1, v1, rfl, l1⟩ := len_cons l0; obtain ⟨x2, v2, rfl, l2⟩ := len_cons l1; obtain ⟨x3, v3, rfl, l3⟩ := len_cons l2; obtain ⟨x4, v4, rfl, l4⟩ := len_cons l3; obtain ⟨x5, v5, rfl, l5⟩ := len_cons l4; obtain ⟨x6, v6, rfl, l6⟩ := len_cons l5; obtain ⟨x7, v7, rfl, l7⟩ := len_cons l6; obtain ⟨x8, v8, rfl, l8⟩ := len_cons l7; obtain ⟨x9, v9, rfl, l9⟩ := len_cons l8; obtain ⟨x10, v10, rfl, l10⟩ := len_cons l9; obtain rfl := len_nil l10; clear hl l0 l1 l2 l3 l4 l5 l6 l7 l8 l9 l10
      simp only [factsR, atR, List.getElem?_cons_succ, List.getElem?_cons_zero, Rel.one, Rel.blk] at hd
      obtain ⟨rfl, -⟩ := hd
      simp only [putAll, Act.put, List.setIfInBounds_toArray, List.set_cons_succ, List.set_cons_zero]
      go_wp2_with fail
      exact rely_done _ rfl rfl (Ext.refl _) hI
     ·intro vs W hl hI hd ho
      obtain ⟨x0, v0, rfl, l0⟩ := len_cons hl; obtain ⟨x1, v1, rfl, l1⟩ := len_cons l0; obtain ⟨x2, v2, rfl, l2⟩ := len_cons l1; obtain ⟨x3, v3, rfl, l3⟩ := len_cons l2; obtain ⟨x4, v4, rfl, l4⟩ := len_cons l3; obtain ⟨x5, v5, rfl, l5⟩ := len_cons l4; obtain ⟨x6, v6, rfl, l6⟩ := len_cons l5; obtain ⟨x7, v7, rfl, l7⟩ := len_cons l6; obtain ⟨x8, v8, rfl, l8⟩ := len_cons l7; obtain ⟨x9, v9, rfl, l9⟩ := len_cons l8; obtain ⟨x10, v10, rfl, l10⟩ := len_cons l9; obtain rfl := len_nil l10; clear hl l0 l1 l2 l3 l4 l5 l6 l7 l8 l9 l10
      simp only [factsR, atR, List.getElem?_cons_succ, List.getElem?_cons_zero, Rel.one, Rel.blk] at hd
      obtain ⟨rfl, rfl, -⟩ := hd
      simp only [putAll, Act.put, List.setIfInBounds_toArray, List.set_cons_succ, List.set_cons_zero]
      go_wp2_with fail
      exact rely_done _ rfl rfl (Ext.refl _) hI
     ·intro vs W hl hI hd ho
      obtain ⟨x0, v0, rfl, l0⟩ := len_cons hl; obtain ⟨x1, v1, rfl, l1⟩ := len_cons l0; obtain ⟨x2, v2, rfl, l2⟩ := len_cons l1; obtain ⟨x3, v3, rfl, l3⟩ := len_cons l2; obtain ⟨x4, v4, rfl, l4⟩ := len_cons l3; obtain ⟨x5, v5, rfl, l5⟩ := len_cons l4; obtain ⟨x6, v6, rfl, l6⟩ := len_cons l5; obtain ⟨x7, v7, rfl, l7⟩ := len_cons l6; obtain ⟨x8, v8, rfl, l8⟩ := len_cons l7; obtain ⟨x9, v9, rfl, l9⟩ := len_cons l8; obtain ⟨x10, v10, rfl, l10⟩ := len_cons l9; obtain rfl := len_nil l10; clear hl l0 l1 l2 l3 l4 l5 l6 l7 l8 l9 l10
      simp only [factsR, atR, List.getElem?_cons_succ, List.getElem?_cons_zero, Rel.one, Rel.blk] at hd
      obtain ⟨rfl, rfl, rfl, -⟩ := hd
      simp only [putAll, Act.put, List.setIfInBounds_toArray, List.set_cons_succ, List.set_cons_zero]
      go_wp2_with fail
      exact rely_done _ rfl rfl (Ext.refl _) hI
     ·intro vs W hl hI hd ho
      obtain ⟨x0, v0, rfl, l0⟩ := len_cons hl; obtain ⟨x1, v1, rfl, l1⟩ := len_cons l0; obtain ⟨x2, v2, rfl, l2⟩ := len_cons l1; obtain ⟨x3, v3, rfl, l3⟩ := len_cons l2; obtain ⟨x4, v4, rfl, l4⟩ := len_cons l3; obtain ⟨x5, v5, rfl, l5⟩ := len_cons l4; obtain ⟨x6, v6, rfl, l6⟩ := len_cons l5; obtain ⟨x7, v7, rfl, l7⟩ := len_cons l6; obtain ⟨x8, v8, rfl, l8⟩ := len_cons l7; obtain ⟨x9, v9, rfl, l9⟩ := len_cons l8; obtain ⟨x10, v10, rfl, l10⟩ := len_cons l9; obtain rfl := len_nil l10; clear hl l0 l1 l2 l3 l4 l5 l6 l7 l8 l9 l10
      simp only [factsR, atR, List.getElem?_cons_succ, List.getElem?_cons_zero, Rel.one, Rel.blk] at hd
      obtain ⟨rfl, rfl, rfl, rfl, -⟩ := hd
      simp only [putAll, Act.put, List.setIfInBounds_toArray, List.set_cons_succ, List.set_cons_zero]
      go_wp2_with fail
      exact rely_done _ rfl ⟨_, rfl, World.alloc_heap_new W _⟩ ((Ext.refl W).alloc _) (hI.alloc _)
     ·intro vs W hl hI hd ho
      obtain ⟨x0, v0, rfl, l0⟩ := len_cons hl; obtain ⟨x1, v1, rfl, l1⟩ := len_cons l0; obtain ⟨x2, v2, rfl, l2⟩ := len_cons l1; obtain ⟨x3, v3, rfl, l3⟩ := len_cons l2; obtain ⟨x4, v4, rfl, l4⟩ := len_cons l3; obtain ⟨x5, v5, rfl, l5⟩ := len_cons l4; obtain ⟨x6, v6, rfl, l6⟩ := len_cons l5; obtain ⟨x7, v7, rfl, l7⟩ := len_cons l6; obtain ⟨x8, v8, rfl, l8⟩ := len_cons l7; obtain ⟨x9, v9, rfl, l9⟩ := len_cons l8; obtain ⟨x10, v10, rfl, l10⟩ := len_cons l9; obtain rfl := len_nil l10; clear hl l0 l1 l2 l3 l4 l5 l6 l7 l8 l9 l10
      simp only [factsR, atR, List.getElem?_cons_succ, List.getElem?_cons_zero, Rel.one, Rel.blk] at hd
      obtain ⟨rfl, rfl, rfl, rfl, ⟨b, rfl, hb⟩, -⟩ := hd
      simp only [putAll, Act.put, List.setIfInBounds_toArray, List.set_cons_succ, List.set_cons_zero]
      have hcvb := conv_at W b (UInt8.ofNat (48 - r).toNat) (48 - r) (by rw [UInt8.toNat_ofNat']; omega) hb; go_wp2_with fail
      exact rely_done _ rfl rfl (Ext.refl _) hI
     ·intro vs W hl hI hd ho
      obtain ⟨x0, v0, rfl, l0⟩ := len_cons hl; obtain ⟨x1, v1, rfl, l1⟩ := len_cons l0; obtain ⟨x2, v2, rfl, l2⟩ := len_cons l1; obtain ⟨x3, v3, rfl, l3⟩ := len_cons l2; obtain ⟨x4, v4, rfl, l4⟩ := len_cons l3; obtain ⟨x5, v5, rfl, l5⟩ := len_cons l4; obtain ⟨x6, v6, rfl, l6⟩ := len_cons l5; obtain ⟨x7, v7, rfl, l7⟩ := len_cons l6; obtain ⟨x8, v8, rfl, l8⟩ := len_cons l7; obtain ⟨x9, v9, rfl, l9⟩ := len_cons l8; obtain ⟨x10, v10, rfl, l10⟩ := len_cons l9; obtain rfl := len_nil l10; clear hl l0 l1 l2 l3 l4 l5 l6 l7 l8 l9 l10
      simp only [factsR, atR, List.getElem?_cons_succ, List.getElem?_cons_zero, Rel.one, Rel.blk] at hd
      obtain ⟨rfl, rfl, rfl, rfl, rfl, rfl, rfl, ⟨b, rfl, hb⟩, rfl, -⟩ := hd
      simp only [putAll, Act.put, List.setIfInBounds_toArray, List.set_cons_succ, List.set_cons_zero]
      have hl9 : ¬ (9223372036854775807 < (Lib.itoa q).length + 1) := by omega
      go_wp2_with fail
      exact rely_done _ rfl rfl (Ext.refl _) hI
     ·intro vs W hl hI hd ho
      obtain ⟨x0, v0, rfl, l0⟩ := len_cons hl; obtain ⟨x1, v1, rfl, l1⟩ := len_cons l0; obtain ⟨x2, v2, rfl, l2⟩ := len_cons l1; obtain ⟨x3, v3, rfl, l3⟩ := len_cons l2; obtain ⟨x4, v4, rfl, l4⟩ := len_cons l3; obtain ⟨x5, v5, rfl, l5⟩ := len_cons l4; obtain ⟨x6, v6, rfl, l6⟩ := len_cons l5; obtain ⟨x7, v7, rfl, l7⟩ := len_cons l6; obtain ⟨x8, v8, rfl, l8⟩ := len_cons l7; obtain ⟨x9, v9, rfl, l9⟩ := len_cons l8; obtain ⟨x10, v10, rfl, l10⟩ := len_cons l9; obtain rfl := len_nil l10; clear hl l0 l1 l2 l3 l4 l5 l6 l7 l8 l9 l10
      simp only [factsR, atR, List.getElem?_cons_succ, List.getElem?_cons_zero, Rel.one, Rel.blk] at hd
      obtain ⟨rfl, rfl, rfl, rfl, rfl, rfl, rfl, ⟨b, rfl, hb⟩, rfl, rfl, -⟩ := hd
      simp only [putAll, Act.put, List.setIfInBounds_toArray, List.set_cons_succ, List.set_cons_zero]
      go_wp2_with fail
      exact rely_done _ rfl rfl (Ext.refl _) hI
    ·intro vs W hl hI hd
     obtain ⟨x0, v0, rfl, l0⟩ := len_cons hl; obtain ⟨x1, v1, rfl, l1⟩ := len_cons l0; obtain ⟨x2, v2, rfl, l2⟩ := len_cons l1; obtain ⟨x3, v3, rfl, l3⟩ := len_cons l2; obtain ⟨x4, v4, rfl, l4⟩ := len_cons l3; obtain ⟨x5, v5, rfl, l5⟩ := len_cons l4; obtain ⟨x6, v6, rfl, l6⟩ := len_cons l5; obtain ⟨x7, v7, rfl, l7⟩ := len_cons l6; obtain ⟨x8, v8, rfl, l8⟩ := len_cons l7; obtain ⟨x9, v9, rfl, l9⟩ := len_cons l8; obtain ⟨x10, v10, rfl, l10⟩ := len_cons l9; obtain rfl := len_nil l10; clear hl l0 l1 l2 l3 l4 l5 l6 l7 l8 l9 l10
     simp only [List.length_cons, List.length_nil, List.range, List.range.loop, Nat.zero_add, Nat.reduceAdd, factsR, atR, List.getElem?_cons_succ, List.getElem?_cons_zero, Rel.one, Rel.blk] at hd
     obtain ⟨rfl, rfl, rfl, rfl, rfl, rfl, rfl, ⟨b, rfl, hb⟩, rfl, rfl, rfl, -⟩ := hd
     simp only [putAll, Act.put, List.setIfInBounds_toArray, List.set_cons_succ, List.set_cons_zero]
     go_wp2_with fail
     go_ret
     exact ⟨by rw [ba_app]; rfl, hI⟩
  ·by_cases hs : n < 10
   ·have hcv := conv_one w (UInt8.ofNat (48 + n).toNat) (48 + n) (by rw [UInt8.toNat_ofNat']; omega)
    rw [itoa_one (by omega) hs]
    clear ih hm
    go_enter Tryz.func113, Tryz.ntmps113
    go_wp2_with fail
    go_ret
    exact ⟨rfl, (Ext.refl w).alloc _⟩
   ·have hb : n.tdiv 10 = n / 10 ∧ n.tmod 10 = n % 10 ∧ (n / 10).natAbs < m := by
     obtain ⟨u, rfl⟩ : ∃ u : Nat, n = (u : Int) := ⟨n.natAbs, by omega⟩
     rw [show (u : Int).tdiv 10 = ((u / 10 : Nat) : Int) from rfl, show (u : Int).tmod 10 = ((u % 10 : Nat) : Int) from rfl]; omega
    obtain ⟨b1, b2, b5⟩ := hb
    have hcv := fun W => conv_one W (UInt8.ofNat (48 + n % 10).toNat) (48 + n % 10) (by rw [UInt8.toNat_ofNat']; omega)
    have hih := fun W => ih _ b5 (n / 10) rfl (by omega) (by omega) W
    rw [itoa_pos (by omega)]
    have HIH := Lib.hid hih
    have b6 : 0 ≤ n % 10 ∧ n % 10 < 10 ∧ 0 ≤ n / 10 ∧ n / 10 ≤ n := by omega
    clear ih hm b5 hih
    generalize hq : n / 10 = q at *
    generalize hr : n % 10 = r at *
    have hlen := Lib.itoa_length_le q (by omega) (by omega)
    obtain ⟨c1, c2, c3, c4⟩ := b6
    go_enter Tryz.func113, Tryz.ntmps113
    go_wp2_with fail
    refine region_rely (S := Ext) (fun W => Ext w W) [some 31, some 32, some 33, some 34, some 35, some 36, some 37, some 38, some 39, some 40, some 2] [[], [0], [0, 1], [], [3], [3, 4], [3, 4, 5], [3, 4, 5, 6], [3, 4, 5, 6, 7], [0, 1, 2, 3, 4, 5, 6, 7, 8], [0, 1, 2, 3, 4, 5, 6, 7, 8, 9]] [[], [], [], [], [], [], [], [], [], [], []] [.one (.int .i64 n), .one (.int .i64 q), .one (.string ⟨(Lib.itoa q).toArray⟩), .one (.int .i64 n), .one (.int .i64 r), .one (.int .i64 (48 + r)), .one (.int .u8 (48 + r)), .blk #[.int .u8 (48 + r)] 5 (fun b => .slice (some ⟨b, 0, none⟩) 1 1), .one (.string ⟨#[UInt8.ofNat (48 + r).toNat]⟩), .one (.string (⟨(Lib.itoa q).toArray⟩ ++ ⟨#[UInt8.ofNat (48 + r).toNat]⟩)), .one (.string (⟨(Lib.itoa q).toArray⟩ ++ ⟨#[UInt8.ofNat (48 + r).toNat]⟩))] (by kernel_rfl) (by kernel_rfl) (Ext.refl w).drew ?_ ?_
    ·refine stepsR_cons ?_ (stepsR_cons ?_ (stepsR_cons ?_ (stepsR_cons ?_ (stepsR_cons ?_ (stepsR_cons ?_ (stepsR_cons ?_ (stepsR_cons ?_ (stepsR_cons ?_ (stepsR_cons ?_ (stepsR_cons ?_ (trivial)))))))))))
     ·intro vs W hl hI hd ho
      obtain ⟨x0, v0, rfl, l0⟩ := len_cons hl; obtain ⟨x1, v1, rfl, l1⟩ := len_cons l0; obtain ⟨x2, v2, rfl, l2⟩ := len_cons l1; obtain ⟨x3, v3, rfl, l3⟩ := len_cons l2; obtain ⟨x4, v4, rfl, l4⟩ := len_cons l3; obtain ⟨x5, v5, rfl, l5⟩ := len_cons l4; obtain ⟨x6, v6, rfl, l6⟩ := len_cons l5; obtain ⟨x7, v7, rfl, l7⟩ := len_cons l6; obtain ⟨x8, v8, rfl, l8⟩ := len_cons l7; obtain ⟨x9, v9, rfl, l9⟩ := len_cons l8; obtain ⟨x10, v10, rfl, l10⟩ := len_cons l9; obtain rfl := len_nil l10; clear hl l0 l1 l2 l3 l4 l5 l6 l7 l8 l9 l10
      simp only [factsR, atR, List.getElem?_cons_succ, List.getElem?_cons_zero, Rel.one, Rel.blk] at hd
      obtain ⟨-⟩ := hd
      simp only [putAll, Act.put, List.setIfInBounds_toArray, List.set_cons_succ, List.set_cons_zero]
      go_wp2_with fail
      exact rely_done _ rfl rfl (Ext.refl _) hI
     ·intro vs W hl hI hd ho
      obtain ⟨x0, v0, rfl, l0⟩ := len_cons hl; obtain ⟨x1, v1, rfl, l1⟩ := len_cons l0; obtain ⟨x2, v2, rfl, l2⟩ := len_cons l1; obtain ⟨x3, v3, rfl, l3⟩ := len_cons l2; obtain ⟨x4, v4, rfl, l4⟩ := len_cons l3; obtain ⟨x5, v5, rfl, l5⟩ := len_cons l4; obtain ⟨x6, v6, rfl, l6⟩ := len_cons l5; obtain ⟨x7, v7, rfl, l7⟩ := len_cons l6; obtain ⟨x8, v8, rfl, l8⟩ := len_cons l7; obtain ⟨x9, v9, rfl, l9⟩ := len_cons l8; obtain ⟨x10, v10, rfl, l10⟩ := len_cons l9; obtain rfl := len_nil l10; clear hl l0 l1 l2 l3 l4 l5 l6 l7 l8 l9 l10
      simp only [factsR, atR, List.getElem?_cons_succ, List.getElem?_cons_zero, Rel.one, Rel.blk] at hd
      obtain ⟨rfl, -⟩ := hd
      simp only [putAll, Act.put, List.setIfInBounds_toArray, List.set_cons_succ, List.set_cons_zero]
      go_wp2_with fail
      exact rely_done _ rfl rfl (Ext.refl _) hI
     ·intro vs W hl hI hd ho
      obtain ⟨x0, v0, rfl, l0⟩ := len_cons hl; obtain ⟨x1, v1, rfl, l1⟩ := len_cons l0; obtain ⟨x2, v2, rfl, l2⟩ := len_cons l1; obtain ⟨x3, v3, rfl, l3⟩ := len_cons l2; obtain ⟨x4, v4, rfl, l4⟩ := len_cons l3; obtain ⟨x5, v5, rfl, l5⟩ := len_cons l4; obtain ⟨x6, v6, rfl, l6⟩ := len_cons l5; obtain ⟨x7, v7, rfl, l7⟩ := len_cons l6; obtain ⟨x8, v8, rfl, l8⟩ := len_cons l7; obtain ⟨x9, v9, rfl, l9⟩ := len_cons l8; obtain ⟨x10, v10, rfl, l10⟩ := len_cons l9; obtain rfl := len_nil l10; clear hl l0 l1 l2 l3 l4 l5 l6 l7 l8 l9 l10
      simp only [factsR, atR, List.getElem?_cons_succ, List.getElem?_cons_zero, Rel.one, Rel.blk] at hd
      obtain ⟨rfl, rfl, -⟩ := hd
      simp only [putAll, Act.put, List.setIfInBounds_toArray, List.set_cons_succ, List.set_cons_zero]
      go_wp2_with (go_at_call 113; refine (HIH.out _).mono ?_; rintro e w1 ⟨rfl, hE1⟩)
      exact rely_done _ rfl rfl hE1 (hI.trans hE1)
     ·intro vs W hl hI hd ho
      obtain ⟨x0, v0, rfl, l0⟩ := len_cons hl; obtain ⟨x1, v1, rfl, l1⟩ := len_cons l0; obtain ⟨x2, v2, rfl, l2⟩ := len_cons l1; obtain ⟨x3, v3, rfl, l3⟩ := len_cons l2; obtain ⟨x4, v4, rfl, l4⟩ := len_cons l3; obtain ⟨x5, v5, rfl, l5⟩ := len_cons l4; obtain ⟨x6, v6, rfl, l6⟩ := len_cons l5; obtain ⟨x7, v7, rfl, l7⟩ := len_cons l6; obtain ⟨x8, v8, rfl, l8⟩ := len_cons l7; obtain ⟨x9, v9, rfl, l9⟩ := len_cons l8; obtain ⟨x10, v10, rfl, l10⟩ := len_cons l9; obtain rfl := len_nil l10; clear hl l0 l1 l2 l3 l4 l5 l6 l7 l8 l9 l10
      simp only [factsR, atR, List.getElem?_cons_succ, List.getElem?_cons_zero, Rel.one, Rel.blk] at hd
      obtain ⟨-⟩ := hd
      simp only [putAll, Act.put, List.setIfInBounds_toArray, List.set_cons_succ, List.set_cons_zero]
      go_wp2_with fail
      exact rely_done _ rfl rfl (Ext.refl _) hI
     ·intro vs W hl hI hd ho
      obtain ⟨x0, v0, rfl, l0⟩ := len_cons hl; obtain ⟨x1, v1, rfl, l1⟩ := len_cons l0; obtain ⟨x2, v2, rfl, l2⟩ := len_cons l1; obtain ⟨x3, v3, rfl, l3⟩ := len_cons l2; obtain ⟨x4, v4, rfl, l4⟩ := len_cons l3; obtain ⟨x5, v5, rfl, l5⟩ := len_cons l4; obtain ⟨x6, v6, rfl, l6⟩ := len_cons l5; obtain ⟨x7, v7, rfl, l7⟩ := len_cons l6; obtain ⟨x8, v8, rfl, l8⟩ := len_cons l7; obtain ⟨x9, v9, rfl, l9⟩ := len_cons l8; obtain ⟨x10, v10, rfl, l10⟩ := len_cons l9; obtain rfl := len_nil l10; clear hl l0 l1 l2 l3 l4 l5 l6 l7 l8 l9 l10
      simp only [factsR, atR, List.getElem?_cons_succ, List.getElem?_cons_zero, Rel.one, Rel.blk] at hd
      obtain ⟨rfl, -⟩ := hd
      simp only [putAll, Act.put, List.setIfInBounds_toArray, List.set_cons_succ, List.set_cons_zero]
      go_wp2_with fail
      exact rely_done _ rfl rfl (Ext.refl _) hI
     ·intro vs W hl hI hd ho
      obtain ⟨x0, v0, rfl, l0⟩ := len_cons hl; obtain ⟨x1, v1, rfl, l1⟩ := len_cons l0; obtain ⟨x2, v2, rfl, l2⟩ := len_cons l1; obtain ⟨x3, v3, rfl, l3⟩ := len_cons l2; obtain ⟨x4, v4, rfl, l4⟩ := len_cons l3; obtain ⟨x5, v5, rfl, l5⟩ := len_cons l4; obtain ⟨x6, v6, rfl, l6⟩ := len_cons l5; obtain ⟨x7, v7, rfl, l7⟩ := len_cons l6; obtain ⟨x8, v8, rfl, l8⟩ := len_cons l7; obtain ⟨x9, v9, rfl, l9⟩ := len_cons l8; obtain ⟨x10, v10, rfl, l10⟩ := len_cons l9; obtain rfl := len_nil l10; clear hl l0 l1 l2 l3 l4 l5 l6 l7 l8 l9 l10
      simp only [factsR, atR, List.getElem?_cons_succ, List.getElem?_cons_zero, Rel.one, Rel.blk] at hd
      obtain ⟨rfl, rfl, -⟩ := hd
      simp only [putAll, Act.put, List.setIfInBounds_toArray, List.set_cons_succ, List.set_cons_zero]
      go_wp2_with fail
      exact rely_done _ rfl rfl (Ext.refl _) hI
     ·intro vs W hl hI hd ho
      obtain ⟨x0, v0, rfl, l0⟩ := len_cons hl; obtain ⟨x1, v1, rfl, l1⟩ := len_cons l0; obtain ⟨x2, v2, rfl, l2⟩ := len_cons l1; obtain ⟨x3, v3, rfl, l3⟩ := len_cons l2; obtain ⟨x4, v4, rfl, l4⟩ := len_cons l3; obtain ⟨x5, v5, rfl, l5⟩ := len_cons l4; obtain ⟨x6, v6, rfl, l6⟩ := len_cons l5; obtain ⟨x7, v7, rfl, l7⟩ := len_cons l6; obtain ⟨x8, v8, rfl, l8⟩ := len_cons l7; obtain ⟨x9, v9, rfl, l9⟩ := len_cons l8; obtain ⟨x10, v10, rfl, l10⟩ := len_cons l9; obtain rfl := len_nil l10; clear hl l0 l1 l2 l3 l4 l5 l6 l7 l8 l9 l10
      simp only [factsR, atR, List.getElem?_cons_succ, List.getElem?_cons_zero, Rel.one, Rel.blk] at hd
      obtain ⟨rfl, rfl, rfl, -⟩ := hd
      simp only [putAll, Act.put, List.setIfInBounds_toArray, List.set_cons_succ, List.set_cons_zero]
      go_wp2_with fail
      exact rely_done _ rfl rfl (Ext.refl _) hI
     ·intro vs W hl hI hd ho
      obtain ⟨x0, v0, rfl, l0⟩ := len_cons hl; obtain ⟨x1, v1, rfl, l1⟩ := len_cons l0; obtain ⟨x2, v2, rfl, l2⟩ := len_cons l1; obtain ⟨x3, v3, rfl, l3⟩ := len_cons l2; obtain ⟨x4, v4, rfl, l4⟩ := len_cons l3; obtain ⟨x5, v5, rfl, l5⟩ := len_cons l4; obtain ⟨x6, v6, rfl, l6⟩ := len_cons l5; obtain ⟨x7, v7, rfl, l7⟩ := len_cons l6; obtain ⟨x8, v8, rfl, l8⟩ := len_cons l7; obtain ⟨x9, v9, rfl, l9⟩ := len_cons l8; obtain ⟨x10, v10, rfl, l10⟩ := len_cons l9; obtain rfl := len_nil l10; clear hl l0 l1 l2 l3 l4 l5 l6 l7 l8 l9 l10
      simp only [factsR, atR, List.getElem?_cons_succ, List.getElem?_cons_zero, Rel.one, Rel.blk] at hd
      obtain ⟨rfl, rfl, rfl, rfl, -⟩ := hd
      simp only [putAll, Act.put, List.setIfInBounds_toArray, List.set_cons_succ, List.set_cons_zero]
      go_wp2_with fail
      exact rely_done _ rfl ⟨_, rfl, World.alloc_heap_new W _⟩ ((Ext.refl W).alloc _) (hI.alloc _)
     ·intro vs W hl hI hd ho
      obtain ⟨x0, v0, rfl, l0⟩ := len_cons hl; obtain ⟨x1, v1, rfl, l1⟩ := len_cons l0; obtain ⟨x2, v2, rfl, l2⟩ := len_cons l1; obtain ⟨x3, v3, rfl, l3⟩ := len_cons l2; obtain ⟨x4, v4, rfl, l4⟩ := len_cons l3; obtain ⟨x5, v5, rfl, l5⟩ := len_cons l4; obtain ⟨x6, v6, rfl, l6⟩ := len_cons l5; obtain ⟨x7, v7, rfl, l7⟩ := len_cons l6; obtain ⟨x8, v8, rfl, l8⟩ := len_cons l7; obtain ⟨x9, v9, rfl, l9⟩ := len_cons l8; obtain ⟨x10, v10, rfl, l10⟩ := len_cons l9; obtain rfl := len_nil l10; clear hl l0 l1 l2 l3 l4 l5 l6 l7 l8 l9 l10
      simp only [factsR, atR, List.getElem?_cons_succ, List.getElem?_cons_zero, Rel.one, Rel.blk] at hd
      obtain ⟨rfl, rfl, rfl, rfl, ⟨b, rfl, hb⟩, -⟩ := hd
      simp only [putAll, Act.put, List.setIfInBounds_toArray, List.set_cons_succ, List.set_cons_zero]
      have hcvb := conv_at W b (UInt8.ofNat (48 + r).toNat) (48 + r) (by rw [UInt8.toNat_ofNat']; omega) hb; go_wp2_with fail
      exact rely_done _ rfl rfl (Ext.refl _) hI
     ·intro vs W hl hI hd ho
      obtain ⟨x0, v0, rfl, l0⟩ := len_cons hl; obtain ⟨x1, v1, rfl, l1⟩ := len_cons l0; obtain ⟨x2, v2, rfl, l2⟩ := len_cons l1; obtain ⟨x3, v3, rfl, l3⟩ := len_cons l2; obtain ⟨x4, v4, rfl, l4⟩ := len_cons l3; obtain ⟨x5, v5, rfl, l5⟩ := len_cons l4; obtain ⟨x6, v6, rfl, l6⟩ := len_cons l5; obtain ⟨x7, v7, rfl, l7⟩ := len_cons l6; obtain ⟨x8, v8, rfl, l8⟩ := len_cons l7; obtain ⟨x9, v9, rfl, l9⟩ := len_cons l8; obtain ⟨x10, v10, rfl, l10⟩ := len_cons l9; obtain rfl := len_nil l10; clear hl l0 l1 l2 l3 l4 l5 l6 l7 l8 l9 l10
      simp only [factsR, atR, List.getElem?_cons_succ, List.getElem?_cons_zero, Rel.one, Rel.blk] at hd
      obtain ⟨rfl, rfl, rfl, rfl, rfl, rfl, rfl, ⟨b, rfl, hb⟩, rfl, -⟩ := hd
      simp only [putAll, Act.put, List.setIfInBounds_toArray, List.set_cons_succ, List.set_cons_zero]
      have hl9 : ¬ (9223372036854775807 < (Lib.itoa q).length + 1) := by omega
      go_wp2_with fail
      exact rely_done _ rfl rfl (Ext.refl _) hI
     ·intro vs W hl hI hd ho
      obtain ⟨x0, v0, rfl, l0⟩ := len_cons hl; obtain ⟨x1, v1, rfl, l1⟩ := len_cons l0; obtain ⟨x2, v2, rfl, l2⟩ := len_cons l1; obtain ⟨x3, v3, rfl, l3⟩ := len_cons l2; obtain ⟨x4, v4, rfl, l4⟩ := len_cons l3; obtain ⟨x5, v5, rfl, l5⟩ := len_cons l4; obtain ⟨x6, v6, rfl, l6⟩ := len_cons l5; obtain ⟨x7, v7, rfl, l7⟩ := len_cons l6; obtain ⟨x8, v8, rfl, l8⟩ := len_cons l7; obtain ⟨x9, v9, rfl, l9⟩ := len_cons l8; obtain ⟨x10, v10, rfl, l10⟩ := len_cons l9; obtain rfl := len_nil l10; clear hl l0 l1 l2 l3 l4 l5 l6 l7 l8 l9 l10
      simp only [factsR, atR, List.getElem?_cons_succ, List.getElem?_cons_zero, Rel.one, Rel.blk] at hd
      obtain ⟨rfl, rfl, rfl, rfl, rfl, rfl, rfl, ⟨b, rfl, hb⟩, rfl, rfl, -⟩ := hd
      simp only [putAll, Act.put, List.setIfInBounds_toArray, List.set_cons_succ, List.set_cons_zero]
      go_wp2_with fail
      exact rely_done _ rfl rfl (Ext.refl _) hI
    ·intro vs W hl hI hd
     obtain ⟨x0, v0, rfl, l0⟩ := len_cons hl; obtain ⟨x1, v1, rfl, l1⟩ := len_cons l0; obtain ⟨x2, v2, rfl, l2⟩ := len_cons l1; obtain ⟨x3, v3, rfl, l3⟩ := len_cons l2; obtain ⟨x4, v4, rfl, l4⟩ := len_cons l3; obtain ⟨x5, v5, rfl, l5⟩ := len_cons l4; obtain ⟨x6, v6, rfl, l6⟩ := len_cons l5; obtain ⟨x7, v7, rfl, l7⟩ := len_cons l6; obtain ⟨x8, v8, rfl, l8⟩ := len_cons l7; obtain ⟨x9, v9, rfl, l9⟩ := len_cons l8; obtain ⟨x10, v10, rfl, l10⟩ := len_cons l9; obtain rfl := len_nil l10; clear hl l0 l1 l2 l3 l4 l5 l6 l7 l8 l9 l10
     simp only [List.length_cons, List.length_nil, List.range, List.range.loop, Nat.zero_add, Nat.reduceAdd, factsR, atR, List.getElem?_cons_succ, List.getElem?_cons_zero, Rel.one, Rel.blk] at hd
     obtain ⟨rfl, rfl, rfl, rfl, rfl, rfl, rfl, ⟨b, rfl, hb⟩, rfl, rfl, rfl, -⟩ := hd
     simp only [putAll, Act.put, List.setIfInBounds_toArray, List.set_cons_succ, List.set_cons_zero]
     go_wp2_with fail
     go_ret
     exact ⟨by rw [ba_app]; rfl, hI⟩
open Go.RowKit Go.Sort
theorem Sl.cellsAt {k : IntKind} {w : World} {b off n c : Nat} {xs : List Int} (h : Sl k w (some ⟨b, off, none⟩) n c xs) : ∀ j u, (xs.map (Value.int k))[j]? = some u → w.cell? ((⟨b, off, none⟩ : Addr).add j) = some u := by
 intro j u hj
 have hjl : j < xs.length := by
  have := (List.getElem?_eq_some_iff.1 hj).1
  simpa using this
 obtain ⟨b', off', he, hc⟩ := h.cells j (by rw [← h.hlen]; exact hjl)
 simp only [Option.some.injEq, Addr.mk.injEq, and_true] at he
 obtain ⟨rfl, rfl⟩ := he
 have hadd : (⟨b, off, none⟩ : Addr).add j = ⟨b, off + j, none⟩ := by unfold Addr.add; split <;> simp_all
 rw [hadd, hc]
 simp [hjl] at hj
 rw [← hj]
 simp [nth, List.getD_eq_getElem?_getD, hjl]
theorem ext_of_grown {w w' : World} (h : w.grownBy w' none) : Ext w w' := (Below.refl w.heap.size w).grown h (Nat.le_refl _) (fun k hk => by cases hk)
theorem appF {P : Program} {T E : TypeId} {k : IntKind} {by_ : Nat} (hE : ElT P T E (.int k 0) 1 by_) {ops : Array Oper} {rest : List Oper} {o : Oper} {a : Act} {Q : Exit → Act → World → Prop} (hgd : o.guard = none) (s x : Operand)
  (ho : o.op = .call { callee := .builtin .append, args := #[s, x], argTypes := #[T, T] })
  (w : World) (b off n : Nat) (xs : List Int) (hs : a.eval s = .slice (some ⟨b, off, none⟩) n n) (hsl : Sl k w (some ⟨b, off, none⟩) n n xs)
  (tb toff m tc : Nat) (ys : List Int) (hx : a.eval x = .slice (some ⟨tb, toff, none⟩) m tc) (ht : Sl k w (some ⟨tb, toff, none⟩) m tc ys) (hm : 0 < m) (h63 : n + m ≤ maxLen) (hbytes : (n + m) * by_ ≤ 140737488355328)
  (h : ∀ g cap w', OwI k E w.heap.size w' (some ⟨g, 0, none⟩) (n + m) cap (xs ++ ys) → Ext w w' → wpList P ops Q rest (a.put o.dst (.slice (some ⟨g, 0, none⟩) (n + m) cap)) w') :
  wpList P ops Q (o :: rest) a w := by
 obtain ⟨hT, hI⟩ := hE
 obtain ⟨i, hi, hz, hsz, hby⟩ := info_parts hI
 refine wpList_append_grows w hgd s x T ho E i (.int k 0) 1 by_ hT hi hz hsz hby rfl (by decide) (some ⟨b, off, none⟩) n n (xs.map (Value.int k)) hs (fun e => by cases e) (by simp [hsl.hlen])
  (fun b' hb => by cases hb; exact hsl.cellsAt) ⟨tb, toff, none⟩ m tc (ys.map (Value.int k)) hx (by simp [ht.hlen]) ht.cellsAt ?_ (by omega) h63 hbytes fun v' w' hown hg => ?_
 ·intro u hu
  simp only [List.mem_map] at hu
  obtain ⟨x, _, rfl⟩ := hu
  simp [Value.oneCell']
 ·rcases hown.2 with ⟨_, h0⟩ | ⟨g, cap, cur, hv, _⟩
  ·omega
  ·subst hv
   refine h g cap w' ?_ (ext_of_grown hg)
   unfold OwI
   rw [List.map_append]
   exact hown
theorem appFs {P : Program} {T E U : TypeId} (hE : ElT P T E (.int .u8 0) 1 1) (hU : P.underlying U = some .string) {ops : Array Oper} {rest : List Oper} {o : Oper} {a : Act} {Q : Exit → Act → World → Prop} (hgd : o.guard = none) (s x : Operand)
  (ho : o.op = .call { callee := .builtin .append, args := #[s, x], argTypes := #[T, U] })
  (w : World) (b off n : Nat) (xs : List Int) (hs : a.eval s = .slice (some ⟨b, off, none⟩) n n) (hsl : Sl .u8 w (some ⟨b, off, none⟩) n n xs)
  (t : List UInt8) (hx : a.eval x = .string ⟨t.toArray⟩) (hm : 0 < t.length) (hlim : n + t.length ≤ 140737488355328)
  (h : ∀ g cap w', OwI .u8 E w.heap.size w' (some ⟨g, 0, none⟩) (n + t.length) cap (xs ++ t.map fun b => (b.toNat : Int)) → Ext w w' → wpList P ops Q rest (a.put o.dst (.slice (some ⟨g, 0, none⟩) (n + t.length) cap)) w') :
  wpList P ops Q (o :: rest) a w := by
 obtain ⟨hT, hI⟩ := hE
 obtain ⟨i, hi, hz, hsz, hby⟩ := info_parts hI
 have hsz' : (⟨t.toArray⟩ : ByteArray).size = t.length := by simp [ByteArray.size]
 have hsc : Lib.strCells ⟨t.toArray⟩ = (t.map fun b => (b.toNat : Int)).map (Value.int .u8) := by simp [Lib.strCells, List.map_map, Function.comp_def]
 have hr := Lib.run_append_grow_string (P := P) w T U o.type E i (.int .u8 0) hT hU hi hz ⟨b, off, none⟩ n n (xs.map (Value.int .u8)) (by rw [hsz]; simp [hsl.hlen]) hsl.cellsAt ⟨t.toArray⟩ (by omega) (by omega) (by rw [hby]; exact growslice_fits (by omega) (by omega))
 rw [hsz', hsc] at hr
 have hge := grownCap_ge w (n + t.length) n E
 have hcm : grownCap w (n + t.length) n E ≤ maxLen := grownCap_le_maxLen w (n + t.length) n E (by unfold maxLen; omega)
 have hl : (xs ++ t.map fun b => (b.toNat : Int)).length = n + t.length := by simp [hsl.hlen]
 refine wpList_plain hgd fun K hK => ?_
 unfold Oper.wp execOp
 simp only [ho, resolve, invoke, builtin, Sem.run_bind, Sem.run_pure, Result.andThen_ok, List.map_toArray, List.map_cons, List.map_nil, hs, hx, hr]
 refine hK _ _ (h _ _ _ ⟨by simp [hsl.hlen], .inr ⟨w.heap.size, _, _, rfl, Nat.le_refl _, heap_alloc_new w.drew _, hge, hcm, ?_, ?_⟩⟩ (((Ext.refl w).drew).alloc _))
 ·have hz1 : (Value.int IntKind.u8 0).cells.size = 1 := rfl
  simp only [Array.size_append, List.size_toArray, size_zeroCells, hz1, List.length_map, hsl.hlen]
  omega
 ·simp only [Array.toList_append, List.append_assoc]
  rw [← List.append_assoc, ← List.map_append, show (n + t.length) * 1 = ((xs ++ t.map fun b => (b.toNat : Int)).map (Value.int .u8)).length from by rw [List.length_map, hl, Nat.mul_one]]
  exact List.take_left
theorem appSs {P : Program} {T E U : TypeId} (hE : ElT P T E (.int .u8 0) 1 1) (hU : P.underlying U = some .string) {ops : Array Oper} {rest : List Oper} {o : Oper} {a : Act} {Q : Exit → Act → World → Prop} (hgd : o.guard = none) (s x : Operand)
  (ho : o.op = .call { callee := .builtin .append, args := #[s, x], argTypes := #[T, U] })
  (w : World) (base : Nat) (sa : Option Addr) (n c : Nat) (xs : List Int) (hs : a.eval s = .slice sa n c) (hown : OwI .u8 E base w sa n c xs)
  (t : List UInt8) (hx : a.eval x = .string ⟨t.toArray⟩) (hbase : base ≤ w.heap.size) (hlim : n + t.length ≤ 140737488355328)
  (h : ∀ a' cap w', OwI .u8 E base w' a' (n + t.length) cap (xs ++ t.map fun b => (b.toNat : Int)) → Below base w w' → wpList P ops Q rest (a.put o.dst (.slice a' (n + t.length) cap)) w') :
  wpList P ops Q (o :: rest) a w := by
 obtain ⟨hT, hI⟩ := hE
 obtain ⟨i, hi, hz, hsz, hby⟩ := info_parts hI
 have hsz' : (⟨t.toArray⟩ : ByteArray).size = t.length := by simp [ByteArray.size]
 have hsc : Lib.strCells ⟨t.toArray⟩ = (t.map fun b => (b.toNat : Int)).map (Value.int .u8) := by simp [Lib.strCells, List.map_map, Function.comp_def]
 refine Lib.wpList_append_own_string w hgd s x T U ho base E i hT hU hi hz hsz hby _ n _ hs hown ⟨t.toArray⟩ hx (by rw [hsz']; unfold maxLen; omega) (by rw [hsz']; omega) hbase fun v' w' h2 h3 _ => ?_
 rw [hsz', hsc] at h2
 have hv : ∃ a' cap, v' = .slice a' (n + t.length) cap := by
  rcases h2.2 with ⟨hv, h0⟩ | ⟨g, cap, cur, hv, _⟩
  ·exact ⟨none, 0, by rw [hv]; congr 1; omega⟩
  ·exact ⟨_, _, hv⟩
 obtain ⟨a', cap, rfl⟩ := hv
 refine h a' cap w' ?_ (below_grown hown hbase h3)
 unfold OwI
 rw [List.map_append]
 exact h2
open Go.RowKit Go.Sort
theorem txt_len_le {xs : List Int} (h : ∀ x ∈ xs, (Lit.int .i64 x).wf = true) : (txt xs).length ≤ 22 * xs.length := by
 induction xs with
 | nil => simp [txt]
 | cons x xs ih =>
  have h1 := dec_le (wf_i64 (h x (by simp)))
  have h2 := ih fun y hy => h y (by simp [hy])
  simp only [txt, List.flatMap_cons, List.length_append, List.length_cons, List.length_nil] at h2 ⊢
  omega
theorem rtext_any (a1 : Option Addr) (n1 c1 : Nat) (xs : List Int) (w : World) (h1 : Sl .i64 w a1 n1 c1 xs) (hs : n1 ≤ 1000) :
  Calls Tryz.prog 106 #[.slice a1 n1 c1] w fun e w' => ∃ a' c', e = .returned (.slice a' (txt xs).length c') ∧ OwI .u8 5 w.heap.size w' a' (txt xs).length c' (txt xs) ∧ Ext w w' := by
 have b1 := h1.bd
 have e1 := Lib.hid h1.hlen
 go_enter Tryz.func106, Tryz.ntmps106
 go_wp2_with fail
 go_loopw [3, 4] (fun o i wr => ∃ (k m c : Nat) (a : Option Addr) (ys : List Int), k ≤ n1 ∧ i = .int .i64 k ∧ o = .slice a m c ∧ m = ys.length ∧ m ≤ 22 * k ∧ ys = txt (xs.take k) ∧ OwI .u8 5 w.heap.size wr a m c ys ∧ Ext w wr) (fun _ i _ => n1 - (intOf i).toNat)
 case atStart => exact ⟨0, 0, 0, none, [], by omega, rfl, rfl, rfl, by omega, by simp [txt], OwI.nil _ _ _ _, Ext.refl w⟩
 case round =>
  obtain ⟨k, m, c, a, ys, hk, rfl, rfl, hm, hm2, hys, ho, hE⟩ := hrel
  have HM := Lib.hid hm
  have HY := Lib.hid hys
  clear hm hys
  have hsz := hE.sz
  by_cases hlt : k < n1
  ·obtain ⟨x1, o1, rfl, hc1⟩ := h1.at (by omega)
   have g1 := hE.cell (hc1 k hlt)
   have w1 := wf_i64 (h1.wfAt hlt)
   have hl2 := dec_le w1
   have hl3 := dec_len (nth xs k)
   clear hc1
   go_wp2_with (first | (go_at_call 113; refine (decimal_any _ _ rfl w1.1 w1.2 _).mono ?_; rintro e w2 ⟨rfl, hE2⟩; have ho2 := ho.ext hE2; have hsz2 := hE2.sz) | (at_builtin; refine appSs el_u8 (by kernel_rfl) rfl _ _ rfl _ w.heap.size _ _ _ _ rfl ho2 _ rfl (by omega) (by omega) ?_; intro a3 c3 w3 ho3 hB3; refine hold ?_))
   refine held ?_
   have hsz3 := hB3.size
   go_wp2_with (at_builtin; refine app1 el_u8 rfl _ _ rfl _ w.heap.size _ _ _ _ 32 rfl ho3 rfl (by omega) (by unfold maxLen; omega) (by omega) ?_; intro g4 c4 w4 ho4 hB4)
   go_roundw
   case rel =>
    refine ⟨k + 1, _, c4, _, _, by omega, by go_num, rfl, ?_, by omega, ?_, ho4, Below.trans (Below.trans hE (Below.mono hE2 hsz)) (Below.trans hB3 hB4)⟩
    ·rw [List.length_append, List.length_append, HM.out]; simp
    ·rw [txt, fm_take_succ (by rw [e1.out]; omega), ← List.append_assoc, HY.out, txt, dec]
   case measure => simp [intOf]; omega
  ·go_wp2
   go_ret
   have hx : txt xs = ys := by rw [HY.out, List.take_of_length_le (by have := e1.out; omega)]
   have hy : (txt xs).length = m := by rw [HM.out, ← hx]
   rw [hy, hx]
   exact ⟨a, c, rfl, ho, hE⟩
theorem rnext_any (d : Int) (hd : 0 ≤ d ∧ d ≤ 18446744073709551615) (a1 : Option Addr) (n1 c1 : Nat) (xs : List Int) (w : World) (h1 : Sl .i64 w a1 n1 c1 xs) (hs : n1 ≤ 1000) :
  Calls Tryz.prog 85 #[.int .u64 d, .slice a1 n1 c1] w fun e w' => e = .returned (.int .u64 (fnv (be8 d.toNat ++ txt xs))) ∧ Ext w w' := by
 have b1 := h1.bd
 have ht := txt_len_le h1.wf
 have e1 := h1.hlen
 go_enter Tryz.func85, Tryz.ntmps85
 go_wp2_with (go_at_call 105; refine (eight_any d hd w).mono ?_; rintro e w1 ⟨g0, c0, rfl, ho1, hE1⟩; have h2 := h1.ext hE1; have hz1 := hE1.sz; refine hold ?_)
 refine held ?_
 go_wp2_with (first | (go_at_call 106; refine (rtext_any a1 n1 c1 xs w1 h2 hs).mono ?_; rintro e w2 ⟨a', c', rfl, ho, hB⟩; have hsl := ho.sl (txt_wf xs); have ho3 := ho1.ext hB; have hz2 := hB.size) | (at_builtin; refine appA el_u8 rfl _ _ rfl _ w.heap.size _ _ _ _ rfl ho3 _ _ _ _ rfl hsl (by omega) (by unfold maxLen; omega) (by omega) ?_; intro a4 c4 w3 ho4 hB4; refine hold ?_))
 refine held ?_
 have hsl4 := ho4.sl (fun x hx => (List.mem_append.1 hx).elim (be8_wf _ x) (txt_wf xs x))
 go_wp2_with (go_at_call 107; refine (rsum_any _ _ _ _ _ hsl4).mono ?_; rintro e w4 ⟨rfl, rfl⟩)
 go_ret
 exact ⟨rfl, Below.trans (Ext.trans hE1 hB) hB4⟩
end Go.Proofs.YtacicanjmleikaaGreatDoor
