/-
  The reference's Eight, walked.
-/
import Derived.Test.YtfohekfhcolnfaaDoorD4
namespace Go.Proofs.YtfohekfhcolnfaaDoor
open Go.RowKit Go.Sort
set_option linter.unusedSimpArgs false
set_option linter.unusedVariables false
set_option maxRecDepth 100000

set_option maxHeartbeats 1000000 in
theorem eight_any (n : Int) (hn : 0 ≤ n ∧ n ≤ 18446744073709551615) (w : World) :
    Calls Tryd.prog 46 #[.int .u64 n] w fun e w' => ∃ g c, e = .returned (.slice (some ⟨g, 0, none⟩) 8 c) ∧ OwI .u8 5 w.heap.size w' (some ⟨g, 0, none⟩) 8 c (be8 n.toNat) ∧ Ext w w' := by
  go_enter Tryd.func46, Tryd.ntmps46
  have ho0 := OwI.nil .u8 5 w.heap.size w
  have hE0 : Below w.heap.size w w := Below.refl _ _
  go_wp2_with fail
  refine wp_loop_rounds 9 ?_
  have hz0 : w.heap.size ≤ w.heap.size := hE0.size
  rw [rounds_succ]
  go_wp2_with (at_builtin; refine app1 el_u8 rfl _ _ rfl _ w.heap.size _ _ _ _ _ rfl ho0 rfl hz0 (by unfold maxLen; omega) (by omega) ?_; intro g0 c0 w1 ho1 hB1; refine hold ?_)
  refine held ?_
  try simp only [Nat.zero_add, Nat.reduceAdd, List.nil_append, List.cons_append] at ho1
  have hE1 := hE0.trans hB1
  clear ho0 hz0 hB1
  go_wp2_with fail
  have hz1 : w.heap.size ≤ w1.heap.size := hE1.size
  rw [rounds_succ]
  go_wp2_with (at_builtin; refine app1 el_u8 rfl _ _ rfl _ w.heap.size _ _ _ _ _ rfl ho1 rfl hz1 (by unfold maxLen; omega) (by omega) ?_; intro g1 c1 w2 ho2 hB2; refine hold ?_)
  refine held ?_
  try simp only [Nat.zero_add, Nat.reduceAdd, List.nil_append, List.cons_append] at ho2
  have hE2 := hE1.trans hB2
  clear ho1 hz1 hB2
  go_wp2_with fail
  have hz2 : w.heap.size ≤ w2.heap.size := hE2.size
  rw [rounds_succ]
  go_wp2_with (at_builtin; refine app1 el_u8 rfl _ _ rfl _ w.heap.size _ _ _ _ _ rfl ho2 rfl hz2 (by unfold maxLen; omega) (by omega) ?_; intro g2 c2 w3 ho3 hB3; refine hold ?_)
  refine held ?_
  try simp only [Nat.zero_add, Nat.reduceAdd, List.nil_append, List.cons_append] at ho3
  have hE3 := hE2.trans hB3
  clear ho2 hz2 hB3
  go_wp2_with fail
  have hz3 : w.heap.size ≤ w3.heap.size := hE3.size
  rw [rounds_succ]
  go_wp2_with (at_builtin; refine app1 el_u8 rfl _ _ rfl _ w.heap.size _ _ _ _ _ rfl ho3 rfl hz3 (by unfold maxLen; omega) (by omega) ?_; intro g3 c3 w4 ho4 hB4; refine hold ?_)
  refine held ?_
  try simp only [Nat.zero_add, Nat.reduceAdd, List.nil_append, List.cons_append] at ho4
  have hE4 := hE3.trans hB4
  clear ho3 hz3 hB4
  go_wp2_with fail
  have hz4 : w.heap.size ≤ w4.heap.size := hE4.size
  rw [rounds_succ]
  go_wp2_with (at_builtin; refine app1 el_u8 rfl _ _ rfl _ w.heap.size _ _ _ _ _ rfl ho4 rfl hz4 (by unfold maxLen; omega) (by omega) ?_; intro g4 c4 w5 ho5 hB5; refine hold ?_)
  refine held ?_
  try simp only [Nat.zero_add, Nat.reduceAdd, List.nil_append, List.cons_append] at ho5
  have hE5 := hE4.trans hB5
  clear ho4 hz4 hB5
  go_wp2_with fail
  have hz5 : w.heap.size ≤ w5.heap.size := hE5.size
  rw [rounds_succ]
  go_wp2_with (at_builtin; refine app1 el_u8 rfl _ _ rfl _ w.heap.size _ _ _ _ _ rfl ho5 rfl hz5 (by unfold maxLen; omega) (by omega) ?_; intro g5 c5 w6 ho6 hB6; refine hold ?_)
  refine held ?_
  try simp only [Nat.zero_add, Nat.reduceAdd, List.nil_append, List.cons_append] at ho6
  have hE6 := hE5.trans hB6
  clear ho5 hz5 hB6
  go_wp2_with fail
  have hz6 : w.heap.size ≤ w6.heap.size := hE6.size
  rw [rounds_succ]
  go_wp2_with (at_builtin; refine app1 el_u8 rfl _ _ rfl _ w.heap.size _ _ _ _ _ rfl ho6 rfl hz6 (by unfold maxLen; omega) (by omega) ?_; intro g6 c6 w7 ho7 hB7; refine hold ?_)
  refine held ?_
  try simp only [Nat.zero_add, Nat.reduceAdd, List.nil_append, List.cons_append] at ho7
  have hE7 := hE6.trans hB7
  clear ho6 hz6 hB7
  go_wp2_with fail
  have hz7 : w.heap.size ≤ w7.heap.size := hE7.size
  rw [rounds_succ]
  go_wp2_with (at_builtin; refine app1 el_u8 rfl _ _ rfl _ w.heap.size _ _ _ _ _ rfl ho7 rfl hz7 (by unfold maxLen; omega) (by omega) ?_; intro g7 c7 w8 ho8 hB8; refine hold ?_)
  refine held ?_
  try simp only [Nat.zero_add, Nat.reduceAdd, List.nil_append, List.cons_append] at ho8
  have hE8 := hE7.trans hB8
  clear ho7 hz7 hB8
  go_wp2_with fail
  rw [rounds_succ]
  go_wp2
  go_ret
  have e8 : be8 n.toNat = [n / 72057594037927936, n / 281474976710656 % 256, n / 1099511627776 % 256, n / 4294967296 % 256, n / 16777216 % 256, n / 65536 % 256, n / 256 % 256, n % 256] := by
    simp [be8]
    omega
  rw [e8]
  exact ⟨_, _, rfl, ho8, hE8⟩
end Go.Proofs.YtfohekfhcolnfaaDoor
