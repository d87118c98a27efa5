/-
  digest.octets and digest.Ints, walked.
-/
import Derived.Test.YtfohekfhcolnfaaDoorD3
import Derived.Test.YtfohekfhcolnfaaDoorW2
import Derived.Test.YtfohekfhcolnfaaDoorLib9
namespace Go.Proofs.YtfohekfhcolnfaaDoor
open Go.RowKit Go.Sort
set_option linter.unusedSimpArgs false
set_option linter.unusedVariables false
set_option maxRecDepth 100000

theorem res_octets (W : World) (b : Nat) (y0 y1 y2 y3 y4 y5 y6 y7 : Int) (tmps : Array Value) (h2 : tmps[2]?.getD undef = .pointer (some ⟨b, 0, none⟩))
    (hb : W.heap[b]? = some (.cells #[.int .u8 y0, .int .u8 y1, .int .u8 y2, .int .u8 y3, .int .u8 y4, .int .u8 y5, .int .u8 y6, .int .u8 y7] 73 (0, 0))) :
    (results Tryd.f43 tmps).run Tryd.prog W = .ok (.agg #[.int .u8 y0, .int .u8 y1, .int .u8 y2, .int .u8 y3, .int .u8 y4, .int .u8 y5, .int .u8 y6, .int .u8 y7]) W := by
  have c0 := cell_of_block hb 0 (.int .u8 y0) rfl
  have c1 := cell_of_block hb 1 (.int .u8 y1) rfl
  have c2 := cell_of_block hb 2 (.int .u8 y2) rfl
  have c3 := cell_of_block hb 3 (.int .u8 y3) rfl
  have c4 := cell_of_block hb 4 (.int .u8 y4) rfl
  have c5 := cell_of_block hb 5 (.int .u8 y5) rfl
  have c6 := cell_of_block hb 6 (.int .u8 y6) rfl
  have c7 := cell_of_block hb 7 (.int .u8 y7) rfl
  simp [results, Tryd.results43, go_sem, h2, c0, c1, c2, c3, c4, c5, c6, c7]

theorem octets_any (n : Int) (hn : 0 ≤ n ∧ n ≤ 18446744073709551615) (w : World) :
    Calls Tryd.prog 43 #[.int .u64 n] w fun e w' => e = .returned (.agg (((be8 n.toNat).map (Value.int .u8)).toArray)) ∧ Ext w w' := by
  go_enter Tryd.func43, Tryd.ntmps43
  go_wp2_with fail
  refine wp_loop_rounds 9 ?_
  rw [rounds_succ]
  go_wp2_with fail
  rw [rounds_succ]
  go_wp2_with fail
  rw [rounds_succ]
  go_wp2_with fail
  rw [rounds_succ]
  go_wp2_with fail
  rw [rounds_succ]
  go_wp2_with fail
  rw [rounds_succ]
  go_wp2_with fail
  rw [rounds_succ]
  go_wp2_with fail
  rw [rounds_succ]
  go_wp2_with fail
  rw [rounds_succ]
  go_wp2_with fail
  have e8 : #[Value.int .u8 (n / 72057594037927936), .int .u8 (n / 281474976710656 % 256), .int .u8 (n / 1099511627776 % 256), .int .u8 (n / 4294967296 % 256), .int .u8 (n / 16777216 % 256), .int .u8 (n / 65536 % 256), .int .u8 (n / 256 % 256), .int .u8 (n % 256)] = ((be8 n.toNat).map (Value.int .u8)).toArray := by
    simp [be8]
    omega
  refine bodyPost_ret (res_octets _ w.heap.size _ _ _ _ _ _ _ _ _ (by rfl) (World.alloc_heap_new w _)) rfl ⟨?_, (Ext.refl w).alloc _⟩
  rw [e8]

theorem txt_wf (xs : List Int) : ∀ x ∈ txt xs, (Lit.int .u8 x).wf = true := by
  intro x hx
  simp only [txt, List.mem_flatMap, List.mem_append, List.mem_singleton, dec, List.mem_map] at hx
  obtain ⟨n, _, ⟨b, _, rfl⟩ | rfl⟩ := hx
  · have := b.toNat_lt
    simp [Lit.wf, IntKind.min, IntKind.max, IntKind.signed, IntKind.bits]; omega
  · decide

theorem dints_any (a1 : Option Addr) (n1 c1 : Nat) (xs : List Int) (w : World) (h1 : Sl .i64 w a1 n1 c1 xs) (hs : n1 ≤ 1000)
    (htab : Lib.TabBelow Tryd.prog w.heap.size w "internal/strconv.uint64pow10" .u64 Lib.pow10Tab) :
    Calls Tryd.prog 34 #[.slice a1 n1 c1] w fun e w' => e = .returned (.int .u64 (fnv (txt xs))) ∧ Ext w w' := by
  have b1 := h1.bd
  go_enter Tryd.func34, Tryd.ntmps34
  go_wp2_with fail
  refine (dtext_any w.heap.size none 0 0 [] a1 n1 c1 xs w (OwI.nil _ _ _ _) (Nat.le_refl _) (by omega) h1 hs (fun b off hb hp => ?_) htab).mono ?_
  · subst hb
    obtain ⟨x1, o1, hx, hc⟩ := h1.at hp
    cases hx
    exact lt_of_cell (hc 0 hp)
  · rintro e w1 ⟨a', c', rfl, ho, hB⟩
    have hwf : ∀ x ∈ txt xs, (Lit.int .u8 x).wf = true := txt_wf xs
    simp only [Nat.zero_add, List.nil_append] at ho
    go_wp2_with (refine (sum_any _ _ _ _ _ (ho.sl hwf)).mono ?_; rintro e w2 ⟨rfl, rfl⟩)
    go_ret
    exact ⟨rfl, hB⟩
end Go.Proofs.YtfohekfhcolnfaaDoor
