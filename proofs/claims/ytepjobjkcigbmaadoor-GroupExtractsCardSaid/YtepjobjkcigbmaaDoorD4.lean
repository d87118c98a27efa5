/-
  digest.octets and digest.Ints, walked.
-/
import Derived.Test.YtepjobjkcigbmaaDoorD3
import Derived.Test.YtepjobjkcigbmaaDoorW2
import Derived.Test.YtepjobjkcigbmaaDoorLib9
namespace Go.Proofs.YtepjobjkcigbmaaDoor
open Go.RowKit Go.Sort
set_option linter.unusedSimpArgs false
set_option linter.unusedVariables false
set_option maxRecDepth 100000

theorem txt_wf (xs : List Int) : ∀ x ∈ txt xs, (Lit.int .u8 x).wf = true := by
  intro x hx
  simp only [txt, List.mem_flatMap, List.mem_append, List.mem_singleton, dec, List.mem_map] at hx
  obtain ⟨n, _, ⟨b, _, rfl⟩ | rfl⟩ := hx
  · have := b.toNat_lt
    simp [Lit.wf, IntKind.min, IntKind.max, IntKind.signed, IntKind.bits]; omega
  · decide

theorem dints_any (a1 : Option Addr) (n1 c1 : Nat) (xs : List Int) (w : World) (h1 : Sl .i64 w a1 n1 c1 xs) (hs : n1 ≤ 1000)
    (htab : Lib.TabBelow Tryd.prog w.heap.size w "internal/strconv.uint64pow10" .u64 Lib.pow10Tab) :
    Calls Tryd.prog 36 #[.slice a1 n1 c1] w fun e w' => e = .returned (.int .u64 (fnv (txt xs))) ∧ Ext w w' := by
  have b1 := h1.bd
  go_enter Tryd.func36, Tryd.ntmps36
  go_wp2_with fail
  refine (dtext_any w.heap.size none 0 0 [] a1 n1 c1 xs w (OwI.nil _ _ _ _) (Nat.le_refl _) (by omega) h1 hs (fun b off hb hp => ?_) htab).mono ?_
  · subst hb
    obtain ⟨x1, o1, hx, hc⟩ := h1.at hp
    cases hx
    exact lt_of_cell (hc 0 hp)
  · rintro e w1 ⟨a', c', rfl, ho, hB⟩
    have hwf : ∀ x ∈ txt xs, (Lit.int .u8 x).wf = true := txt_wf xs
    simp only [Nat.zero_add, List.nil_append] at ho
    go_wp2_with (refine (sum_any _ _ _ _ _ (ho.sl hwf)).mono ?_; rintro e w2 ⟨rfl, rfl⟩)
    go_ret
    exact ⟨rfl, hB⟩
end Go.Proofs.YtepjobjkcigbmaaDoor
