import Derived.Test.YthjldbefjkbniaaW15
namespace Go.Proofs.Ythjldbefjkbniaa
open Go.RowKit
set_option linter.unusedSimpArgs false
set_option linter.unusedVariables false

theorem Sl.ofRow {k : IntKind} {w : World} {a : Option Addr} {len cap : Nat} {zs : List Int} (h : (a = none ∧ len = 0 ∧ cap = 0 ∧ zs = []) ∨
    ∃ x, a = some x ∧ len ≤ cap ∧ cap ≤ maxLen ∧ zs.length = cap ∧ (∀ i, i < zs.length → w.cell? (x.add i) = some (.int k (zs.getD i 0))) ∧ ∀ n ∈ zs, (Lit.int k n).wf = true) : Sl k w a len cap (zs.take len) := by
  rcases h with ⟨rfl, rfl, rfl, rfl⟩ | ⟨x, rfl, hl, hm, hz, hc, hw⟩
  · exact Sl.none_nil _ _
  · refine ⟨by simp; omega, hl, hm, fun i hi => ?_, fun n hn => hw n (List.mem_of_mem_take hn)⟩
    have h0 := hc 0 (by omega)
    have hs := World.cell?_spot h0
    obtain ⟨b, off, s⟩ := x
    simp [Addr.add] at hs
    subst hs
    refine ⟨b, off, rfl, ?_⟩
    have h1 := hc i (by omega)
    have hadd : (⟨b, off, none⟩ : Addr).add i = ⟨b, off + i, none⟩ := by unfold Addr.add; split <;> simp_all
    rw [hadd] at h1
    rw [h1]
    simp [nth, List.getD_eq_getElem?_getD, List.getElem?_take, hi]

end Go.Proofs.Ythjldbefjkbniaa
