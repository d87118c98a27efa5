/-
  Whether two lists of integers are the same, by the reference, walked.
-/
import Derived.Test.YtchbeheekahhiaaDoorVS
namespace Go.Proofs.YtchbeheekahhiaaDoor
open Go.RowKit Go.Sort Go.Shelf
set_option linter.unusedSimpArgs false
set_option linter.unusedVariables false
set_option maxRecDepth 100000

theorem same_take {xs ys : List Int} (hl : xs.length = ys.length) (h : ∀ i, i < xs.length → nth xs i = nth ys i) : xs = ys := by
  apply List.ext_getElem hl
  intro i h1 h2
  have := h i h1
  simpa [nth, List.getD_eq_getElem?_getD, h1, h2] using this

set_option maxHeartbeats 1000000 in
theorem rsame_any (a1 : Option Addr) (n1 c1 : Nat) (xs : List Int) (a2 : Option Addr) (n2 c2 : Nat) (ys : List Int) (w : World) (h1 : Sl .i64 w a1 n1 c1 xs) (h2 : Sl .i64 w a2 n2 c2 ys) :
    Calls Tryd.prog 19 #[.slice a1 n1 c1, .slice a2 n2 c2] w fun e w' => e = .returned (.bool (decide (xs = ys))) ∧ Ext w w' := by
  have bd1 := h1.bd
  have bd2 := h2.bd
  have HL1 := Lib.hid h1.hlen
  have HL2 := Lib.hid h2.hlen
  by_cases hn : n1 = n2
  · subst hn
    go_enter Tryd.func19, Tryd.ntmps19
    go_wp2_with fail
    go_loopw [5] (fun i wr => ∃ (k : Nat), k ≤ n1 ∧ i = .int .i64 (k : Int) ∧ Hid (∀ j, j < k → nth xs j = nth ys j) ∧ Ext w wr) (fun i _ => n1 - (intOf i).toNat)
    case atStart => exact ⟨0, by omega, rfl, Lib.hid (fun j hj => by omega), Ext.refl _⟩
    case round =>
      obtain ⟨k, hk, rfl, HK, hx⟩ := hrel
      by_cases hlt : k < n1
      · obtain ⟨x1, o1, rfl, hc1⟩ := h1.at (by omega)
        obtain ⟨x2, o2, rfl, hc2⟩ := h2.at (by omega)
        have p1 := hx.cell (hc1 k hlt)
        have p2 := hx.cell (hc2 k hlt)
        have l1 := lt_of_cell p1
        have l2 := lt_of_cell p2
        have hg := @grow_cell
        clear hc1 hc2
        by_cases he : nth xs k = nth ys k
        · have HE := Lib.hid he
          have HK2 : Hid (∀ j, j < k + 1 → nth xs j = nth ys j) := Lib.hid (fun j hj => by
            rcases Nat.lt_or_ge j k with h | h
            · exact HK.out j h
            · obtain rfl : j = k := by omega
              exact HE.out)
          generalize nth xs k = X at *
          generalize nth ys k = Y at *
          subst he
          go_upto_region 6 with fail
          refine region_ext (by kernel_rfl) (by kernel_rfl) ?_
          repeat (go_big_quiet_step (fail))
          refine wpQuiet_nil ?_
          intro w6 hx6
          go_wp2_with fail
          exact ⟨⟨k + 1, by omega, by go_num, HK2, hx.trans hx6⟩, by simp [intOf]; omega⟩
        · have HE := Lib.hid he
          have HR : Hid (decide (xs = ys) = false) := Lib.hid (decide_eq_false (fun h => HE.out (by rw [h])))
          generalize nth xs k = X at *
          generalize nth ys k = Y at *
          go_upto_region 6 with fail
          refine region_ext (by kernel_rfl) (by kernel_rfl) ?_
          repeat (go_big_quiet_step (fail))
          refine wpQuiet_nil ?_
          intro w6 hx6
          go_wp2_with fail
          go_ret
          exact ⟨by rw [HR.out]; rfl, hx.trans hx6⟩
      · obtain rfl : k = n1 := by omega
        have HR : Hid (decide (xs = ys) = true) := Lib.hid (decide_eq_true (same_take (by rw [HL1.out, HL2.out]) (fun i hi => HK.out i (by rw [HL1.out] at hi; exact hi))))
        go_wp2_with fail
        go_ret
        exact ⟨by rw [HR.out]; rfl, hx⟩
  · have HR : Hid (decide (xs = ys) = false) := Lib.hid (decide_eq_false (fun h => hn (by rw [← HL1.out, ← HL2.out, h])))
    have q : ¬ (n1 : Int) = (n2 : Int) := by omega
    go_enter Tryd.func19, Tryd.ntmps19
    go_wp2_with fail
    go_ret
    exact ⟨by rw [HR.out]; rfl, Ext.refl _⟩
end Go.Proofs.YtchbeheekahhiaaDoor
