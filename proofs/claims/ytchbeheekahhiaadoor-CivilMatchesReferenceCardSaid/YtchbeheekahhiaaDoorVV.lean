/-
  The law CivilOrder, walked.
-/
import Derived.Test.YtchbeheekahhiaaDoorVU
namespace Go.Proofs.YtchbeheekahhiaaDoor
open Go.RowKit Go.Sort Go.Shelf
set_option linter.unusedSimpArgs false
set_option linter.unusedVariables false
set_option maxRecDepth 100000

def Yes (w : World) : Ending → World → Prop := fun e w' => e = .returned (.bool true) ∧ Ext w w'
theorem toF_ok {l : List Lp} {t d m : Int} (h : toF l t = ((d, m), 0)) : validL l = true ∧ rightL l d = true ∧ IsDay l t d ∧ m = t - startL l d ∧ 0 ≤ t ∧ t ≤ 3000000000000000 := by
  rcases dayF_cases l t with hq | hq | ⟨d', hq, hr, hd, h0, h9⟩
  · rw [toF_err hq (by decide)] at h; simp at h
  · rw [toF_err hq (by decide)] at h; simp at h
  · rw [toF_of hq] at h
    simp only [Prod.mk.injEq, and_true] at h
    obtain ⟨rfl, rfl⟩ := h
    exact ⟨(rightL_iff.1 hr).1, hr, hd, rfl, h0, h9⟩
theorem order_plain {l : List Lp} {one two d1 m1 d2 m2 : Int} (h : one < two) (h1 : toF l one = ((d1, m1), 0)) (h2 : toF l two = ((d2, m2), 0)) : d1 < d2 ∨ (d1 = d2 ∧ m1 < m2) := by
  obtain ⟨hv, -, i1, rfl, -⟩ := toF_ok h1
  obtain ⟨-, -, i2, rfl, -⟩ := toF_ok h2
  rcases Int.lt_trichotomy d1 d2 with h3 | h3 | h3
  · exact .inl h3
  · subst h3; exact .inr ⟨rfl, by omega⟩
  · exfalso
    have := startL_mono hv (show d2 + 1 ≤ d1 by omega)
    have := i1.1
    have := i2.2
    omega

set_option maxHeartbeats 4000000 in
theorem corder_law (a : Option Addr) (n c : Nat) (l : List Lp) (one two : Int) (w : World) (h1 : Rw w a n c l) (ht : TB w) (hl : TL w) :
    Calls Tryd.prog 5 #[.slice a n c, .int .i64 one, .int .i64 two] w (Yes w) := by
  have HT := Lib.hid ht
  have HTL := Lib.hid hl
  clear ht hl
  go_enter Tryd.func5, Tryd.ntmps5
  go_wp2_with fail
  refine (vhead_any w HT.out HTL.out).mono ?_
  rintro e w1 ⟨rfl, hE⟩
  go_wp2_with fail
  refine (lusable_any a n c l w1 (h1.ext hE)).mono ?_
  rintro e w2 ⟨rfl, hx⟩
  replace hE := hE.trans hx
  clear hx
  rcases hv : validL l with _ | _
  · clear hv
    go_wp2_with fail
    go_ret
    exact ⟨rfl, hE⟩
  clear hv
  by_cases h12 : one < two
  · have h12' : ¬ two ≤ one := by omega
    have H12 := Lib.hid h12
    clear h12
    go_wp2_with fail
    refine (cto_any a n c l one w2 (h1.ext hE)).mono ?_
    rintro e w3 ⟨rfl, hx⟩
    generalize hT1 : toF l one = T1 at *
    obtain ⟨⟨d1, m1⟩, E1⟩ := T1
    have HT1 := Lib.hid hT1
    clear hT1
    go_upto_region 5 with fail
    have b8 := Bk.new w3 24 #[.int .i64 d1, .int .i64 m1]
    replace hx := hx.alloc (.cells #[.int .i64 d1, .int .i64 m1] 24)
    generalize w3.alloc (.cells #[.int .i64 d1, .int .i64 m1] 24) = V at *
    generalize w3.heap.size = p8 at *
    replace hE := hE.trans hx
    clear hx
    go_wp2_with fail
    refine (cto_any a n c l two V (h1.ext hE)).mono ?_
    rintro e w4 ⟨rfl, hx⟩
    generalize hT2 : toF l two = T2 at *
    obtain ⟨⟨d2, m2⟩, E2⟩ := T2
    have HT2 := Lib.hid hT2
    clear hT2
    go_upto_region 6 with fail
    have b10 := Bk.new w4 24 #[.int .i64 d2, .int .i64 m2]
    replace hx := hx.alloc (.cells #[.int .i64 d2, .int .i64 m2] 24)
    generalize w4.alloc (.cells #[.int .i64 d2, .int .i64 m2] 24) = V2 at *
    generalize w4.heap.size = p10 at *
    replace hE := hE.trans hx
    replace b8 := b8.ext hx
    clear hx
    have c0 := b8.c 0 _ rfl
    have c1 := b8.c 1 _ rfl
    have e0 := b10.c 0 _ rfl
    have e1 := b10.c 1 _ rfl
    by_cases hE1 : E1 = 0
    · subst hE1
      by_cases hE2 : E2 = 0
      · subst hE2
        rcases order_plain H12.out HT1.out HT2.out with hd | ⟨hd, hm⟩
        · go_wp2_with fail
          go_ret
          exact ⟨rfl, hE⟩
        · subst hd
          go_wp2_with fail
          go_ret
          exact ⟨rfl, hE⟩
      · go_wp2_with fail
        go_ret
        exact ⟨rfl, hE⟩
    · go_wp2_with fail
      go_ret
      exact ⟨rfl, hE⟩
  · have h12' : two ≤ one := by omega
    go_wp2_with fail
    go_ret
    exact ⟨rfl, hE⟩
end Go.Proofs.YtchbeheekahhiaaDoor
