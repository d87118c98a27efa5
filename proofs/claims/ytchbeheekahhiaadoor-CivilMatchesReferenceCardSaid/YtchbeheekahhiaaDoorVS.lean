/-
  Small functions of the laws of chapter 18, walked.
-/
import Derived.Test.YtchbeheekahhiaaDoorVR
namespace Go.Proofs.YtchbeheekahhiaaDoor
open Go.RowKit Go.Sort Go.Shelf
set_option linter.unusedSimpArgs false
set_option linter.unusedVariables false
set_option maxRecDepth 100000

theorem lusable_any (a : Option Addr) (n c : Nat) (l : List Lp) (w : World) (h1 : Rw w a n c l) :
    Calls Tryd.prog 24 #[.slice a n c] w fun e w' => e = .returned (.bool (validL l)) ∧ Ext w w' := by
  rcases hf : decide (l.length ≤ 110) with _ | _
  · have HF := Lib.hid hf
    have HV : Hid (validL l = false) := Lib.hid (by
      cases h : validL l with
      | false => rfl
      | true => have := validL_len h; simp at hf; omega)
    clear hf
    go_enter Tryd.func24, Tryd.ntmps24
    go_wp2_with fail
    refine (rfew_any a n c l w h1).mono ?_
    rintro e w1 ⟨rfl, rfl⟩
    rw [HF.out]
    go_wp2_with fail
    go_ret
    exact ⟨by rw [HV.out]; rfl, Ext.refl _⟩
  · have HF := Lib.hid hf
    clear hf
    go_enter Tryd.func24, Tryd.ntmps24
    go_wp2_with fail
    refine (rfew_any a n c l w h1).mono ?_
    rintro e w1 ⟨rfl, rfl⟩
    rw [HF.out]
    go_wp2_with fail
    refine (rvalid17_any a n c l _ h1).mono ?_
    rintro e w2 ⟨rfl, hx⟩
    go_wp2_with fail
    go_ret
    exact ⟨rfl, hx⟩

/-- A well-formed civil time. -/
def civB (d m : Int) : Bool := inW d 0 34000 && (inW m 0 86400999999)
theorem rcivil_any (d m : Int) (w : World) : Calls Tryd.prog 25 #[.agg #[.int .i64 d, .int .i64 m]] w fun e w' => e = .returned (.bool (civB d m)) ∧ Ext w w' := by
  have hB := Bk.new w 24 #[.int .i64 d, .int .i64 m]
  have hE : Ext w (w.alloc (.cells #[.int .i64 d, .int .i64 m] 24)) := (Ext.refl w).alloc _
  have c0 := hB.c 0 _ rfl
  have c1 := hB.c 1 _ rfl
  rcases hd : inW d 0 34000 with _ | _
  · have HD := Lib.hid hd
    have HR : Hid (civB d m = false) := Lib.hid (by unfold civB; rw [hd]; rfl)
    clear hd
    go_enter Tryd.func25, Tryd.ntmps25
    go_upto_region 1 with fail
    generalize w.alloc (.cells #[.int .i64 d, .int .i64 m] 24) = W at *
    go_wp2_with fail
    refine (risday_any d W).mono ?_
    rintro e w1 ⟨rfl, rfl⟩
    rw [HD.out]
    go_wp2_with fail
    go_ret
    exact ⟨by rw [HR.out]; rfl, hE⟩
  · have HD := Lib.hid hd
    have HC : Hid (civB d m = inW m 0 86400999999) := Lib.hid (by unfold civB; rw [hd]; rfl)
    clear hd
    by_cases h1 : 0 ≤ m
    · by_cases h2 : m < 86401000000
      · have HR : Hid (civB d m = true) := Lib.hid (by rw [HC.out]; exact inW_yes h1 (by omega))
        go_enter Tryd.func25, Tryd.ntmps25
        go_upto_region 1 with fail
        generalize w.alloc (.cells #[.int .i64 d, .int .i64 m] 24) = W at *
        go_wp2_with fail
        refine (risday_any d W).mono ?_
        rintro e w1 ⟨rfl, rfl⟩
        rw [HD.out]
        go_wp2_with fail
        go_ret
        exact ⟨by rw [HR.out]; rfl, hE⟩
      · have HR : Hid (civB d m = false) := Lib.hid (by rw [HC.out]; exact inW_no2 (by omega))
        have q := decide_eq_false h2
        go_enter Tryd.func25, Tryd.ntmps25
        go_upto_region 1 with fail
        generalize w.alloc (.cells #[.int .i64 d, .int .i64 m] 24) = W at *
        go_wp2_with fail
        refine (risday_any d W).mono ?_
        rintro e w1 ⟨rfl, rfl⟩
        rw [HD.out]
        go_wp2_with fail
        go_ret
        exact ⟨by rw [HR.out]; rfl, hE⟩
    · have HR : Hid (civB d m = false) := Lib.hid (by rw [HC.out]; exact inW_no1 h1)
      have q := decide_eq_false h1
      go_enter Tryd.func25, Tryd.ntmps25
      go_upto_region 1 with fail
      generalize w.alloc (.cells #[.int .i64 d, .int .i64 m] 24) = W at *
      go_wp2_with fail
      refine (risday_any d W).mono ?_
      rintro e w1 ⟨rfl, rfl⟩
      rw [HD.out]
      go_wp2_with fail
      go_ret
      exact ⟨by rw [HR.out]; rfl, hE⟩

/-- A well-formed wall clock. -/
def walB (d s m : Int) : Bool := inW d 0 34000 && (inW s 0 86399 && inW m 0 999999)
theorem rwall_any (d s m : Int) (w : World) : Calls Tryd.prog 27 #[.agg #[.int .i64 d, .int .i64 s, .int .i64 m]] w fun e w' => e = .returned (.bool (walB d s m)) ∧ Ext w w' := by
  have hB := Bk.new w 26 #[.int .i64 d, .int .i64 s, .int .i64 m]
  have hE : Ext w (w.alloc (.cells #[.int .i64 d, .int .i64 s, .int .i64 m] 26)) := (Ext.refl w).alloc _
  have c0 := hB.c 0 _ rfl
  have c1 := hB.c 1 _ rfl
  have c2 := hB.c 2 _ rfl
  rcases hd : inW d 0 34000 with _ | _
  · have HD := Lib.hid hd
    have HR : Hid (walB d s m = false) := Lib.hid (by unfold walB; rw [hd]; rfl)
    clear hd
    go_enter Tryd.func27, Tryd.ntmps27
    go_upto_region 1 with fail
    generalize w.alloc (.cells #[.int .i64 d, .int .i64 s, .int .i64 m] 26) = W at *
    go_wp2_with fail
    refine (risday_any d W).mono ?_
    rintro e w1 ⟨rfl, rfl⟩
    rw [HD.out]
    go_wp2_with fail
    go_ret
    exact ⟨by rw [HR.out]; rfl, hE⟩
  have HD := Lib.hid hd
  have HC : Hid (walB d s m = (inW s 0 86399 && inW m 0 999999)) := Lib.hid (by unfold walB; rw [hd]; rfl)
  clear hd
  rcases hw : (inW s 0 86399 && inW m 0 999999) with _ | _
  · have HR : Hid (walB d s m = false) := Lib.hid (by rw [HC.out, hw])
    have hor : ¬ 0 ≤ s ∨ ¬ s ≤ 86399 ∨ ¬ 0 ≤ m ∨ ¬ m < 1000000 := by
      by_cases a1 : 0 ≤ s
      · by_cases a2 : s ≤ 86399
        · by_cases a3 : 0 ≤ m
          · by_cases a4 : m < 1000000
            · rw [inW_yes a1 a2, inW_yes a3 (by omega)] at hw; cases hw
            · exact .inr (.inr (.inr a4))
          · exact .inr (.inr (.inl a3))
        · exact .inr (.inl a2)
      · exact .inl a1
    have HO := Lib.hid hor
    clear hw hor
    go_enter Tryd.func27, Tryd.ntmps27
    go_upto_region 1 with fail
    generalize w.alloc (.cells #[.int .i64 d, .int .i64 s, .int .i64 m] 26) = W at *
    go_wp2_with fail
    refine (risday_any d W).mono ?_
    rintro e w1 ⟨rfl, rfl⟩
    rw [HD.out]
    by_cases a1 : 0 ≤ s
    · by_cases a2 : s ≤ 86399
      · by_cases a3 : 0 ≤ m
        · have a4 : ¬ m < 1000000 := by have := HO.out; omega
          have q := decide_eq_false a4
          go_wp2_with fail
          go_ret
          exact ⟨by rw [HR.out]; rfl, hE⟩
        · have q := decide_eq_false a3
          go_wp2_with fail
          go_ret
          exact ⟨by rw [HR.out]; rfl, hE⟩
      · have q := decide_eq_false a2
        go_wp2_with fail
        go_ret
        exact ⟨by rw [HR.out]; rfl, hE⟩
    · have q := decide_eq_false a1
      go_wp2_with fail
      go_ret
      exact ⟨by rw [HR.out]; rfl, hE⟩
  · have HR : Hid (walB d s m = true) := Lib.hid (by rw [HC.out, hw])
    simp only [Bool.and_eq_true, inW_iff] at hw
    obtain ⟨⟨a1, a2⟩, a3, a5⟩ := hw
    have a4 : m < 1000000 := by omega
    clear a5
    go_enter Tryd.func27, Tryd.ntmps27
    go_upto_region 1 with fail
    generalize w.alloc (.cells #[.int .i64 d, .int .i64 s, .int .i64 m] 26) = W at *
    go_wp2_with fail
    refine (risday_any d W).mono ?_
    rintro e w1 ⟨rfl, rfl⟩
    rw [HD.out]
    go_wp2_with fail
    go_ret
    exact ⟨by rw [HR.out]; rfl, hE⟩

theorem ltotal_any (d s m : Int) (hd : 0 ≤ d ∧ d ≤ 100000) (hs : 0 ≤ s ∧ s ≤ 100000) (hm : 0 ≤ m ∧ m ≤ 1000000) (w : World) : Calls Tryd.prog 29 #[.agg #[.int .i64 d, .int .i64 s, .int .i64 m]] w fun e w' => e = .returned (.int .i64 ((d * 86400 + s) * 1000000 + m)) ∧ Ext w w' := by
  have hB := Bk.new w 26 #[.int .i64 d, .int .i64 s, .int .i64 m]
  have hE : Ext w (w.alloc (.cells #[.int .i64 d, .int .i64 s, .int .i64 m] 26)) := (Ext.refl w).alloc _
  have c0 := hB.c 0 _ rfl
  have c1 := hB.c 1 _ rfl
  have c2 := hB.c 2 _ rfl
  go_enter Tryd.func29, Tryd.ntmps29
  go_upto_region 1 with fail
  generalize w.alloc (.cells #[.int .i64 d, .int .i64 s, .int .i64 m] 26) = W at *
  go_wp2_with fail
  go_ret
  exact ⟨rfl, hE⟩
end Go.Proofs.YtchbeheekahhiaaDoor
