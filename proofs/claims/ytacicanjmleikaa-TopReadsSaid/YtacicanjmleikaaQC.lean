/-
  Package versions, walked: within, isKey, isStamp, wellFormed, order, Valid.
-/
import Derived.Test.YtacicanjmleikaaQR
import Derived.Below
import Derived.Shelf.Abstract
import Derived.Deep.DeepCutAuto
namespace Go.Proofs.Ytacicanjmleikaa
open Go.RowKit Go.Sort Go.Shelf
set_option linter.unusedSimpArgs false
set_option linter.unusedVariables false
set_option maxRecDepth 100000

/-- A version as a value. -/
def valV (x : Vn) : Value := .agg #[.int .i64 x.k, .int .i64 x.t, .int .i64 x.v, .bool x.g]

theorem inT_no {n lo hi : Int} (h : ¬ (lo ≤ n ∧ n ≤ hi)) : inT n lo hi = false := by unfold inT; exact decide_eq_false h
theorem vwithin_any (n lo hi : Int) (w : World) : Calls Try.prog 52 #[.int .i64 n, .int .i64 lo, .int .i64 hi] w fun e w' => e = .returned (.bool (inT n lo hi)) ∧ w = w' := by
  by_cases h1 : lo ≤ n
  · by_cases h2 : n ≤ hi
    · have e : inT n lo hi = true := inT_iff.2 ⟨h1, h2⟩
      rw [e]; clear e
      go_enter Try.func52, Try.ntmps52
      go_wp2
      go_ret
      exact ⟨rfl, rfl⟩
    · have e : inT n lo hi = false := inT_no (by omega)
      rw [e]; clear e
      go_enter Try.func52, Try.ntmps52
      go_wp2
      go_ret
      exact ⟨ret_bool (by simp), rfl⟩
  · have e : inT n lo hi = false := inT_no (by omega)
    rw [e]; clear e
    go_enter Try.func52, Try.ntmps52
    go_wp2
    go_ret
    exact ⟨rfl, rfl⟩
theorem cbetween_any (n lo hi : Int) (w : World) : Calls Try.prog 24 #[.int .i64 n, .int .i64 lo, .int .i64 hi] w fun e w' => e = .returned (.bool (inT n lo hi)) ∧ w = w' := by
  by_cases h1 : lo ≤ n
  · by_cases h2 : n ≤ hi
    · have e : inT n lo hi = true := inT_iff.2 ⟨h1, h2⟩
      rw [e]; clear e
      go_enter Try.func24, Try.ntmps24
      go_wp2
      go_ret
      exact ⟨rfl, rfl⟩
    · have e : inT n lo hi = false := inT_no (by omega)
      rw [e]; clear e
      go_enter Try.func24, Try.ntmps24
      go_wp2
      go_ret
      exact ⟨ret_bool (by simp), rfl⟩
  · have e : inT n lo hi = false := inT_no (by omega)
    rw [e]; clear e
    go_enter Try.func24, Try.ntmps24
    go_wp2
    go_ret
    exact ⟨rfl, rfl⟩
theorem viskey_any (n : Int) (w : World) : Calls Try.prog 45 #[.int .i64 n] w fun e w' => e = .returned (.bool (inT n 1 1000)) ∧ w = w' := by
  go_enter Try.func45, Try.ntmps45
  go_wp2_with (go_at_call 52; refine (vwithin_any _ _ _ _).mono ?_; rintro _ _ ⟨rfl, rfl⟩)
  go_ret
  exact ⟨rfl, rfl⟩
theorem vstamp_any (n : Int) (w : World) : Calls Try.prog 38 #[.int .i64 n] w fun e w' => e = .returned (.bool (inT n 1 3000000000000000)) ∧ w = w' := by
  go_enter Try.func38, Try.ntmps38
  go_wp2_with (go_at_call 52; refine (vwithin_any _ _ _ _).mono ?_; rintro _ _ ⟨rfl, rfl⟩)
  go_ret
  exact ⟨rfl, rfl⟩
set_option maxHeartbeats 1000000 in
theorem vwell_any (x : Vn) (w : World) : Calls Try.prog 43 #[valV x] w fun e w' => e = .returned (.bool (wfV x)) ∧ Ext w w' := by
  obtain ⟨k, t, v, g⟩ := x
  unfold valV
  rcases h1 : inT k 1 1000 with _ | _
  · have HR : Hid (wfV ⟨k, t, v, g⟩ = false) := Lib.hid (by unfold wfV; rw [h1]; rfl)
    have H1 := Lib.hid h1
    clear h1
    go_enter Try.func43, Try.ntmps43
    go_wp2_with fail
    refine (viskey_any _ _).mono ?_
    rintro _ _ ⟨rfl, rfl⟩
    rw [H1.out]
    go_wp2
    go_ret
    exact ⟨by rw [HR.out]; rfl, (Ext.refl w).alloc _⟩
  · rcases h2 : inT t 1 3000000000000000 with _ | _
    · have HR : Hid (wfV ⟨k, t, v, g⟩ = false) := Lib.hid (by unfold wfV; rw [h1, h2]; rfl)
      have H1 := Lib.hid h1
      have H2 := Lib.hid h2
      clear h1 h2
      go_enter Try.func43, Try.ntmps43
      go_wp2_with fail
      refine (viskey_any _ _).mono ?_
      rintro _ _ ⟨rfl, rfl⟩
      rw [H1.out]
      go_wp2_with fail
      refine (vstamp_any _ _).mono ?_
      rintro _ _ ⟨rfl, rfl⟩
      rw [H2.out]
      go_wp2
      go_ret
      exact ⟨by rw [HR.out]; rfl, (Ext.refl w).alloc _⟩
    · rcases h3 : inT v 0 1000000 with _ | _
      · have HR : Hid (wfV ⟨k, t, v, g⟩ = false) := Lib.hid (by unfold wfV; rw [h1, h2, h3]; rfl)
        have H1 := Lib.hid h1
        have H2 := Lib.hid h2
        have H3 := Lib.hid h3
        clear h1 h2 h3
        go_enter Try.func43, Try.ntmps43
        go_wp2_with fail
        refine (viskey_any _ _).mono ?_
        rintro _ _ ⟨rfl, rfl⟩
        rw [H1.out]
        go_wp2_with fail
        refine (vstamp_any _ _).mono ?_
        rintro _ _ ⟨rfl, rfl⟩
        rw [H2.out]
        go_wp2_with fail
        refine (vwithin_any _ _ _ _).mono ?_
        rintro _ _ ⟨rfl, rfl⟩
        rw [H3.out]
        go_wp2
        go_ret
        exact ⟨by rw [HR.out]; rfl, (Ext.refl w).alloc _⟩
      · have HR : Hid (wfV ⟨k, t, v, g⟩ = (!g || decide (v = 0))) := Lib.hid (by unfold wfV; rw [h1, h2, h3]; rfl)
        have H1 := Lib.hid h1
        have H2 := Lib.hid h2
        have H3 := Lib.hid h3
        clear h1 h2 h3
        cases g with
        | false =>
          go_enter Try.func43, Try.ntmps43
          go_wp2_with fail
          refine (viskey_any _ _).mono ?_
          rintro _ _ ⟨rfl, rfl⟩
          rw [H1.out]
          go_wp2_with fail
          refine (vstamp_any _ _).mono ?_
          rintro _ _ ⟨rfl, rfl⟩
          rw [H2.out]
          go_wp2_with fail
          refine (vwithin_any _ _ _ _).mono ?_
          rintro _ _ ⟨rfl, rfl⟩
          rw [H3.out]
          go_wp2_with fail
          go_ret
          exact ⟨by rw [HR.out]; rfl, (Ext.refl w).alloc _⟩
        | true =>
          by_cases hz : v = 0
          · have hz2 : (v == 0) = true := by simp [hz]
            have HZ := Lib.hid hz
            clear hz
            go_enter Try.func43, Try.ntmps43
            go_wp2_with fail
            refine (viskey_any _ _).mono ?_
            rintro _ _ ⟨rfl, rfl⟩
            rw [H1.out]
            go_wp2_with fail
            refine (vstamp_any _ _).mono ?_
            rintro _ _ ⟨rfl, rfl⟩
            rw [H2.out]
            go_wp2_with fail
            refine (vwithin_any _ _ _ _).mono ?_
            rintro _ _ ⟨rfl, rfl⟩
            rw [H3.out]
            go_wp2_with fail
            go_ret
            exact ⟨by rw [HR.out, decide_eq_true HZ.out]; simp [hz2], (Ext.refl w).alloc _⟩
          · have hz2 : (v == 0) = false := by simp [hz]
            have HZ := Lib.hid hz
            go_enter Try.func43, Try.ntmps43
            go_wp2_with fail
            refine (viskey_any _ _).mono ?_
            rintro _ _ ⟨rfl, rfl⟩
            rw [H1.out]
            go_wp2_with fail
            refine (vstamp_any _ _).mono ?_
            rintro _ _ ⟨rfl, rfl⟩
            rw [H2.out]
            go_wp2_with fail
            refine (vwithin_any _ _ _ _).mono ?_
            rintro _ _ ⟨rfl, rfl⟩
            rw [H3.out]
            go_wp2_with fail
            go_ret
            exact ⟨by rw [HR.out, decide_eq_false HZ.out]; simp [hz2], (Ext.refl w).alloc _⟩

theorem extW {P : Program} {f : FuncId} {vs : Array Value} {w : World} {v : Ending} (h : Calls P f vs w fun e w' => e = v ∧ w = w') : Calls P f vs w fun e w' => e = v ∧ Ext w w' :=
  h.mono fun _ _ h => ⟨h.1, h.2 ▸ Ext.refl _⟩
/-! ### Order -/
def cmpF (a b : Int) : Int := if a < b then -1 else if b < a then 1 else 0
def ordF (a b : Vn) : Int := if cmpF a.k b.k = 0 then cmpF a.t b.t else cmpF a.k b.k
theorem cmpF_neg {a b : Int} : cmpF a b < 0 ↔ a < b := by
  unfold cmpF
  by_cases h1 : a < b
  · rw [if_pos h1]; omega
  · rw [if_neg h1]
    by_cases h2 : b < a
    · rw [if_pos h2]; omega
    · rw [if_neg h2]; omega
theorem cmpF_zero {a b : Int} : cmpF a b = 0 ↔ a = b := by
  unfold cmpF
  by_cases h1 : a < b
  · rw [if_pos h1]; omega
  · rw [if_neg h1]
    by_cases h2 : b < a
    · rw [if_pos h2]; omega
    · rw [if_neg h2]; omega
theorem ordF_lt {a b : Vn} : ordF a b < 0 ↔ ltV a b := by
  unfold ordF ltV
  by_cases h : cmpF a.k b.k = 0
  · rw [if_pos h, cmpF_neg]
    have := cmpF_zero.1 h
    omega
  · rw [if_neg h, cmpF_neg]
    have : a.k ≠ b.k := fun e => h (cmpF_zero.2 e)
    omega
theorem ordF_zero {a b : Vn} : ordF a b = 0 ↔ a.k = b.k ∧ a.t = b.t := by
  unfold ordF
  by_cases h : cmpF a.k b.k = 0
  · rw [if_pos h, cmpF_zero]
    have := cmpF_zero.1 h
    omega
  · rw [if_neg h]
    have : a.k ≠ b.k := fun e => h (cmpF_zero.2 e)
    omega
theorem isnan_any (n : Int) (w : World) : Calls Try.prog 60 #[.int .i64 n] w fun e w' => e = .returned (.bool false) ∧ w = w' := by
  go_enter Try.func60, Try.ntmps60
  go_wp2
  go_ret
  exact ⟨ret_bool (by simp), rfl⟩
theorem compare_any (a b : Int) (w : World) : Calls Try.prog 58 #[.int .i64 a, .int .i64 b] w fun e w' => e = .returned (.int .i64 (cmpF a b)) ∧ w = w' := by
  by_cases h1 : a < b
  · have HR : Hid (cmpF a b = -1) := Lib.hid (by unfold cmpF; rw [if_pos h1])
    go_enter Try.func58, Try.ntmps58
    go_wp2_with (go_at_call 60; refine (isnan_any _ _).mono ?_; rintro _ _ ⟨rfl, rfl⟩)
    go_ret
    exact ⟨by rw [HR.out]; rfl, rfl⟩
  · by_cases h2 : b < a
    · have HR : Hid (cmpF a b = 1) := Lib.hid (by unfold cmpF; rw [if_neg h1, if_pos h2])
      go_enter Try.func58, Try.ntmps58
      go_wp2_with (go_at_call 60; refine (isnan_any _ _).mono ?_; rintro _ _ ⟨rfl, rfl⟩)
      go_ret
      exact ⟨by rw [HR.out]; rfl, rfl⟩
    · have HR : Hid (cmpF a b = 0) := Lib.hid (by unfold cmpF; rw [if_neg h1, if_neg h2])
      go_enter Try.func58, Try.ntmps58
      go_wp2_with (go_at_call 60; refine (isnan_any _ _).mono ?_; rintro _ _ ⟨rfl, rfl⟩)
      go_ret
      exact ⟨by rw [HR.out]; rfl, rfl⟩
theorem or_any (x y : Int) (b : Nat) (w : World) (h0 : w.cell? ⟨b, 0, none⟩ = some (.int .i64 x)) (h1 : w.cell? ⟨b, 1, none⟩ = some (.int .i64 y)) :
    Calls Try.prog 57 #[.slice (some ⟨b, 0, none⟩) 2 2] w fun e w' => e = .returned (.int .i64 (if x = 0 then y else x)) ∧ w = w' := by
  by_cases hx : x = 0
  · have HR : Hid ((if x = 0 then y else x) = y) := Lib.hid (if_pos hx)
    have hx2 : (x == 0) = true := by simp [hx]
    have hx3 : (x != 0) = false := by simp [hx]
    have HX := Lib.hid hx
    subst hx
    by_cases hy : y = 0
    · have HY := Lib.hid hy
      subst hy
      go_enter Try.func57, Try.ntmps57
      go_wp2_with fail
      refine wp_loop_rounds 3 ?_
      rw [rounds_succ]
      go_wp2_with fail
      rw [rounds_succ]
      go_wp2_with fail
      rw [rounds_succ]
      go_wp2_with fail
      go_ret
      exact ⟨by simp, rfl⟩
    · go_enter Try.func57, Try.ntmps57
      go_wp2_with fail
      refine wp_loop_rounds 3 ?_
      rw [rounds_succ]
      go_wp2_with fail
      rw [rounds_succ]
      go_wp2_with fail
      go_ret
      exact ⟨by simp, rfl⟩
  · have HR : Hid ((if x = 0 then y else x) = x) := Lib.hid (if_neg hx)
    go_enter Try.func57, Try.ntmps57
    go_wp2_with fail
    refine wp_loop_rounds 3 ?_
    rw [rounds_succ]
    go_wp2_with fail
    go_ret
    exact ⟨rfl, rfl⟩
end Go.Proofs.Ytacicanjmleikaa
