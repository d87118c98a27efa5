/-
  Small functions of TopReads, walked. Written by wip/gen_qq.py.
-/
import Derived.Test.YtacicanjmleikaaQP
namespace Go.Proofs.Ytacicanjmleikaa
open Go.RowKit Go.Sort Go.Shelf
set_option linter.unusedSimpArgs false
set_option linter.unusedVariables false
set_option maxRecDepth 100000

theorem r33key_any (n : Int) (w : World) : Calls Try.prog 5 #[.int .i64 n] w fun e w' => e = .returned (.bool (inT n 1 1000)) ∧ w = w' := by
  by_cases h1 : (1 : Int) ≤ n
  · by_cases h2 : n ≤ 1000
    · have e : inT n 1 1000 = true := inT_iff.2 ⟨h1, h2⟩
      rw [e]; clear e
      go_enter Try.func5, Try.ntmps5
      go_wp2
      go_ret
      exact ⟨rfl, rfl⟩
    · have e : inT n 1 1000 = false := inT_no (by omega)
      rw [e]; clear e
      go_enter Try.func5, Try.ntmps5
      go_wp2
      go_ret
      exact ⟨ret_bool (by simp), rfl⟩
  · have e : inT n 1 1000 = false := inT_no (by omega)
    rw [e]; clear e
    go_enter Try.func5, Try.ntmps5
    go_wp2
    go_ret
    exact ⟨rfl, rfl⟩
theorem r33stamp_any (n : Int) (w : World) : Calls Try.prog 6 #[.int .i64 n] w fun e w' => e = .returned (.bool (inT n 1 3000000000000000)) ∧ w = w' := by
  by_cases h1 : (1 : Int) ≤ n
  · by_cases h2 : n ≤ 3000000000000000
    · have e : inT n 1 3000000000000000 = true := inT_iff.2 ⟨h1, h2⟩
      rw [e]; clear e
      go_enter Try.func6, Try.ntmps6
      go_wp2
      go_ret
      exact ⟨rfl, rfl⟩
    · have e : inT n 1 3000000000000000 = false := inT_no (by omega)
      rw [e]; clear e
      go_enter Try.func6, Try.ntmps6
      go_wp2
      go_ret
      exact ⟨ret_bool (by simp), rfl⟩
  · have e : inT n 1 3000000000000000 = false := inT_no (by omega)
    rw [e]; clear e
    go_enter Try.func6, Try.ntmps6
    go_wp2
    go_ret
    exact ⟨rfl, rfl⟩

set_option maxHeartbeats 1000000 in
theorem rread_any (a : Option Addr) (n c : Nat) (l : List Vn) (h ts : Int) (w : World) (h1 : Rw w a n c l) (g1 : validV l = true) (g2 : inT h 0 3000000000000000 = true) (g3 : inT ts 1 3000000000000000 = true) (g4 : h ≤ ts) :
    Calls Try.prog 14 #[.slice a n c, .int .i64 h, .int .i64 ts] w fun e w' => ∃ a' m c', e = .returned (.tuple #[.slice a' m c', .int .i64 0]) ∧ OwR 47 w.heap.size w' a' m c' (readV l ts) ∧ Ext w w' := by
  have hva := vvalid_any a n c l w h1
  rw [g1] at hva
  have HVA := Lib.hid hva
  have hst := fun V => redge_any h V
  rw [g2] at hst
  have HST := Lib.hid hst
  have hsp := fun V => rstamp_any ts V
  rw [g3] at hsp
  have HSP := Lib.hid hsp
  have HRD := Lib.hid (fun (V : World) (hx : Ext w V) => vread_any a n c l ts V (h1.ext hx) g1 g3)
  have g5 : ¬ (ts < h) := by omega
  clear g1 g2 g3 hva hst hsp
  go_enter Try.func14, Try.ntmps14
  go_wp2_with (go_at_call 33; refine HVA.out.mono ?_; rintro e w1 ⟨rfl, hx1⟩; refine hold ?_)
  refine held ?_
  go_wp2_with ((first | (go_at_call 34; refine (HST.out _).mono ?_) | (go_at_call 37; refine (HSP.out _).mono ?_)); rintro _ _ ⟨rfl, rfl⟩)
  refine (HRD.out _ hx1).mono ?_
  rintro e w2 ⟨a', m, c', rfl, ho, hx⟩
  go_wp2_with fail
  go_ret2
  exact ⟨a', m, c', rfl, ho.monoB hx1.sz, hx1.trans hx⟩

def ivB (lo hi : Int) : Bool := decide (0 ≤ lo ∧ lo ≤ hi ∧ hi ≤ 3000000000000000)
theorem ivB_iff {lo hi : Int} : ivB lo hi = true ↔ 0 ≤ lo ∧ lo ≤ hi ∧ hi ≤ 3000000000000000 := decide_eq_true_iff
theorem ivalid_any (lo hi : Int) (w : World) : Calls Try.prog 18 #[.agg #[.int .i64 lo, .int .i64 hi]] w fun e w' => e = .returned (.bool (ivB lo hi)) ∧ Ext w w' := by
  have hE : Ext w (w.alloc (.cells #[.int .i64 lo, .int .i64 hi] 41)) := (Ext.refl w).alloc _
  have hb := Bk.new w 41 #[.int .i64 lo, .int .i64 hi]
  by_cases h0 : 0 ≤ lo
  · by_cases h1 : lo ≤ hi
    · by_cases h2 : hi ≤ 3000000000000000
      · have e : ivB lo hi = true := ivB_iff.2 ⟨h0, h1, h2⟩
        rw [e]; clear e
        go_enter Try.func18, Try.ntmps18
        go_upto_region 1 with fail
        generalize w.alloc (.cells #[.int .i64 lo, .int .i64 hi] 41) = V at *
        have c0 := hb.c 0 _ rfl
        have c1 := hb.c 1 _ rfl
        go_wp2_with fail
        go_ret
        exact ⟨rfl, hE⟩
      · have e : ivB lo hi = false := decide_eq_false (by omega)
        have h3 : decide (hi ≤ 3000000000000000) = false := decide_eq_false h2
        rw [e]; clear e
        go_enter Try.func18, Try.ntmps18
        go_upto_region 1 with fail
        generalize w.alloc (.cells #[.int .i64 lo, .int .i64 hi] 41) = V at *
        have c0 := hb.c 0 _ rfl
        have c1 := hb.c 1 _ rfl
        go_wp2_with fail
        go_ret
        exact ⟨rfl, hE⟩
    · have e : ivB lo hi = false := decide_eq_false (by omega)
      have h3 : decide (lo ≤ hi) = false := decide_eq_false h1
      rw [e]; clear e
      go_enter Try.func18, Try.ntmps18
      go_upto_region 1 with fail
      generalize w.alloc (.cells #[.int .i64 lo, .int .i64 hi] 41) = V at *
      have c0 := hb.c 0 _ rfl
      have c1 := hb.c 1 _ rfl
      go_wp2_with fail
      go_ret
      exact ⟨rfl, hE⟩
  · have e : ivB lo hi = false := decide_eq_false (by omega)
    have h3 : decide ((0 : Int) ≤ lo) = false := decide_eq_false h0
    rw [e]; clear e
    go_enter Try.func18, Try.ntmps18
    go_upto_region 1 with fail
    generalize w.alloc (.cells #[.int .i64 lo, .int .i64 hi] 41) = V at *
    have c0 := hb.c 0 _ rfl
    have c1 := hb.c 1 _ rfl
    go_wp2_with fail
    go_ret
    exact ⟨rfl, hE⟩

theorem res_around (W : World) (b : Nat) (v0 v1  : Value) (tmps : Array Value) (hb : tmps[6]?.getD undef = .pointer (some ⟨b, 0, none⟩))  (h : Bk W b 41 #[v0, v1]) :
    (results Try.f8 tmps).run Try.prog W = .ok (.agg #[v0, v1]) W := by
  have c0 := h.c 0 _ rfl
  have c1 := h.c 1 _ rfl
  simp [results, Try.results8, go_sem, hb, c0, c1]

def loA (at_ l : Int) : Int := max 0 (at_ - l)
def hiA (at_ r : Int) : Int := min 3000000000000000 (at_ + r)
set_option maxHeartbeats 1000000 in
theorem around_any (at_ l r : Int) (w : World) (h0 : 0 ≤ at_ ∧ at_ ≤ 1000000000000) (hl : 0 ≤ l ∧ l ≤ 65535) (hr : 0 ≤ r ∧ r ≤ 65535) :
    Calls Try.prog 8 #[.int .i64 at_, .int .u16 l, .int .u16 r] w fun e w' => e = .returned (.agg #[.int .i64 (loA at_ l), .int .i64 (hiA at_ r)]) ∧ Ext w w' := by
  have hE : Ext w (w.alloc (.cells #[.int .i64 0, .int .i64 0] 41)) := (Ext.refl w).alloc _
  have hb := Bk.new w 41 #[.int .i64 0, .int .i64 0]
  go_enter Try.func8, Try.ntmps8
  go_upto_region 1 with fail
  generalize w.alloc (.cells #[.int .i64 0, .int .i64 0] 41) = V at *
  obtain ⟨rb, hrb⟩ : ∃ rb, w.heap.size = rb := ⟨_, rfl⟩
  rw [hrb] at hb ⊢
  have c0 := hb.c 0 _ rfl
  have c1 := hb.c 1 _ rfl
  have hf := hb.free
  have e1 : IntKind.i64.wrap (at_ - l) = at_ - l := by rw [IntKind.wrap_i64]; omega
  have e2 : IntKind.i64.wrap (at_ + r) = at_ + r := by rw [IntKind.wrap_i64]; omega
  have e3 : IntKind.i64.wrap l = l := by rw [IntKind.wrap_i64]; omega
  have e4 : IntKind.i64.wrap r = r := by rw [IntKind.wrap_i64]; omega
  have HH : Hid (hiA at_ r = at_ + r) := Lib.hid (by unfold hiA; omega)
  have hwr : w.heap.size ≤ rb := by omega
  have HL0 : Hid (at_ - l ≤ 0 → loA at_ l = 0) := Lib.hid (fun h => by unfold loA; omega)
  have HL1 : Hid (0 ≤ at_ - l → loA at_ l = at_ - l) := Lib.hid (fun h => by unfold loA; omega)
  go_wp2_with fail
  all_goals
    refine bodyPost_ret (res_around _ rb _ _ _ (by rfl) (hb.set2 _ _)) rfl ?_
    refine ⟨?_, hE.set2 hwr _ _⟩
    rw [HH.out]
    first | rw [HL0.out (by omega)] | rw [HL1.out (by omega)]
end Go.Proofs.Ytacicanjmleikaa
