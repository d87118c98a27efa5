/-
  Slices of editions; Few, few, Newest by both, walked. Written by wip/gen_eg.py.
-/
import Derived.Test.YtcohdojfbnijpaaDoorEF
namespace Go.Proofs.YtcohdojfbnijpaaDoor
open Go.RowKit Go.Sort Go.Shelf
set_option linter.unusedSimpArgs false
set_option linter.unusedVariables false
set_option maxRecDepth 100000

/-- The six cells of an edition. -/
def Six (w : World) (b o : Nat) (e : Ed) (a : Option Addr) (n c : Nat) : Prop :=
  w.cell? ⟨b, o, none⟩ = some (.int .i64 e.v) ∧ w.cell? ⟨b, o + 1, none⟩ = some (.int .i64 e.f) ∧ w.cell? ⟨b, o + 2, none⟩ = some (.int .i64 e.u) ∧ w.cell? ⟨b, o + 3, none⟩ = some (.slice a n c) ∧ w.cell? ⟨b, o + 4, none⟩ = some (.int .i64 e.C) ∧ w.cell? ⟨b, o + 5, none⟩ = some (.int .i64 e.S)
theorem Six.ext {w w' : World} {b o : Nat} {e : Ed} {a : Option Addr} {n c : Nat} (h : Six w b o e a n c) (hE : Ext w w') : Six w' b o e a n c :=
  ⟨hE.cell h.1, hE.cell h.2.1, hE.cell h.2.2.1, hE.cell h.2.2.2.1, hE.cell h.2.2.2.2.1, hE.cell h.2.2.2.2.2⟩
/-- The slice 'a, n, c' reads as the list of editions es. -/
structure EdR (w : World) (a : Option Addr) (n c : Nat) (es : List Ed) : Prop where
  hlen : es.length = n
  le : n ≤ c
  max : c ≤ maxLen
  lim : n ≤ 17592186044416
  cells : ∀ i, i < n → ∃ b off a' n' c', a = some ⟨b, off, none⟩ ∧ Six w b (off + i * 6) (nthE es i) a' n' c' ∧ Rw w a' n' c' (nthE es i).l
theorem EdR.ext {w w' : World} {a : Option Addr} {n c : Nat} {es : List Ed} (h : EdR w a n c es) (he : Ext w w') : EdR w' a n c es :=
  ⟨h.hlen, h.le, h.max, h.lim, fun i hi => let ⟨b, off, a', n', c', ha, h6, hr⟩ := h.cells i hi; ⟨b, off, a', n', c', ha, h6.ext he, hr.ext he⟩⟩
theorem EdR.at {w : World} {a : Option Addr} {n c : Nat} {es : List Ed} (h : EdR w a n c es) (h0 : 0 < n) : ∃ b off, a = some ⟨b, off, none⟩ ∧ ∀ i, i < n → ∃ a' n' c', Six w b (off + i * 6) (nthE es i) a' n' c' ∧ Rw w a' n' c' (nthE es i).l := by
  obtain ⟨b, off, _, _, _, rfl, _⟩ := h.cells 0 h0
  refine ⟨b, off, rfl, fun i hi => ?_⟩
  obtain ⟨b', off', a', n', c', he, h6, hr⟩ := h.cells i hi
  simp at he
  obtain ⟨rfl, rfl⟩ := he
  exact ⟨a', n', c', h6, hr⟩
theorem EdR.bd {w : World} {a : Option Addr} {n c : Nat} {es : List Ed} (h : EdR w a n c es) : n ≤ c ∧ c ≤ 9223372036854775807 ∧ n ≤ 17592186044416 := by
  have := h.max
  unfold maxLen at this
  exact ⟨h.le, by omega, h.lim⟩

/-! ### Few -/
def fewE (es : List Ed) : Bool := es.all (fun e => decide (e.l.length ≤ 110)) && decide (es.length ≤ 55)
theorem all_take {p : Ed → Bool} {es : List Ed} (h : ∀ i, i < es.length → p (nthE es i) = true) : es.all p = true := by
  rw [List.all_eq_true]
  intro x hx
  obtain ⟨i, hi, e⟩ := List.getElem_of_mem hx
  have := h i hi
  rwa [nthE_get hi, e] at this
theorem all_not {p : Ed → Bool} {es : List Ed} {i : Nat} (hi : i < es.length) (h : p (nthE es i) = false) : es.all p = false := by
  rw [Bool.eq_false_iff]
  intro h2
  rw [List.all_eq_true.1 h2 _ (nthE_mem hi)] at h
  cases h
set_option maxHeartbeats 2000000 in
theorem r20few_any (a : Option Addr) (n c : Nat) (es : List Ed) (w : World) (h1 : EdR w a n c es) :
    Calls Tryd.prog 35 #[.slice a n c] w fun e w' => e = .returned (.bool (fewE es)) ∧ Ext w w' := by
  have bd := h1.bd
  have HL := Lib.hid h1.hlen
  go_enter Tryd.func35, Tryd.ntmps35
  go_wp2_with fail
  go_loopw [3] (fun i wr => ∃ (k : Nat), k ≤ n ∧ i = .int .i64 (k : Int) ∧ Hid (∀ j, j < k → decide ((nthE es j).l.length ≤ 110) = true) ∧ Ext w wr) (fun i _ => n - (intOf i).toNat)
  case atStart => exact ⟨0, by omega, rfl, Lib.hid (fun j hj => by omega), Ext.refl _⟩
  case round =>
    obtain ⟨k, hk, rfl, HK, hx⟩ := hrel
    by_cases hlt : k < n
    · obtain ⟨x1, o1, rfl, hc1⟩ := (h1.ext hx).at (by omega)
      obtain ⟨a', n', c', h6, hr⟩ := hc1 k hlt
      have hrl := hr.hlen
      obtain ⟨d0, d1, d2, d3, d4, d5⟩ := h6
      by_cases hs : n' ≤ 110
      · have HK2 : Hid (∀ j, j < k + 1 → decide ((nthE es j).l.length ≤ 110) = true) := Lib.hid (fun j hj => by
          by_cases hjk : j = k
          · subst hjk; exact decide_eq_true (by omega)
          · exact HK.out j (by omega))
        have q : ¬ 110 < (n' : Int) := by omega
        clear hc1 hrl hr
        go_wp2_with fail
        exact ⟨⟨k + 1, by omega, by go_num, HK2, hx⟩, by simp [intOf]; omega⟩
      · have HR : Hid (fewE es = false) := Lib.hid (by unfold fewE; rw [all_not (i := k) (by rw [HL.out]; exact hlt) (decide_eq_false (by omega))]; rfl)
        have q : 110 < (n' : Int) := by omega
        clear hc1 hrl hr
        go_wp2_with fail
        go_ret
        exact ⟨by rw [HR.out]; rfl, hx⟩
    · obtain rfl : k = n := by omega
      have HR : Hid (fewE es = decide (k ≤ 55)) := Lib.hid (by unfold fewE; rw [all_take (fun i hi => HK.out i (by rw [HL.out] at hi; exact hi)), HL.out]; rfl)
      by_cases h55 : k ≤ 55
      · have q : decide ((k : Int) ≤ 55) = true := by simp; omega
        have HQ := Lib.hid (decide_eq_true h55)
        go_wp2_with fail
        go_ret
        exact ⟨by rw [HR.out, HQ.out]; rfl, hx⟩
      · have q : decide ((k : Int) ≤ 55) = false := by simp; omega
        have HQ := Lib.hid (decide_eq_false h55)
        go_wp2_with fail
        go_ret
        exact ⟨by rw [HR.out, HQ.out]; rfl, hx⟩
/-- few, of the laws. -/
def few3 (es : List Ed) (n1 n2 : Nat) : Bool := fewE es && (decide (n1 ≤ 110) && decide (n2 ≤ 110))
theorem l20few_any (a : Option Addr) (n c : Nat) (es : List Ed) (a1 : Option Addr) (n1 c1 : Nat) (a2 : Option Addr) (n2 c2 : Nat) (w : World) (h1 : EdR w a n c es) (b1 : n1 ≤ 17592186044416) (b2 : n2 ≤ 17592186044416) :
    Calls Tryd.prog 11 #[.slice a n c, .slice a1 n1 c1, .slice a2 n2 c2] w fun e w' => e = .returned (.bool (few3 es n1 n2)) ∧ Ext w w' := by
  go_enter Tryd.func11, Tryd.ntmps11
  go_wp2_with fail
  refine (r20few_any a n c es w h1).mono ?_
  rintro e w1 ⟨rfl, hx⟩
  rcases hf : fewE es with _ | _
  · have HR : Hid (few3 es n1 n2 = false) := Lib.hid (by unfold few3; rw [hf]; rfl)
    clear hf
    go_wp2_with fail
    go_ret
    exact ⟨by rw [HR.out]; rfl, hx⟩
  by_cases g1 : n1 ≤ 110
  · have d1 : decide ((n1 : Int) ≤ 110) = true := by simp; omega
    by_cases g2 : n2 ≤ 110
    · have d2 : decide ((n2 : Int) ≤ 110) = true := by simp; omega
      have HR : Hid (few3 es n1 n2 = true) := Lib.hid (by unfold few3; rw [hf, decide_eq_true g1, decide_eq_true g2]; rfl)
      clear hf
      go_wp2_with fail
      go_ret
      exact ⟨by rw [HR.out]; rfl, hx⟩
    · have d2 : decide ((n2 : Int) ≤ 110) = false := by simp; omega
      have HR : Hid (few3 es n1 n2 = false) := Lib.hid (by unfold few3; rw [hf, decide_eq_true g1, decide_eq_false g2]; rfl)
      clear hf
      go_wp2_with fail
      go_ret
      exact ⟨by rw [HR.out]; rfl, hx⟩
  · have d1 : decide ((n1 : Int) ≤ 110) = false := by simp; omega
    have HR : Hid (few3 es n1 n2 = false) := Lib.hid (by unfold few3; rw [hf, decide_eq_false g1]; rfl)
    clear hf
    go_wp2_with fail
    go_ret
    exact ⟨by rw [HR.out]; rfl, hx⟩

/-! ### Newest, the program's -/
theorem enew1_any (e : Ed) (a : Option Addr) (n c : Nat) (w : World) (h1 : Rw w a n c e.l) :
    Calls Tryd.prog 51 #[.agg #[.int .i64 e.v, .int .i64 e.f, .int .i64 e.u, .slice a n c, .int .i64 e.C, .int .i64 e.S]] w fun x w' => x = .returned (.bool (!frmB e.v e.f e.u e.l)) ∧ Ext w w' := by
  have hB := Bk.new w 27 #[.int .i64 e.v, .int .i64 e.f, .int .i64 e.u, .slice a n c, .int .i64 e.C, .int .i64 e.S]
  have hE : Ext w (w.alloc (.cells #[.int .i64 e.v, .int .i64 e.f, .int .i64 e.u, .slice a n c, .int .i64 e.C, .int .i64 e.S] 27)) := (Ext.refl w).alloc _
  go_enter Tryd.func51, Tryd.ntmps51
  go_upto_region 1 with fail
  generalize w.alloc (.cells #[.int .i64 e.v, .int .i64 e.f, .int .i64 e.u, .slice a n c, .int .i64 e.C, .int .i64 e.S] 27) = W at *
  generalize w.heap.size = b at *
  have c0 := hB.c 0 _ rfl
  have c1 := hB.c 1 _ rfl
  have c2 := hB.c 2 _ rfl
  have c3 := hB.c 3 _ rfl
  have c4 := hB.c 4 _ rfl
  have c5 := hB.c 5 _ rfl
  go_wp2_with fail
  refine (eformed_any e.v e.f e.u a n c e.l e.C e.S W (h1.ext hE)).mono ?_
  rintro x w1 ⟨rfl, hx⟩
  go_wp2_with fail
  go_ret
  exact ⟨rfl, hE.trans hx⟩
theorem enew2_any (e : Ed) (a : Option Addr) (n c : Nat) (t : Int) (tb : Nat) (w : World) (h1 : w.cell? ⟨tb, 0, none⟩ = some (.int .i64 t)) :
    Calls Tryd.prog 53 #[.agg #[.int .i64 e.v, .int .i64 e.f, .int .i64 e.u, .slice a n c, .int .i64 e.C, .int .i64 e.S], .pointer (some ⟨tb, 0, none⟩)] w fun x w' => x = .returned (.bool (hldB e t)) ∧ Ext w w' := by
  have hB := Bk.new w 27 #[.int .i64 e.v, .int .i64 e.f, .int .i64 e.u, .slice a n c, .int .i64 e.C, .int .i64 e.S]
  have hE : Ext w (w.alloc (.cells #[.int .i64 e.v, .int .i64 e.f, .int .i64 e.u, .slice a n c, .int .i64 e.C, .int .i64 e.S] 27)) := (Ext.refl w).alloc _
  have h2 := hE.cell h1
  clear h1
  by_cases g1 : e.f ≤ t
  · have dg1 := decide_eq_true g1
    by_cases g2 : t < e.u
    · have dg2 := decide_eq_true g2
      have HR : Hid (hldB e t = true) := Lib.hid (by unfold hldB; rw [dg1, dg2]; rfl)
      go_enter Tryd.func53, Tryd.ntmps53
      go_upto_region 1 with fail
      generalize w.alloc (.cells #[.int .i64 e.v, .int .i64 e.f, .int .i64 e.u, .slice a n c, .int .i64 e.C, .int .i64 e.S] 27) = W at *
      generalize w.heap.size = b at *
      have c1 := hB.c 1 _ rfl
      have c2 := hB.c 2 _ rfl
      go_wp2_with fail
      go_ret
      exact ⟨by rw [HR.out]; rfl, hE⟩
    · have dg2 := decide_eq_false g2
      have HR : Hid (hldB e t = false) := Lib.hid (by unfold hldB; rw [dg1, dg2]; rfl)
      go_enter Tryd.func53, Tryd.ntmps53
      go_upto_region 1 with fail
      generalize w.alloc (.cells #[.int .i64 e.v, .int .i64 e.f, .int .i64 e.u, .slice a n c, .int .i64 e.C, .int .i64 e.S] 27) = W at *
      generalize w.heap.size = b at *
      have c1 := hB.c 1 _ rfl
      have c2 := hB.c 2 _ rfl
      go_wp2_with fail
      go_ret
      exact ⟨by rw [HR.out]; rfl, hE⟩
  · have dg1 := decide_eq_false g1
    have HR : Hid (hldB e t = false) := Lib.hid (by unfold hldB; rw [dg1]; rfl)
    go_enter Tryd.func53, Tryd.ntmps53
    go_upto_region 1 with fail
    generalize w.alloc (.cells #[.int .i64 e.v, .int .i64 e.f, .int .i64 e.u, .slice a n c, .int .i64 e.C, .int .i64 e.S] 27) = W at *
    generalize w.heap.size = b at *
    have c1 := hB.c 1 _ rfl
    have c2 := hB.c 2 _ rfl
    go_wp2_with fail
    go_ret
    exact ⟨by rw [HR.out]; rfl, hE⟩
theorem enew3_any (e g : Ed) (a : Option Addr) (n c : Nat) (a2 : Option Addr) (n2 c2 : Nat) (w : World) :
    Calls Tryd.prog 55 #[.agg #[.int .i64 e.v, .int .i64 e.f, .int .i64 e.u, .slice a n c, .int .i64 e.C, .int .i64 e.S], .agg #[.int .i64 g.v, .int .i64 g.f, .int .i64 g.u, .slice a2 n2 c2, .int .i64 g.C, .int .i64 g.S]] w fun x w' => x = .returned (.bool (decide (g.v < e.v))) ∧ Ext w w' := by
  have hP := Bk.new w 27 #[.int .i64 e.v, .int .i64 e.f, .int .i64 e.u, .slice a n c, .int .i64 e.C, .int .i64 e.S]
  have hQ := Bk.new (w.alloc (.cells #[.int .i64 e.v, .int .i64 e.f, .int .i64 e.u, .slice a n c, .int .i64 e.C, .int .i64 e.S] 27)) 27 #[.int .i64 g.v, .int .i64 g.f, .int .i64 g.u, .slice a2 n2 c2, .int .i64 g.C, .int .i64 g.S]
  rw [World.size_alloc] at hQ
  replace hP := hP.ext ((Ext.refl _).alloc (.cells #[.int .i64 g.v, .int .i64 g.f, .int .i64 g.u, .slice a2 n2 c2, .int .i64 g.C, .int .i64 g.S] 27))
  have hE : Ext w ((w.alloc (.cells #[.int .i64 e.v, .int .i64 e.f, .int .i64 e.u, .slice a n c, .int .i64 e.C, .int .i64 e.S] 27)).alloc (.cells #[.int .i64 g.v, .int .i64 g.f, .int .i64 g.u, .slice a2 n2 c2, .int .i64 g.C, .int .i64 g.S] 27)) := ((Ext.refl w).alloc _).alloc _
  go_enter Tryd.func55, Tryd.ntmps55
  go_upto_region 1 with fail
  generalize (w.alloc (.cells #[.int .i64 e.v, .int .i64 e.f, .int .i64 e.u, .slice a n c, .int .i64 e.C, .int .i64 e.S] 27)).alloc (.cells #[.int .i64 g.v, .int .i64 g.f, .int .i64 g.u, .slice a2 n2 c2, .int .i64 g.C, .int .i64 g.S] 27) = W at *
  generalize w.heap.size = b at *
  have c0 := hP.c 0 _ rfl
  have e0 := hQ.c 0 _ rfl
  go_wp2_with fail
  go_ret
  exact ⟨rfl, hE⟩

set_option maxHeartbeats 4000000 in
theorem eidx_any (a : Option Addr) (n c : Nat) (es : List Ed) (w : World) (h1 : EdR w a n c es) :
    Calls Tryd.prog 77 #[.slice a n c, .func (.func 51) #[] #[]] w fun e w' => ∃ z : Int, e = .returned (.int .i64 z) ∧ Hid (decide (0 ≤ z) = !allF es) ∧ -1 ≤ z ∧ z ≤ 17592186044416 ∧ Ext w w' := by
  have bd := h1.bd
  have HL := Lib.hid h1.hlen
  go_enter Tryd.func77, Tryd.ntmps77
  go_wp2_with fail
  go_loopw [8] (fun i wr => ∃ (k : Nat), k ≤ n ∧ i = .int .i64 (k : Int) ∧ Hid (∀ j, j < k → frmB (nthE es j).v (nthE es j).f (nthE es j).u (nthE es j).l = true) ∧ Ext w wr) (fun i _ => n - (intOf i).toNat)
  case atStart => exact ⟨0, by omega, rfl, Lib.hid (fun j hj => by omega), Ext.refl _⟩
  case round =>
    obtain ⟨k, hk, rfl, HK, hx⟩ := hrel
    by_cases hlt : k < n
    · obtain ⟨x1, o1, rfl, hc1⟩ := (h1.ext hx).at (by omega)
      obtain ⟨a', n', c', h6, hr⟩ := hc1 k hlt
      have HY : Hid (frmB (nthE es k).v (nthE es k).f (nthE es k).u (nthE es k).l = true → ∀ j, j < k + 1 → frmB (nthE es j).v (nthE es j).f (nthE es j).u (nthE es j).l = true) := Lib.hid (fun h j hj => by
        by_cases hjk : j = k
        · subst hjk; exact h
        · exact HK.out j (by omega))
      have HN : Hid (frmB (nthE es k).v (nthE es k).f (nthE es k).u (nthE es k).l = false → allF es = false) := Lib.hid (fun h => all_not (p := fun e => frmB e.v e.f e.u e.l) (i := k) (by rw [HL.out]; exact hlt) h)
      clear hc1
      obtain ⟨d0, d1, d2, d3, d4, d5⟩ := h6
      generalize nthE es k = e at *
      go_wp2_with fail
      refine (enew1_any e a' n' c' wr hr).mono ?_
      rintro x w3 ⟨rfl, hx3⟩
      rcases hf : frmB e.v e.f e.u e.l with _ | _
      · have HR : Hid (decide (0 ≤ (k : Int)) = !allF es) := Lib.hid (by rw [HN.out hf]; simp)
        clear hf
        go_wp2_with fail
        go_ret
        exact ⟨k, rfl, HR, by omega, by omega, hx.trans hx3⟩
      · have HK2 := Lib.hid (HY.out hf)
        clear hf
        go_wp2_with fail
        exact ⟨⟨k + 1, by omega, by go_num, HK2, hx.trans hx3⟩, by simp [intOf]; omega⟩
    · obtain rfl : k = n := by omega
      have HR : Hid (decide (0 ≤ (-1 : Int)) = !allF es) := Lib.hid (by unfold allF; rw [all_take (fun i hi => HK.out i (by rw [HL.out] at hi; exact hi))]; rfl)
      go_wp2_with fail
      go_ret
      exact ⟨-1, rfl, HR, by omega, by omega, hx⟩
theorem econt_any (a : Option Addr) (n c : Nat) (es : List Ed) (w : World) (h1 : EdR w a n c es) :
    Calls Tryd.prog 52 #[.slice a n c, .func (.func 51) #[] #[]] w fun e w' => e = .returned (.bool (!allF es)) ∧ Ext w w' := by
  go_enter Tryd.func52, Tryd.ntmps52
  go_wp2_with fail
  refine (eidx_any a n c es w h1).mono ?_
  rintro e w1 ⟨z, rfl, HZ, z1, z2, hx⟩
  go_wp2_with fail
  go_ret
  exact ⟨by rw [← HZ.out]; rfl, hx⟩

set_option maxHeartbeats 8000000 in
theorem ebest_any (a : Option Addr) (n c : Nat) (es : List Ed) (t : Int) (tb : Nat) (w : World) (h1 : EdR w a n c es) (h2 : w.cell? ⟨tb, 0, none⟩ = some (.int .i64 t)) :
    Calls Tryd.prog 54 #[.slice a n c, .func (.func 53) #[] #[.pointer (some ⟨tb, 0, none⟩)], .func (.func 55) #[] #[]] w fun e w' => e = .returned (.int .i64 (bstN es t n)) ∧ Ext w w' := by
  have bd := h1.bd
  have HL := Lib.hid h1.hlen
  go_enter Tryd.func54, Tryd.ntmps54
  go_wp2_with fail
  go_loopw [7, 12] (fun b i wr => ∃ (k : Nat), k ≤ n ∧ i = .int .i64 (k : Int) ∧ b = .int .i64 (bstN es t k) ∧ Ext w wr) (fun _ i _ => n - (intOf i).toNat)
  case atStart => exact ⟨0, by omega, rfl, rfl, Ext.refl _⟩
  case round =>
    obtain ⟨k, hk, rfl, rfl, hx⟩ := hrel
    have hbb := bstN_bd es t k
    by_cases hlt : k < n
    · obtain ⟨x1, o1, rfl, hc1⟩ := (h1.ext hx).at (by omega)
      obtain ⟨a', n', c', h6, hr⟩ := hc1 k hlt
      have HB0 : Hid (bstN es t (k + 1) = if hldB (nthE es k) t = true ∧ (bstN es t k < 0 ∨ (nthE es (bstN es t k).toNat).v < (nthE es k).v) then (k : Int) else bstN es t k) := Lib.hid rfl
      have HC := Lib.hid hc1
      clear hc1
      obtain ⟨d0, d1, d2, d3, d4, d5⟩ := h6
      generalize hBK : bstN es t k = B at *
      clear hBK
      generalize nthE es k = e at *
      go_upto_region 5 with fail
      have hV := Bk.new wr 27 #[.int .i64 e.v, .int .i64 e.f, .int .i64 e.u, .slice a' n' c', .int .i64 e.C, .int .i64 e.S]
      have hxv : Ext wr (wr.alloc (.cells #[.int .i64 e.v, .int .i64 e.f, .int .i64 e.u, .slice a' n' c', .int .i64 e.C, .int .i64 e.S] 27)) := (Ext.refl wr).alloc _
      generalize wr.alloc (.cells #[.int .i64 e.v, .int .i64 e.f, .int .i64 e.u, .slice a' n' c', .int .i64 e.C, .int .i64 e.S] 27) = V at *
      generalize wr.heap.size = vb at *
      have hxV := hx.trans hxv
      clear d0 d1 d2 d3 d4 d5
      have v0 := hV.c 0 _ rfl
      have v1 := hV.c 1 _ rfl
      have v2 := hV.c 2 _ rfl
      have v3 := hV.c 3 _ rfl
      have v4 := hV.c 4 _ rfl
      have v5 := hV.c 5 _ rfl
      have vl := hV.lt
      have hg := @grow_cell
      have HC2 : Hid (∀ W, Ext V W → Calls Tryd.prog 53 #[.agg #[.int .i64 e.v, .int .i64 e.f, .int .i64 e.u, .slice a' n' c', .int .i64 e.C, .int .i64 e.S], .pointer (some ⟨tb, 0, none⟩)] W fun x w' => x = .returned (.bool (hldB e t)) ∧ Ext W w') := Lib.hid (fun W hW => enew2_any e a' n' c' t tb W ((hxV.trans hW).cell h2))
      rcases hh : hldB e t with _ | _
      · have HB : Hid (bstN es t (k + 1) = B) := Lib.hid (by rw [HB0.out, if_neg (fun h => by rw [hh] at h; cases h.1)])
        rw [hh] at HC2
        clear hh HB0
        refine region_ext (by kernel_rfl) (by kernel_rfl) ?_
        repeat (go_big_quiet_step ((go_at_call 53; exact Calls.regrown_of (HC2.out _ (ext_grow _ _ _)))))
        refine wpQuiet_nil ?_
        intro w9 hx9
        go_wp2_with fail
        exact ⟨⟨k + 1, by omega, by go_num, by rw [HB.out], hxV.trans hx9⟩, by simp [intOf]; omega⟩
      · rw [hh] at HC2
        by_cases hb0 : B < 0
        · have HB : Hid (bstN es t (k + 1) = k) := Lib.hid (by rw [HB0.out, if_pos ⟨hh, .inl hb0⟩])
          have db := decide_eq_true hb0
          clear hh HB0
          refine region_ext (by kernel_rfl) (by kernel_rfl) ?_
          repeat (go_big_quiet_step ((go_at_call 53; exact Calls.regrown_of (HC2.out _ (ext_grow _ _ _)))))
          refine wpQuiet_nil ?_
          intro w9 hx9
          go_wp2_with fail
          exact ⟨⟨k + 1, by omega, by go_num, by rw [HB.out], hxV.trans hx9⟩, by simp [intOf]; omega⟩
        · have db := decide_eq_false hb0
          obtain ⟨K, rfl⟩ : ∃ K : Nat, B = (K : Int) := ⟨B.toNat, by omega⟩
          obtain ⟨a2, n2, c2, g6, gr⟩ := HC.out K (by omega)
          have g6V := g6.ext hxv
          clear g6 HC
          obtain ⟨g0, g1, g2, g3, g4, g5⟩ := g6V
          have gl := lt_of_cell g0
          rw [Int.toNat_natCast] at HB0
          generalize nthE es K = g at *
          have HC3 : Hid (∀ W, Calls Tryd.prog 55 #[.agg #[.int .i64 e.v, .int .i64 e.f, .int .i64 e.u, .slice a' n' c', .int .i64 e.C, .int .i64 e.S], .agg #[.int .i64 g.v, .int .i64 g.f, .int .i64 g.u, .slice a2 n2 c2, .int .i64 g.C, .int .i64 g.S]] W fun x w' => x = .returned (.bool (decide (g.v < e.v))) ∧ Ext W w') := Lib.hid (fun W => enew3_any e g a' n' c' a2 n2 c2 W)
          by_cases hvv : g.v < e.v
          · have HB : Hid (bstN es t (k + 1) = k) := Lib.hid (by rw [HB0.out, if_pos ⟨hh, .inr hvv⟩])
            rw [decide_eq_true hvv] at HC3
            clear hh HB0
            refine region_ext (by kernel_rfl) (by kernel_rfl) ?_
            repeat (go_big_quiet_step (first | (go_at_call 53; exact Calls.regrown_of (HC2.out _ (ext_grow _ _ _))) | (go_at_call 55; exact Calls.regrown_of (HC3.out _))))
            refine wpQuiet_nil ?_
            intro w9 hx9
            go_wp2_with fail
            exact ⟨⟨k + 1, by omega, by go_num, by rw [HB.out], hxV.trans hx9⟩, by simp [intOf]; omega⟩
          · have HB : Hid (bstN es t (k + 1) = K) := Lib.hid (by rw [HB0.out, if_neg (fun h => by rcases h.2 with h | h; omega; exact hvv h)])
            rw [decide_eq_false hvv] at HC3
            clear hh HB0
            refine region_ext (by kernel_rfl) (by kernel_rfl) ?_
            repeat (go_big_quiet_step (first | (go_at_call 53; exact Calls.regrown_of (HC2.out _ (ext_grow _ _ _))) | (go_at_call 55; exact Calls.regrown_of (HC3.out _))))
            refine wpQuiet_nil ?_
            intro w9 hx9
            go_wp2_with fail
            exact ⟨⟨k + 1, by omega, by go_num, by rw [HB.out], hxV.trans hx9⟩, by simp [intOf]; omega⟩
    · obtain rfl : k = n := by omega
      go_wp2_with fail
      go_ret
      exact ⟨rfl, hx⟩

set_option maxHeartbeats 4000000 in
theorem enew_any (a : Option Addr) (n c : Nat) (es : List Ed) (t : Int) (w : World) (h1 : EdR w a n c es) :
    Calls Tryd.prog 19 #[.slice a n c, .int .i64 t] w fun e w' => e = .returned (.tuple #[.int .i64 (nwF es t).1, .bool (nwF es t).2.1, .int .i64 (nwF es t).2.2]) ∧ Ext w w' := by
  have bd := h1.bd
  have HL := Lib.hid h1.hlen
  have hB := Bk.new w 3 #[.int .i64 t]
  have hE : Ext w (w.alloc (.cells #[.int .i64 t] 3)) := (Ext.refl w).alloc _
  go_enter Tryd.func19, Tryd.ntmps19
  go_upto_region 1 with fail
  generalize w.alloc (.cells #[.int .i64 t] 3) = W at *
  generalize w.heap.size = tb at *
  have t0 := hB.c 0 _ rfl
  by_cases g1 : n ≤ 50
  · have g1' : ¬ 50 < (n : Int) := by omega
    have dg1 : decide (50 < (n : Int)) = false := decide_eq_false g1'
    by_cases g2 : 0 ≤ t
    · have dg2 : decide (t < 0) = false := decide_eq_false (by omega)
      by_cases g3 : t ≤ 3000000000000000
      · have dg3 : decide (3000000000000000 < t) = false := decide_eq_false (by omega)
        have HN : Hid (nwF es t = if allF es = true then (max (bstN es t n) 0, decide (0 ≤ bstN es t n), 0) else (0, false, 1)) := Lib.hid (by
          unfold nwF
          rw [HL.out]
          by_cases ha : allF es = true
          · rw [if_pos ⟨g1, ⟨g2, g3⟩, ha⟩, if_pos ha]
          · rw [if_neg (fun h => ha h.2.2), if_neg ha])
        go_wp2_with fail
        refine (econt_any a n c es W (h1.ext hE)).mono ?_
        rintro e w1 ⟨rfl, hx⟩
        rcases ha : allF es with _ | _
        · have HR : Hid (nwF es t = (0, false, 1)) := Lib.hid (by rw [HN.out, ha]; rfl)
          clear ha
          go_wp2_with fail
          go_ret3
          exact ⟨by rw [HR.out]; rfl, hE.trans hx⟩
        · have HR : Hid (nwF es t = (max (bstN es t n) 0, decide (0 ≤ bstN es t n), 0)) := Lib.hid (by rw [HN.out, ha]; rfl)
          clear ha HN
          have t1 := hx.cell t0
          have hbb := bstN_bd es t n
          go_wp2_with fail
          refine (ebest_any a n c es t tb w1 ((h1.ext hE).ext hx) t1).mono ?_
          rintro e w2 ⟨rfl, hx2⟩
          generalize bstN es t n = B at *
          by_cases hb : 0 ≤ B
          · have HM : Hid ((max B 0, decide (0 ≤ B), (0 : Int)) = (B, true, 0)) := Lib.hid (by rw [decide_eq_true hb, show max B 0 = B by omega])
            have db := decide_eq_true hb
            go_wp2_with fail
            all_goals first | (go_ret3; exact ⟨by rw [HR.out, db]; rfl, (hE.trans hx).trans hx2⟩) | (go_ret3; exact ⟨by rw [HR.out, HM.out]; rfl, (hE.trans hx).trans hx2⟩) | (go_ret3; exact ⟨by rw [HR.out]; rfl, (hE.trans hx).trans hx2⟩) | (exfalso; omega)
          · have HM : Hid ((max B 0, decide (0 ≤ B), (0 : Int)) = (0, false, 0)) := Lib.hid (by rw [decide_eq_false hb, show max B 0 = 0 by omega])
            have db := decide_eq_false hb
            go_wp2_with fail
            all_goals first | (go_ret3; exact ⟨by rw [HR.out, db]; rfl, (hE.trans hx).trans hx2⟩) | (go_ret3; exact ⟨by rw [HR.out, HM.out]; rfl, (hE.trans hx).trans hx2⟩) | (go_ret3; exact ⟨by rw [HR.out]; rfl, (hE.trans hx).trans hx2⟩) | (exfalso; omega)
      · have HR : Hid (nwF es t = (0, false, 1)) := Lib.hid (by unfold nwF; rw [if_neg (fun h => g3 h.2.1.2)])
        have dg3 : decide (3000000000000000 < t) = true := decide_eq_true (by omega)
        go_wp2_with fail
        go_ret3
        exact ⟨by rw [HR.out]; rfl, hE⟩
    · have HR : Hid (nwF es t = (0, false, 1)) := Lib.hid (by unfold nwF; rw [if_neg (fun h => g2 h.2.1.1)])
      have dg2 : decide (t < 0) = true := decide_eq_true (by omega)
      go_wp2_with fail
      go_ret3
      exact ⟨by rw [HR.out]; rfl, hE⟩
  · have HR : Hid (nwF es t = (0, false, 1)) := Lib.hid (by unfold nwF; rw [if_neg (fun h => g1 (by have := h.1; rw [HL.out] at this; exact this))])
    have dg1 : decide (50 < (n : Int)) = true := decide_eq_true (by omega)
    go_wp2_with fail
    go_ret3
    exact ⟨by rw [HR.out]; rfl, hE⟩

/-! ### Newest, the reference's -/
set_option maxHeartbeats 16000000 in
theorem rnew_any (a : Option Addr) (n c : Nat) (es : List Ed) (t : Int) (w : World) (h1 : EdR w a n c es) :
    Calls Tryd.prog 20 #[.slice a n c, .int .i64 t] w fun e w' => e = .returned (.tuple #[.int .i64 (nwF es t).1, .bool (nwF es t).2.1, .int .i64 (nwF es t).2.2]) ∧ Ext w w' := by
  have bd := h1.bd
  have HL := Lib.hid h1.hlen
  go_enter Tryd.func20, Tryd.ntmps20
  by_cases g1 : n ≤ 50
  case neg =>
    have HR : Hid (nwF es t = (0, false, 1)) := Lib.hid (by unfold nwF; rw [if_neg (fun h => g1 (by have := h.1; rw [HL.out] at this; exact this))])
    have dg1 : decide (50 < (n : Int)) = true := decide_eq_true (by omega)
    go_wp2_with fail
    go_ret3
    exact ⟨by rw [HR.out]; rfl, Ext.refl _⟩
  have g1' : ¬ 50 < (n : Int) := by omega
  have dg1 : decide (50 < (n : Int)) = false := decide_eq_false g1'
  by_cases g2 : 0 ≤ t
  case neg =>
    have HR : Hid (nwF es t = (0, false, 1)) := Lib.hid (by unfold nwF; rw [if_neg (fun h => g2 h.2.1.1)])
    have dg2 : decide (t < 0) = true := decide_eq_true (by omega)
    go_wp2_with fail
    go_ret3
    exact ⟨by rw [HR.out]; rfl, Ext.refl _⟩
  have dg2 : decide (t < 0) = false := decide_eq_false (by omega)
  by_cases g3 : t ≤ 3000000000000000
  case neg =>
    have HR : Hid (nwF es t = (0, false, 1)) := Lib.hid (by unfold nwF; rw [if_neg (fun h => g3 h.2.1.2)])
    have dg3 : decide (3000000000000000 < t) = true := decide_eq_true (by omega)
    go_wp2_with fail
    go_ret3
    exact ⟨by rw [HR.out]; rfl, Ext.refl _⟩
  have dg3 : decide (3000000000000000 < t) = false := decide_eq_false (by omega)
  have HN : Hid (nwF es t = if allF es = true then (max (bstN es t n) 0, decide (0 ≤ bstN es t n), 0) else (0, false, 1)) := Lib.hid (by
    unfold nwF
    rw [HL.out]
    by_cases ha : allF es = true
    · rw [if_pos ⟨g1, ⟨g2, g3⟩, ha⟩, if_pos ha]
    · rw [if_neg (fun h => ha h.2.2), if_neg ha])
  go_wp2_with fail
  clear dg1 dg2 dg3
  go_loopw [7] (fun i wr => ∃ (k : Nat), k ≤ n ∧ i = .int .i64 (k : Int) ∧ Hid (∀ j, j < k → frmB (nthE es j).v (nthE es j).f (nthE es j).u (nthE es j).l = true) ∧ Ext w wr) (fun i _ => n - (intOf i).toNat)
  case atStart => exact ⟨0, by omega, rfl, Lib.hid (fun j hj => by omega), Ext.refl _⟩
  case round =>
    obtain ⟨k, hk, rfl, HK, hx⟩ := hrel
    by_cases hlt : k < n
    · obtain ⟨x1, o1, rfl, hc1⟩ := (h1.ext hx).at (by omega)
      obtain ⟨a', n', c', h6, hr⟩ := hc1 k hlt
      have HY : Hid (frmB (nthE es k).v (nthE es k).f (nthE es k).u (nthE es k).l = true → ∀ j, j < k + 1 → frmB (nthE es j).v (nthE es j).f (nthE es j).u (nthE es j).l = true) := Lib.hid (fun h j hj => by
        by_cases hjk : j = k
        · subst hjk; exact h
        · exact HK.out j (by omega))
      have HA : Hid (frmB (nthE es k).v (nthE es k).f (nthE es k).u (nthE es k).l = false → nwF es t = (0, false, 1)) := Lib.hid (fun h => by
        have := all_not (p := fun e => frmB e.v e.f e.u e.l) (i := k) (by rw [HL.out]; exact hlt) h
        rw [HN.out, if_neg]
        unfold allF
        rw [this]; decide)
      clear hc1
      obtain ⟨d0, d1, d2, d3, d4, d5⟩ := h6
      generalize nthE es k = e at *
      go_wp2_with fail
      refine (rformed_any e.v e.f e.u a' n' c' e.l e.C e.S wr hr).mono ?_
      rintro x w3 ⟨rfl, hx3⟩
      rcases hf : frmB e.v e.f e.u e.l with _ | _
      · have HR := Lib.hid (HA.out hf)
        clear hf
        go_wp2_with fail
        go_ret3
        exact ⟨by rw [HR.out]; rfl, hx.trans hx3⟩
      · have HK2 := Lib.hid (HY.out hf)
        clear hf
        go_wp2_with fail
        exact ⟨⟨k + 1, by omega, by go_num, HK2, hx.trans hx3⟩, by simp [intOf]; omega⟩
    · have hkn : n = k := by omega
      subst hkn
      have HR0 : Hid (nwF es t = (max (bstN es t n) 0, decide (0 ≤ bstN es t n), 0)) := Lib.hid (by
        have : allF es = true := all_take (fun i hi => HK.out i (by rw [HL.out] at hi; exact hi))
        rw [HN.out, if_pos this])
      clear HK HN
      have hx0 := hx
      clear hx
      go_upto_region 11 with fail
      go_loopw [9, 10] (fun b i wr => ∃ (k : Nat), k ≤ n ∧ i = .int .i64 (k : Int) ∧ b = .int .i64 (bstN es t k) ∧ Ext w wr) (fun _ i _ => n - (intOf i).toNat)
      case atStart => exact ⟨0, by omega, rfl, rfl, hx0⟩
      case round =>
        obtain ⟨k, hk, rfl, rfl, hx⟩ := hrel
        clear hx0
        have hbb := bstN_bd es t k
        by_cases hlt : k < n
        · obtain ⟨x1, o1, rfl, hc1⟩ := (h1.ext hx).at (by omega)
          obtain ⟨a', n', c', h6, hr⟩ := hc1 k hlt
          have HB0 : Hid (bstN es t (k + 1) = if hldB (nthE es k) t = true ∧ (bstN es t k < 0 ∨ (nthE es (bstN es t k).toNat).v < (nthE es k).v) then (k : Int) else bstN es t k) := Lib.hid rfl
          have HC := Lib.hid hc1
          have HHF : Hid (hldB (nthE es k) t = (decide ((nthE es k).f ≤ t) && decide (t < (nthE es k).u))) := Lib.hid rfl
          clear hc1
          obtain ⟨d0, d1, d2, d3, d4, d5⟩ := h6
          have l6 := lt_of_cell d0
          generalize hBK : bstN es t k = B at *
          clear hBK
          generalize nthE es k = e at *
          by_cases q1 : e.f ≤ t
          · have dq1 := decide_eq_true q1
            by_cases q2 : t < e.u
            · have dq2 := decide_eq_true q2
              have hh : hldB e t = true := by rw [HHF.out, dq1, dq2]; rfl
              by_cases hb0 : B < 0
              · have HB : Hid (bstN es t (k + 1) = k) := Lib.hid (by rw [HB0.out, if_pos ⟨hh, .inl hb0⟩])
                have db := decide_eq_true hb0
                clear hh HB0 HHF
                have hg := @grow_cell
                go_upto_region 13 with fail
                refine region_ext (by kernel_rfl) (by kernel_rfl) ?_
                repeat (go_big_quiet_step (fail))
                refine wpQuiet_nil ?_
                intro w9 hx9
                go_wp2_with fail
                exact ⟨⟨k + 1, by omega, by go_num, by rw [HB.out], hx.trans hx9⟩, by simp [intOf]; omega⟩
              · have db := decide_eq_false hb0
                obtain ⟨K, rfl⟩ : ∃ K : Nat, B = (K : Int) := ⟨B.toNat, by omega⟩
                obtain ⟨a2, n2, c2, g6, gr⟩ := HC.out K (by omega)
                clear HC
                obtain ⟨y0, y1, y2, y3, y4, y5⟩ := g6
                have yl := lt_of_cell y0
                rw [Int.toNat_natCast] at HB0
                generalize nthE es K = g at *
                by_cases hvv : g.v < e.v
                · have HB : Hid (bstN es t (k + 1) = k) := Lib.hid (by rw [HB0.out, if_pos ⟨hh, .inr hvv⟩])
                  have dv := decide_eq_true hvv
                  clear hh HB0 HHF
                  have hg := @grow_cell
                  go_upto_region 13 with fail
                  refine region_ext (by kernel_rfl) (by kernel_rfl) ?_
                  repeat (go_big_quiet_step (fail))
                  refine wpQuiet_nil ?_
                  intro w9 hx9
                  go_wp2_with fail
                  exact ⟨⟨k + 1, by omega, by go_num, by rw [HB.out], hx.trans hx9⟩, by simp [intOf]; omega⟩
                · have HB : Hid (bstN es t (k + 1) = K) := Lib.hid (by rw [HB0.out, if_neg (fun h => by rcases h.2 with h | h; omega; exact hvv h)])
                  have dv := decide_eq_false hvv
                  clear hh HB0 HHF
                  have hg := @grow_cell
                  go_upto_region 13 with fail
                  refine region_ext (by kernel_rfl) (by kernel_rfl) ?_
                  repeat (go_big_quiet_step (fail))
                  refine wpQuiet_nil ?_
                  intro w9 hx9
                  go_wp2_with fail
                  exact ⟨⟨k + 1, by omega, by go_num, by rw [HB.out], hx.trans hx9⟩, by simp [intOf]; omega⟩
            · have dq2 := decide_eq_false q2
              have HB : Hid (bstN es t (k + 1) = B) := Lib.hid (by rw [HB0.out, if_neg (fun h => by rw [HHF.out, dq1, dq2] at h; cases h.1)])
              clear HB0 HHF
              have hg := @grow_cell
              go_upto_region 13 with fail
              refine region_ext (by kernel_rfl) (by kernel_rfl) ?_
              repeat (go_big_quiet_step (fail))
              refine wpQuiet_nil ?_
              intro w9 hx9
              go_wp2_with fail
              exact ⟨⟨k + 1, by omega, by go_num, by rw [HB.out], hx.trans hx9⟩, by simp [intOf]; omega⟩
          · have dq1 := decide_eq_false q1
            have HB : Hid (bstN es t (k + 1) = B) := Lib.hid (by rw [HB0.out, if_neg (fun h => by rw [HHF.out, dq1] at h; cases h.1)])
            clear HB0 HHF
            have hg := @grow_cell
            go_upto_region 13 with fail
            refine region_ext (by kernel_rfl) (by kernel_rfl) ?_
            repeat (go_big_quiet_step (fail))
            refine wpQuiet_nil ?_
            intro w9 hx9
            go_wp2_with fail
            exact ⟨⟨k + 1, by omega, by go_num, by rw [HB.out], hx.trans hx9⟩, by simp [intOf]; omega⟩
        · obtain rfl : n = k := by omega
          generalize bstN es t n = B at *
          by_cases hb : B < 0
          · have HM : Hid ((max B 0, decide (0 ≤ B), (0 : Int)) = (0, false, 0)) := Lib.hid (by rw [decide_eq_false (by omega), show max B 0 = 0 by omega])
            go_wp2_with fail
            go_ret3
            exact ⟨by rw [HR0.out, HM.out]; rfl, hx⟩
          · have HM : Hid ((max B 0, decide (0 ≤ B), (0 : Int)) = (B, true, 0)) := Lib.hid (by rw [decide_eq_true (by omega), show max B 0 = B by omega])
            go_wp2_with fail
            go_ret3
            exact ⟨by rw [HR0.out, HM.out]; rfl, hx⟩
end Go.Proofs.YtcohdojfbnijpaaDoor
