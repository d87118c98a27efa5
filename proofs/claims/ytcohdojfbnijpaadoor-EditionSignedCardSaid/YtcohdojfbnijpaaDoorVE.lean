/-
  Days of a table, by the program's civil package, walked: find, and the small functions on spans.
-/
import Derived.Test.YtcohdojfbnijpaaDoorVD
namespace Go.Proofs.YtcohdojfbnijpaaDoor
open Go.RowKit Go.Sort Go.Shelf
set_option linter.unusedSimpArgs false
set_option linter.unusedVariables false
set_option maxRecDepth 100000

/-! ### A block of so many cells -/
def Bk (W : World) (b : Nat) (T : TypeId) (cs : Array Value) : Prop := W.heap[b]? = some (.cells cs T (0, 0))
theorem Bk.new (w : World) (T : TypeId) (cs : Array Value) : Bk (w.alloc (.cells cs T)) w.heap.size T cs := World.alloc_heap_new w _
theorem Bk.ext {W W' : World} {b : Nat} {T : TypeId} {cs : Array Value} (h : Bk W b T cs) (hE : Ext W W') : Bk W' b T cs := (hE.block b (Array.getElem?_eq_some_iff.1 h).1).trans h
theorem Bk.lt {W : World} {b : Nat} {T : TypeId} {cs : Array Value} (h : Bk W b T cs) : b < W.heap.size := (Array.getElem?_eq_some_iff.1 h).1
theorem Bk.c {W : World} {b : Nat} {T : TypeId} {cs : Array Value} (h : Bk W b T cs) (i : Nat) (v : Value) (hv : cs[i]? = some v) : W.cell? ⟨b, i, none⟩ = some v := cell_of_block h i v hv
theorem Bk.free {W : World} {b : Nat} {T : TypeId} {cs : Array Value} (h : Bk W b T cs) (i : Nat) : W.frozen? ⟨b, i, none⟩ = false := free_of_block h i
theorem Bk.set {W : World} {b : Nat} {T : TypeId} {cs : Array Value} (h : Bk W b T cs) (i : Nat) (v : Value) : Bk (W.setCell ⟨b, i, none⟩ v) b T (cs.setIfInBounds i v) := heap_setCell_same W b i _ _ _ h
theorem Bk.set3 {W : World} {b : Nat} {T : TypeId} {u0 u1 u2 : Value} (h : Bk W b T #[u0, u1, u2]) (v0 v1 v2 : Value) : Bk (((W.setCell ⟨b, 0, none⟩ v0).setCell ⟨b, 1, none⟩ v1).setCell ⟨b, 2, none⟩ v2) b T #[v0, v1, v2] := ((h.set 0 v0).set 1 v1).set 2 v2
theorem Bk.set2 {W : World} {b : Nat} {T : TypeId} {u0 u1 : Value} (h : Bk W b T #[u0, u1]) (v0 v1 : Value) : Bk ((W.setCell ⟨b, 0, none⟩ v0).setCell ⟨b, 1, none⟩ v1) b T #[v0, v1] := (h.set 0 v0).set 1 v1

/-- Whether a number is from lo to hi. -/
def inW (n lo hi : Int) : Bool := decide (lo ≤ n ∧ n ≤ hi)
theorem inW_yes {n lo hi : Int} (h1 : lo ≤ n) (h2 : n ≤ hi) : inW n lo hi = true := decide_eq_true ⟨h1, h2⟩
theorem inW_no1 {n lo hi : Int} (h1 : ¬ lo ≤ n) : inW n lo hi = false := decide_eq_false (fun h => h1 h.1)
theorem inW_no2 {n lo hi : Int} (h1 : ¬ n ≤ hi) : inW n lo hi = false := decide_eq_false (fun h => h1 h.2)
theorem inW_iff {n lo hi : Int} : inW n lo hi = true ↔ lo ≤ n ∧ n ≤ hi := by unfold inW; exact decide_eq_true_iff
theorem cwithin_any (n lo hi : Int) (w : World) : Calls Tryd.prog 88 #[.int .i64 n, .int .i64 lo, .int .i64 hi] w fun e w' => e = .returned (.bool (inW n lo hi)) ∧ w = w' := by
  by_cases h1 : lo ≤ n
  · by_cases h2 : n ≤ hi
    · have e := Lib.hid (inW_yes h1 h2)
      go_enter Tryd.func88, Tryd.ntmps88
      go_wp2_with fail
      go_ret
      exact ⟨by rw [e.out]; rfl, rfl⟩
    · have e := Lib.hid (inW_no2 (lo := lo) h2)
      have q := decide_eq_false h2
      go_enter Tryd.func88, Tryd.ntmps88
      go_wp2_with fail
      go_ret
      exact ⟨by rw [e.out]; rfl, rfl⟩
  · have e := Lib.hid (inW_no1 (hi := hi) h1)
    have q := decide_eq_false h1
    go_enter Tryd.func88, Tryd.ntmps88
    go_wp2_with fail
    go_ret
    exact ⟨by rw [e.out]; rfl, rfl⟩

theorem chas_any (s len micro : Int) (w : World) (h : -9000000000000000000 ≤ len ∧ len ≤ 9000000000000000000) : Calls Tryd.prog 79 #[.agg #[.int .i64 s, .int .i64 len], .int .i64 micro] w fun e w' => e = .returned (.bool (inW micro 0 (len - 1))) ∧ Ext w w' := by
  go_enter Tryd.func79, Tryd.ntmps79
  go_wp2_with fail
  refine (cwithin_any micro 0 (len - 1) _).mono ?_
  rintro e w1 ⟨rfl, rfl⟩
  go_wp2_with fail
  go_ret
  exact ⟨rfl, (Ext.refl _).alloc _⟩

theorem ctime_any (s len micro : Int) (w : World) (h : -4000000000000000000 ≤ s ∧ s ≤ 4000000000000000000) (h2 : -4000000000000000000 ≤ micro ∧ micro ≤ 4000000000000000000) : Calls Tryd.prog 80 #[.agg #[.int .i64 s, .int .i64 len], .int .i64 micro] w fun e w' => e = .returned (.int .i64 (s + micro)) ∧ Ext w w' := by
  go_enter Tryd.func80, Tryd.ntmps80
  go_wp2_with fail
  go_ret
  exact ⟨rfl, (Ext.refl _).alloc _⟩

theorem res_find (W : World) (b : Nat) (s n d z : Int) (tmps : Array Value) (h4 : tmps[4]?.getD undef = .pointer (some ⟨b, 0, none⟩)) (h5 : tmps[5]?.getD undef = .int .i64 z) (h : Bk W b 93 #[.int .i64 s, .int .i64 n, .int .i64 d]) :
    (results Tryd.f78 tmps).run Tryd.prog W = .ok (.tuple #[.agg #[.int .i64 s, .int .i64 n, .int .i64 d], .int .i64 z]) W := by
  have c0 := h.c 0 _ rfl
  have c1 := h.c 1 _ rfl
  have c2 := h.c 2 _ rfl
  simp [results, Tryd.results78, go_sem, h4, h5, c0, c1, c2]

/-- What find answers. -/
def fndF (l : List Lp) (day : Int) : (Int × Int × Int) × Int := if rightL l day = true then ((startL l day, lenL l day, day), 0) else ((0, 0, 0), 1)
theorem fndF_yes {l : List Lp} {day : Int} (h : rightL l day = true) : fndF l day = ((startL l day, lenL l day, day), 0) := by unfold fndF; rw [if_pos h]
theorem fndF_no {l : List Lp} {day : Int} (h : rightL l day = false) : fndF l day = ((0, 0, 0), 1) := by unfold fndF; rw [if_neg (by rw [h]; decide)]
def FndP (l : List Lp) (day : Int) (w : World) : Ending → World → Prop := fun e w' => e = .returned (.tuple #[.agg #[.int .i64 (fndF l day).1.1, .int .i64 (fndF l day).1.2.1, .int .i64 (fndF l day).1.2.2], .int .i64 (fndF l day).2]) ∧ Ext w w'

set_option maxHeartbeats 1000000 in
theorem cfind_any (a : Option Addr) (n c : Nat) (l : List Lp) (day : Int) (w : World) (h1 : Rw w a n c l) :
    Calls Tryd.prog 78 #[.slice a n c, .int .i64 day] w (FndP l day w) := by
  have hB := Bk.new w 93 #[.int .i64 0, .int .i64 0, .int .i64 0]
  have hE : Ext w (w.alloc (.cells #[.int .i64 0, .int .i64 0, .int .i64 0] 93)) := (Ext.refl w).alloc _
  go_enter Tryd.func78, Tryd.ntmps78
  go_upto_region 1 with fail
  generalize w.alloc (.cells #[.int .i64 0, .int .i64 0, .int .i64 0] 93) = W at *
  have hbs : w.heap.size ≤ w.heap.size := Nat.le_refl _
  generalize hbe : w.heap.size = b at hB ⊢
  have hbs : w.heap.size ≤ b := Nat.le_of_eq hbe
  clear hbe
  go_wp2_with fail
  refine (lLength_any a n c l day W (h1.ext hE)).mono ?_
  rintro e w1 ⟨rfl, hx⟩
  replace hB := hB.ext hx
  replace hE := hE.trans hx
  clear hx
  have g0 := hB.c 0 _ rfl
  have g1 := hB.c 1 _ rfl
  have g2 := hB.c 2 _ rfl
  have f0 := hB.free 0
  have f1 := hB.free 1
  have f2 := hB.free 2
  rcases hr : rightL l day with _ | _
  · have HR := Lib.hid (fndF_no hr)
    have HQ : Hid (lengthF l day = (0, 1)) := Lib.hid (by unfold lengthF; rw [if_neg (by rw [hr]; decide)])
    rw [HQ.out]
    clear hr
    go_wp2_with fail
    refine bodyPost_ret (res_find _ b 0 0 0 1 _ (by rfl) (by rfl) (hB.set3 _ _ _)) rfl ⟨by rw [HR.out], ?_⟩
    exact ((hE.setCell (p := ⟨b, 0, none⟩) hbs _).setCell (p := ⟨b, 1, none⟩) hbs _).setCell (p := ⟨b, 2, none⟩) hbs _
  · have HR := Lib.hid (fndF_yes hr)
    have HQ : Hid (lengthF l day = (lenL l day, 0)) := Lib.hid (by unfold lengthF; rw [if_pos hr])
    have HS : Hid (startF l day = (startL l day, 0)) := Lib.hid (by unfold startF; rw [if_pos hr])
    rw [HQ.out]
    clear hr
    go_wp2_with fail
    refine (lStart_any a n c l day w1 (h1.ext hE)).mono ?_
    rintro e w2 ⟨rfl, hx⟩
    rw [HS.out]
    replace hB := hB.ext hx
    replace hE := hE.trans hx
    clear hx g0 g1 g2 f0 f1 f2
    have g0 := hB.c 0 _ rfl
    have g1 := hB.c 1 _ rfl
    have g2 := hB.c 2 _ rfl
    have f0 := hB.free 0
    have f1 := hB.free 1
    have f2 := hB.free 2
    go_wp2_with fail
    refine bodyPost_ret (res_find _ b (startL l day) (lenL l day) day 0 _ (by rfl) (by rfl) (hB.set3 _ _ _)) rfl ⟨by rw [HR.out], ?_⟩
    exact ((hE.setCell (p := ⟨b, 0, none⟩) hbs _).setCell (p := ⟨b, 1, none⟩) hbs _).setCell (p := ⟨b, 2, none⟩) hbs _
end Go.Proofs.YtcohdojfbnijpaaDoor
