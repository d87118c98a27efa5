/-
  Tables of leap seconds that came in, opened; the tables that the rows list.
-/
import Derived.Test.YtchbeheekahhiaaDoorVL
import Derived.Test.YtchbeheekahhiaaDoorRow
import Derived.Deep.Slices
import Derived.SizedLaws
import Derived.WideShapes
import Derived.ChangeArms
import Derived.LaidMore
import Derived.OpenShut
import Derived.Stop.Joined
namespace Go.Proofs.YtchbeheekahhiaaDoor
open Go.RowKit Go.ChangeShapes Go.WideShapes Go.Deep
set_option linter.unusedSimpArgs false
set_option linter.unusedVariables false
set_option maxRecDepth 100000

theorem cells_addr {W : World} {base : Nat} {a : Addr} {n : Nat} {cs : List Value} (h : W.cells? base a n = some cs) (h0 : 0 < n) : ∃ b off, a = ⟨b, off, none⟩ := by
  obtain ⟨_, hl, hat⟩ := World.cells?_some h
  have h1 := hat 0 h0
  rw [List.getElem?_eq_getElem (by omega)] at h1
  have hs := World.cell?_spot h1
  obtain ⟨b, off, s⟩ := a
  simp [Addr.add] at hs
  subst hs
  exact ⟨b, off, rfl⟩
theorem add_none (b off i : Nat) : (⟨b, off, none⟩ : Addr).add i = ⟨b, off + i, none⟩ := by unfold Addr.add; split <;> simp_all
theorem cells_at {W : World} {base : Nat} {b off k n : Nat} {cs : List Value} (h : W.cells? base ((⟨b, off, none⟩ : Addr).add k) n = some cs) : ∀ i, i < n → W.cell? ⟨b, off + k + i, none⟩ = cs[i]? := by
  obtain ⟨_, hl, hat⟩ := World.cells?_some h
  intro i hi
  have h2 := hat i hi
  rwa [add_none, add_none] at h2

def kindsLp : List Kd := [.int .i64, .int .i64]
theorem leaves_lp {cs : List Value} (h : Leaves kindsLp cs) : ∃ x : Lp, x.Ok ∧ cs = x.enc := by
  obtain ⟨a, _, rfl, w0, h⟩ := Leaves.int h
  obtain ⟨s, _, rfl, w1, h⟩ := Leaves.int h
  obtain rfl := Leaves.nil h
  exact ⟨⟨a, s⟩, ⟨w0, w1⟩, rfl⟩
theorem enc_lp (x : Lp) : Cel.enc x = [.int .i64 x.d, .int .i64 x.s] := rfl
instance : Inhabited Lp := ⟨⟨0, 0⟩⟩

section
variable {H : Type} {enc : TypeId × Value → H} {W : World} {spare : Nat → Bool} {held : Bool}

theorem open_leaps {fuel : Nat} {cs : List Value} {x : DataW H × List MemPlace} (h : DataW.trod enc Tryd.prog W 0 spare held fuel 22 cs = some x) (hw : ∀ n ∈ x.1.weights Tryd.prog 22, n ≤ reachBytes) :
    ∃ a n c xs, cs = [.slice a n c] ∧ Rw (α := Lp) W a n c xs := by
  rcases open_slice Tryd.underlying22 h with ⟨rfl, _⟩ | ⟨a, len, cap, m, f, D, Pl, rfl, _, hl, hm, hmm, rfl, hx⟩
  · exact ⟨none, 0, 0, [], rfl, Rw.nil W⟩
  have hlm : len ≤ m := by rw [hmm]; split <;> omega
  have each : ∀ i, i < len → ∃ q : Lp, q.Ok ∧ ∃ b off, a = ⟨b, off, none⟩ ∧ W.rangeAt b (off + i * Cel.sz Lp) (Cel.enc q) := by
    intro i hi
    obtain ⟨cs', h1, h2⟩ := hx i (by omega)
    rw [show Program.cellsOf Tryd.prog 54 = 2 by kernel_rfl] at h1
    obtain ⟨cs0, g1, _⟩ := hx 0 (by omega)
    rw [Nat.zero_mul, show a.add 0 = a by simp [Addr.add], show Program.cellsOf Tryd.prog 54 = 2 by kernel_rfl] at g1
    obtain ⟨b, o, rfl⟩ := cells_addr g1 (by omega)
    have hat := cells_at h1
    obtain ⟨e1, _, e3⟩ := flat_trod 5 _ kindsLp _ _ _ (by kernel_rfl) h2
    obtain ⟨q, hq, rfl⟩ := leaves_lp (Leaves.of e1 e3)
    refine ⟨q, hq, b, o, rfl, fun j v hv => ?_⟩
    rw [enc_lp] at hv
    have hj : j < 2 := by
      rcases Nat.lt_or_ge j 2 with h | h
      · exact h
      · rw [List.getElem?_eq_none (by exact h)] at hv; cases hv
    rw [sz_lp, hat j hj]
    exact hv
  obtain ⟨X, hX⟩ := choose_lt each
  have hwt : (((List.range len).map D).length + ((List.range (m - len)).map fun j => D (len + j)).length) * Program.bytesOf Tryd.prog 54 ≤ reachBytes := hw _ (by simp [DataW.weights, Tryd.underlying22])
  rw [show Program.bytesOf Tryd.prog 54 = 16 by kernel_rfl] at hwt
  simp only [List.length_map, List.length_range] at hwt
  refine ⟨some a, len, cap, (List.range len).map X, rfl, by simp, hl, hm, by unfold reachBytes at hwt; omega, fun i hi => ?_, fun y hy => ?_⟩
  · obtain ⟨hq, b, off, rfl, hr⟩ := hX i hi
    refine ⟨b, off, rfl, ?_⟩
    rw [show nthR ((List.range len).map X) i = X i by simp [nthR, List.getD_eq_getElem?_getD, hi]]
    exact hr
  · obtain ⟨i, hi, rfl⟩ := List.mem_map.1 hy
    exact (hX i (List.mem_range.1 hi)).1

/-- A table that came in. -/
theorem open_table {r : Reach} {b0 : Nat} {v : Value} {d : DataW H} {ps : List MemPlace} (hval : Value.okWide Tryd.prog W r b0 22 v) (hd : DataW.Trod enc Tryd.prog W 0 spare held 22 v d ps) (hw : ∀ n ∈ d.weights Tryd.prog 22, n ≤ reachBytes) :
    ∃ a n c xs, v = .slice a n c ∧ Rw (α := Lp) W a n c xs := by
  obtain ⟨a, n, c, rfl⟩ := okWide_slice Tryd.underlying22 hval
  obtain ⟨fuel, hf⟩ := hd
  obtain ⟨a', n', c', xs, hc, hr⟩ := open_leaps hf hw
  simp [Value.cells] at hc
  obtain ⟨rfl, rfl, rfl⟩ := hc
  exact ⟨_, _, _, xs, rfl, hr⟩
end

theorem tabOf {W : World} (h : laidMetH Tryd.prog [("math/bits.deBruijn32tab", Rows.laid_math_bits_deBruijn32tab), ("math/bits.deBruijn64tab", Rows.laid_math_bits_deBruijn64tab), ("internal/strconv.uint64pow10", Rows.laid_internal_strconv_uint64pow10), ("regulator/calendar.lengths", Rows.laid_regulator_calendar_lengths)] W) : TB W ∧ TL W := by
  rw [MakeChecks.laidMetH_plain _ _ _ (by kernel_rfl)] at h
  obtain ⟨ps, ⟨g0, t0, cs0, f0, p0, q0, hg0, ht0, hv0, hd0, ⟨g1, t1, cs1, f1, p1, q1, hg1, ht1, hv1, hd1, ⟨g2, t2, cs2, f2, p2, q2, hg2, ht2, hv2, hd2, ⟨g3, t3, cs3, f3, p3, q3, hg3, ht3, hv3, hd3, _, _⟩, _⟩, _⟩, _⟩, _⟩ := h
  refine ⟨Lib.tabBelow_of_tabIs ?_, Lib.tabBelow_of_tabIs ?_⟩
  · unfold Lib.TabIs
    have hgg : Tryd.prog.globalNamed "internal/strconv.uint64pow10" = some g2 := hg2
    have ht : (Tryd.prog.globals[g2]?).map (·.type) = some t2 := ht2
    have hT : t2 = 92 := by
      have h1 : (Tryd.prog.globalNamed "internal/strconv.uint64pow10").bind (fun g => (Tryd.prog.globals[g]?).map (·.type)) = some 92 := by kernel_rfl
      rw [hgg] at h1
      exact Option.some.inj (ht.symm.trans h1)
    subst hT
    rw [hv2]
    exact congrArg (fun l : List Value => some l.toArray) (Lib.cells_of_tab (k := .u64) (zs := Lib.pow10Tab) (e := 86) (n := 20) Tryd.underlying92 Tryd.underlying86 (by kernel_rfl) (by kernel_rfl) hd2)
  · unfold Lib.TabIs
    have hgg : Tryd.prog.globalNamed "regulator/calendar.lengths" = some g3 := hg3
    have ht : (Tryd.prog.globals[g3]?).map (·.type) = some t3 := ht3
    have hT : t3 = 79 := by
      have h1 : (Tryd.prog.globalNamed "regulator/calendar.lengths").bind (fun g => (Tryd.prog.globals[g]?).map (·.type)) = some 79 := by kernel_rfl
      rw [hgg] at h1
      exact Option.some.inj (ht.symm.trans h1)
    subst hT
    rw [hv3]
    exact congrArg (fun l : List Value => some l.toArray) (Lib.cells_of_tab (k := .i64) (zs := lens) (e := 3) (n := 12) Tryd.underlying79 Tryd.underlying3 (by kernel_rfl) (by kernel_rfl) hd3)
end Go.Proofs.YtchbeheekahhiaaDoor
