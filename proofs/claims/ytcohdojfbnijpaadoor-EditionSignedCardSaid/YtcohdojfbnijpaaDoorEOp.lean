/-
  Editions and tables that came in, opened; the table that the rows list. Written by wip/gen_eop.py.
-/
import Derived.Test.YtcohdojfbnijpaaDoorEJ
import Derived.Test.YtcohdojfbnijpaaDoorRow
import Derived.Deep.Slices
import Derived.SizedLaws
import Derived.WideShapes
import Derived.ChangeArms
import Derived.LaidMore
import Derived.OpenShut
import Derived.Stop.Joined
namespace Go.Proofs.YtcohdojfbnijpaaDoor
open Go.RowKit Go.ChangeShapes Go.WideShapes Go.Deep
set_option linter.unusedSimpArgs false
set_option linter.unusedVariables false
set_option maxRecDepth 100000

theorem cells_addr {W : World} {base : Nat} {a : Addr} {n : Nat} {cs : List Value} (h : W.cells? base a n = some cs) (h0 : 0 < n) : ∃ b off, a = ⟨b, off, none⟩ := by
  obtain ⟨_, hl, hat⟩ := World.cells?_some h
  have h1 := hat 0 h0
  rw [List.getElem?_eq_getElem (by omega)] at h1
  have hs := World.cell?_spot h1
  obtain ⟨b, off, s⟩ := a
  simp [Addr.add] at hs
  subst hs
  exact ⟨b, off, rfl⟩
theorem add_none (b off i : Nat) : (⟨b, off, none⟩ : Addr).add i = ⟨b, off + i, none⟩ := by unfold Addr.add; split <;> simp_all
theorem cells_at {W : World} {base : Nat} {b off k n : Nat} {cs : List Value} (h : W.cells? base ((⟨b, off, none⟩ : Addr).add k) n = some cs) : ∀ i, i < n → W.cell? ⟨b, off + k + i, none⟩ = cs[i]? := by
  obtain ⟨_, hl, hat⟩ := World.cells?_some h
  intro i hi
  have h2 := hat i hi
  rwa [add_none, add_none] at h2

def kindsLp : List Kd := [.int .i64, .int .i64]
theorem leaves_lp {cs : List Value} (h : Leaves kindsLp cs) : ∃ x : Lp, x.Ok ∧ cs = x.enc := by
  obtain ⟨a, _, rfl, w0, h⟩ := Leaves.int h
  obtain ⟨s, _, rfl, w1, h⟩ := Leaves.int h
  obtain rfl := Leaves.nil h
  exact ⟨⟨a, s⟩, ⟨w0, w1⟩, rfl⟩
theorem enc_lp (x : Lp) : Cel.enc x = [.int .i64 x.d, .int .i64 x.s] := rfl
instance : Inhabited Lp := ⟨⟨0, 0⟩⟩

section
variable {H : Type} {enc : TypeId × Value → H} {W : World} {spare : Nat → Bool} {held : Bool}

theorem open_leaps {fuel : Nat} {cs : List Value} {x : DataW H × List MemPlace} (h : DataW.trod enc Tryd.prog W 0 spare held fuel 23 cs = some x) (hw : ∀ n ∈ x.1.weights Tryd.prog 23, n ≤ reachBytes) :
    ∃ a n c xs, cs = [.slice a n c] ∧ Rw (α := Lp) W a n c xs := by
  rcases open_slice Tryd.underlying23 h with ⟨rfl, _⟩ | ⟨a, len, cap, m, f, D, Pl, rfl, _, hl, hm, hmm, rfl, hx⟩
  · exact ⟨none, 0, 0, [], rfl, Rw.nil W⟩
  have hlm : len ≤ m := by rw [hmm]; split <;> omega
  have each : ∀ i, i < len → ∃ q : Lp, q.Ok ∧ ∃ b off, a = ⟨b, off, none⟩ ∧ W.rangeAt b (off + i * Cel.sz Lp) (Cel.enc q) := by
    intro i hi
    obtain ⟨cs', h1, h2⟩ := hx i (by omega)
    rw [show Program.cellsOf Tryd.prog 52 = 2 by kernel_rfl] at h1
    obtain ⟨cs0, g1, _⟩ := hx 0 (by omega)
    rw [Nat.zero_mul, show a.add 0 = a by simp [Addr.add], show Program.cellsOf Tryd.prog 52 = 2 by kernel_rfl] at g1
    obtain ⟨b, o, rfl⟩ := cells_addr g1 (by omega)
    have hat := cells_at h1
    obtain ⟨e1, _, e3⟩ := flat_trod 5 _ kindsLp _ _ _ (by kernel_rfl) h2
    obtain ⟨q, hq, rfl⟩ := leaves_lp (Leaves.of e1 e3)
    refine ⟨q, hq, b, o, rfl, fun j v hv => ?_⟩
    rw [enc_lp] at hv
    have hj : j < 2 := by
      rcases Nat.lt_or_ge j 2 with h | h
      · exact h
      · rw [List.getElem?_eq_none (by exact h)] at hv; cases hv
    rw [sz_lp, hat j hj]
    exact hv
  obtain ⟨X, hX⟩ := choose_lt each
  have hwt : (((List.range len).map D).length + ((List.range (m - len)).map fun j => D (len + j)).length) * Program.bytesOf Tryd.prog 52 ≤ reachBytes := hw _ (by simp [DataW.weights, Tryd.underlying23])
  rw [show Program.bytesOf Tryd.prog 52 = 16 by kernel_rfl] at hwt
  simp only [List.length_map, List.length_range] at hwt
  refine ⟨some a, len, cap, (List.range len).map X, rfl, by simp, hl, hm, by unfold reachBytes at hwt; omega, fun i hi => ?_, fun y hy => ?_⟩
  · obtain ⟨hq, b, off, rfl, hr⟩ := hX i hi
    refine ⟨b, off, rfl, ?_⟩
    rw [show nthR ((List.range len).map X) i = X i by simp [nthR, List.getD_eq_getElem?_getD, hi]]
    exact hr
  · obtain ⟨i, hi, rfl⟩ := List.mem_map.1 hy
    exact (hX i (List.mem_range.1 hi)).1

/-- A table that came in. -/
theorem open_table {r : Reach} {b0 : Nat} {v : Value} {d : DataW H} {ps : List MemPlace} (hval : Value.okWide Tryd.prog W r b0 23 v) (hd : DataW.Trod enc Tryd.prog W 0 spare held 23 v d ps) (hw : ∀ n ∈ d.weights Tryd.prog 23, n ≤ reachBytes) :
    ∃ a n c xs, v = .slice a n c ∧ Rw (α := Lp) W a n c xs := by
  obtain ⟨a, n, c, rfl⟩ := okWide_slice Tryd.underlying23 hval
  obtain ⟨fuel, hf⟩ := hd
  obtain ⟨a', n', c', xs, hc, hr⟩ := open_leaps hf hw
  simp [Value.cells] at hc
  obtain ⟨rfl, rfl, rfl⟩ := hc
  exact ⟨_, _, _, xs, rfl, hr⟩

theorem open_ed {fuel : Nat} {cs : List Value} {x : DataW H × List MemPlace} (h : DataW.trod enc Tryd.prog W 0 spare held fuel 27 cs = some x) (hw : ∀ n ∈ x.1.weights Tryd.prog 27, n ≤ reachBytes) :
    ∃ (e : Ed) (a : Option Addr) (n c : Nat), cs = [.int .i64 e.v, .int .i64 e.f, .int .i64 e.u, .slice a n c, .int .i64 e.C, .int .i64 e.S] ∧ Rw W a n c e.l := by
  have hu := Tryd.underlying27
  obtain ⟨ys, f, rfl, rfl, hcl, hyl, hf⟩ := DataW.trod_struct hu h
  have h0 := hf 0 _ rfl
  have h1 := hf 1 _ rfl
  have h2 := hf 2 _ rfl
  have h3 := hf 3 _ rfl
  have h4 := hf 4 _ rfl
  have hl6 : cs.length = 6 := hcl.trans (by kernel_rfl)
  have hy5 : ys.length = 5 := hyl
  replace h0 : DataW.trod enc Tryd.prog W 0 spare held f _ ((cs.drop 0).take _) = ys[0]? := h0
  replace h1 : DataW.trod enc Tryd.prog W 0 spare held f _ ((cs.drop 1).take _) = ys[1]? := h1
  replace h2 : DataW.trod enc Tryd.prog W 0 spare held f _ ((cs.drop 2).take _) = ys[2]? := h2
  replace h3 : DataW.trod enc Tryd.prog W 0 spare held f _ ((cs.drop 3).take _) = ys[3]? := h3
  replace h4 : DataW.trod enc Tryd.prog W 0 spare held f _ ((cs.drop 4).take _) = ys[4]? := h4
  match cs, hl6, ys, hy5 with
  | [v0, v1, v2, v3, v4, v5], _, [y0, y1, y2, y3, y4], _ =>
    have ei : Program.cellsOf Tryd.prog 3 = 1 := by kernel_rfl
    have el : Program.cellsOf Tryd.prog 23 = 1 := by kernel_rfl
    have es : Program.cellsOf Tryd.prog 25 = 2 := by kernel_rfl
    have g0 : DataW.trod enc Tryd.prog W 0 spare held f 3 [v0] = some y0 := by
      simp only [ei, List.drop_zero, List.take_succ_cons, List.take_zero, List.getElem?_cons_zero] at h0
      exact h0
    have g1 : DataW.trod enc Tryd.prog W 0 spare held f 3 [v1] = some y1 := by
      simp only [ei, List.drop_succ_cons, List.drop_zero, List.take_succ_cons, List.take_zero, List.getElem?_cons_succ, List.getElem?_cons_zero] at h1
      exact h1
    have g2 : DataW.trod enc Tryd.prog W 0 spare held f 3 [v2] = some y2 := by
      simp only [ei, List.drop_succ_cons, List.drop_zero, List.take_succ_cons, List.take_zero, List.getElem?_cons_succ, List.getElem?_cons_zero] at h2
      exact h2
    have g3 : DataW.trod enc Tryd.prog W 0 spare held f 23 [v3] = some y3 := by
      simp only [el, List.drop_succ_cons, List.drop_zero, List.take_succ_cons, List.take_zero, List.getElem?_cons_succ, List.getElem?_cons_zero] at h3
      exact h3
    have g4 : DataW.trod enc Tryd.prog W 0 spare held f 25 [v4, v5] = some y4 := by
      simp only [es, List.drop_succ_cons, List.drop_zero, List.take_succ_cons, List.take_zero, List.getElem?_cons_succ, List.getElem?_cons_zero] at h4
      exact h4
    obtain ⟨n0, hv0, _, _⟩ := DataW.trod_int Tryd.underlying3 g0
    obtain ⟨n1, hv1, _, _⟩ := DataW.trod_int Tryd.underlying3 g1
    obtain ⟨n2, hv2, _, _⟩ := DataW.trod_int Tryd.underlying3 g2
    obtain ⟨a, n, c, xs, hv3, hr⟩ := open_leaps g3 (fun n hn => hw n (by simp only [List.map_cons, List.map_nil, DataW.weights, hu, List.map, DataW.weightsEach, List.append_nil, List.mem_append]; exact .inr (.inr (.inr (.inl hn)))))
    obtain ⟨e1, _, e3⟩ := flat_trod 5 _ kindsLp _ _ _ (by kernel_rfl) g4
    obtain ⟨q, hq, hqe⟩ := leaves_lp (Leaves.of e1 e3)
    simp only [List.cons.injEq, and_true] at hv0 hv1 hv2 hv3
    subst hv0 hv1 hv2 hv3
    simp only [Lp.enc, List.cons.injEq, and_true] at hqe
    obtain ⟨rfl, rfl⟩ := hqe
    exact ⟨⟨n0, n1, n2, xs, q.d, q.s⟩, a, n, c, rfl, hr⟩
/-- An edition that came in. -/
theorem open_edition {r : Reach} {b0 : Nat} {v : Value} {d : DataW H} {ps : List MemPlace} (hval : Value.okWide Tryd.prog W r b0 27 v) (hd : DataW.Trod enc Tryd.prog W 0 spare held 27 v d ps) (hw : ∀ n ∈ d.weights Tryd.prog 27, n ≤ reachBytes) :
    ∃ (ev ef eu : Int) (a : Option Addr) (n c : Nat) (l : List Lp) (eC eS : Int), v = .agg #[.int .i64 ev, .int .i64 ef, .int .i64 eu, .slice a n c, .int .i64 eC, .int .i64 eS] ∧ Rw W a n c l := by
  obtain ⟨cs, rfl, _⟩ := okWide_struct Tryd.underlying27 hval
  obtain ⟨fuel, hf⟩ := hd
  obtain ⟨e, a, n, c, hc, hr⟩ := open_ed hf hw
  replace hc : cs.toList = _ := hc
  refine ⟨e.v, e.f, e.u, a, n, c, e.l, e.C, e.S, ?_, hr⟩
  rw [show cs = cs.toList.toArray by simp, hc]
instance : Inhabited Ed := ⟨⟨0, 0, 0, [], 0, 0⟩⟩
theorem weightsAll_memE {P : Program} {e : TypeId} : ∀ {l : List (DataW H)} {d : DataW H}, d ∈ l → ∀ n ∈ d.weights P e, n ∈ DataW.weightsAll P e l
  | d' :: r, d, hd, n, hn => by
    simp only [DataW.weightsAll, List.mem_append]
    rcases List.mem_cons.1 hd with rfl | h
    · exact Or.inl hn
    · exact Or.inr (weightsAll_memE h n hn)
theorem open_eds0 {fuel : Nat} {cs : List Value} {x : DataW H × List MemPlace} (h : DataW.trod enc Tryd.prog W 0 spare held fuel 22 cs = some x) (hw : ∀ n ∈ x.1.weights Tryd.prog 22, n ≤ reachBytes) :
    ∃ a n c es, cs = [.slice a n c] ∧ EdR W a n c es := by
  rcases open_slice Tryd.underlying22 h with ⟨rfl, _⟩ | ⟨a, len, cap, m, f, D, Pl, rfl, _, hl, hm, hmm, rfl, hx⟩
  · exact ⟨none, 0, 0, [], rfl, ⟨rfl, Nat.le_refl _, Nat.zero_le _, by omega, fun i hi => absurd hi (by omega)⟩⟩
  have hlm : len ≤ m := by rw [hmm]; split <;> omega
  have hD : ∀ i, i < len → ∀ n ∈ (D i).weights Tryd.prog 27, n ≤ reachBytes := by
    intro i hi n hn
    refine hw n ?_
    simp only [DataW.weights, Tryd.underlying22, List.mem_cons, List.mem_append]
    exact .inr (.inl (weightsAll_memE (List.mem_map.2 ⟨i, List.mem_range.2 hi, rfl⟩) n hn))
  have each : ∀ i, i < len → ∃ e : Ed, ∃ b off a' n' c', a = ⟨b, off, none⟩ ∧ Six W b (off + i * 6) e a' n' c' ∧ Rw W a' n' c' e.l := by
    intro i hi
    obtain ⟨cs', h1, h2⟩ := hx i (by omega)
    rw [show Program.cellsOf Tryd.prog 27 = 6 by kernel_rfl] at h1
    obtain ⟨cs0, g1, _⟩ := hx 0 (by omega)
    rw [Nat.zero_mul, show a.add 0 = a by simp [Addr.add], show Program.cellsOf Tryd.prog 27 = 6 by kernel_rfl] at g1
    obtain ⟨b, o, rfl⟩ := cells_addr g1 (by omega)
    have hat := cells_at h1
    obtain ⟨e, a', n', c', rfl, hr⟩ := open_ed h2 (hD i hi)
    exact ⟨e, b, o, a', n', c', rfl, ⟨hat 0 (by omega), hat 1 (by omega), hat 2 (by omega), hat 3 (by omega), hat 4 (by omega), hat 5 (by omega)⟩, hr⟩
  obtain ⟨X, hX⟩ := choose_lt each
  have hwt : (((List.range len).map D).length + ((List.range (m - len)).map fun j => D (len + j)).length) * Program.bytesOf Tryd.prog 27 ≤ reachBytes := hw _ (by simp [DataW.weights, Tryd.underlying22])
  rw [show Program.bytesOf Tryd.prog 27 = 64 by kernel_rfl] at hwt
  simp only [List.length_map, List.length_range] at hwt
  refine ⟨some a, len, cap, (List.range len).map X, rfl, by simp, hl, hm, by unfold reachBytes at hwt; omega, fun i hi => ?_⟩
  obtain ⟨b, off, a', n', c', rfl, h6, hr⟩ := hX i hi
  have he : nthE ((List.range len).map X) i = X i := by simp [nthE, List.getD_eq_getElem?_getD, hi]
  rw [he]
  exact ⟨b, off, a', n', c', rfl, h6, hr⟩
/-- Editions that came in. -/
theorem open_eds {r : Reach} {b0 : Nat} {v : Value} {d : DataW H} {ps : List MemPlace} (hval : Value.okWide Tryd.prog W r b0 22 v) (hd : DataW.Trod enc Tryd.prog W 0 spare held 22 v d ps) (hw : ∀ n ∈ d.weights Tryd.prog 22, n ≤ reachBytes) :
    ∃ a n c es, v = .slice a n c ∧ EdR W a n c es := by
  obtain ⟨a, n, c, rfl⟩ := okWide_slice Tryd.underlying22 hval
  obtain ⟨fuel, hf⟩ := hd
  obtain ⟨a', n', c', xs, hc, hr⟩ := open_eds0 hf hw
  simp [Value.cells] at hc
  obtain ⟨rfl, rfl, rfl⟩ := hc
  exact ⟨_, _, _, xs, rfl, hr⟩
end

end Go.Proofs.YtcohdojfbnijpaaDoor
