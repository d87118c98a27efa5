/-
  Deeds that came in, opened: they read as lists. Written by wip/gen_opd.py.
-/
import Derived.Test.YtacicanjmleikaaRF
import Derived.Test.YtacicanjmleikaaRow
import Derived.Deep.Slices
import Derived.SizedLaws
import Derived.WideShapes
import Derived.ChangeArms
namespace Go.Proofs.Ytacicanjmleikaa
open Go.RowKit Go.ChangeShapes Go.WideShapes Go.Deep
set_option linter.unusedSimpArgs false
set_option linter.unusedVariables false
set_option maxRecDepth 100000

theorem cells_addr {W : World} {base : Nat} {a : Addr} {n : Nat} {cs : List Value} (h : W.cells? base a n = some cs) (h0 : 0 < n) : ∃ b off, a = ⟨b, off, none⟩ := by
  obtain ⟨_, hl, hat⟩ := World.cells?_some h
  have h1 := hat 0 h0
  rw [List.getElem?_eq_getElem (by omega)] at h1
  have hs := World.cell?_spot h1
  obtain ⟨b, off, s⟩ := a
  simp [Addr.add] at hs
  subst hs
  exact ⟨b, off, rfl⟩
theorem add_none (b off i : Nat) : (⟨b, off, none⟩ : Addr).add i = ⟨b, off + i, none⟩ := by unfold Addr.add; split <;> simp_all
theorem cells_at {W : World} {base : Nat} {b off k n : Nat} {cs : List Value} (h : W.cells? base ((⟨b, off, none⟩ : Addr).add k) n = some cs) : ∀ i, i < n → W.cell? ⟨b, off + k + i, none⟩ = cs[i]? := by
  obtain ⟨_, hl, hat⟩ := World.cells?_some h
  intro i hi
  have h2 := hat i hi
  rwa [add_none, add_none] at h2
theorem weightsAll_memE {H : Type} {P : Program} {e : TypeId} : ∀ {l : List (DataW H)} {d : DataW H}, d ∈ l → ∀ n ∈ d.weights P e, n ∈ DataW.weightsAll P e l
  | d' :: r, d, hd, n, hn => by
    simp only [DataW.weightsAll, List.mem_append]
    rcases List.mem_cons.1 hd with rfl | h
    · exact Or.inl hn
    · exact Or.inr (weightsAll_memE h n hn)
def kindsSn : List Kd := [.int .i64, .int .i64]
theorem leaves_Sn {cs : List Value} (h : Leaves kindsSn cs) : ∃ x : Sn, Cel.ok x ∧ cs = Cel.enc x := by
  obtain ⟨x0, _, rfl, w0, h0⟩ := Leaves.int h
  obtain ⟨x1, _, rfl, w1, h1⟩ := Leaves.int h0
  obtain rfl := Leaves.nil h1
  exact ⟨⟨x0, x1⟩, ⟨w0, w1⟩, rfl⟩
instance : Inhabited Sn := ⟨Cel.dflt⟩
def kindsWr : List Kd := [.int .i64, .int .i64, .bool]
theorem leaves_Wr {cs : List Value} (h : Leaves kindsWr cs) : ∃ x : Wr, Cel.ok x ∧ cs = Cel.enc x := by
  obtain ⟨x0, _, rfl, w0, h0⟩ := Leaves.int h
  obtain ⟨x1, _, rfl, w1, h1⟩ := Leaves.int h0
  obtain ⟨x2, _, rfl, h2⟩ := Leaves.bool h1
  obtain rfl := Leaves.nil h2
  exact ⟨⟨x0, x1, x2⟩, ⟨w0, w1⟩, rfl⟩
instance : Inhabited Wr := ⟨Cel.dflt⟩
section
variable {H : Type} {enc : TypeId × Value → H} {W : World} {spare : Nat → Bool} {held : Bool}

theorem open_Sn {fuel : Nat} {cs : List Value} {x : DataW H × List MemPlace} (h : DataW.trod enc Try.prog W 0 spare held fuel 23 cs = some x) (hw : ∀ n ∈ x.1.weights Try.prog 23, n ≤ reachBytes) :
    ∃ a n c xs, cs = [.slice a n c] ∧ Rw (α := Sn) W a n c xs := by
  rcases open_slice Try.underlying23 h with ⟨rfl, _⟩ | ⟨a, len, cap, m, f, D, Pl, rfl, _, hl, hm, hmm, rfl, hx⟩
  · exact ⟨none, 0, 0, [], rfl, Rw.nil W⟩
  have hlm : len ≤ m := by rw [hmm]; split <;> omega
  have each : ∀ i, i < len → ∃ q : Sn, Cel.ok q ∧ ∃ b off, a = ⟨b, off, none⟩ ∧ W.rangeAt b (off + i * Cel.sz Sn) (Cel.enc q) := by
    intro i hi
    obtain ⟨cs', h1, h2⟩ := hx i (by omega)
    rw [show Program.cellsOf Try.prog 77 = 2 by kernel_rfl] at h1
    obtain ⟨cs0, g1, _⟩ := hx 0 (by omega)
    rw [Nat.zero_mul, show a.add 0 = a by simp [Addr.add], show Program.cellsOf Try.prog 77 = 2 by kernel_rfl] at g1
    obtain ⟨b, o, rfl⟩ := cells_addr g1 (by omega)
    have hat := cells_at h1
    obtain ⟨e1, _, e3⟩ := flat_trod 5 _ kindsSn _ _ _ (by kernel_rfl) h2
    obtain ⟨q, hq, rfl⟩ := leaves_Sn (Leaves.of e1 e3)
    refine ⟨q, hq, b, o, rfl, fun j v hv => ?_⟩
    have hlen : (Cel.enc q).length = 2 := Cel.len q
    have hj : j < 2 := by
      rcases Nat.lt_or_ge j 2 with h | h
      · exact h
      · rw [List.getElem?_eq_none (by omega)] at hv; cases hv
    rw [show Cel.sz Sn = 2 from rfl, hat j hj]
    exact hv
  obtain ⟨X, hX⟩ := choose_lt each
  have hwt : (((List.range len).map D).length + ((List.range (m - len)).map fun j => D (len + j)).length) * Program.bytesOf Try.prog 77 ≤ reachBytes := hw _ (by simp [DataW.weights, Try.underlying23])
  rw [show Program.bytesOf Try.prog 77 = 16 by kernel_rfl] at hwt
  simp only [List.length_map, List.length_range] at hwt
  refine ⟨some a, len, cap, (List.range len).map X, rfl, by simp, hl, hm, by unfold reachBytes at hwt; omega, fun i hi => ?_, fun y hy => ?_⟩
  · obtain ⟨hq, b, off, rfl, hr⟩ := hX i hi
    refine ⟨b, off, rfl, ?_⟩
    rw [show nthR ((List.range len).map X) i = X i by simp [nthR, List.getD_eq_getElem?_getD, hi]]
    exact hr
  · obtain ⟨i, hi, rfl⟩ := List.mem_map.1 hy
    exact (hX i (List.mem_range.1 hi)).1

theorem open_Wr {fuel : Nat} {cs : List Value} {x : DataW H × List MemPlace} (h : DataW.trod enc Try.prog W 0 spare held fuel 24 cs = some x) (hw : ∀ n ∈ x.1.weights Try.prog 24, n ≤ reachBytes) :
    ∃ a n c xs, cs = [.slice a n c] ∧ Rw (α := Wr) W a n c xs := by
  rcases open_slice Try.underlying24 h with ⟨rfl, _⟩ | ⟨a, len, cap, m, f, D, Pl, rfl, _, hl, hm, hmm, rfl, hx⟩
  · exact ⟨none, 0, 0, [], rfl, Rw.nil W⟩
  have hlm : len ≤ m := by rw [hmm]; split <;> omega
  have each : ∀ i, i < len → ∃ q : Wr, Cel.ok q ∧ ∃ b off, a = ⟨b, off, none⟩ ∧ W.rangeAt b (off + i * Cel.sz Wr) (Cel.enc q) := by
    intro i hi
    obtain ⟨cs', h1, h2⟩ := hx i (by omega)
    rw [show Program.cellsOf Try.prog 60 = 3 by kernel_rfl] at h1
    obtain ⟨cs0, g1, _⟩ := hx 0 (by omega)
    rw [Nat.zero_mul, show a.add 0 = a by simp [Addr.add], show Program.cellsOf Try.prog 60 = 3 by kernel_rfl] at g1
    obtain ⟨b, o, rfl⟩ := cells_addr g1 (by omega)
    have hat := cells_at h1
    obtain ⟨e1, _, e3⟩ := flat_trod 5 _ kindsWr _ _ _ (by kernel_rfl) h2
    obtain ⟨q, hq, rfl⟩ := leaves_Wr (Leaves.of e1 e3)
    refine ⟨q, hq, b, o, rfl, fun j v hv => ?_⟩
    have hlen : (Cel.enc q).length = 3 := Cel.len q
    have hj : j < 3 := by
      rcases Nat.lt_or_ge j 3 with h | h
      · exact h
      · rw [List.getElem?_eq_none (by omega)] at hv; cases hv
    rw [show Cel.sz Wr = 3 from rfl, hat j hj]
    exact hv
  obtain ⟨X, hX⟩ := choose_lt each
  have hwt : (((List.range len).map D).length + ((List.range (m - len)).map fun j => D (len + j)).length) * Program.bytesOf Try.prog 60 ≤ reachBytes := hw _ (by simp [DataW.weights, Try.underlying24])
  rw [show Program.bytesOf Try.prog 60 = 24 by kernel_rfl] at hwt
  simp only [List.length_map, List.length_range] at hwt
  refine ⟨some a, len, cap, (List.range len).map X, rfl, by simp, hl, hm, by unfold reachBytes at hwt; omega, fun i hi => ?_, fun y hy => ?_⟩
  · obtain ⟨hq, b, off, rfl, hr⟩ := hX i hi
    refine ⟨b, off, rfl, ?_⟩
    rw [show nthR ((List.range len).map X) i = X i by simp [nthR, List.getD_eq_getElem?_getD, hi]]
    exact hr
  · obtain ⟨i, hi, rfl⟩ := List.mem_map.1 hy
    exact (hX i (List.mem_range.1 hi)).1

theorem open_Tx {fuel : Nat} {cs : List Value} {x : DataW H × List MemPlace} (h : DataW.trod enc Try.prog W 0 spare held fuel 26 cs = some x) (hw : ∀ n ∈ x.1.weights Try.prog 26, n ≤ reachBytes) :
    ∃ (r : TxR) (t : Tx), cs = Cel.enc r ∧ TxL W r t ∧ Cel.ok r := by
  have hu := Try.underlying26
  obtain ⟨ys, f, rfl, rfl, hcl, hyl, hf⟩ := DataW.trod_struct hu h
  have h0 := hf 0 _ rfl
  have h1 := hf 1 _ rfl
  have h2 := hf 2 _ rfl
  have h3 := hf 3 _ rfl
  have hln : cs.length = 4 := hcl.trans (by kernel_rfl)
  have hyn : ys.length = 4 := hyl
  replace h0 : DataW.trod enc Try.prog W 0 spare held f _ ((cs.drop 0).take _) = ys[0]? := h0
  replace h1 : DataW.trod enc Try.prog W 0 spare held f _ ((cs.drop 1).take _) = ys[1]? := h1
  replace h2 : DataW.trod enc Try.prog W 0 spare held f _ ((cs.drop 2).take _) = ys[2]? := h2
  replace h3 : DataW.trod enc Try.prog W 0 spare held f _ ((cs.drop 3).take _) = ys[3]? := h3
  match cs, hln, ys, hyn with
  | [v0, v1, v2, v3], _, [y0, y1, y2, y3], _ =>
    have g0 : DataW.trod enc Try.prog W 0 spare held f 3 [v0] = some y0 := by
      have e : Program.cellsOf Try.prog 3 = 1 := by kernel_rfl
      have h9 := h0
      simp only [e, List.drop_succ_cons, List.drop_zero, List.take_succ_cons, List.take_zero, List.getElem?_cons_succ, List.getElem?_cons_zero] at h9
      exact h9
    have g1 : DataW.trod enc Try.prog W 0 spare held f 3 [v1] = some y1 := by
      have e : Program.cellsOf Try.prog 3 = 1 := by kernel_rfl
      have h9 := h1
      simp only [e, List.drop_succ_cons, List.drop_zero, List.take_succ_cons, List.take_zero, List.getElem?_cons_succ, List.getElem?_cons_zero] at h9
      exact h9
    have g2 : DataW.trod enc Try.prog W 0 spare held f 23 [v2] = some y2 := by
      have e : Program.cellsOf Try.prog 23 = 1 := by kernel_rfl
      have h9 := h2
      simp only [e, List.drop_succ_cons, List.drop_zero, List.take_succ_cons, List.take_zero, List.getElem?_cons_succ, List.getElem?_cons_zero] at h9
      exact h9
    have g3 : DataW.trod enc Try.prog W 0 spare held f 24 [v3] = some y3 := by
      have e : Program.cellsOf Try.prog 24 = 1 := by kernel_rfl
      have h9 := h3
      simp only [e, List.drop_succ_cons, List.drop_zero, List.take_succ_cons, List.take_zero, List.getElem?_cons_succ, List.getElem?_cons_zero] at h9
      exact h9
    obtain ⟨n0, hv0, _, hw0⟩ := DataW.trod_int Try.underlying3 g0
    obtain ⟨n1, hv1, _, hw1⟩ := DataW.trod_int Try.underlying3 g1
    obtain ⟨a2, n2, c2, xs2, hv2, hr2⟩ := open_Sn g2 (fun n hn => hw n (by simp only [List.map_cons, List.map_nil, DataW.weights, hu, List.map, DataW.weightsEach, List.append_nil, List.mem_append]; exact (.inr (.inr (.inl hn)))))
    obtain ⟨a3, n3, c3, xs3, hv3, hr3⟩ := open_Wr g3 (fun n hn => hw n (by simp only [List.map_cons, List.map_nil, DataW.weights, hu, List.map, DataW.weightsEach, List.append_nil, List.mem_append]; exact (.inr (.inr (.inr (hn))))))
    simp only [List.cons.injEq, and_true] at hv0 hv1 hv2 hv3
    subst hv0 hv1 hv2 hv3
    exact ⟨⟨n0, n1, a2, n2, c2, a3, n3, c3⟩, ⟨n0, n1, xs2, xs3⟩, rfl, ⟨rfl, rfl, hr2, hr3⟩, ⟨hw0, hw1⟩⟩

theorem open_Dd {fuel : Nat} {cs : List Value} {x : DataW H × List MemPlace} (h : DataW.trod enc Try.prog W 0 spare held fuel 30 cs = some x) (hw : ∀ n ∈ x.1.weights Try.prog 30, n ≤ reachBytes) :
    ∃ (r : DdR) (d : Dd), cs = Cel.enc r ∧ DdL W r d ∧ Cel.ok r := by
  have hu := Try.underlying30
  obtain ⟨ys, f, rfl, rfl, hcl, hyl, hf⟩ := DataW.trod_struct hu h
  have h0 := hf 0 _ rfl
  have h1 := hf 1 _ rfl
  have h2 := hf 2 _ rfl
  have h3 := hf 3 _ rfl
  have h4 := hf 4 _ rfl
  have hln : cs.length = 8 := hcl.trans (by kernel_rfl)
  have hyn : ys.length = 5 := hyl
  replace h0 : DataW.trod enc Try.prog W 0 spare held f _ ((cs.drop 0).take _) = ys[0]? := h0
  replace h1 : DataW.trod enc Try.prog W 0 spare held f _ ((cs.drop 4).take _) = ys[1]? := h1
  replace h2 : DataW.trod enc Try.prog W 0 spare held f _ ((cs.drop 5).take _) = ys[2]? := h2
  replace h3 : DataW.trod enc Try.prog W 0 spare held f _ ((cs.drop 6).take _) = ys[3]? := h3
  replace h4 : DataW.trod enc Try.prog W 0 spare held f _ ((cs.drop 7).take _) = ys[4]? := h4
  match cs, hln, ys, hyn with
  | [v0, v1, v2, v3, v4, v5, v6, v7], _, [y0, y1, y2, y3, y4], _ =>
    have g0 : DataW.trod enc Try.prog W 0 spare held f 26 [v0, v1, v2, v3] = some y0 := by
      have e : Program.cellsOf Try.prog 26 = 4 := by kernel_rfl
      have h9 := h0
      simp only [e, List.drop_succ_cons, List.drop_zero, List.take_succ_cons, List.take_zero, List.getElem?_cons_succ, List.getElem?_cons_zero] at h9
      exact h9
    have g1 : DataW.trod enc Try.prog W 0 spare held f 27 [v4] = some y1 := by
      have e : Program.cellsOf Try.prog 27 = 1 := by kernel_rfl
      have h9 := h1
      simp only [e, List.drop_succ_cons, List.drop_zero, List.take_succ_cons, List.take_zero, List.getElem?_cons_succ, List.getElem?_cons_zero] at h9
      exact h9
    have g2 : DataW.trod enc Try.prog W 0 spare held f 28 [v5] = some y2 := by
      have e : Program.cellsOf Try.prog 28 = 1 := by kernel_rfl
      have h9 := h2
      simp only [e, List.drop_succ_cons, List.drop_zero, List.take_succ_cons, List.take_zero, List.getElem?_cons_succ, List.getElem?_cons_zero] at h9
      exact h9
    have g3 : DataW.trod enc Try.prog W 0 spare held f 28 [v6] = some y3 := by
      have e : Program.cellsOf Try.prog 28 = 1 := by kernel_rfl
      have h9 := h3
      simp only [e, List.drop_succ_cons, List.drop_zero, List.take_succ_cons, List.take_zero, List.getElem?_cons_succ, List.getElem?_cons_zero] at h9
      exact h9
    have g4 : DataW.trod enc Try.prog W 0 spare held f 4 [v7] = some y4 := by
      have e : Program.cellsOf Try.prog 4 = 1 := by kernel_rfl
      have h9 := h4
      simp only [e, List.drop_succ_cons, List.drop_zero, List.take_succ_cons, List.take_zero, List.getElem?_cons_succ, List.getElem?_cons_zero] at h9
      exact h9
    obtain ⟨r0, t0, hv0, hL0, hO0⟩ := open_Tx g0 (fun n hn => hw n (by simp only [List.map_cons, List.map_nil, DataW.weights, hu, List.map, DataW.weightsEach, List.append_nil, List.mem_append]; exact (.inl hn)))
    obtain ⟨n1, hv1, _, hw1⟩ := DataW.trod_int Try.underlying27 g1
    obtain ⟨n2, hv2, _, hw2⟩ := DataW.trod_int Try.underlying28 g2
    obtain ⟨n3, hv3, _, hw3⟩ := DataW.trod_int Try.underlying28 g3
    obtain ⟨n4, hv4, _⟩ := DataW.trod_bool Try.underlying4 g4
    simp only [List.cons.injEq, and_true] at hv1 hv2 hv3 hv4
    replace hv0 : [v0, v1, v2, v3] = [.int .i64 r0.id, .int .i64 r0.ts, .slice r0.ra r0.rn r0.rc, .slice r0.wa r0.wn r0.wc] := hv0
    simp only [List.cons.injEq, and_true] at hv0
    obtain ⟨rfl, rfl, rfl, rfl⟩ := hv0
    subst hv1 hv2 hv3 hv4
    exact ⟨⟨r0, n1, n2, n3, n4⟩, ⟨t0, n1, n2, n3, n4⟩, rfl, ⟨hL0, rfl, rfl, rfl, rfl⟩, ⟨hO0, by simp [Lit.wf, IntKind.min, IntKind.max, IntKind.bits, IntKind.signed] at hw1; omega, by simp [Lit.wf, IntKind.min, IntKind.max, IntKind.bits, IntKind.signed] at hw2; omega, by simp [Lit.wf, IntKind.min, IntKind.max, IntKind.bits, IntKind.signed] at hw3; omega⟩⟩

instance : Inhabited (DdR × Dd) := ⟨(Cel.dflt, ⟨⟨0, 0, [], []⟩, 0, 0, 0, false⟩)⟩
theorem open_Dds {fuel : Nat} {cs : List Value} {x : DataW H × List MemPlace} (h : DataW.trod enc Try.prog W 0 spare held fuel 22 cs = some x) (hw : ∀ n ∈ x.1.weights Try.prog 22, n ≤ reachBytes) :
    ∃ a n c xs, cs = [.slice a n c] ∧ Dds W a n c xs := by
  rcases open_slice Try.underlying22 h with ⟨rfl, _⟩ | ⟨a, len, cap, m, f, D, Pl, rfl, _, hl, hm, hmm, rfl, hx⟩
  · exact ⟨none, 0, 0, [], rfl, [], Rw.nil W, rfl, fun i hi => absurd hi (by omega)⟩
  have hlm : len ≤ m := by rw [hmm]; split <;> omega
  have hD : ∀ i, i < len → ∀ n ∈ (D i).weights Try.prog 30, n ≤ reachBytes := by
    intro i hi n hn
    refine hw n ?_
    simp only [DataW.weights, Try.underlying22, List.mem_cons, List.mem_append]
    exact .inr (.inl (weightsAll_memE (List.mem_map.2 ⟨i, List.mem_range.2 hi, rfl⟩) n hn))
  have each : ∀ i, i < len → ∃ q : DdR × Dd, DdL W q.1 q.2 ∧ Cel.ok q.1 ∧ ∃ b off, a = ⟨b, off, none⟩ ∧ W.rangeAt b (off + i * Cel.sz DdR) (Cel.enc q.1) := by
    intro i hi
    obtain ⟨cs', h1, h2⟩ := hx i (by omega)
    rw [show Program.cellsOf Try.prog 30 = 8 by kernel_rfl] at h1
    obtain ⟨cs0, g1, _⟩ := hx 0 (by omega)
    rw [Nat.zero_mul, show a.add 0 = a by simp [Addr.add], show Program.cellsOf Try.prog 30 = 8 by kernel_rfl] at g1
    obtain ⟨b, o, rfl⟩ := cells_addr g1 (by omega)
    have hat := cells_at h1
    obtain ⟨r, x, rfl, hr, hok⟩ := open_Dd h2 (hD i hi)
    refine ⟨(r, x), hr, hok, b, o, rfl, fun j v hv => ?_⟩
    have hlen : (Cel.enc r).length = 8 := Cel.len r
    have hj : j < 8 := by
      rcases Nat.lt_or_ge j 8 with h | h
      · exact h
      · rw [List.getElem?_eq_none (by simp only; omega)] at hv; cases hv
    rw [show Cel.sz DdR = 8 from rfl, hat j hj]
    exact hv
  obtain ⟨X, hX⟩ := choose_lt each
  have hwt : (((List.range len).map D).length + ((List.range (m - len)).map fun j => D (len + j)).length) * Program.bytesOf Try.prog 30 ≤ reachBytes := hw _ (by simp [DataW.weights, Try.underlying22])
  rw [show Program.bytesOf Try.prog 30 = 80 by kernel_rfl] at hwt
  simp only [List.length_map, List.length_range] at hwt
  refine ⟨some a, len, cap, (List.range len).map fun i => (X i).2, rfl, (List.range len).map fun i => (X i).1, ⟨by simp, hl, hm, by unfold reachBytes at hwt; omega, fun i hi => ?_, fun y hy => ?_⟩, by simp, fun i hi => ?_⟩
  · obtain ⟨_, _, b, off, rfl, hr⟩ := hX i hi
    refine ⟨b, off, rfl, ?_⟩
    rw [show nthR ((List.range len).map fun i => (X i).1) i = (X i).1 by simp [nthR, List.getD_eq_getElem?_getD, hi]]
    exact hr
  · obtain ⟨i, hi, rfl⟩ := List.mem_map.1 hy
    exact (hX i (List.mem_range.1 hi)).2.1
  · rw [show nthR ((List.range len).map fun i => (X i).1) i = (X i).1 by simp [nthR, List.getD_eq_getElem?_getD, hi], show nthD ((List.range len).map fun i => (X i).2) i = (X i).2 by simp [nthD, List.getD_eq_getElem?_getD, hi]]
    exact (hX i hi).1

theorem open_DdsV {r : Reach} {b0 : Nat} {v : Value} {d : DataW H} {ps : List MemPlace} (hval : Value.okWide Try.prog W r b0 22 v) (hd : DataW.Trod enc Try.prog W 0 spare held 22 v d ps) (hw : ∀ n ∈ d.weights Try.prog 22, n ≤ reachBytes) :
    ∃ a n c, ∃ xs : List Dd, v = .slice a n c ∧ Dds W a n c xs := by
  obtain ⟨a, n, c, rfl⟩ := okWide_slice Try.underlying22 hval
  obtain ⟨fuel, hf⟩ := hd
  obtain ⟨a', n', c', xs, hc, hr⟩ := open_Dds hf hw
  simp [Value.cells] at hc
  obtain ⟨rfl, rfl, rfl⟩ := hc
  exact ⟨_, _, _, xs, rfl, hr⟩

theorem open_DdV {r : Reach} {b0 : Nat} {v : Value} {d : DataW H} {ps : List MemPlace} (hval : Value.okWide Try.prog W r b0 30 v) (hd : DataW.Trod enc Try.prog W 0 spare held 30 v d ps) (hw : ∀ n ∈ d.weights Try.prog 30, n ≤ reachBytes) :
    ∃ (q : DdR) (d : Dd), v = .agg #[.int .i64 q.t.id, .int .i64 q.t.ts, .slice q.t.ra q.t.rn q.t.rc, .slice q.t.wa q.t.wn q.t.wc, .int .u32 q.after, .int .u16 q.left, .int .u16 q.right, .bool q.look] ∧ DdL W q d ∧ q.Ok := by
  obtain ⟨cs, rfl, _⟩ := okWide_struct Try.underlying30 hval
  obtain ⟨fuel, hf⟩ := hd
  obtain ⟨q, d, hc, hr, ho⟩ := open_Dd hf hw
  replace hc : cs.toList = _ := hc
  refine ⟨q, d, ?_, hr, ho⟩
  rw [show cs = cs.toList.toArray by simp, hc]
  try rfl

end
end Go.Proofs.Ytacicanjmleikaa
