/-
  Chains and rounds that came in, opened: they read as lists of rounds and of replies.
-/
import Derived.Test.YtdmfdimhjemngaaGreatDoorCA
import Derived.Test.YtdmfdimhjemngaaGreatDoorRow
import Derived.Deep.Slices
import Derived.SizedLaws
import Derived.WideShapes
import Derived.ChangeArms
namespace Go.Proofs.YtdmfdimhjemngaaGreatDoor
open Go.RowKit Go.ChangeShapes Go.WideShapes Go.Deep
set_option linter.unusedSimpArgs false
set_option linter.unusedVariables false
set_option maxRecDepth 100000

theorem cells_addr {W : World} {base : Nat} {a : Addr} {n : Nat} {cs : List Value} (h : W.cells? base a n = some cs) (h0 : 0 < n) : ∃ b off, a = ⟨b, off, none⟩ := by
  obtain ⟨_, hl, hat⟩ := World.cells?_some h
  have h1 := hat 0 h0
  rw [List.getElem?_eq_getElem (by omega)] at h1
  have hs := World.cell?_spot h1
  obtain ⟨b, off, s⟩ := a
  simp [Addr.add] at hs
  subst hs
  exact ⟨b, off, rfl⟩
theorem add_none (b off i : Nat) : (⟨b, off, none⟩ : Addr).add i = ⟨b, off + i, none⟩ := by unfold Addr.add; split <;> simp_all
theorem cells_at {W : World} {base : Nat} {b off k n : Nat} {cs : List Value} (h : W.cells? base ((⟨b, off, none⟩ : Addr).add k) n = some cs) : ∀ i, i < n → W.cell? ⟨b, off + k + i, none⟩ = cs[i]? := by
  obtain ⟨_, hl, hat⟩ := World.cells?_some h
  intro i hi
  have h2 := hat i hi
  rwa [add_none, add_none] at h2

theorem weightsAll_mem' {H : Type} {P : Program} {e : TypeId} : ∀ {l : List (DataW H)} {d : DataW H}, d ∈ l → ∀ n ∈ d.weights P e, n ∈ DataW.weightsAll P e l
  | d' :: r, d, hd, n, hn => by
    simp only [DataW.weightsAll, List.mem_append]
    rcases List.mem_cons.1 hd with rfl | h
    · exact Or.inl hn
    · exact Or.inr (weightsAll_mem' h n hn)

def kindsRp : List Kd := [.int .i64, .int .i64, .int .i64, .int .u64, .int .i64, .int .i64, .int .i64, .int .i64, .int .i64, .int .i64]
theorem leaves_rp {cs : List Value} (h : Leaves kindsRp cs) : ∃ x : Rp, x.Ok ∧ cs = x.enc := by
  obtain ⟨a, _, rfl, w0, h⟩ := Leaves.int h
  obtain ⟨hh, _, rfl, w1, h⟩ := Leaves.int h
  obtain ⟨r, _, rfl, w2, h⟩ := Leaves.int h
  obtain ⟨n, _, rfl, w3, h⟩ := Leaves.int h
  obtain ⟨lo, _, rfl, w4, h⟩ := Leaves.int h
  obtain ⟨hi, _, rfl, w5, h⟩ := Leaves.int h
  obtain ⟨k, _, rfl, w6, h⟩ := Leaves.int h
  obtain ⟨t, _, rfl, w7, h⟩ := Leaves.int h
  obtain ⟨c, _, rfl, w8, h⟩ := Leaves.int h
  obtain ⟨s, _, rfl, w9, h⟩ := Leaves.int h
  obtain rfl := Leaves.nil h
  exact ⟨⟨a, hh, r, n, lo, hi, k, t, c, s⟩, ⟨w0, w1, w2, w3, w4, w5, w6, w7, w8, w9⟩, rfl⟩

instance : Inhabited Rp := ⟨⟨0, 0, 0, 0, 0, 0, 0, 0, 0, 0⟩⟩
instance : Inhabited (Value × List Rp) := ⟨(.bool false, [])⟩

section
variable {H : Type} {enc : TypeId × Value → H} {W : World} {spare : Nat → Bool} {held : Bool}

theorem open_replies {fuel : Nat} {cs : List Value} {x : DataW H × List MemPlace} (h : DataW.trod enc Tryz.prog W 0 spare held fuel 27 cs = some x) (hw : ∀ n ∈ x.1.weights Tryz.prog 27, n ≤ reachBytes) :
    ∃ a n c xs, cs = [.slice a n c] ∧ Rw (α := Rp) W a n c xs := by
  rcases open_slice Tryz.underlying27 h with ⟨rfl, _⟩ | ⟨a, len, cap, m, f, D, Pl, rfl, _, hl, hm, hmm, rfl, hx⟩
  · exact ⟨none, 0, 0, [], rfl, Rw.nil W⟩
  have hlm : len ≤ m := by rw [hmm]; split <;> omega
  have each : ∀ i, i < len → ∃ q : Rp, q.Ok ∧ ∃ b off, a = ⟨b, off, none⟩ ∧ W.rangeAt b (off + i * Cel.sz Rp) (Cel.enc q) := by
    intro i hi
    obtain ⟨cs', h1, h2⟩ := hx i (by omega)
    rw [show Program.cellsOf Tryz.prog 60 = 10 by kernel_rfl] at h1
    obtain ⟨cs0, g1, _⟩ := hx 0 (by omega)
    rw [Nat.zero_mul, show a.add 0 = a by simp [Addr.add], show Program.cellsOf Tryz.prog 60 = 10 by kernel_rfl] at g1
    obtain ⟨b, o, rfl⟩ := cells_addr g1 (by omega)
    have hat := cells_at h1
    obtain ⟨e1, _, e3⟩ := flat_trod 5 _ kindsRp _ _ _ (by kernel_rfl) h2
    obtain ⟨q, hq, rfl⟩ := leaves_rp (Leaves.of e1 e3)
    refine ⟨q, hq, b, o, rfl, fun j v hv => ?_⟩
    rw [enc_rp] at hv
    have hj : j < 10 := by
      rcases Nat.lt_or_ge j 10 with h | h
      · exact h
      · rw [List.getElem?_eq_none (by exact h)] at hv; cases hv
    rw [sz_rp, hat j hj]
    exact hv
  obtain ⟨X, hX⟩ := choose_lt each
  have hwt : (((List.range len).map D).length + ((List.range (m - len)).map fun j => D (len + j)).length) * Program.bytesOf Tryz.prog 60 ≤ reachBytes := hw _ (by simp [DataW.weights, Tryz.underlying27])
  rw [show Program.bytesOf Tryz.prog 60 = 80 by kernel_rfl] at hwt
  simp only [List.length_map, List.length_range] at hwt
  refine ⟨some a, len, cap, (List.range len).map X, rfl, by simp, hl, hm, by unfold reachBytes at hwt; omega, fun i hi => ?_, fun y hy => ?_⟩
  · obtain ⟨hq, b, off, rfl, hr⟩ := hX i hi
    refine ⟨b, off, rfl, ?_⟩
    rw [show nthR ((List.range len).map X) i = X i by simp [nthR, List.getD_eq_getElem?_getD, hi]]
    exact hr
  · obtain ⟨i, hi, rfl⟩ := List.mem_map.1 hy
    exact (hX i (List.mem_range.1 hi)).1

theorem open_round {fuel : Nat} {cs : List Value} {x : DataW H × List MemPlace} (h : DataW.trod enc Tryz.prog W 0 spare held fuel 45 cs = some x) (hw : ∀ n ∈ x.1.weights Tryz.prog 45, n ≤ reachBytes) :
    ∃ a n c xs, cs = [.slice a n c] ∧ Rw (α := Rp) W a n c xs := by
  have hu := Tryz.underlying45
  obtain ⟨ys, f, rfl, rfl, hcl, hyl, hf⟩ := DataW.trod_struct hu h
  have h0 := hf 0 _ rfl
  have hl1 : cs.length = 1 := hcl.trans (by kernel_rfl)
  have hy1 : ys.length = 1 := hyl
  match cs, hl1, ys, hy1 with
  | [v], _, [y], _ =>
    have h1 : DataW.trod enc Tryz.prog W 0 spare held f 27 [v] = some y := by
      have e : Program.cellsOf Tryz.prog 27 = 1 := by kernel_rfl
      have h2 := h0
      simp only [e, List.drop_zero, List.take_succ_cons, List.take_zero, List.getElem?_cons_zero] at h2
      exact h2
    exact open_replies h1 (fun n hn => hw n (by simp only [List.map_cons, List.map_nil, DataW.weights, hu, List.map, DataW.weightsEach, List.append_nil]; exact hn))

theorem open_rounds {fuel : Nat} {cs : List Value} {x : DataW H × List MemPlace} (h : DataW.trod enc Tryz.prog W 0 spare held fuel 22 cs = some x) (hw : ∀ n ∈ x.1.weights Tryz.prog 22, n ≤ reachBytes) :
    ∃ a n c xs, cs = [.slice a n c] ∧ Rws (α := Rp) W a n c xs := by
  rcases open_slice Tryz.underlying22 h with ⟨rfl, _⟩ | ⟨a, len, cap, m, f, D, Pl, rfl, _, hl, hm, hmm, rfl, hx⟩
  · exact ⟨none, 0, 0, [], rfl, Rws.nil W⟩
  have hlm : len ≤ m := by rw [hmm]; split <;> omega
  have hD : ∀ i, i < len → ∀ n ∈ (D i).weights Tryz.prog 45, n ≤ reachBytes := by
    intro i hi n hn
    refine hw n ?_
    simp only [DataW.weights, Tryz.underlying22, List.mem_cons, List.mem_append]
    exact .inr (.inl (weightsAll_mem' (List.mem_map.2 ⟨i, List.mem_range.2 hi, rfl⟩) n hn))
  have each : ∀ i, i < len → ∃ q : Value × List Rp, ∃ b off, a = ⟨b, off, none⟩ ∧ W.cell? ⟨b, off + i, none⟩ = some q.1 ∧ IsR W q.1 q.2 := by
    intro i hi
    obtain ⟨cs', h1, h2⟩ := hx i (by omega)
    rw [show Program.cellsOf Tryz.prog 45 = 1 by kernel_rfl] at h1
    obtain ⟨cs0, g1, _⟩ := hx 0 (by omega)
    rw [Nat.zero_mul, show a.add 0 = a by simp [Addr.add], show Program.cellsOf Tryz.prog 45 = 1 by kernel_rfl] at g1
    obtain ⟨b, o, rfl⟩ := cells_addr g1 (by omega)
    have hat := cells_at h1
    obtain ⟨a', n', c', xs, rfl, hr⟩ := open_round h2 (hD i hi)
    refine ⟨(.slice a' n' c', xs), b, o, rfl, ?_, a', n', c', rfl, hr⟩
    have := hat 0 (by omega)
    simpa using this
  obtain ⟨X, hX⟩ := choose_lt each
  have hwt : (((List.range len).map D).length + ((List.range (m - len)).map fun j => D (len + j)).length) * Program.bytesOf Tryz.prog 45 ≤ reachBytes := hw _ (by simp [DataW.weights, Tryz.underlying22])
  rw [show Program.bytesOf Tryz.prog 45 = 24 by kernel_rfl] at hwt
  simp only [List.length_map, List.length_range] at hwt
  refine ⟨some a, len, cap, (List.range len).map fun i => (X i).2, rfl, by simp, hl, hm, by unfold reachBytes at hwt; omega, fun i hi => ?_⟩
  obtain ⟨b, off, rfl, hc, hr⟩ := hX i hi
  refine ⟨b, off, _, rfl, hc, ?_⟩
  rw [show nthS ((List.range len).map fun i => (X i).2) i = (X i).2 by simp [nthS, List.getD_eq_getElem?_getD, hi]]
  exact hr

/-- A chain that came in. -/
theorem open_chain {r : Reach} {b0 : Nat} {v : Value} {d : DataW H} {ps : List MemPlace} (hval : Value.okWide Tryz.prog W r b0 24 v) (hd : DataW.Trod enc Tryz.prog W 0 spare held 24 v d ps) (hw : ∀ n ∈ d.weights Tryz.prog 24, n ≤ reachBytes) :
    ∃ host a n c rs, v = .agg #[.int .i64 host, .slice a n c] ∧ (Lit.int .i64 host).wf = true ∧ Rws (α := Rp) W a n c rs := by
  have hu := Tryz.underlying24
  obtain ⟨cs, rfl, _⟩ := okWide_struct hu hval
  obtain ⟨fuel, hf⟩ := hd
  obtain ⟨ys, f, rfl, hx, hcl, hyl, hfs⟩ := DataW.trod_struct hu hf
  simp only [Prod.mk.injEq] at hx
  obtain ⟨rfl, rfl⟩ := hx
  have h0 := hfs 0 _ rfl
  have h1 := hfs 1 _ rfl
  have hl2 : cs.toList.length = 2 := hcl.trans (by kernel_rfl)
  have hy2 : ys.length = 2 := hyl
  replace h0 : DataW.trod enc Tryz.prog W 0 spare held f _ ((cs.toList.drop 0).take _) = ys[0]? := h0
  replace h1 : DataW.trod enc Tryz.prog W 0 spare held f _ ((cs.toList.drop 1).take _) = ys[1]? := h1
  obtain ⟨l⟩ := cs
  match l, hl2, ys, hy2 with
  | [v0, v1], _, [y0, y1], _ =>
    have g0 : DataW.trod enc Tryz.prog W 0 spare held f 3 [v0] = some y0 := by
      have e : Program.cellsOf Tryz.prog 3 = 1 := by kernel_rfl
      simp only [e, List.drop_zero, List.take_succ_cons, List.take_zero, List.getElem?_cons_zero] at h0
      exact h0
    have g1 : DataW.trod enc Tryz.prog W 0 spare held f 22 [v1] = some y1 := by
      have e : Program.cellsOf Tryz.prog 22 = 1 := by kernel_rfl
      simp only [e, List.drop_succ_cons, List.drop_zero, List.take_succ_cons, List.take_zero, List.getElem?_cons_succ, List.getElem?_cons_zero] at h1
      exact h1
    obtain ⟨host, hv0, _, hwf⟩ := DataW.trod_int Tryz.underlying3 g0
    obtain ⟨a, n, c, rs, hv1, hr⟩ := open_rounds g1 (fun n hn => hw n (by simp only [List.map_cons, List.map_nil, DataW.weights, hu, List.map, DataW.weightsEach, List.append_nil, List.mem_append]; exact .inr hn))
    simp only [List.cons.injEq, and_true] at hv0 hv1
    subst hv0 hv1
    exact ⟨host, a, n, c, rs, rfl, hwf, hr⟩

/-- A round that came in. -/
theorem open_round1 {r : Reach} {b0 : Nat} {v : Value} {d : DataW H} {ps : List MemPlace} (hval : Value.okWide Tryz.prog W r b0 45 v) (hd : DataW.Trod enc Tryz.prog W 0 spare held 45 v d ps) (hw : ∀ n ∈ d.weights Tryz.prog 45, n ≤ reachBytes) :
    ∃ a n c xs, v = .agg #[.slice a n c] ∧ Rw (α := Rp) W a n c xs := by
  obtain ⟨cs, rfl, _⟩ := okWide_struct Tryz.underlying45 hval
  obtain ⟨fuel, hf⟩ := hd
  obtain ⟨a, n, c, xs, hc, hr⟩ := open_round hf hw
  replace hc : cs.toList = _ := hc
  refine ⟨a, n, c, xs, ?_, hr⟩
  rw [show cs = cs.toList.toArray by simp, hc]
end
end Go.Proofs.YtdmfdimhjemngaaGreatDoor
