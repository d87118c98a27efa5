/-
  Offices that came in, opened: they read as lists. Written by wip/gen_opu.py.
-/
import Derived.Test.YtacicanjmleikaaGreatDoorTJM
import Derived.Test.YtacicanjmleikaaGreatDoorRow
import Derived.Deep.Slices
import Derived.SizedLaws
import Derived.WideShapes
import Derived.ChangeArms
namespace Go.Proofs.YtacicanjmleikaaGreatDoor
open Go.RowKit Go.ChangeShapes Go.WideShapes Go.Deep
set_option linter.unusedSimpArgs false
set_option linter.unusedVariables false
set_option maxRecDepth 100000

theorem cells_addr {W : World} {base : Nat} {a : Addr} {n : Nat} {cs : List Value} (h : W.cells? base a n = some cs) (h0 : 0 < n) : ∃ b off, a = ⟨b, off, none⟩ := by
  obtain ⟨_, hl, hat⟩ := World.cells?_some h
  have h1 := hat 0 h0
  rw [List.getElem?_eq_getElem (by omega)] at h1
  have hs := World.cell?_spot h1
  obtain ⟨b, off, s⟩ := a
  simp [Addr.add] at hs
  subst hs
  exact ⟨b, off, rfl⟩
theorem add_none (b off i : Nat) : (⟨b, off, none⟩ : Addr).add i = ⟨b, off + i, none⟩ := by unfold Addr.add; split <;> simp_all
theorem cells_at {W : World} {base : Nat} {b off k n : Nat} {cs : List Value} (h : W.cells? base ((⟨b, off, none⟩ : Addr).add k) n = some cs) : ∀ i, i < n → W.cell? ⟨b, off + k + i, none⟩ = cs[i]? := by
  obtain ⟨_, hl, hat⟩ := World.cells?_some h
  intro i hi
  have h2 := hat i hi
  rwa [add_none, add_none] at h2
theorem weightsAll_memE {H : Type} {P : Program} {e : TypeId} : ∀ {l : List (DataW H)} {d : DataW H}, d ∈ l → ∀ n ∈ d.weights P e, n ∈ DataW.weightsAll P e l
  | d' :: r, d, hd, n, hn => by
    simp only [DataW.weightsAll, List.mem_append]
    rcases List.mem_cons.1 hd with rfl | h
    · exact Or.inl hn
    · exact Or.inr (weightsAll_memE h n hn)
def kindsEn : List Kd := [.int .u64, .int .i64, .int .i64]
theorem leaves_En {cs : List Value} (h : Leaves kindsEn cs) : ∃ x : En, Cel.ok x ∧ cs = Cel.enc x := by
  obtain ⟨x0, _, rfl, w0, h0⟩ := Leaves.int h
  obtain ⟨x1, _, rfl, w1, h1⟩ := Leaves.int h0
  obtain ⟨x2, _, rfl, w2, h2⟩ := Leaves.int h1
  obtain rfl := Leaves.nil h2
  exact ⟨⟨x0, x1, x2⟩, ⟨w0, w1, w2⟩, rfl⟩
instance : Inhabited En := ⟨Cel.dflt⟩
section
variable {H : Type} {enc : TypeId × Value → H} {W : World} {spare : Nat → Bool} {held : Bool}

theorem open_En {fuel : Nat} {cs : List Value} {x : DataW H × List MemPlace} (h : DataW.trod enc Tryz.prog W 0 spare held fuel 22 cs = some x) (hw : ∀ n ∈ x.1.weights Tryz.prog 22, n ≤ reachBytes) :
    ∃ a n c xs, cs = [.slice a n c] ∧ Rw (α := En) W a n c xs := by
  rcases open_slice Tryz.underlying22 h with ⟨rfl, _⟩ | ⟨a, len, cap, m, f, D, Pl, rfl, _, hl, hm, hmm, rfl, hx⟩
  · exact ⟨none, 0, 0, [], rfl, Rw.nil W⟩
  have hlm : len ≤ m := by rw [hmm]; split <;> omega
  have each : ∀ i, i < len → ∃ q : En, Cel.ok q ∧ ∃ b off, a = ⟨b, off, none⟩ ∧ W.rangeAt b (off + i * Cel.sz En) (Cel.enc q) := by
    intro i hi
    obtain ⟨cs', h1, h2⟩ := hx i (by omega)
    rw [show Program.cellsOf Tryz.prog 41 = 3 by kernel_rfl] at h1
    obtain ⟨cs0, g1, _⟩ := hx 0 (by omega)
    rw [Nat.zero_mul, show a.add 0 = a by simp [Addr.add], show Program.cellsOf Tryz.prog 41 = 3 by kernel_rfl] at g1
    obtain ⟨b, o, rfl⟩ := cells_addr g1 (by omega)
    have hat := cells_at h1
    obtain ⟨e1, _, e3⟩ := flat_trod 5 _ kindsEn _ _ _ (by kernel_rfl) h2
    obtain ⟨q, hq, rfl⟩ := leaves_En (Leaves.of e1 e3)
    refine ⟨q, hq, b, o, rfl, fun j v hv => ?_⟩
    have hlen : (Cel.enc q).length = 3 := Cel.len q
    have hj : j < 3 := by
      rcases Nat.lt_or_ge j 3 with h | h
      · exact h
      · rw [List.getElem?_eq_none (by omega)] at hv; cases hv
    rw [show Cel.sz En = 3 from rfl, hat j hj]
    exact hv
  obtain ⟨X, hX⟩ := choose_lt each
  have hwt : (((List.range len).map D).length + ((List.range (m - len)).map fun j => D (len + j)).length) * Program.bytesOf Tryz.prog 41 ≤ reachBytes := hw _ (by simp [DataW.weights, Tryz.underlying22])
  rw [show Program.bytesOf Tryz.prog 41 = 24 by kernel_rfl] at hwt
  simp only [List.length_map, List.length_range] at hwt
  refine ⟨some a, len, cap, (List.range len).map X, rfl, by simp, hl, hm, by unfold reachBytes at hwt; omega, fun i hi => ?_, fun y hy => ?_⟩
  · obtain ⟨hq, b, off, rfl, hr⟩ := hX i hi
    refine ⟨b, off, rfl, ?_⟩
    rw [show nthR ((List.range len).map X) i = X i by simp [nthR, List.getD_eq_getElem?_getD, hi]]
    exact hr
  · obtain ⟨i, hi, rfl⟩ := List.mem_map.1 hy
    exact (hX i (List.mem_range.1 hi)).1

theorem open_Of {fuel : Nat} {cs : List Value} {x : DataW H × List MemPlace} (h : DataW.trod enc Tryz.prog W 0 spare held fuel 24 cs = some x) (hw : ∀ n ∈ x.1.weights Tryz.prog 24, n ≤ reachBytes) :
    ∃ (id : Int) (a : Option Addr) (n c : Nat) (es : List En), cs = [.int .i64 id, .slice a n c] ∧ Rw W a n c es := by
  have hu := Tryz.underlying24
  obtain ⟨ys, f, rfl, rfl, hcl, hyl, hf⟩ := DataW.trod_struct hu h
  have h0 := hf 0 _ rfl
  have h1 := hf 1 _ rfl
  have hln : cs.length = 2 := hcl.trans (by kernel_rfl)
  have hyn : ys.length = 2 := hyl
  replace h0 : DataW.trod enc Tryz.prog W 0 spare held f _ ((cs.drop 0).take _) = ys[0]? := h0
  replace h1 : DataW.trod enc Tryz.prog W 0 spare held f _ ((cs.drop 1).take _) = ys[1]? := h1
  match cs, hln, ys, hyn with
  | [v0, v1], _, [y0, y1], _ =>
    have g0 : DataW.trod enc Tryz.prog W 0 spare held f 3 [v0] = some y0 := by
      have e : Program.cellsOf Tryz.prog 3 = 1 := by kernel_rfl
      have h9 := h0
      simp only [e, List.drop_succ_cons, List.drop_zero, List.take_succ_cons, List.take_zero, List.getElem?_cons_succ, List.getElem?_cons_zero] at h9
      exact h9
    have g1 : DataW.trod enc Tryz.prog W 0 spare held f 22 [v1] = some y1 := by
      have e : Program.cellsOf Tryz.prog 22 = 1 := by kernel_rfl
      have h9 := h1
      simp only [e, List.drop_succ_cons, List.drop_zero, List.take_succ_cons, List.take_zero, List.getElem?_cons_succ, List.getElem?_cons_zero] at h9
      exact h9
    obtain ⟨n0, hv0, _, hw0⟩ := DataW.trod_int Tryz.underlying3 g0
    obtain ⟨a1, n1, c1, xs1, hv1, hr1⟩ := open_En g1 (fun n hn => hw n (by simp only [List.map_cons, List.map_nil, DataW.weights, hu, List.map, DataW.weightsEach, List.append_nil, List.mem_append]; exact (.inr (hn))))
    simp only [List.cons.injEq, and_true] at hv0 hv1
    subst hv0 hv1
    exact ⟨n0, a1, n1, c1, xs1, rfl, hr1⟩

theorem open_OfV {r : Reach} {b0 : Nat} {v : Value} {d : DataW H} {ps : List MemPlace} (hval : Value.okWide Tryz.prog W r b0 24 v) (hd : DataW.Trod enc Tryz.prog W 0 spare held 24 v d ps) (hw : ∀ n ∈ d.weights Tryz.prog 24, n ≤ reachBytes) :
    ∃ (id : Int) (a : Option Addr) (n c : Nat) (es : List En), v = .agg #[.int .i64 id, .slice a n c] ∧ Rw W a n c es := by
  obtain ⟨cs, rfl, _⟩ := okWide_struct Tryz.underlying24 hval
  obtain ⟨fuel, hf⟩ := hd
  obtain ⟨id, a, n, c, es, hc, hr⟩ := open_Of hf hw
  replace hc : cs.toList = _ := hc
  refine ⟨id, a, n, c, es, ?_, hr⟩
  rw [show cs = cs.toList.toArray by simp, hc]
  try rfl

end
end Go.Proofs.YtacicanjmleikaaGreatDoor
