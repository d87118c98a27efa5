/-
  Boxes, and slices of packets, that came in, opened. Written by wip/gen_iop.py.
-/
import Derived.Test.YtdmfdimhjemngaaDoorCOp
import Derived.Test.YtdmfdimhjemngaaDoorIB
namespace Go.Proofs.YtdmfdimhjemngaaDoor
open Go.RowKit Go.ChangeShapes Go.WideShapes Go.Deep
set_option linter.unusedSimpArgs false
set_option linter.unusedVariables false
set_option maxRecDepth 100000

section
variable {H : Type} {enc : TypeId × Value → H} {W : World} {held : Bool}

theorem open_isl {k : IntKind} {t e : TypeId} {fuel : Nat} {cs : List Value} {x : DataW H × List MemPlace} (ht : Tryd.prog.underlying t = some (.slice e)) (he : Tryd.prog.underlying e = some (.int k)) (hc : Tryd.prog.cellsOf e = 1)
    (h : DataW.trod enc Tryd.prog W 0 (fun _ => true) held fuel t cs = some x) : ∃ a n c xs, cs = [.slice a n c] ∧ Sl k W a n c xs := by
  rcases open_ints ht he hc h with ⟨rfl, _⟩ | ⟨x, l, c, zs, rfl, _, hl, hm, hz, _, hcell, hwz⟩
  · exact ⟨none, 0, 0, [], rfl, Sl.none_nil _ _⟩
  · exact ⟨some x, l, c, zs.take l, rfl, Sl.ofRow (.inr ⟨x, rfl, hl, hm, by simpa using hz, hcell, hwz⟩)⟩

/-- A box that came in. -/
theorem open_box {r : Reach} {b0 : Nat} {v : Value} {d : DataW H} {ps : List MemPlace} (hval : Value.okWide Tryd.prog W r b0 33 v) (hd : DataW.Trod enc Tryd.prog W 0 (fun _ => true) held 33 v d ps) (hw : ∀ n ∈ d.weights Tryd.prog 33, n ≤ reachBytes) :
    ∃ (b : Bx) (sa : Option Addr) (sn sc : Nat) (ga : Option Addr) (gn gc : Nat), v = .agg #[.int .i64 b.host, .int .i64 b.round, .int .u64 b.head, .int .i64 b.sent, .int .i64 b.wait, .slice sa sn sc, .slice ga gn gc] ∧ BxF W b sa sn sc ga gn gc := by
  have hu := Tryd.underlying33
  obtain ⟨cs, rfl, _⟩ := okWide_struct hu hval
  obtain ⟨fuel, hf⟩ := hd
  obtain ⟨ys, f, rfl, hx, hcl, hyl, hfs⟩ := DataW.trod_struct hu hf
  simp only [Prod.mk.injEq] at hx
  obtain ⟨rfl, rfl⟩ := hx
  have h0 := hfs 0 _ rfl
  have h1 := hfs 1 _ rfl
  have h2 := hfs 2 _ rfl
  have h3 := hfs 3 _ rfl
  have h4 := hfs 4 _ rfl
  have h5 := hfs 5 _ rfl
  have h6 := hfs 6 _ rfl
  have hl7 : cs.toList.length = 7 := hcl.trans (by kernel_rfl)
  have hy7 : ys.length = 7 := hyl
  replace h0 : DataW.trod enc Tryd.prog W 0 (fun _ => true) held f _ ((cs.toList.drop 0).take _) = ys[0]? := h0
  replace h1 : DataW.trod enc Tryd.prog W 0 (fun _ => true) held f _ ((cs.toList.drop 1).take _) = ys[1]? := h1
  replace h2 : DataW.trod enc Tryd.prog W 0 (fun _ => true) held f _ ((cs.toList.drop 2).take _) = ys[2]? := h2
  replace h3 : DataW.trod enc Tryd.prog W 0 (fun _ => true) held f _ ((cs.toList.drop 3).take _) = ys[3]? := h3
  replace h4 : DataW.trod enc Tryd.prog W 0 (fun _ => true) held f _ ((cs.toList.drop 4).take _) = ys[4]? := h4
  replace h5 : DataW.trod enc Tryd.prog W 0 (fun _ => true) held f _ ((cs.toList.drop 5).take _) = ys[5]? := h5
  replace h6 : DataW.trod enc Tryd.prog W 0 (fun _ => true) held f _ ((cs.toList.drop 6).take _) = ys[6]? := h6
  obtain ⟨l⟩ := cs
  match l, hl7, ys, hy7 with
  | [v0, v1, v2, v3, v4, v5, v6], _, [y0, y1, y2, y3, y4, y5, y6], _ =>
    have ei : Program.cellsOf Tryd.prog 3 = 1 := by kernel_rfl
    have eu : Program.cellsOf Tryd.prog 29 = 1 := by kernel_rfl
    have ea : Program.cellsOf Tryd.prog 30 = 1 := by kernel_rfl
    have eg : Program.cellsOf Tryd.prog 31 = 1 := by kernel_rfl
    have g0 : DataW.trod enc Tryd.prog W 0 (fun _ => true) held f 3 [v0] = some y0 := by
      simp only [ei, List.drop_succ_cons, List.drop_zero, List.take_succ_cons, List.take_zero, List.getElem?_cons_succ, List.getElem?_cons_zero] at h0
      exact h0
    have g1 : DataW.trod enc Tryd.prog W 0 (fun _ => true) held f 3 [v1] = some y1 := by
      simp only [ei, List.drop_succ_cons, List.drop_zero, List.take_succ_cons, List.take_zero, List.getElem?_cons_succ, List.getElem?_cons_zero] at h1
      exact h1
    have g2 : DataW.trod enc Tryd.prog W 0 (fun _ => true) held f 29 [v2] = some y2 := by
      simp only [eu, List.drop_succ_cons, List.drop_zero, List.take_succ_cons, List.take_zero, List.getElem?_cons_succ, List.getElem?_cons_zero] at h2
      exact h2
    have g3 : DataW.trod enc Tryd.prog W 0 (fun _ => true) held f 3 [v3] = some y3 := by
      simp only [ei, List.drop_succ_cons, List.drop_zero, List.take_succ_cons, List.take_zero, List.getElem?_cons_succ, List.getElem?_cons_zero] at h3
      exact h3
    have g4 : DataW.trod enc Tryd.prog W 0 (fun _ => true) held f 3 [v4] = some y4 := by
      simp only [ei, List.drop_succ_cons, List.drop_zero, List.take_succ_cons, List.take_zero, List.getElem?_cons_succ, List.getElem?_cons_zero] at h4
      exact h4
    have g5 : DataW.trod enc Tryd.prog W 0 (fun _ => true) held f 30 [v5] = some y5 := by
      simp only [ea, List.drop_succ_cons, List.drop_zero, List.take_succ_cons, List.take_zero, List.getElem?_cons_succ, List.getElem?_cons_zero] at h5
      exact h5
    have g6 : DataW.trod enc Tryd.prog W 0 (fun _ => true) held f 31 [v6] = some y6 := by
      simp only [eg, List.drop_succ_cons, List.drop_zero, List.take_succ_cons, List.take_zero, List.getElem?_cons_succ, List.getElem?_cons_zero] at h6
      exact h6
    obtain ⟨n0, hv0, _, hw0⟩ := DataW.trod_int Tryd.underlying3 g0
    obtain ⟨n1, hv1, _, hw1⟩ := DataW.trod_int Tryd.underlying3 g1
    obtain ⟨n2, hv2, _, hw2⟩ := DataW.trod_int Tryd.underlying29 g2
    obtain ⟨n3, hv3, _, hw3⟩ := DataW.trod_int Tryd.underlying3 g3
    obtain ⟨n4, hv4, _, hw4⟩ := DataW.trod_int Tryd.underlying3 g4
    obtain ⟨sa, sn, sc, xs, hv5, hs⟩ := open_isl (k := .i64) Tryd.underlying30 Tryd.underlying3 (by kernel_rfl) g5
    obtain ⟨ga, gn, gc, ys, hv6, hr⟩ := open_replies g6 (fun n hn => hw n (by simp only [List.map_cons, List.map_nil, DataW.weights, hu, List.map, DataW.weightsEach, List.append_nil, List.mem_append]; exact .inr (.inr (.inr (.inr (.inr (.inr hn)))))))
    simp only [List.cons.injEq, and_true] at hv0 hv1 hv2 hv3 hv4 hv5 hv6
    subst hv0 hv1 hv2 hv3 hv4 hv5 hv6
    exact ⟨⟨n0, n1, n2, n3, n4, xs, ys⟩, sa, sn, sc, ga, gn, gc, rfl, ⟨hw0, hw1, wf_u64 hw2, hw3, hw4⟩, hs, hr⟩

/-- Packets that came in. -/
theorem open_packets {r : Reach} {b0 : Nat} {v : Value} {d : DataW H} {ps : List MemPlace} (hval : Value.okWide Tryd.prog W r b0 68 v) (hd : DataW.Trod enc Tryd.prog W 0 (fun _ => true) held 68 v d ps) (hw : ∀ n ∈ d.weights Tryd.prog 68, n ≤ reachBytes) :
    ∃ a n c xss, v = .slice a n c ∧ Sll .u8 W a n c xss := by
  obtain ⟨a0, n0, c0, rfl⟩ := okWide_slice Tryd.underlying68 hval
  obtain ⟨fuel, hf⟩ := hd
  rcases open_slice Tryd.underlying68 hf with ⟨hcs, _⟩ | ⟨a, len, cap, m, f, D, Pl, hcs, _, hl, hm, hmm, _, hx⟩
  · simp [Value.cells] at hcs
    obtain ⟨rfl, rfl, rfl⟩ := hcs
    exact ⟨none, 0, 0, [], rfl, ⟨rfl, Nat.le_refl _, Nat.zero_le _, fun i hi => absurd hi (by omega)⟩⟩
  simp [Value.cells] at hcs
  obtain ⟨rfl, rfl, rfl⟩ := hcs
  have hlm : n0 ≤ m := by rw [hmm]; split <;> omega
  have each : ∀ i, i < n0 → ∃ q : List Int, ∃ b off a' n' c', a = ⟨b, off, none⟩ ∧ W.cell? ⟨b, off + i, none⟩ = some (.slice a' n' c') ∧ Sl .u8 W a' n' c' q := by
    intro i hi
    obtain ⟨cs', h1, h2⟩ := hx i (by omega)
    rw [show Program.cellsOf Tryd.prog 40 = 1 by kernel_rfl] at h1
    obtain ⟨cs0, g1, _⟩ := hx 0 (by omega)
    rw [Nat.zero_mul, show a.add 0 = a by simp [Addr.add], show Program.cellsOf Tryd.prog 40 = 1 by kernel_rfl] at g1
    obtain ⟨b, o, rfl⟩ := cells_addr g1 (by omega)
    have hat := cells_at h1
    obtain ⟨a', n', c', xs, rfl, hr⟩ := open_isl (k := .u8) Tryd.underlying40 Tryd.underlying5 (by kernel_rfl) h2
    refine ⟨xs, b, o, a', n', c', rfl, ?_, hr⟩
    have := hat 0 (by omega)
    simpa using this
  obtain ⟨X, hX⟩ := choose_lt each
  refine ⟨some a, n0, c0, (List.range n0).map X, rfl, by simp, hl, hm, fun i hi => ?_⟩
  obtain ⟨b, off, a', n', c', rfl, hc, hr⟩ := hX i hi
  refine ⟨b, off, a', n', c', rfl, hc, ?_⟩
  rw [show nthL ((List.range n0).map X) i = X i by simp [nthL, List.getD_eq_getElem?_getD, hi]]
  exact hr
end
end Go.Proofs.YtdmfdimhjemngaaDoor
