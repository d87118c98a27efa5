/-
  Boxes, and slices of packets, that came in, opened. Written by wip/gen_iop.py.
-/
import Derived.Test.YtdmfdimhjemngaaGreatDoorCOp
import Derived.Test.YtdmfdimhjemngaaGreatDoorIB
namespace Go.Proofs.YtdmfdimhjemngaaGreatDoor
open Go.RowKit Go.ChangeShapes Go.WideShapes Go.Deep
set_option linter.unusedSimpArgs false
set_option linter.unusedVariables false
set_option maxRecDepth 100000

section
variable {H : Type} {enc : TypeId × Value → H} {W : World} {held : Bool}

theorem open_isl {k : IntKind} {t e : TypeId} {fuel : Nat} {cs : List Value} {x : DataW H × List MemPlace} (ht : Tryz.prog.underlying t = some (.slice e)) (he : Tryz.prog.underlying e = some (.int k)) (hc : Tryz.prog.cellsOf e = 1)
    (h : DataW.trod enc Tryz.prog W 0 (fun _ => true) held fuel t cs = some x) : ∃ a n c xs, cs = [.slice a n c] ∧ Sl k W a n c xs := by
  rcases open_ints ht he hc h with ⟨rfl, _⟩ | ⟨x, l, c, zs, rfl, _, hl, hm, hz, _, hcell, hwz⟩
  · exact ⟨none, 0, 0, [], rfl, Sl.none_nil _ _⟩
  · exact ⟨some x, l, c, zs.take l, rfl, Sl.ofRow (.inr ⟨x, rfl, hl, hm, by simpa using hz, hcell, hwz⟩)⟩

/-- A box that came in. -/
theorem open_box {r : Reach} {b0 : Nat} {v : Value} {d : DataW H} {ps : List MemPlace} (hval : Value.okWide Tryz.prog W r b0 29 v) (hd : DataW.Trod enc Tryz.prog W 0 (fun _ => true) held 29 v d ps) (hw : ∀ n ∈ d.weights Tryz.prog 29, n ≤ reachBytes) :
    ∃ (b : Bx) (sa : Option Addr) (sn sc : Nat) (ga : Option Addr) (gn gc : Nat), v = .agg #[.int .i64 b.host, .int .i64 b.round, .int .u64 b.head, .int .i64 b.sent, .int .i64 b.wait, .slice sa sn sc, .slice ga gn gc] ∧ BxF W b sa sn sc ga gn gc := by
  have hu := Tryz.underlying29
  obtain ⟨cs, rfl, _⟩ := okWide_struct hu hval
  obtain ⟨fuel, hf⟩ := hd
  obtain ⟨ys, f, rfl, hx, hcl, hyl, hfs⟩ := DataW.trod_struct hu hf
  simp only [Prod.mk.injEq] at hx
  obtain ⟨rfl, rfl⟩ := hx
  have h0 := hfs 0 _ rfl
  have h1 := hfs 1 _ rfl
  have h2 := hfs 2 _ rfl
  have h3 := hfs 3 _ rfl
  have h4 := hfs 4 _ rfl
  have h5 := hfs 5 _ rfl
  have h6 := hfs 6 _ rfl
  have hl7 : cs.toList.length = 7 := hcl.trans (by kernel_rfl)
  have hy7 : ys.length = 7 := hyl
  replace h0 : DataW.trod enc Tryz.prog W 0 (fun _ => true) held f _ ((cs.toList.drop 0).take _) = ys[0]? := h0
  replace h1 : DataW.trod enc Tryz.prog W 0 (fun _ => true) held f _ ((cs.toList.drop 1).take _) = ys[1]? := h1
  replace h2 : DataW.trod enc Tryz.prog W 0 (fun _ => true) held f _ ((cs.toList.drop 2).take _) = ys[2]? := h2
  replace h3 : DataW.trod enc Tryz.prog W 0 (fun _ => true) held f _ ((cs.toList.drop 3).take _) = ys[3]? := h3
  replace h4 : DataW.trod enc Tryz.prog W 0 (fun _ => true) held f _ ((cs.toList.drop 4).take _) = ys[4]? := h4
  replace h5 : DataW.trod enc Tryz.prog W 0 (fun _ => true) held f _ ((cs.toList.drop 5).take _) = ys[5]? := h5
  replace h6 : DataW.trod enc Tryz.prog W 0 (fun _ => true) held f _ ((cs.toList.drop 6).take _) = ys[6]? := h6
  obtain ⟨l⟩ := cs
  match l, hl7, ys, hy7 with
  | [v0, v1, v2, v3, v4, v5, v6], _, [y0, y1, y2, y3, y4, y5, y6], _ =>
    have ei : Program.cellsOf Tryz.prog 3 = 1 := by kernel_rfl
    have eu : Program.cellsOf Tryz.prog 26 = 1 := by kernel_rfl
    have ea : Program.cellsOf Tryz.prog 25 = 1 := by kernel_rfl
    have eg : Program.cellsOf Tryz.prog 27 = 1 := by kernel_rfl
    have g0 : DataW.trod enc Tryz.prog W 0 (fun _ => true) held f 3 [v0] = some y0 := by
      simp only [ei, List.drop_succ_cons, List.drop_zero, List.take_succ_cons, List.take_zero, List.getElem?_cons_succ, List.getElem?_cons_zero] at h0
      exact h0
    have g1 : DataW.trod enc Tryz.prog W 0 (fun _ => true) held f 3 [v1] = some y1 := by
      simp only [ei, List.drop_succ_cons, List.drop_zero, List.take_succ_cons, List.take_zero, List.getElem?_cons_succ, List.getElem?_cons_zero] at h1
      exact h1
    have g2 : DataW.trod enc Tryz.prog W 0 (fun _ => true) held f 26 [v2] = some y2 := by
      simp only [eu, List.drop_succ_cons, List.drop_zero, List.take_succ_cons, List.take_zero, List.getElem?_cons_succ, List.getElem?_cons_zero] at h2
      exact h2
    have g3 : DataW.trod enc Tryz.prog W 0 (fun _ => true) held f 3 [v3] = some y3 := by
      simp only [ei, List.drop_succ_cons, List.drop_zero, List.take_succ_cons, List.take_zero, List.getElem?_cons_succ, List.getElem?_cons_zero] at h3
      exact h3
    have g4 : DataW.trod enc Tryz.prog W 0 (fun _ => true) held f 3 [v4] = some y4 := by
      simp only [ei, List.drop_succ_cons, List.drop_zero, List.take_succ_cons, List.take_zero, List.getElem?_cons_succ, List.getElem?_cons_zero] at h4
      exact h4
    have g5 : DataW.trod enc Tryz.prog W 0 (fun _ => true) held f 25 [v5] = some y5 := by
      simp only [ea, List.drop_succ_cons, List.drop_zero, List.take_succ_cons, List.take_zero, List.getElem?_cons_succ, List.getElem?_cons_zero] at h5
      exact h5
    have g6 : DataW.trod enc Tryz.prog W 0 (fun _ => true) held f 27 [v6] = some y6 := by
      simp only [eg, List.drop_succ_cons, List.drop_zero, List.take_succ_cons, List.take_zero, List.getElem?_cons_succ, List.getElem?_cons_zero] at h6
      exact h6
    obtain ⟨n0, hv0, _, hw0⟩ := DataW.trod_int Tryz.underlying3 g0
    obtain ⟨n1, hv1, _, hw1⟩ := DataW.trod_int Tryz.underlying3 g1
    obtain ⟨n2, hv2, _, hw2⟩ := DataW.trod_int Tryz.underlying26 g2
    obtain ⟨n3, hv3, _, hw3⟩ := DataW.trod_int Tryz.underlying3 g3
    obtain ⟨n4, hv4, _, hw4⟩ := DataW.trod_int Tryz.underlying3 g4
    obtain ⟨sa, sn, sc, xs, hv5, hs⟩ := open_isl (k := .i64) Tryz.underlying25 Tryz.underlying3 (by kernel_rfl) g5
    obtain ⟨ga, gn, gc, ys, hv6, hr⟩ := open_replies g6 (fun n hn => hw n (by simp only [List.map_cons, List.map_nil, DataW.weights, hu, List.map, DataW.weightsEach, List.append_nil, List.mem_append]; exact .inr (.inr (.inr (.inr (.inr (.inr hn)))))))
    simp only [List.cons.injEq, and_true] at hv0 hv1 hv2 hv3 hv4 hv5 hv6
    subst hv0 hv1 hv2 hv3 hv4 hv5 hv6
    exact ⟨⟨n0, n1, n2, n3, n4, xs, ys⟩, sa, sn, sc, ga, gn, gc, rfl, ⟨hw0, hw1, wf_u64 hw2, hw3, hw4⟩, hs, hr⟩

end
end Go.Proofs.YtdmfdimhjemngaaGreatDoor
