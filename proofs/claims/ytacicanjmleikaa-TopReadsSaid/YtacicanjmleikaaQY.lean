/-
  Read of package commit, walked. Written by wip/gen_qy.py.
-/
import Derived.Test.YtacicanjmleikaaQX
namespace Go.Proofs.Ytacicanjmleikaa
open Go.RowKit Go.Sort Go.Shelf
set_option linter.unusedSimpArgs false
set_option linter.unusedVariables false
set_option maxRecDepth 100000

theorem res_cread (W : World) (b : Nat) (v0 v1 v2 v3 y1 y2 : Value) (tmps : Array Value) (hb : tmps[8]?.getD undef = .pointer (some ⟨b, 0, none⟩)) (h9 : tmps[9]?.getD undef = y1) (h10 : tmps[10]?.getD undef = y2) (h : Bk W b 47 #[v0, v1, v2, v3]) :
    (results Try.f10 tmps).run Try.prog W = .ok (.tuple #[.agg #[v0, v1, v2, v3], y1, y2]) W := by
  have c0 := h.c 0 _ rfl
  have c1 := h.c 1 _ rfl
  have c2 := h.c 2 _ rfl
  have c3 := h.c 3 _ rfl
  simp [results, Try.results10, go_sem, hb, h9, h10, c0, c1, c2, c3]

def rdE (l : Ld) (ts lo : Int) : Bool := decide (pastN l.op (ts + 1) = 0) && !(decide (l.last < ts) && decide (lo ≤ ts))

set_option maxHeartbeats 4000000 in
theorem cread_any (r : LdR) (l : Ld) (key ts lo hi : Int) (w : World) (h : LdL w r l) (hv : ValL l) (g1 : ivB lo hi = true) (g2 : inT key 1 1000 = true) (g3 : inT ts 1 3000000000000000 = true) :
    Calls Try.prog 10 #[valL r, .int .i64 key, .int .i64 ts, .agg #[.int .i64 lo, .int .i64 hi]] w fun e w' =>
      (rdE l ts lo = true ∧ e = .returned (.tuple #[valV (ansV (lastV l.st key ts)), .bool (ansB (lastV l.st key ts)), .int .i64 0]) ∧ Ext w w') ∨ (rdE l ts lo = false ∧ e = .returned (.tuple #[valV v0, .bool false, .int .i64 61]) ∧ Ext w w') := by
  have HVA := Lib.hid (fun (V : World) (hx : Ext w V) => cvalid_any r l V (h.ext hx) hv)
  have hiv := fun (V : World) => ivalid_any lo hi V
  rw [g1] at hiv
  have hbk := fun (V : World) => cbetween_any key 1 1000 V
  rw [g2] at hbk
  have hbt := fun (V : World) => cbetween_any ts 1 3000000000000000 V
  rw [g3] at hbt
  have HTS := inT_iff.1 g3
  have HIV := Lib.hid hiv
  have HBK := Lib.hid hbk
  have HBT := Lib.hid hbt
  have HPA := Lib.hid (fun (V : World) (hx : Ext w V) => cpast_any r l (ts + 1) V (h.ext hx) hv.good)
  have HAT := Lib.hid (fun (V : World) (hx : Ext w V) => vat_any r.sa r.sn r.sc l.st key ts V (h.st.ext hx) (by rw [atB, hv.st, g2, g3]; rfl))
  have HRD : Hid (rdE l ts lo = (decide (pastN l.op (ts + 1) = 0) && !(decide (l.last < ts) && decide (lo ≤ ts)))) := Lib.hid rfl
  have HLA := Lib.hid h.last
  clear hiv hbk hbt g1 g2 g3 hv
  obtain ⟨Y, hY⟩ : ∃ Y, ansV (lastV l.st key ts) = Y := ⟨_, rfl⟩
  obtain ⟨B, hBB⟩ : ∃ B, ansB (lastV l.st key ts) = B := ⟨_, rfl⟩
  obtain ⟨N, hN⟩ : ∃ N, pastN l.op (ts + 1) = N := ⟨_, rfl⟩
  rw [hY, hBB] at HAT
  rw [hN] at HPA HRD
  obtain ⟨yk, yt, yv, yg⟩ := Y
  have HB := Lib.hid hY
  have HYB := Lib.hid hBB
  clear hY hBB hN
  obtain ⟨last, sa, sn, sc, oa, on, oc⟩ := r
  unfold valL at *
  unfold valV at HAT
  simp only at HAT HLA
  rw [← HLA.out] at HRD
  have b1 := h.st.bd
  have b2 := h.op.bd
  simp only at b1 b2
  clear h HLA
  have e9 : IntKind.i64.wrap (ts + 1) = ts + 1 := by rw [IntKind.wrap_i64]; omega
  have hB := ((Bk.new w 36 #[.int .i64 last, .slice sa sn sc, .slice oa on oc]).ext ((Ext.refl _).alloc (.cells #[.int .i64 lo, .int .i64 hi] 41))).ext ((Ext.refl _).alloc (.cells #[.int .i64 0, .int .i64 0, .int .i64 0, .bool false] 47))
  have hI := (Bk.new (w.alloc (.cells #[.int .i64 last, .slice sa sn sc, .slice oa on oc] 36)) 41 #[.int .i64 lo, .int .i64 hi]).ext ((Ext.refl _).alloc (.cells #[.int .i64 0, .int .i64 0, .int .i64 0, .bool false] 47))
  have hR := Bk.new ((w.alloc (.cells #[.int .i64 last, .slice sa sn sc, .slice oa on oc] 36)).alloc (.cells #[.int .i64 lo, .int .i64 hi] 41)) 47 #[.int .i64 0, .int .i64 0, .int .i64 0, .bool false]
  have hE : Ext w (((w.alloc (.cells #[.int .i64 last, .slice sa sn sc, .slice oa on oc] 36)).alloc (.cells #[.int .i64 lo, .int .i64 hi] 41)).alloc (.cells #[.int .i64 0, .int .i64 0, .int .i64 0, .bool false] 47)) := (((Ext.refl w).alloc _).alloc _).alloc _
  simp only [World.size_alloc] at hI hR
  go_enter Try.func10, Try.ntmps10
  go_upto_region 1 with fail
  generalize ((w.alloc (.cells #[.int .i64 last, .slice sa sn sc, .slice oa on oc] 36)).alloc (.cells #[.int .i64 lo, .int .i64 hi] 41)).alloc (.cells #[.int .i64 0, .int .i64 0, .int .i64 0, .bool false] 47) = V at *
  obtain ⟨tb, htb⟩ : ∃ tb, w.heap.size = tb := ⟨_, rfl⟩
  obtain ⟨ib, hib⟩ : ∃ ib, w.heap.size + 1 = ib := ⟨_, rfl⟩
  obtain ⟨rb, hrb⟩ : ∃ rb, w.heap.size + 1 + 1 = rb := ⟨_, rfl⟩
  have hwr : w.heap.size ≤ rb := by omega
  rw [hrb] at hR ⊢
  rw [hib] at hI ⊢
  rw [htb] at hB ⊢
  clear htb hib hrb
  have c0 := hB.c 0 _ rfl
  have c1 := hB.c 1 _ rfl
  have c2 := hB.c 2 _ rfl
  have i0 := hI.c 0 _ rfl
  have i1 := hI.c 1 _ rfl
  go_wp2_with (go_at_call 17; refine (HVA.out V hE).mono ?_; rintro e V1 ⟨rfl, hx⟩; refine hold ?_)
  refine held ?_
  replace hB := hB.ext hx
  replace hI := hI.ext hx
  replace hR := hR.ext hx
  replace hE := hE.trans hx
  clear hx c0 c1 c2 i0 i1
  have c0 := hB.c 0 _ rfl
  have c1 := hB.c 1 _ rfl
  have c2 := hB.c 2 _ rfl
  have i0 := hI.c 0 _ rfl
  have i1 := hI.c 1 _ rfl
  go_wp2_with (go_at_call 18; refine (HIV.out V1).mono ?_; rintro e V2 ⟨rfl, hx⟩; refine hold ?_)
  refine held ?_
  replace hB := hB.ext hx
  replace hI := hI.ext hx
  replace hR := hR.ext hx
  replace hE := hE.trans hx
  clear hx c0 c1 c2 i0 i1
  have c0 := hB.c 0 _ rfl
  have c1 := hB.c 1 _ rfl
  have c2 := hB.c 2 _ rfl
  have i0 := hI.c 0 _ rfl
  have i1 := hI.c 1 _ rfl
  go_wp2_with ((first | (go_at_call 24; with_reducible refine (HBK.out _).mono ?_; rintro _ _ ⟨rfl, rfl⟩) | (go_at_call 24; with_reducible refine (HBT.out _).mono ?_; rintro _ _ ⟨rfl, rfl⟩) | (go_at_call 19; refine (HPA.out _ hE).mono ?_; rintro e V3 ⟨rfl, hx⟩; refine hold ?_)))
  refine held ?_
  replace hB := hB.ext hx
  replace hI := hI.ext hx
  replace hR := hR.ext hx
  replace hE := hE.trans hx
  clear hx c0 c1 c2 i0 i1
  have c0 := hB.c 0 _ rfl
  have c1 := hB.c 1 _ rfl
  have c2 := hB.c 2 _ rfl
  have i0 := hI.c 0 _ rfl
  have i1 := hI.c 1 _ rfl
  rcases Nat.eq_zero_or_pos N with hN | hN
  · subst hN
    by_cases hl : last < ts
    · by_cases hlo : lo ≤ ts
      · have HNO : Hid (rdE l ts lo = false) := Lib.hid (by rw [HRD.out]; simp [hl, hlo])
        have z0 := hR.c 0 _ rfl
        have z1 := hR.c 1 _ rfl
        have z2 := hR.c 2 _ rfl
        have z3 := hR.c 3 _ rfl
        have hf := hR.free
        go_wp2_with fail
        refine bodyPost_ret (res_cread _ rb (.int .i64 0) (.int .i64 0) (.int .i64 0) (.bool false) (.bool false) (.int .i64 61) _ (by rfl) (by rfl) (by rfl) (hR.set4 _ _ _ _)) rfl ?_
        exact .inr ⟨HNO.out, rfl, hE.set4 hwr _ _ _ _⟩
      · have HYES : Hid (rdE l ts lo = true) := Lib.hid (by rw [HRD.out]; simp [hl, hlo])
        have hlo2 : decide (lo ≤ ts) = false := decide_eq_false hlo
        go_wp2_with (go_at_call 25; refine (HAT.out _ hE).mono ?_; rintro e V4 ⟨rfl, hx⟩; refine hold ?_)
        refine held ?_
        replace hB := hB.ext hx
        replace hI := hI.ext hx
        replace hR := hR.ext hx
        replace hE := hE.trans hx
        clear hx c0 c1 c2 i0 i1
        have c0 := hB.c 0 _ rfl
        have c1 := hB.c 1 _ rfl
        have c2 := hB.c 2 _ rfl
        have i0 := hI.c 0 _ rfl
        have i1 := hI.c 1 _ rfl
        have z0 := hR.c 0 _ rfl
        have z1 := hR.c 1 _ rfl
        have z2 := hR.c 2 _ rfl
        have z3 := hR.c 3 _ rfl
        have hf := hR.free
        go_wp2_with fail
        refine bodyPost_ret (res_cread _ rb (.int .i64 yk) (.int .i64 yt) (.int .i64 yv) (.bool yg) (.bool B) (.int .i64 0) _ (by rfl) (by rfl) (by rfl) (hR.set4 _ _ _ _)) rfl ?_
        exact .inl ⟨HYES.out, by rw [HB.out, HYB.out]; rfl, hE.set4 hwr _ _ _ _⟩
    · have HYES : Hid (rdE l ts lo = true) := Lib.hid (by rw [HRD.out]; simp [hl])
      have hl2 : decide (last < ts) = false := decide_eq_false hl
      go_wp2_with (go_at_call 25; refine (HAT.out _ hE).mono ?_; rintro e V4 ⟨rfl, hx⟩; refine hold ?_)
      refine held ?_
      replace hB := hB.ext hx
      replace hI := hI.ext hx
      replace hR := hR.ext hx
      replace hE := hE.trans hx
      clear hx c0 c1 c2 i0 i1
      have c0 := hB.c 0 _ rfl
      have c1 := hB.c 1 _ rfl
      have c2 := hB.c 2 _ rfl
      have i0 := hI.c 0 _ rfl
      have i1 := hI.c 1 _ rfl
      have z0 := hR.c 0 _ rfl
      have z1 := hR.c 1 _ rfl
      have z2 := hR.c 2 _ rfl
      have z3 := hR.c 3 _ rfl
      have hf := hR.free
      go_wp2_with fail
      refine bodyPost_ret (res_cread _ rb (.int .i64 yk) (.int .i64 yt) (.int .i64 yv) (.bool yg) (.bool B) (.int .i64 0) _ (by rfl) (by rfl) (by rfl) (hR.set4 _ _ _ _)) rfl ?_
      exact .inl ⟨HYES.out, by rw [HB.out, HYB.out]; rfl, hE.set4 hwr _ _ _ _⟩
  · have HNO : Hid (rdE l ts lo = false) := Lib.hid (by rw [HRD.out, decide_eq_false (show ¬ (N = 0) by omega)]; rfl)
    have hn1 : (0 : Int) < (N : Int) := by omega
    have hn2 : decide ((0 : Int) < (N : Int)) = true := decide_eq_true hn1
    have z0 := hR.c 0 _ rfl
    have z1 := hR.c 1 _ rfl
    have z2 := hR.c 2 _ rfl
    have z3 := hR.c 3 _ rfl
    have hf := hR.free
    go_wp2_with fail
    refine bodyPost_ret (res_cread _ rb (.int .i64 0) (.int .i64 0) (.int .i64 0) (.bool false) (.bool false) (.int .i64 61) _ (by rfl) (by rfl) (by rfl) (hR.set4 _ _ _ _)) rfl ?_
    exact .inr ⟨HNO.out, rfl, hE.set4 hwr _ _ _ _⟩
end Go.Proofs.Ytacicanjmleikaa
