/-
  The law CivilWalls: the plain part.
-/
import Derived.Test.YtchbeheekahhiaaDoorVV
namespace Go.Proofs.YtchbeheekahhiaaDoor
open Go.RowKit Go.Sort Go.Shelf
set_option linter.unusedSimpArgs false
set_option linter.unusedVariables false
set_option maxRecDepth 100000

theorem shoF_of {l : List Lp} {t d M : Int} (h : toF l t = ((d, M), 0)) : shoF l t = ((d, min (M / 1000000) 86399, M % 1000000), 0) := by
  unfold shoF
  rw [h, if_pos rfl]
theorem shoF_yes {l : List Lp} {t d s m : Int} (h : shoF l t = ((d, s, m), 0)) : ∃ M, toF l t = ((d, M), 0) ∧ s = min (M / 1000000) 86399 ∧ m = M % 1000000 := by
  unfold shoF at h
  by_cases h0 : (toF l t).2 = 0
  · rw [if_pos h0] at h
    simp only [Prod.mk.injEq, and_true] at h
    obtain ⟨rfl, rfl, rfl⟩ := h
    exact ⟨(toF l t).1.2, Prod.ext (Prod.ext rfl rfl) h0, rfl, rfl⟩
  · rw [if_neg h0] at h
    simp only [Prod.mk.injEq] at h
    exact absurd h.2 h0
theorem toF_at {l : List Lp} {d M : Int} (hr : rightL l d = true) (h0 : 0 ≤ M) (h9 : M < lenL l d) : toF l (startL l d + M) = ((d, M), 0) := by
  obtain ⟨hv, r1, r2⟩ := rightL_iff.1 hr
  have hs := startL_succ l d
  have hb := startL_bd hv r1 (by omega)
  have hl := lenL_bd hv d
  have hd : IsDay l (startL l d + M) d := ⟨by omega, by omega⟩
  rw [toF_of (dayF_at hv hd r1 r2 (by omega)), show startL l d + M - startL l d = M by omega]
theorem sho_iff {l : List Lp} {d s m at' : Int} (hr : rightL l d = true) : shoF l at' = ((d, s, m), 0) ↔ ∃ M, at' = startL l d + M ∧ 0 ≤ M ∧ M < lenL l d ∧ s = min (M / 1000000) 86399 ∧ m = M % 1000000 := by
  constructor
  · intro h
    obtain ⟨M, hM, h1, h2⟩ := shoF_yes h
    obtain ⟨-, -, i1, rfl, -⟩ := toF_ok hM
    have hb := isDay_micro i1
    exact ⟨_, by omega, hb.1, hb.2, h1, h2⟩
  · rintro ⟨M, rfl, h0, h9, rfl, rfl⟩
    exact shoF_of (toF_at hr h0 h9)
theorem fnd_mem {S L s m t : Int} (hs : 0 ≤ s ∧ s ≤ 86399) (hm : 0 ≤ m ∧ m ≤ 999999) (hL : L = 86400000000 ∨ L = 86401000000 ∨ L = 86399000000) :
    t ∈ fndT S L s m ↔ ∃ M, t = S + M ∧ 0 ≤ M ∧ M < L ∧ s = min (M / 1000000) 86399 ∧ m = M % 1000000 := by
  unfold fndT
  constructor
  · intro h
    by_cases h1 : s * 1000000 + m < L
    · rw [if_pos h1] at h
      by_cases h2 : s = 86399 ∧ s * 1000000 + m + 1000000 < L
      · rw [if_pos h2] at h
        simp only [List.mem_cons, List.not_mem_nil, or_false] at h
        rcases h with rfl | rfl
        · exact ⟨_, rfl, by omega, h1, by omega, by omega⟩
        · exact ⟨_, rfl, by omega, h2.2, by omega, by omega⟩
      · rw [if_neg h2] at h
        simp only [List.mem_cons, List.not_mem_nil, or_false] at h
        subst h
        exact ⟨_, rfl, by omega, h1, by omega, by omega⟩
    · rw [if_neg h1] at h
      cases h
  · rintro ⟨M, rfl, h0, h9, h1, h2⟩
    rw [if_pos (by omega)]
    by_cases h3 : s = 86399 ∧ s * 1000000 + m + 1000000 < L
    · rw [if_pos h3]
      simp only [List.mem_cons, List.not_mem_nil, or_false]
      omega
    · rw [if_neg h3]
      simp only [List.mem_cons, List.not_mem_nil, or_false]
      omega
def wantT (s L : Int) : Int := if s = 86399 then (L - 86400000000).tdiv 1000000 + 1 else 1
theorem fnd_len {S L s m : Int} (hs : 0 ≤ s ∧ s ≤ 86399) (hm : 0 ≤ m ∧ m ≤ 999999) (hL : L = 86400000000 ∨ L = 86401000000 ∨ L = 86399000000) :
    ((fndT S L s m).length : Int) = wantT s L ∧ (fndT S L s m).length ≤ 2 ∧ (1 < (fndT S L s m).length → nth (fndT S L s m) 0 < nth (fndT S L s m) 1) := by
  unfold fndT wantT
  by_cases h1 : s * 1000000 + m < L
  · rw [if_pos h1]
    by_cases h2 : s = 86399 ∧ s * 1000000 + m + 1000000 < L
    · rw [if_pos h2, if_pos h2.1]
      refine ⟨?_, by simp, fun _ => by simp [nth]; omega⟩
      have : L = 86401000000 := by omega
      rw [this]; rfl
    · rw [if_neg h2]
      refine ⟨?_, by simp, fun h => by simp at h⟩
      by_cases h3 : s = 86399
      · have : L = 86400000000 := by omega
        rw [if_pos h3, this]; rfl
      · rw [if_neg h3]; rfl
  · rw [if_neg h1]
    refine ⟨?_, by simp, fun h => by simp at h⟩
    have : L = 86399000000 := by omega
    rw [if_pos (by omega), this]; rfl
-- WALK
set_option maxHeartbeats 8000000 in
theorem cwalls_law (a : Option Addr) (n c : Nat) (l : List Lp) (d s m t : Int) (w : World) (h1 : Rw w a n c l) (ht : TB w) (hl : TL w) :
    Calls Tryd.prog 6 #[.slice a n c, .agg #[.int .i64 d, .int .i64 s, .int .i64 m], .int .i64 t] w (Yes w) := by
  have HT := Lib.hid ht
  have HTL := Lib.hid hl
  clear ht hl
  have hB := Bk.new w 26 #[.int .i64 d, .int .i64 s, .int .i64 m]
  have hE : Ext w (w.alloc (.cells #[.int .i64 d, .int .i64 s, .int .i64 m] 26)) := (Ext.refl w).alloc _
  go_enter Tryd.func6, Tryd.ntmps6
  go_upto_region 1 with fail
  generalize w.alloc (.cells #[.int .i64 d, .int .i64 s, .int .i64 m] 26) = W at *
  generalize w.heap.size = b at hB ⊢
  have c0 := hB.c 0 _ rfl
  have c1 := hB.c 1 _ rfl
  have c2 := hB.c 2 _ rfl
  go_wp2_with fail
  refine (vhead_any W (TB.ext HT.out hE) (TL.ext HTL.out hE)).mono ?_
  rintro e w1 ⟨rfl, hx⟩
  replace hB := hB.ext hx
  replace hE := hE.trans hx
  clear hx c0 c1 c2
  have c0 := hB.c 0 _ rfl
  have c1 := hB.c 1 _ rfl
  have c2 := hB.c 2 _ rfl
  go_wp2_with fail
  refine (lusable_any a n c l w1 (h1.ext hE)).mono ?_
  rintro e w2 ⟨rfl, hx⟩
  replace hB := hB.ext hx
  replace hE := hE.trans hx
  clear hx c0 c1 c2
  have c0 := hB.c 0 _ rfl
  have c1 := hB.c 1 _ rfl
  have c2 := hB.c 2 _ rfl
  rcases hv : validL l with _ | _
  · clear hv
    go_wp2_with fail
    go_ret
    exact ⟨rfl, hE⟩
  have HV := Lib.hid hv
  clear hv
  go_wp2_with fail
  refine (rwall_any d s m w2).mono ?_
  rintro e w3 ⟨rfl, hx⟩
  replace hB := hB.ext hx
  replace hE := hE.trans hx
  clear hx c0 c1 c2
  have c0 := hB.c 0 _ rfl
  have c1 := hB.c 1 _ rfl
  have c2 := hB.c 2 _ rfl
  rcases hw : walB d s m with _ | _
  · clear hw
    go_wp2_with fail
    go_ret
    exact ⟨rfl, hE⟩
  obtain ⟨hd, hs, hm, i2, i3⟩ : (0 ≤ d ∧ d ≤ 34000) ∧ (0 ≤ s ∧ s ≤ 86399) ∧ (0 ≤ m ∧ m ≤ 999999) ∧ inW s 0 86399 = true ∧ inW m 0 999999 = true := by
    unfold walB at hw
    rw [Bool.and_eq_true, Bool.and_eq_true] at hw
    exact ⟨inW_iff.1 hw.1, inW_iff.1 hw.2.1, inW_iff.1 hw.2.2, hw.2.1, hw.2.2⟩
  have hr : rightL l d = true := rightL_iff.2 ⟨HV.out, hd.1, hd.2⟩
  have HR := Lib.hid hr
  have HF : Hid (fdF l d s m = (fndT (startL l d) (lenL l d) s m, 0)) := Lib.hid (by unfold fdF; rw [if_pos ⟨hr, i2, i3⟩])
  have hL := lenL_bd HV.out d
  have HLn := Lib.hid (fnd_len (S := startL l d) hs hm hL)
  have HI : Hid (∀ t', shoF l t' = ((d, s, m), 0) ↔ t' ∈ fndT (startL l d) (lenL l d) s m) := Lib.hid (fun t' => (sho_iff hr).trans (fnd_mem hs hm hL).symm)
  have FL : Hid (lengthF l d = (lenL l d, 0)) := Lib.hid (by unfold lengthF; rw [if_pos hr])
  have hsb := startL_bd HV.out hd.1 (show d ≤ 34001 by omega)
  have HW : Hid (∀ x ∈ fndT (startL l d) (lenL l d) s m, (Lit.int .i64 x).wf = true) := Lib.hid (fun x hx => by
    obtain ⟨M, rfl, q0, q1, -, -⟩ := (fnd_mem (S := startL l d) hs hm hL).1 hx
    have : 0 ≤ startL l d + M ∧ startL l d + M ≤ 3000000000000000 := by omega
    generalize startL l d + M = z at *
    simp [Lit.wf, IntKind.min, IntKind.max, IntKind.bits, IntKind.signed]; omega)
  clear hw i2 i3 hr hsb
  go_wp2_with fail
  refine (cfnd_any a n c l d s m w3 (h1.ext hE)).mono ?_
  rintro e w4 ⟨a', n', c', rfl, hO, hx⟩
  rw [HF.out]
  rw [HF.out] at hO
  replace hB := hB.ext hx
  replace hE := hE.trans hx
  clear hx c0 c1 c2
  have c0 := hB.c 0 _ rfl
  have c1 := hB.c 1 _ rfl
  have c2 := hB.c 2 _ rfl
  go_wp2_with fail
  refine (lLength_any a n c l d w4 (h1.ext hE)).mono ?_
  rintro e w5 ⟨rfl, hx⟩
  rw [FL.out]
  replace hO := hO.kept hx
  replace hB := hB.ext hx
  replace hE := hE.trans hx
  clear hx c0 c1 c2
  have c0 := hB.c 0 _ rfl
  have c1 := hB.c 1 _ rfl
  have c2 := hB.c 2 _ rfl
  clear HF FL
  generalize fndT (startL l d) (lenL l d) s m = T at *
  generalize lenL l d = L at *
  have hln := hO.hlen
  obtain ⟨g1, g2, g3⟩ := HLn.out
  rw [hln] at g1 g2 g3
  have G1 := Lib.hid g1
  have G3 := Lib.hid g3
  have HLN := Lib.hid hln
  clear HLn g1 g3 hln
  have hSl : Sl .i64 w5 a' n' c' T := hO.sl HW.out
  clear hO HW
  have hw0 : s = 86399 → wrap64 ((L - 86400000000).tdiv 1000000 + 1) = (n' : Int) := fun hs9 => by
    have h := G1.out
    unfold wantT at h
    rw [if_pos hs9] at h
    rw [h]
    rcases hL with rfl | rfl | rfl <;> first | decide | (unfold wrap64; decide) | simp [wrap64]
  have hw1 : s ≠ 86399 → (1 : Int) = (n' : Int) := fun hs9 => by
    have h := G1.out
    unfold wantT at h
    rw [if_neg hs9] at h
    exact h.symm
  have HW0 := Lib.hid hw0
  have HW1 := Lib.hid hw1
  have HI0 : Hid (∀ j, j < n' → shoF l (nth T j) = ((d, s, m), 0)) := Lib.hid (fun j hj => (HI.out _).2 (nth_mem (by rw [HLN.out]; exact hj)))
  have HI1 : Hid (shoF l t = ((d, s, m), 0) → ∃ j, j < n' ∧ nth T j = t) := Lib.hid (fun h => by
    obtain ⟨j, hj, e⟩ := List.getElem_of_mem ((HI.out _).1 h)
    refine ⟨j, by rw [← HLN.out]; exact hj, ?_⟩
    unfold nth
    rw [List.getD_eq_getElem?_getD, List.getElem?_eq_getElem hj]
    exact e)
  have hLb : 86399000000 ≤ L ∧ L ≤ 86401000000 := by omega
  clear hw0 hw1 HI G1 hL hd hs hm
  have bd := hSl.bd
  by_cases hs9 : s = 86399
  · go_upto_region 11 with fail
    rw [HW0.out hs9]
    clear HW0 HW1 hs9
    go_upto_region 12 with fail
    go_wp2_with fail
    go_loopw [13, 58] (fun fo i wr => ∃ (k : Nat) (F : Bool), k ≤ n' ∧ fo = .bool F ∧ i = .int .i64 (k : Int) ∧ Hid (F = true ↔ ∃ j, j < k ∧ nth T j = t) ∧ Ext w5 wr) (fun _ i _ => n' - (intOf i).toNat)
    case atStart => exact ⟨0, false, by omega, rfl, rfl, Lib.hid (Iff.intro (fun h => by cases h) (fun ⟨j, hj, _⟩ => by omega)), Ext.refl _⟩
    case round =>
      obtain ⟨k, F, hk, rfl, rfl, HK, hx⟩ := hrel
      by_cases hlt : k < n'
      · obtain ⟨x1, o1, rfl, hc1⟩ := hSl.at (by omega)
        by_cases hk0 : k = 0
        · subst hk0
          have hy := hx
          have p1 := hy.cell (hc1 0 hlt)
          rw [Nat.add_zero] at p1
          have HS := Lib.hid (HI0.out 0 hlt)
          have HX : Hid (nth T 0 = nth T 0) := Lib.hid rfl
          generalize hX : nth T 0 = X at p1 HS
          have HXE := Lib.hid hX
          clear hX HX
          go_wp2_with fail
          refine (cshow_any a n c l X wr (h1.ext (hE.trans hx))).mono ?_
          rintro e w7 ⟨rfl, hx7⟩
          rw [HS.out]
          clear HS
          have b7 := Bk.new w7 26 #[.int .i64 d, .int .i64 s, .int .i64 m]
          replace hy := hy.trans (hx7.alloc (.cells #[.int .i64 d, .int .i64 s, .int .i64 m] 26))
          clear p1
          go_upto_region 16 with fail
          generalize w7.alloc (.cells #[.int .i64 d, .int .i64 s, .int .i64 m] 26) = V7 at *
          generalize w7.heap.size = p7 at *
          have hB7 := hB.ext hy
          have c0 := hB7.c 0 _ rfl
          have c1 := hB7.c 1 _ rfl
          have c2 := hB7.c 2 _ rfl
          have e0 := b7.c 0 _ rfl
          have e1 := b7.c 1 _ rfl
          have e2 := b7.c 2 _ rfl
          have eq7 : ∀ W, (Op.equalIn 10000 26 (.agg #[.int .i64 d, .int .i64 s, .int .i64 m]) (.agg #[.int .i64 d, .int .i64 s, .int .i64 m])).run Tryd.prog W = .ok true W := fun W => by
            rw [eqWal]; simp
          rcases F with _ | _
          · by_cases ht : X = t
            · have HK2 : Hid (true = true ↔ ∃ j, j < 1 ∧ nth T j = t) := Lib.hid (Iff.intro (fun _ => ⟨0, by omega, by rw [HXE.out]; exact ht⟩) (fun _ => rfl))
              clear HXE HK
              subst ht
              go_wp2_with fail
              exact ⟨⟨1, true, by omega, rfl, by go_num, HK2, hy⟩, by simp [intOf]; omega⟩
            · have HK2 : Hid (false = true ↔ ∃ j, j < 1 ∧ nth T j = t) := Lib.hid (Iff.intro (fun h => by cases h) (fun ⟨j, hj, e⟩ => by
                by_cases hjk : j = 0
                · subst hjk; rw [HXE.out] at e; exact absurd e ht
                · exact HK.out.2 ⟨j, by omega, e⟩))
              clear HXE HK
              have ht2 := decide_eq_false ht
              go_wp2_with fail
              exact ⟨⟨1, false, by omega, by rw [beq_eq_false_iff_ne.2 ht], by go_num, HK2, hy⟩, by simp [intOf]; omega⟩
          · have HK2 : Hid (true = true ↔ ∃ j, j < 1 ∧ nth T j = t) := Lib.hid (Iff.intro (fun _ => by
              obtain ⟨j, hj, e⟩ := HK.out.1 rfl
              exact ⟨j, by omega, e⟩) (fun _ => rfl))
            clear HXE HK
            go_wp2_with fail
            exact ⟨⟨1, true, by omega, rfl, by go_num, HK2, hy⟩, by simp [intOf]; omega⟩
        · obtain rfl : k = 1 := by omega
          have hy := hx
          have p1 := hy.cell (hc1 1 hlt)
          have HS := Lib.hid (HI0.out 1 hlt)
          have HX : Hid (nth T 1 = nth T 1) := Lib.hid rfl
          generalize hX : nth T 1 = X at p1 HS
          have HXE := Lib.hid hX
          clear hX HX
          go_wp2_with fail
          refine (cshow_any a n c l X wr (h1.ext (hE.trans hx))).mono ?_
          rintro e w7 ⟨rfl, hx7⟩
          rw [HS.out]
          clear HS
          have b7 := Bk.new w7 26 #[.int .i64 d, .int .i64 s, .int .i64 m]
          replace hy := hy.trans (hx7.alloc (.cells #[.int .i64 d, .int .i64 s, .int .i64 m] 26))
          clear p1
          go_upto_region 16 with fail
          generalize w7.alloc (.cells #[.int .i64 d, .int .i64 s, .int .i64 m] 26) = V7 at *
          generalize w7.heap.size = p7 at *
          have hB7 := hB.ext hy
          have c0 := hB7.c 0 _ rfl
          have c1 := hB7.c 1 _ rfl
          have c2 := hB7.c 2 _ rfl
          have e0 := b7.c 0 _ rfl
          have e1 := b7.c 1 _ rfl
          have e2 := b7.c 2 _ rfl
          have eq7 : ∀ W, (Op.equalIn 10000 26 (.agg #[.int .i64 d, .int .i64 s, .int .i64 m]) (.agg #[.int .i64 d, .int .i64 s, .int .i64 m])).run Tryd.prog W = .ok true W := fun W => by
            rw [eqWal]; simp
          have p0 := hy.cell (hc1 0 (by omega))
          have p00 := p0
          rw [Nat.add_zero] at p00
          have hlt01 : nth T 0 < nth T 1 := G3.out (by omega)
          rw [HXE.out] at hlt01
          generalize nth T 0 = X0 at p0 p00 hlt01
          have q1 : ¬ X ≤ X0 := by omega
          have q2 := decide_eq_false q1
          clear hlt01 q1
          rcases F with _ | _
          · by_cases ht : X = t
            · have HK2 : Hid (true = true ↔ ∃ j, j < 2 ∧ nth T j = t) := Lib.hid (Iff.intro (fun _ => ⟨1, by omega, by rw [HXE.out]; exact ht⟩) (fun _ => rfl))
              clear HXE HK
              subst ht
              go_wp2_with fail
              exact ⟨⟨2, true, by omega, rfl, by go_num, HK2, hy⟩, by simp [intOf]; omega⟩
            · have HK2 : Hid (false = true ↔ ∃ j, j < 2 ∧ nth T j = t) := Lib.hid (Iff.intro (fun h => by cases h) (fun ⟨j, hj, e⟩ => by
                by_cases hjk : j = 1
                · subst hjk; rw [HXE.out] at e; exact absurd e ht
                · exact HK.out.2 ⟨j, by omega, e⟩))
              clear HXE HK
              have ht2 := decide_eq_false ht
              go_wp2_with fail
              exact ⟨⟨2, false, by omega, by rw [beq_eq_false_iff_ne.2 ht], by go_num, HK2, hy⟩, by simp [intOf]; omega⟩
          · have HK2 : Hid (true = true ↔ ∃ j, j < 2 ∧ nth T j = t) := Lib.hid (Iff.intro (fun _ => by
              obtain ⟨j, hj, e⟩ := HK.out.1 rfl
              exact ⟨j, by omega, e⟩) (fun _ => rfl))
            clear HXE HK
            go_wp2_with fail
            exact ⟨⟨2, true, by omega, rfl, by go_num, HK2, hy⟩, by simp [intOf]; omega⟩
      · obtain rfl : k = n' := by omega
        have hF : Hid (shoF l t = ((d, s, m), 0) ↔ F = true) := Lib.hid (Iff.intro (fun h => HK.out.2 (HI1.out h)) (fun h => by
          obtain ⟨j, hj, e⟩ := HK.out.1 h
          rw [← e]
          exact HI0.out j hj))
        clear HK HI0 HI1 G3
        go_wp2_with fail
        refine (cshow_any a n c l t wr (h1.ext (hE.trans hx))).mono ?_
        rintro e w7 ⟨rfl, hx7⟩
        generalize shoF l t = S9 at *
        obtain ⟨⟨d9, s9, m9⟩, E9⟩ := S9
        have b7 := Bk.new w7 26 #[.int .i64 d9, .int .i64 s9, .int .i64 m9]
        replace hx := hx.trans (hx7.alloc (.cells #[.int .i64 d9, .int .i64 s9, .int .i64 m9] 26))
        go_upto_region 21 with fail
        generalize w7.alloc (.cells #[.int .i64 d9, .int .i64 s9, .int .i64 m9] 26) = V7 at *
        generalize w7.heap.size = p7 at *
        have hB7 := hB.ext hx
        have c0 := hB7.c 0 _ rfl
        have c1 := hB7.c 1 _ rfl
        have c2 := hB7.c 2 _ rfl
        have e0 := b7.c 0 _ rfl
        have e1 := b7.c 1 _ rfl
        have e2 := b7.c 2 _ rfl
        by_cases h9 : E9 = 0
        · by_cases h8 : d9 = d ∧ s9 = s ∧ m9 = m
          · obtain ⟨rfl, rfl, rfl⟩ := h8
            subst h9
            obtain rfl : F = true := hF.out.1 rfl
            have eq7 : ∀ W, (Op.equalIn 10000 26 (.agg #[.int .i64 d9, .int .i64 s9, .int .i64 m9]) (.agg #[.int .i64 d9, .int .i64 s9, .int .i64 m9])).run Tryd.prog W = .ok true W := fun W => by
              rw [eqWal]; simp
            clear hF
            go_wp2_with fail
            go_ret
            exact ⟨rfl, hE.trans hx⟩
          · subst h9
            obtain rfl : F = false := by
              cases F with
              | false => rfl
              | true =>
                have := hF.out.2 rfl
                simp only [Prod.mk.injEq, and_true] at this
                exact absurd this h8
            have eq7 : ∀ W, (Op.equalIn 10000 26 (.agg #[.int .i64 d9, .int .i64 s9, .int .i64 m9]) (.agg #[.int .i64 d, .int .i64 s, .int .i64 m])).run Tryd.prog W = .ok false W := fun W => by
              rw [eqWal, decide_eq_false h8]
            clear hF h8
            go_wp2_with fail
            go_ret
            exact ⟨rfl, hE.trans hx⟩
        · obtain rfl : F = false := by
            cases F with
            | false => rfl
            | true =>
              have := hF.out.2 rfl
              simp only [Prod.mk.injEq] at this
              exact absurd this.2 h9
          have h92 := decide_eq_false h9
          clear hF
          go_wp2_with fail
          go_ret
          exact ⟨rfl, hE.trans hx⟩
  · have q9 : (s == 86399) = false := beq_eq_false_iff_ne.2 hs9
    go_upto_region 11 with fail
    rw [HW1.out hs9]
    clear HW0 HW1 hs9 q9
    go_upto_region 12 with fail
    go_wp2_with fail
    go_loopw [13, 58] (fun fo i wr => ∃ (k : Nat) (F : Bool), k ≤ n' ∧ fo = .bool F ∧ i = .int .i64 (k : Int) ∧ Hid (F = true ↔ ∃ j, j < k ∧ nth T j = t) ∧ Ext w5 wr) (fun _ i _ => n' - (intOf i).toNat)
    case atStart => exact ⟨0, false, by omega, rfl, rfl, Lib.hid (Iff.intro (fun h => by cases h) (fun ⟨j, hj, _⟩ => by omega)), Ext.refl _⟩
    case round =>
      obtain ⟨k, F, hk, rfl, rfl, HK, hx⟩ := hrel
      by_cases hlt : k < n'
      · obtain ⟨x1, o1, rfl, hc1⟩ := hSl.at (by omega)
        by_cases hk0 : k = 0
        · subst hk0
          have hy := hx
          have p1 := hy.cell (hc1 0 hlt)
          rw [Nat.add_zero] at p1
          have HS := Lib.hid (HI0.out 0 hlt)
          have HX : Hid (nth T 0 = nth T 0) := Lib.hid rfl
          generalize hX : nth T 0 = X at p1 HS
          have HXE := Lib.hid hX
          clear hX HX
          go_wp2_with fail
          refine (cshow_any a n c l X wr (h1.ext (hE.trans hx))).mono ?_
          rintro e w7 ⟨rfl, hx7⟩
          rw [HS.out]
          clear HS
          have b7 := Bk.new w7 26 #[.int .i64 d, .int .i64 s, .int .i64 m]
          replace hy := hy.trans (hx7.alloc (.cells #[.int .i64 d, .int .i64 s, .int .i64 m] 26))
          clear p1
          go_upto_region 16 with fail
          generalize w7.alloc (.cells #[.int .i64 d, .int .i64 s, .int .i64 m] 26) = V7 at *
          generalize w7.heap.size = p7 at *
          have hB7 := hB.ext hy
          have c0 := hB7.c 0 _ rfl
          have c1 := hB7.c 1 _ rfl
          have c2 := hB7.c 2 _ rfl
          have e0 := b7.c 0 _ rfl
          have e1 := b7.c 1 _ rfl
          have e2 := b7.c 2 _ rfl
          have eq7 : ∀ W, (Op.equalIn 10000 26 (.agg #[.int .i64 d, .int .i64 s, .int .i64 m]) (.agg #[.int .i64 d, .int .i64 s, .int .i64 m])).run Tryd.prog W = .ok true W := fun W => by
            rw [eqWal]; simp
          rcases F with _ | _
          · by_cases ht : X = t
            · have HK2 : Hid (true = true ↔ ∃ j, j < 1 ∧ nth T j = t) := Lib.hid (Iff.intro (fun _ => ⟨0, by omega, by rw [HXE.out]; exact ht⟩) (fun _ => rfl))
              clear HXE HK
              subst ht
              go_wp2_with fail
              exact ⟨⟨1, true, by omega, rfl, by go_num, HK2, hy⟩, by simp [intOf]; omega⟩
            · have HK2 : Hid (false = true ↔ ∃ j, j < 1 ∧ nth T j = t) := Lib.hid (Iff.intro (fun h => by cases h) (fun ⟨j, hj, e⟩ => by
                by_cases hjk : j = 0
                · subst hjk; rw [HXE.out] at e; exact absurd e ht
                · exact HK.out.2 ⟨j, by omega, e⟩))
              clear HXE HK
              have ht2 := decide_eq_false ht
              go_wp2_with fail
              exact ⟨⟨1, false, by omega, by rw [beq_eq_false_iff_ne.2 ht], by go_num, HK2, hy⟩, by simp [intOf]; omega⟩
          · have HK2 : Hid (true = true ↔ ∃ j, j < 1 ∧ nth T j = t) := Lib.hid (Iff.intro (fun _ => by
              obtain ⟨j, hj, e⟩ := HK.out.1 rfl
              exact ⟨j, by omega, e⟩) (fun _ => rfl))
            clear HXE HK
            go_wp2_with fail
            exact ⟨⟨1, true, by omega, rfl, by go_num, HK2, hy⟩, by simp [intOf]; omega⟩
        · obtain rfl : k = 1 := by omega
          have hy := hx
          have p1 := hy.cell (hc1 1 hlt)
          have HS := Lib.hid (HI0.out 1 hlt)
          have HX : Hid (nth T 1 = nth T 1) := Lib.hid rfl
          generalize hX : nth T 1 = X at p1 HS
          have HXE := Lib.hid hX
          clear hX HX
          go_wp2_with fail
          refine (cshow_any a n c l X wr (h1.ext (hE.trans hx))).mono ?_
          rintro e w7 ⟨rfl, hx7⟩
          rw [HS.out]
          clear HS
          have b7 := Bk.new w7 26 #[.int .i64 d, .int .i64 s, .int .i64 m]
          replace hy := hy.trans (hx7.alloc (.cells #[.int .i64 d, .int .i64 s, .int .i64 m] 26))
          clear p1
          go_upto_region 16 with fail
          generalize w7.alloc (.cells #[.int .i64 d, .int .i64 s, .int .i64 m] 26) = V7 at *
          generalize w7.heap.size = p7 at *
          have hB7 := hB.ext hy
          have c0 := hB7.c 0 _ rfl
          have c1 := hB7.c 1 _ rfl
          have c2 := hB7.c 2 _ rfl
          have e0 := b7.c 0 _ rfl
          have e1 := b7.c 1 _ rfl
          have e2 := b7.c 2 _ rfl
          have eq7 : ∀ W, (Op.equalIn 10000 26 (.agg #[.int .i64 d, .int .i64 s, .int .i64 m]) (.agg #[.int .i64 d, .int .i64 s, .int .i64 m])).run Tryd.prog W = .ok true W := fun W => by
            rw [eqWal]; simp
          have p0 := hy.cell (hc1 0 (by omega))
          have p00 := p0
          rw [Nat.add_zero] at p00
          have hlt01 : nth T 0 < nth T 1 := G3.out (by omega)
          rw [HXE.out] at hlt01
          generalize nth T 0 = X0 at p0 p00 hlt01
          have q1 : ¬ X ≤ X0 := by omega
          have q2 := decide_eq_false q1
          clear hlt01 q1
          rcases F with _ | _
          · by_cases ht : X = t
            · have HK2 : Hid (true = true ↔ ∃ j, j < 2 ∧ nth T j = t) := Lib.hid (Iff.intro (fun _ => ⟨1, by omega, by rw [HXE.out]; exact ht⟩) (fun _ => rfl))
              clear HXE HK
              subst ht
              go_wp2_with fail
              exact ⟨⟨2, true, by omega, rfl, by go_num, HK2, hy⟩, by simp [intOf]; omega⟩
            · have HK2 : Hid (false = true ↔ ∃ j, j < 2 ∧ nth T j = t) := Lib.hid (Iff.intro (fun h => by cases h) (fun ⟨j, hj, e⟩ => by
                by_cases hjk : j = 1
                · subst hjk; rw [HXE.out] at e; exact absurd e ht
                · exact HK.out.2 ⟨j, by omega, e⟩))
              clear HXE HK
              have ht2 := decide_eq_false ht
              go_wp2_with fail
              exact ⟨⟨2, false, by omega, by rw [beq_eq_false_iff_ne.2 ht], by go_num, HK2, hy⟩, by simp [intOf]; omega⟩
          · have HK2 : Hid (true = true ↔ ∃ j, j < 2 ∧ nth T j = t) := Lib.hid (Iff.intro (fun _ => by
              obtain ⟨j, hj, e⟩ := HK.out.1 rfl
              exact ⟨j, by omega, e⟩) (fun _ => rfl))
            clear HXE HK
            go_wp2_with fail
            exact ⟨⟨2, true, by omega, rfl, by go_num, HK2, hy⟩, by simp [intOf]; omega⟩
      · obtain rfl : k = n' := by omega
        have hF : Hid (shoF l t = ((d, s, m), 0) ↔ F = true) := Lib.hid (Iff.intro (fun h => HK.out.2 (HI1.out h)) (fun h => by
          obtain ⟨j, hj, e⟩ := HK.out.1 h
          rw [← e]
          exact HI0.out j hj))
        clear HK HI0 HI1 G3
        go_wp2_with fail
        refine (cshow_any a n c l t wr (h1.ext (hE.trans hx))).mono ?_
        rintro e w7 ⟨rfl, hx7⟩
        generalize shoF l t = S9 at *
        obtain ⟨⟨d9, s9, m9⟩, E9⟩ := S9
        have b7 := Bk.new w7 26 #[.int .i64 d9, .int .i64 s9, .int .i64 m9]
        replace hx := hx.trans (hx7.alloc (.cells #[.int .i64 d9, .int .i64 s9, .int .i64 m9] 26))
        go_upto_region 21 with fail
        generalize w7.alloc (.cells #[.int .i64 d9, .int .i64 s9, .int .i64 m9] 26) = V7 at *
        generalize w7.heap.size = p7 at *
        have hB7 := hB.ext hx
        have c0 := hB7.c 0 _ rfl
        have c1 := hB7.c 1 _ rfl
        have c2 := hB7.c 2 _ rfl
        have e0 := b7.c 0 _ rfl
        have e1 := b7.c 1 _ rfl
        have e2 := b7.c 2 _ rfl
        by_cases h9 : E9 = 0
        · by_cases h8 : d9 = d ∧ s9 = s ∧ m9 = m
          · obtain ⟨rfl, rfl, rfl⟩ := h8
            subst h9
            obtain rfl : F = true := hF.out.1 rfl
            have eq7 : ∀ W, (Op.equalIn 10000 26 (.agg #[.int .i64 d9, .int .i64 s9, .int .i64 m9]) (.agg #[.int .i64 d9, .int .i64 s9, .int .i64 m9])).run Tryd.prog W = .ok true W := fun W => by
              rw [eqWal]; simp
            clear hF
            go_wp2_with fail
            go_ret
            exact ⟨rfl, hE.trans hx⟩
          · subst h9
            obtain rfl : F = false := by
              cases F with
              | false => rfl
              | true =>
                have := hF.out.2 rfl
                simp only [Prod.mk.injEq, and_true] at this
                exact absurd this h8
            have eq7 : ∀ W, (Op.equalIn 10000 26 (.agg #[.int .i64 d9, .int .i64 s9, .int .i64 m9]) (.agg #[.int .i64 d, .int .i64 s, .int .i64 m])).run Tryd.prog W = .ok false W := fun W => by
              rw [eqWal, decide_eq_false h8]
            clear hF h8
            go_wp2_with fail
            go_ret
            exact ⟨rfl, hE.trans hx⟩
        · obtain rfl : F = false := by
            cases F with
            | false => rfl
            | true =>
              have := hF.out.2 rfl
              simp only [Prod.mk.injEq] at this
              exact absurd this.2 h9
          have h92 := decide_eq_false h9
          clear hF
          go_wp2_with fail
          go_ret
          exact ⟨rfl, hE.trans hx⟩
end Go.Proofs.YtchbeheekahhiaaDoor
