/-
  The head of the laws of chapter 18, walked.
-/
import Derived.Test.YtchbeheekahhiaaDoorVQ
import Derived.Test.YtchbeheekahhiaaDoorVT
import Derived.Laws.StructEq
import Derived.Laws.Tables
import Derived.Laws.Cover2
namespace Go.Proofs.YtchbeheekahhiaaDoor
open Go.RowKit Go.Sort Go.Shelf
set_option linter.unusedSimpArgs false
set_option linter.unusedVariables false
set_option maxRecDepth 100000

theorem Rw.lit1p {W : World} {b : Nat} {x : Lp} (h : Bk W b 54 #[.int .i64 x.d, .int .i64 x.s]) (hx : x.Ok) : Rw W (some ⟨b, 0, none⟩) 1 1 [x] := by
  refine Rw.ofFlat rfl (Nat.le_refl _) (by unfold maxLen; omega) (by omega) ?_ (by intro y hy; rw [List.mem_singleton.1 hy]; exact hx)
  intro j v hv
  rw [Nat.zero_add]
  rcases j with _ | _ | j
  · exact h.c 0 v hv
  · exact h.c 1 v hv
  · simp [Cel.enc, Lp.enc] at hv

theorem eqCiv (d m d' m' : Int) (w : World) : (Op.equalIn 10000 24 (.agg #[.int .i64 d, .int .i64 m]) (.agg #[.int .i64 d', .int .i64 m'])).run Tryd.prog w = .ok (decide (d = d' ∧ m = m')) w := by
  have u3 := Tryd.underlying3
  have a3 := Tryd.isAgg3
  have z3 := Tryd.sizeOf3
  have hS : Tryd.prog.underlying 24 = some (.struct (Tryd.prog.fieldsOf 24)) := by kernel_rfl
  have hp : Tryd.prog.stoodInHeld 24 = false := by kernel_rfl
  rw [show (10000 : Nat) = 9999 + 1 from rfl, run_equalIn_agg w 9999 24 _ _ hS hp]
  simp only [Program.fieldsOf, Tryd.underlying24]
  go_simp
  by_cases h1 : d = d' <;> by_cases h2 : m = m' <;> simp [h1, h2]
theorem eqWal (d s m d' s' m' : Int) (w : World) : (Op.equalIn 10000 26 (.agg #[.int .i64 d, .int .i64 s, .int .i64 m]) (.agg #[.int .i64 d', .int .i64 s', .int .i64 m'])).run Tryd.prog w = .ok (decide (d = d' ∧ s = s' ∧ m = m')) w := by
  have u3 := Tryd.underlying3
  have a3 := Tryd.isAgg3
  have z3 := Tryd.sizeOf3
  have hS : Tryd.prog.underlying 26 = some (.struct (Tryd.prog.fieldsOf 26)) := by kernel_rfl
  have hp : Tryd.prog.stoodInHeld 26 = false := by kernel_rfl
  rw [show (10000 : Nat) = 9999 + 1 from rfl, run_equalIn_agg w 9999 26 _ _ hS hp]
  simp only [Program.fieldsOf, Tryd.underlying26]
  go_simp
  by_cases h1 : d = d' <;> by_cases h2 : s = s' <;> by_cases h3 : m = m' <;> simp [h1, h2, h3]

set_option maxHeartbeats 4000000 in
theorem vhead_any (w : World) (ht : TB w) (hl : TL w) : Calls Tryd.prog 9 #[] w fun e w' => e = .returned (.bool true) ∧ Ext w w' := by
  have HT := Lib.hid ht
  have HTL := Lib.hid hl
  clear ht hl
  have b1 := Bk.new w 54 #[.int .i64 0, .int .i64 1]
  have b2 := Bk.new (w.alloc (.cells #[.int .i64 0, .int .i64 1] 54)) 54 #[.int .i64 0, .int .i64 (-1)]
  rw [World.size_alloc] at b2
  replace b1 := b1.ext ((Ext.refl _).alloc (.cells #[.int .i64 0, .int .i64 (-1)] 54))
  have hE : Ext w ((w.alloc (.cells #[.int .i64 0, .int .i64 1] 54)).alloc (.cells #[.int .i64 0, .int .i64 (-1)] 54)) := ((Ext.refl w).alloc _).alloc _
  have hR1 : Rw _ _ 1 1 exLong := Rw.lit1p (x := ⟨0, 1⟩) b1 ⟨rfl, rfl⟩
  have hR2 : Rw _ _ 1 1 exShort := Rw.lit1p (x := ⟨0, -1⟩) b2 ⟨rfl, rfl⟩
  clear b1 b2
  go_enter Tryd.func9, Tryd.ntmps9
  go_upto_region 2 with fail
  generalize (w.alloc (.cells #[.int .i64 0, .int .i64 1] 54)).alloc (.cells #[.int .i64 0, .int .i64 (-1)] 54) = V at *
  go_wp2_with fail
  refine (cto_any _ 1 1 exLong 86400000000 V hR1).mono ?_
  rintro e w1 ⟨rfl, hx⟩
  rw [ex_to]
  go_upto_region 3 with fail
  have h3 := Bk.new w1 24 #[.int .i64 0, .int .i64 86400000000]
  replace hx := hx.alloc (.cells #[.int .i64 0, .int .i64 86400000000] 24)
  generalize w1.alloc (.cells #[.int .i64 0, .int .i64 86400000000] 24) = V1 at *
  generalize w1.heap.size = b3 at *
  replace hR1 := hR1.ext hx
  replace hR2 := hR2.ext hx
  replace hE := hE.trans hx
  clear hx
  have c0 := h3.c 0 _ rfl
  have c1 := h3.c 1 _ rfl
  go_wp2_with fail
  refine (ctext_any 0 86400000000 V1 (TB.ext HT.out hE) (TL.ext HTL.out hE)).mono ?_
  rintro e w2 ⟨rfl, hx⟩
  rw [ex_text]
  replace hR1 := hR1.ext hx
  replace hR2 := hR2.ext hx
  replace h3 := h3.ext hx
  replace hE := hE.trans hx
  clear hx c0 c1
  go_wp2_with fail
  refine (cshow_any _ 1 1 exLong 86400000000 w2 hR1).mono ?_
  rintro e w3 ⟨rfl, hx⟩
  rw [ex_show]
  go_upto_region 5 with fail
  have h7 := Bk.new w3 26 #[.int .i64 0, .int .i64 86399, .int .i64 0]
  replace hx := hx.alloc (.cells #[.int .i64 0, .int .i64 86399, .int .i64 0] 26)
  generalize w3.alloc (.cells #[.int .i64 0, .int .i64 86399, .int .i64 0] 26) = V3 at *
  generalize w3.heap.size = b7 at *
  replace hR1 := hR1.ext hx
  replace hR2 := hR2.ext hx
  replace h3 := h3.ext hx
  replace hE := hE.trans hx
  clear hx
  have e0 := h7.c 0 _ rfl
  have e1 := h7.c 1 _ rfl
  have e2 := h7.c 2 _ rfl
  go_wp2_with fail
  refine (cfnd_any _ 1 1 exLong 0 86399 0 V3 hR1).mono ?_
  rintro e w4 ⟨a9, n9, c9, rfl, ho9, hx⟩
  rw [ex_find] at ho9 ⊢
  replace hR1 := hR1.ext hx
  replace hR2 := hR2.ext hx
  replace h3 := h3.ext hx
  replace h7 := h7.ext hx
  replace hE := hE.trans hx
  clear hx e0 e1 e2
  have e0 := h7.c 0 _ rfl
  have e1 := h7.c 1 _ rfl
  have e2 := h7.c 2 _ rfl
  go_wp2_with fail
  refine (cfnd_any _ 1 1 exShort 0 86399 0 w4 hR2).mono ?_
  rintro e w5 ⟨a11, n11, c11, rfl, ho11, hx⟩
  rw [ex_find2] at ho11 ⊢
  have hn9 := ho9.hlen
  have hn11 := ho11.hlen
  simp only [List.length_cons, List.length_nil] at hn9 hn11
  subst hn9 hn11
  replace ho9 := ho9.ext hx
  replace hR1 := hR1.ext hx
  replace hR2 := hR2.ext hx
  replace h3 := h3.ext hx
  replace h7 := h7.ext hx
  replace hE := hE.trans hx
  clear hx e0 e1 e2 ho11
  have c0 := h3.c 0 _ rfl
  have c1 := h3.c 1 _ rfl
  go_wp2_with fail
  refine (cfrom_any _ 1 1 exLong 0 86400000000 w5 hR1).mono ?_
  rintro e w6 ⟨rfl, hx⟩
  rw [ex_from]
  replace hR2 := hR2.ext hx
  replace h3 := h3.ext hx
  replace h7 := h7.ext hx
  replace ho9 := ho9.ext hx
  replace hE := hE.trans hx
  clear hx c0 c1 hR1
  go_wp2_with fail
  refine (cfrom_any _ 1 1 exShort 0 86399000000 w6 hR2).mono ?_
  rintro e w7 ⟨rfl, hx⟩
  rw [ex_from2]
  replace h3 := h3.ext hx
  replace h7 := h7.ext hx
  replace ho9 := ho9.ext hx
  replace hE := hE.trans hx
  clear hx hR2
  go_wp2_with fail
  refine (cparse_any exA (by decide) w7 (TL.ext HTL.out hE)).mono ?_
  rintro e w8 ⟨rfl, hx⟩
  rw [ex_parse]
  go_upto_region 10 with fail
  have h17 := Bk.new w8 24 #[.int .i64 1, .int .i64 59000001]
  replace hx := hx.alloc (.cells #[.int .i64 1, .int .i64 59000001] 24)
  generalize w8.alloc (.cells #[.int .i64 1, .int .i64 59000001] 24) = V8 at *
  generalize w8.heap.size = b17 at *
  replace h3 := h3.ext hx
  replace h7 := h7.ext hx
  replace ho9 := ho9.ext hx
  replace hE := hE.trans hx
  clear hx
  go_wp2_with fail
  refine (cparse_any exB (by decide) V8 (TL.ext HTL.out hE)).mono ?_
  rintro e w9 ⟨rfl, hx⟩
  rw [ex_parse2]
  go_upto_region 11 with fail
  have hx2 := hx.alloc (.cells #[.int .i64 0, .int .i64 0] 24)
  generalize w9.alloc (.cells #[.int .i64 0, .int .i64 0] 24) = V9 at *
  replace h3 := h3.ext hx2
  replace h7 := h7.ext hx2
  replace h17 := h17.ext hx2
  replace ho9 := ho9.ext hx2
  replace hE := hE.trans hx2
  clear hx hx2
  have c0 := h3.c 0 _ rfl
  have c1 := h3.c 1 _ rfl
  have e0 := h7.c 0 _ rfl
  have e1 := h7.c 1 _ rfl
  have e2 := h7.c 2 _ rfl
  have q1 := fun W => eqCiv 0 86400000000 0 86400000000 W
  have q2 := fun W => eqWal 0 86399 0 0 86399 0 W
  have q3 := fun W => eqCiv 1 59000001 1 59000001 W
  have hlit := OwI.lit .i64 3 (base := 0) V9 [86399000000, 86400000000] (Nat.zero_le _) (by simp [maxLen]) #[.int .i64 86399000000, .int .i64 86400000000] rfl
  have hs2 := hlit.sl (by intro x hx; simp at hx; rcases hx with rfl | rfl <;> rfl)
  have hxL : Ext V9 (V9.alloc (.cells #[.int .i64 86399000000, .int .i64 86400000000] 3)) := (Ext.refl V9).alloc _
  have hs9 := (ho9.ext hxL).sl (by intro x hx; simp at hx; rcases hx with rfl | rfl <;> rfl)
  simp only [List.length_cons, List.length_nil, Nat.zero_add, Nat.reduceAdd] at hs2
  clear hlit
  go_wp2_with fail
  refine (rsame_any a9 2 c9 _ _ 2 2 _ _ hs9 hs2).mono ?_
  rintro e w10 ⟨rfl, hx⟩
  replace hx := hxL.trans hx
  replace h17 := h17.ext hx
  replace hE := hE.trans hx
  clear hx hxL hs2 hs9 ho9
  have d0 := h17.c 0 _ rfl
  have d1 := h17.c 1 _ rfl
  go_wp2_with fail
  go_ret
  exact ⟨rfl, hE⟩
end Go.Proofs.YtchbeheekahhiaaDoor
