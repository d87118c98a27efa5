/-
  The reference's Text, walked. Written by wip/gen_va6.py.
-/
import Derived.Test.YtchbeheekahhiaaDoorVA5
namespace Go.Proofs.YtchbeheekahhiaaDoor
open Go.RowKit Go.Sort Go.Shelf
set_option linter.unusedSimpArgs false
set_option linter.unusedVariables false
set_option maxRecDepth 100000

theorem add_any' (a b : List UInt8) (h : a.length + b.length ≤ 1000) (W : World) : (Op.stringOp .add (mkS a) (mkS b)).run Tryd.prog W = .ok (.string (mkS (a ++ b))) W := by
  rw [run_string_add_sum (w := W) (mkS a) (mkS b) (by rw [mkS_size, mkS_size]; omega), mkS_app]
theorem txtF_no {d m : Int} (h : civB d m = false) : txtF d m = (ByteArray.empty, 1) := by
  unfold txtF
  rw [if_neg]
  rintro ⟨⟨h1, h2⟩, h3, h4⟩
  unfold civB at h
  rw [inW_yes h1 h2, inW_yes h3 h4] at h
  cases h
theorem civB_yes {d m : Int} (h : civB d m = true) : (0 ≤ d ∧ d ≤ 34000) ∧ 0 ≤ m ∧ m ≤ 86400999999 := by
  unfold civB at h
  rw [Bool.and_eq_true, inW_iff, inW_iff] at h
  exact h
theorem U_app (f0 f1 f2 f3 f4 f5 f6 : Nat) : digU 4 f0 ++ [45] ++ digU 2 f1 ++ [45] ++ digU 2 f2 ++ [84] ++ digU 2 f3 ++ [58] ++ digU 2 f4 ++ [58] ++ digU 2 f5 ++ [46] ++ digU 6 f6 = U f0 f1 f2 f3 f4 f5 f6 := by
  unfold U
  simp only [List.append_assoc, List.cons_append, List.nil_append]

set_option maxHeartbeats 8000000 in
theorem r18text_any (day micro : Int) (w : World) :
    Calls Tryd.prog 21 #[.agg #[.int .i64 day, .int .i64 micro]] w fun e w' => e = .returned (.tuple #[.string (txtF day micro).1, .int .i64 (txtF day micro).2]) ∧ Ext w w' := by
  have hB := Bk.new w 24 #[.int .i64 day, .int .i64 micro]
  have hE : Ext w (w.alloc (.cells #[.int .i64 day, .int .i64 micro] 24)) := (Ext.refl w).alloc _
  go_enter Tryd.func21, Tryd.ntmps21
  go_upto_region 1 with fail
  generalize w.alloc (.cells #[.int .i64 day, .int .i64 micro] 24) = V at *
  generalize w.heap.size = b at hB ⊢
  have g0 := hB.c 0 _ rfl
  have g1 := hB.c 1 _ rfl
  go_wp2_with fail
  refine (rcivil_any day micro V).mono ?_
  rintro e w1 ⟨rfl, hx⟩
  replace hB := hB.ext hx
  replace hE := hE.trans hx
  clear hx g0 g1
  rcases hc : civB day micro with _ | _
  · have HR := Lib.hid (txtF_no hc)
    clear hc
    go_wp2_with fail
    go_ret2
    exact ⟨by rw [HR.out]; rfl, hE⟩
  obtain ⟨hday, hm0, hm9⟩ := civB_yes hc
  obtain ⟨hm, hmn⟩ := monOf_spec hday.1 hday.2
  have HR : Hid (txtF day micro = (strOfNums (txtL day micro), 0)) := Lib.hid (by unfold txtF; rw [if_pos ⟨hday, hm0, hm9⟩])
  have HD := Lib.hid (datF_yes hday.1 hday.2 hm)
  obtain ⟨us, rfl⟩ : ∃ us : Nat, micro = (us : Int) := ⟨micro.toNat, by omega⟩
  obtain ⟨a0, a1, a2, a3, a4, a5, a6⟩ := parts_bd (d := day) (m := (us : Int)) hday ⟨hm0, hm9⟩
  have HT := Lib.hid (txt_U day (us : Int))
  rw [Int.toNat_natCast] at HT a3 a4 a5 a6
  have hin := hm.1
  have hyI : yearN (monOf day) = ((2000 + monOf day / 12 : Nat) : Int) := by unfold yearN; omega
  have hdI : day - monS (monOf day) + 1 = (((day - monS (monOf day) + 1).toNat : Nat) : Int) := by omega
  have HYI := Lib.hid hyI
  have HDI := Lib.hid hdI
  clear hc hm hin hyI hdI
  have g0 := hB.c 0 _ rfl
  have g1 := hB.c 1 _ rfl
  go_wp2_with fail
  refine (r05date_any day w1).mono ?_
  rintro e w2 ⟨rfl, rfl⟩
  rw [HD.out, HYI.out, HDI.out]
  clear HD HYI HDI hday
  generalize hY : 2000 + monOf day / 12 = Y at *
  generalize hMO : monN (monOf day) = MO at *
  generalize hDD : (day - monS (monOf day) + 1).toNat = DD at *
  clear hY hMO hDD
  obtain ⟨n, hn⟩ : ∃ n : Nat, us / 1000000 = n := ⟨_, rfl⟩
  have hnI : (us : Int) / 1000000 = (n : Int) := by omega
  have hn9 : n ≤ 86400 := by omega
  rw [hn] at HT a3 a4 a5
  have hf0 := Lib.hid a0
  have hf1 := Lib.hid a1
  have hf2 := Lib.hid a2
  have hf3 := Lib.hid a3
  have hf4 := Lib.hid a4
  have hf5 := Lib.hid a5
  have hf6 := Lib.hid a6
  have hcase : (n = 86400 ∧ hmsN n = (23, 59, 60)) ∨ (¬ n = 86400 ∧ hmsN n = (n / 3600, n / 60 % 60, n % 60)) := by
    by_cases h : n = 86400
    · exact .inl ⟨h, by unfold hmsN; rw [if_pos h]⟩
    · exact .inr ⟨h, by unfold hmsN; rw [if_neg h]⟩
  have he0 : Hid ((Y : Int) = ((Y : Nat) : Int)) := Lib.hid rfl
  have he1 : Hid ((MO : Int) = ((MO : Nat) : Int)) := Lib.hid rfl
  have he2 : Hid ((DD : Int) = ((DD : Nat) : Int)) := Lib.hid rfl
  obtain ⟨f0, hf0e⟩ : ∃ f0, f0 = Y := ⟨_, rfl⟩
  obtain ⟨f1, hf1e⟩ : ∃ f1, f1 = MO := ⟨_, rfl⟩
  obtain ⟨f2, hf2e⟩ : ∃ f2, f2 = DD := ⟨_, rfl⟩
  obtain ⟨f3, hf3e⟩ : ∃ f3, f3 = (hmsN n).1 := ⟨_, rfl⟩
  obtain ⟨f4, hf4e⟩ : ∃ f4, f4 = (hmsN n).2.1 := ⟨_, rfl⟩
  obtain ⟨f5, hf5e⟩ : ∃ f5, f5 = (hmsN n).2.2 := ⟨_, rfl⟩
  obtain ⟨f6, hf6e⟩ : ∃ f6, f6 = us % 1000000 := ⟨_, rfl⟩
  rw [← hf0e] at he0 hf0
  rw [← hf1e] at he1 hf1
  rw [← hf2e] at he2 hf2
  rw [← hf3e] at hf3
  rw [← hf4e] at hf4
  rw [← hf5e] at hf5
  rw [← hf6e] at hf6
  have he6 : Hid ((us : Int) % 1000000 = ((f6 : Nat) : Int)) := Lib.hid (by omega)
  have HU : Hid (strOfNums (txtL day (us : Int)) = mkS (digU 4 f0 ++ [45] ++ digU 2 f1 ++ [45] ++ digU 2 f2 ++ [84] ++ digU 2 f3 ++ [58] ++ digU 2 f4 ++ [58] ++ digU 2 f5 ++ [46] ++ digU 6 f6)) := Lib.hid (by rw [HT.out, U_app, hf0e, hf1e, hf2e, hf3e, hf4e, hf5e, hf6e])
  clear HT a0 a1 a2 a3 a4 a5 a6 hf6e
  rcases hcase with ⟨hn6, hh⟩ | ⟨hn6, hh⟩
  · have he3 : Hid ((23 : Int) = ((f3 : Nat) : Int)) := Lib.hid (by rw [hf3e, hh]; rfl)
    have he4 : Hid ((59 : Int) = ((f4 : Nat) : Int)) := Lib.hid (by rw [hf4e, hh]; rfl)
    have he5 : Hid ((60 : Int) = ((f5 : Nat) : Int)) := Lib.hid (by rw [hf5e, hh]; rfl)
    have hn7 : (us : Int) / 1000000 = 86400 := by omega
    subst hf0e hf1e hf2e
    clear hf3e hf4e hf5e hh hnI hn hn6
    have HD0 : Hid (∀ W, Calls Tryd.prog 41 #[.int .i64 (f0 : Int), .int .i64 4] W fun e w' => e = .returned (.string (mkS (digU 4 f0))) ∧ Ext W w') := Lib.hid (fun W => by exact r18digits_any f0 4 (by omega) (by have := hf0.out; omega) W)
    have HD1 : Hid (∀ W, Calls Tryd.prog 41 #[.int .i64 (f1 : Int), .int .i64 2] W fun e w' => e = .returned (.string (mkS (digU 2 f1))) ∧ Ext W w') := Lib.hid (fun W => by exact r18digits_any f1 2 (by omega) (by have := hf1.out; omega) W)
    have HD2 : Hid (∀ W, Calls Tryd.prog 41 #[.int .i64 (f2 : Int), .int .i64 2] W fun e w' => e = .returned (.string (mkS (digU 2 f2))) ∧ Ext W w') := Lib.hid (fun W => by exact r18digits_any f2 2 (by omega) (by have := hf2.out; omega) W)
    have HD3 : Hid (∀ W, Calls Tryd.prog 41 #[.int .i64 (23), .int .i64 2] W fun e w' => e = .returned (.string (mkS (digU 2 f3))) ∧ Ext W w') := Lib.hid (fun W => by rw [show (23) = ((f3 : Nat) : Int) from he3.out]; exact r18digits_any f3 2 (by omega) (by have := hf3.out; omega) W)
    have HD4 : Hid (∀ W, Calls Tryd.prog 41 #[.int .i64 (59), .int .i64 2] W fun e w' => e = .returned (.string (mkS (digU 2 f4))) ∧ Ext W w') := Lib.hid (fun W => by rw [show (59) = ((f4 : Nat) : Int) from he4.out]; exact r18digits_any f4 2 (by omega) (by have := hf4.out; omega) W)
    have HD5 : Hid (∀ W, Calls Tryd.prog 41 #[.int .i64 (60), .int .i64 2] W fun e w' => e = .returned (.string (mkS (digU 2 f5))) ∧ Ext W w') := Lib.hid (fun W => by rw [show (60) = ((f5 : Nat) : Int) from he5.out]; exact r18digits_any f5 2 (by omega) (by have := hf5.out; omega) W)
    have HD6 : Hid (∀ W, Calls Tryd.prog 41 #[.int .i64 ((us : Int) % 1000000), .int .i64 6] W fun e w' => e = .returned (.string (mkS (digU 6 f6))) ∧ Ext W w') := Lib.hid (fun W => by rw [show ((us : Int) % 1000000) = ((f6 : Nat) : Int) from he6.out]; exact r18digits_any f6 6 (by omega) (by have := hf6.out; omega) W)
    clear he0 he1 he2 he3 he4 he5 he6 hf0 hf1 hf2 hf3 hf4 hf5 hf6
    go_upto_region 12 with fail
    have ad0 : ∀ W, (Op.stringOp .add (mkS (digU 4 f0)) (⟨#[45]⟩)).run Tryd.prog W = .ok (.string (mkS (digU 4 f0 ++ [45]))) W := fun W => add_any' _ _ (by simp only [List.length_append, digU_len, List.length_cons, List.length_nil]; omega) W
    have ad1 : ∀ W, (Op.stringOp .add (mkS (digU 4 f0 ++ [45])) (mkS (digU 2 f1))).run Tryd.prog W = .ok (.string (mkS (digU 4 f0 ++ [45] ++ digU 2 f1))) W := fun W => add_any' _ _ (by simp only [List.length_append, digU_len, List.length_cons, List.length_nil]; omega) W
    have ad2 : ∀ W, (Op.stringOp .add (mkS (digU 4 f0 ++ [45] ++ digU 2 f1)) (⟨#[45]⟩)).run Tryd.prog W = .ok (.string (mkS (digU 4 f0 ++ [45] ++ digU 2 f1 ++ [45]))) W := fun W => add_any' _ _ (by simp only [List.length_append, digU_len, List.length_cons, List.length_nil]; omega) W
    have ad3 : ∀ W, (Op.stringOp .add (mkS (digU 4 f0 ++ [45] ++ digU 2 f1 ++ [45])) (mkS (digU 2 f2))).run Tryd.prog W = .ok (.string (mkS (digU 4 f0 ++ [45] ++ digU 2 f1 ++ [45] ++ digU 2 f2))) W := fun W => add_any' _ _ (by simp only [List.length_append, digU_len, List.length_cons, List.length_nil]; omega) W
    have ad4 : ∀ W, (Op.stringOp .add (mkS (digU 4 f0 ++ [45] ++ digU 2 f1 ++ [45] ++ digU 2 f2)) (⟨#[84]⟩)).run Tryd.prog W = .ok (.string (mkS (digU 4 f0 ++ [45] ++ digU 2 f1 ++ [45] ++ digU 2 f2 ++ [84]))) W := fun W => add_any' _ _ (by simp only [List.length_append, digU_len, List.length_cons, List.length_nil]; omega) W
    have ad5 : ∀ W, (Op.stringOp .add (mkS (digU 4 f0 ++ [45] ++ digU 2 f1 ++ [45] ++ digU 2 f2 ++ [84])) (mkS (digU 2 f3))).run Tryd.prog W = .ok (.string (mkS (digU 4 f0 ++ [45] ++ digU 2 f1 ++ [45] ++ digU 2 f2 ++ [84] ++ digU 2 f3))) W := fun W => add_any' _ _ (by simp only [List.length_append, digU_len, List.length_cons, List.length_nil]; omega) W
    have ad6 : ∀ W, (Op.stringOp .add (mkS (digU 4 f0 ++ [45] ++ digU 2 f1 ++ [45] ++ digU 2 f2 ++ [84] ++ digU 2 f3)) (⟨#[58]⟩)).run Tryd.prog W = .ok (.string (mkS (digU 4 f0 ++ [45] ++ digU 2 f1 ++ [45] ++ digU 2 f2 ++ [84] ++ digU 2 f3 ++ [58]))) W := fun W => add_any' _ _ (by simp only [List.length_append, digU_len, List.length_cons, List.length_nil]; omega) W
    have ad7 : ∀ W, (Op.stringOp .add (mkS (digU 4 f0 ++ [45] ++ digU 2 f1 ++ [45] ++ digU 2 f2 ++ [84] ++ digU 2 f3 ++ [58])) (mkS (digU 2 f4))).run Tryd.prog W = .ok (.string (mkS (digU 4 f0 ++ [45] ++ digU 2 f1 ++ [45] ++ digU 2 f2 ++ [84] ++ digU 2 f3 ++ [58] ++ digU 2 f4))) W := fun W => add_any' _ _ (by simp only [List.length_append, digU_len, List.length_cons, List.length_nil]; omega) W
    have ad8 : ∀ W, (Op.stringOp .add (mkS (digU 4 f0 ++ [45] ++ digU 2 f1 ++ [45] ++ digU 2 f2 ++ [84] ++ digU 2 f3 ++ [58] ++ digU 2 f4)) (⟨#[58]⟩)).run Tryd.prog W = .ok (.string (mkS (digU 4 f0 ++ [45] ++ digU 2 f1 ++ [45] ++ digU 2 f2 ++ [84] ++ digU 2 f3 ++ [58] ++ digU 2 f4 ++ [58]))) W := fun W => add_any' _ _ (by simp only [List.length_append, digU_len, List.length_cons, List.length_nil]; omega) W
    have ad9 : ∀ W, (Op.stringOp .add (mkS (digU 4 f0 ++ [45] ++ digU 2 f1 ++ [45] ++ digU 2 f2 ++ [84] ++ digU 2 f3 ++ [58] ++ digU 2 f4 ++ [58])) (mkS (digU 2 f5))).run Tryd.prog W = .ok (.string (mkS (digU 4 f0 ++ [45] ++ digU 2 f1 ++ [45] ++ digU 2 f2 ++ [84] ++ digU 2 f3 ++ [58] ++ digU 2 f4 ++ [58] ++ digU 2 f5))) W := fun W => add_any' _ _ (by simp only [List.length_append, digU_len, List.length_cons, List.length_nil]; omega) W
    have ad10 : ∀ W, (Op.stringOp .add (mkS (digU 4 f0 ++ [45] ++ digU 2 f1 ++ [45] ++ digU 2 f2 ++ [84] ++ digU 2 f3 ++ [58] ++ digU 2 f4 ++ [58] ++ digU 2 f5)) (⟨#[46]⟩)).run Tryd.prog W = .ok (.string (mkS (digU 4 f0 ++ [45] ++ digU 2 f1 ++ [45] ++ digU 2 f2 ++ [84] ++ digU 2 f3 ++ [58] ++ digU 2 f4 ++ [58] ++ digU 2 f5 ++ [46]))) W := fun W => add_any' _ _ (by simp only [List.length_append, digU_len, List.length_cons, List.length_nil]; omega) W
    have ad11 : ∀ W, (Op.stringOp .add (mkS (digU 4 f0 ++ [45] ++ digU 2 f1 ++ [45] ++ digU 2 f2 ++ [84] ++ digU 2 f3 ++ [58] ++ digU 2 f4 ++ [58] ++ digU 2 f5 ++ [46])) (mkS (digU 6 f6))).run Tryd.prog W = .ok (.string (mkS (digU 4 f0 ++ [45] ++ digU 2 f1 ++ [45] ++ digU 2 f2 ++ [84] ++ digU 2 f3 ++ [58] ++ digU 2 f4 ++ [58] ++ digU 2 f5 ++ [46] ++ digU 6 f6))) W := fun W => add_any' _ _ (by simp only [List.length_append, digU_len, List.length_cons, List.length_nil]; omega) W
    generalize digU 4 f0 ++ [45] = G1 at *
    generalize G1 ++ digU 2 f1 = G2 at *
    generalize G2 ++ [45] = G3 at *
    generalize G3 ++ digU 2 f2 = G4 at *
    generalize G4 ++ [84] = G5 at *
    generalize G5 ++ digU 2 f3 = G6 at *
    generalize G6 ++ [58] = G7 at *
    generalize G7 ++ digU 2 f4 = G8 at *
    generalize G8 ++ [58] = G9 at *
    generalize G9 ++ digU 2 f5 = G10 at *
    generalize G10 ++ [46] = G11 at *
    generalize G11 ++ digU 6 f6 = G12 at *
    have lb := hB.lt
    have hg := @grow_cell
    have g1 := hB.c 1 _ rfl
    refine region_ext (by kernel_rfl) (by kernel_rfl) ?_
    go_big_quiet_step (fail)
    repeat (go_big_quiet_step ((go_at_call 41; first | with_reducible exact Calls.regrown_of (HD0.out _) | with_reducible exact Calls.regrown_of (HD1.out _) | with_reducible exact Calls.regrown_of (HD2.out _) | with_reducible exact Calls.regrown_of (HD3.out _) | with_reducible exact Calls.regrown_of (HD4.out _) | with_reducible exact Calls.regrown_of (HD5.out _) | with_reducible exact Calls.regrown_of (HD6.out _))))
    refine wpQuiet_nil ?_
    intro w9 hx
    go_wp2_with fail
    go_ret2
    exact ⟨by rw [HR.out, HU.out]; rfl, hE.trans hx⟩
  · have he3 : Hid ((us : Int) / 1000000 / 3600 = ((f3 : Nat) : Int)) := Lib.hid (by rw [hf3e, hh]; simp only; omega)
    have he4 : Hid ((us : Int) / 1000000 / 60 % 60 = ((f4 : Nat) : Int)) := Lib.hid (by rw [hf4e, hh]; simp only; omega)
    have he5 : Hid ((us : Int) / 1000000 % 60 = ((f5 : Nat) : Int)) := Lib.hid (by rw [hf5e, hh]; simp only; omega)
    have hn7 : ¬ (us : Int) / 1000000 = 86400 := by omega
    subst hf0e hf1e hf2e
    clear hf3e hf4e hf5e hh hnI hn hn6
    have HD0 : Hid (∀ W, Calls Tryd.prog 41 #[.int .i64 (f0 : Int), .int .i64 4] W fun e w' => e = .returned (.string (mkS (digU 4 f0))) ∧ Ext W w') := Lib.hid (fun W => by exact r18digits_any f0 4 (by omega) (by have := hf0.out; omega) W)
    have HD1 : Hid (∀ W, Calls Tryd.prog 41 #[.int .i64 (f1 : Int), .int .i64 2] W fun e w' => e = .returned (.string (mkS (digU 2 f1))) ∧ Ext W w') := Lib.hid (fun W => by exact r18digits_any f1 2 (by omega) (by have := hf1.out; omega) W)
    have HD2 : Hid (∀ W, Calls Tryd.prog 41 #[.int .i64 (f2 : Int), .int .i64 2] W fun e w' => e = .returned (.string (mkS (digU 2 f2))) ∧ Ext W w') := Lib.hid (fun W => by exact r18digits_any f2 2 (by omega) (by have := hf2.out; omega) W)
    have HD3 : Hid (∀ W, Calls Tryd.prog 41 #[.int .i64 ((us : Int) / 1000000 / 3600), .int .i64 2] W fun e w' => e = .returned (.string (mkS (digU 2 f3))) ∧ Ext W w') := Lib.hid (fun W => by rw [show ((us : Int) / 1000000 / 3600) = ((f3 : Nat) : Int) from he3.out]; exact r18digits_any f3 2 (by omega) (by have := hf3.out; omega) W)
    have HD4 : Hid (∀ W, Calls Tryd.prog 41 #[.int .i64 ((us : Int) / 1000000 / 60 % 60), .int .i64 2] W fun e w' => e = .returned (.string (mkS (digU 2 f4))) ∧ Ext W w') := Lib.hid (fun W => by rw [show ((us : Int) / 1000000 / 60 % 60) = ((f4 : Nat) : Int) from he4.out]; exact r18digits_any f4 2 (by omega) (by have := hf4.out; omega) W)
    have HD5 : Hid (∀ W, Calls Tryd.prog 41 #[.int .i64 ((us : Int) / 1000000 % 60), .int .i64 2] W fun e w' => e = .returned (.string (mkS (digU 2 f5))) ∧ Ext W w') := Lib.hid (fun W => by rw [show ((us : Int) / 1000000 % 60) = ((f5 : Nat) : Int) from he5.out]; exact r18digits_any f5 2 (by omega) (by have := hf5.out; omega) W)
    have HD6 : Hid (∀ W, Calls Tryd.prog 41 #[.int .i64 ((us : Int) % 1000000), .int .i64 6] W fun e w' => e = .returned (.string (mkS (digU 6 f6))) ∧ Ext W w') := Lib.hid (fun W => by rw [show ((us : Int) % 1000000) = ((f6 : Nat) : Int) from he6.out]; exact r18digits_any f6 6 (by omega) (by have := hf6.out; omega) W)
    clear he0 he1 he2 he3 he4 he5 he6 hf0 hf1 hf2 hf3 hf4 hf5 hf6
    go_upto_region 12 with fail
    have ad0 : ∀ W, (Op.stringOp .add (mkS (digU 4 f0)) (⟨#[45]⟩)).run Tryd.prog W = .ok (.string (mkS (digU 4 f0 ++ [45]))) W := fun W => add_any' _ _ (by simp only [List.length_append, digU_len, List.length_cons, List.length_nil]; omega) W
    have ad1 : ∀ W, (Op.stringOp .add (mkS (digU 4 f0 ++ [45])) (mkS (digU 2 f1))).run Tryd.prog W = .ok (.string (mkS (digU 4 f0 ++ [45] ++ digU 2 f1))) W := fun W => add_any' _ _ (by simp only [List.length_append, digU_len, List.length_cons, List.length_nil]; omega) W
    have ad2 : ∀ W, (Op.stringOp .add (mkS (digU 4 f0 ++ [45] ++ digU 2 f1)) (⟨#[45]⟩)).run Tryd.prog W = .ok (.string (mkS (digU 4 f0 ++ [45] ++ digU 2 f1 ++ [45]))) W := fun W => add_any' _ _ (by simp only [List.length_append, digU_len, List.length_cons, List.length_nil]; omega) W
    have ad3 : ∀ W, (Op.stringOp .add (mkS (digU 4 f0 ++ [45] ++ digU 2 f1 ++ [45])) (mkS (digU 2 f2))).run Tryd.prog W = .ok (.string (mkS (digU 4 f0 ++ [45] ++ digU 2 f1 ++ [45] ++ digU 2 f2))) W := fun W => add_any' _ _ (by simp only [List.length_append, digU_len, List.length_cons, List.length_nil]; omega) W
    have ad4 : ∀ W, (Op.stringOp .add (mkS (digU 4 f0 ++ [45] ++ digU 2 f1 ++ [45] ++ digU 2 f2)) (⟨#[84]⟩)).run Tryd.prog W = .ok (.string (mkS (digU 4 f0 ++ [45] ++ digU 2 f1 ++ [45] ++ digU 2 f2 ++ [84]))) W := fun W => add_any' _ _ (by simp only [List.length_append, digU_len, List.length_cons, List.length_nil]; omega) W
    have ad5 : ∀ W, (Op.stringOp .add (mkS (digU 4 f0 ++ [45] ++ digU 2 f1 ++ [45] ++ digU 2 f2 ++ [84])) (mkS (digU 2 f3))).run Tryd.prog W = .ok (.string (mkS (digU 4 f0 ++ [45] ++ digU 2 f1 ++ [45] ++ digU 2 f2 ++ [84] ++ digU 2 f3))) W := fun W => add_any' _ _ (by simp only [List.length_append, digU_len, List.length_cons, List.length_nil]; omega) W
    have ad6 : ∀ W, (Op.stringOp .add (mkS (digU 4 f0 ++ [45] ++ digU 2 f1 ++ [45] ++ digU 2 f2 ++ [84] ++ digU 2 f3)) (⟨#[58]⟩)).run Tryd.prog W = .ok (.string (mkS (digU 4 f0 ++ [45] ++ digU 2 f1 ++ [45] ++ digU 2 f2 ++ [84] ++ digU 2 f3 ++ [58]))) W := fun W => add_any' _ _ (by simp only [List.length_append, digU_len, List.length_cons, List.length_nil]; omega) W
    have ad7 : ∀ W, (Op.stringOp .add (mkS (digU 4 f0 ++ [45] ++ digU 2 f1 ++ [45] ++ digU 2 f2 ++ [84] ++ digU 2 f3 ++ [58])) (mkS (digU 2 f4))).run Tryd.prog W = .ok (.string (mkS (digU 4 f0 ++ [45] ++ digU 2 f1 ++ [45] ++ digU 2 f2 ++ [84] ++ digU 2 f3 ++ [58] ++ digU 2 f4))) W := fun W => add_any' _ _ (by simp only [List.length_append, digU_len, List.length_cons, List.length_nil]; omega) W
    have ad8 : ∀ W, (Op.stringOp .add (mkS (digU 4 f0 ++ [45] ++ digU 2 f1 ++ [45] ++ digU 2 f2 ++ [84] ++ digU 2 f3 ++ [58] ++ digU 2 f4)) (⟨#[58]⟩)).run Tryd.prog W = .ok (.string (mkS (digU 4 f0 ++ [45] ++ digU 2 f1 ++ [45] ++ digU 2 f2 ++ [84] ++ digU 2 f3 ++ [58] ++ digU 2 f4 ++ [58]))) W := fun W => add_any' _ _ (by simp only [List.length_append, digU_len, List.length_cons, List.length_nil]; omega) W
    have ad9 : ∀ W, (Op.stringOp .add (mkS (digU 4 f0 ++ [45] ++ digU 2 f1 ++ [45] ++ digU 2 f2 ++ [84] ++ digU 2 f3 ++ [58] ++ digU 2 f4 ++ [58])) (mkS (digU 2 f5))).run Tryd.prog W = .ok (.string (mkS (digU 4 f0 ++ [45] ++ digU 2 f1 ++ [45] ++ digU 2 f2 ++ [84] ++ digU 2 f3 ++ [58] ++ digU 2 f4 ++ [58] ++ digU 2 f5))) W := fun W => add_any' _ _ (by simp only [List.length_append, digU_len, List.length_cons, List.length_nil]; omega) W
    have ad10 : ∀ W, (Op.stringOp .add (mkS (digU 4 f0 ++ [45] ++ digU 2 f1 ++ [45] ++ digU 2 f2 ++ [84] ++ digU 2 f3 ++ [58] ++ digU 2 f4 ++ [58] ++ digU 2 f5)) (⟨#[46]⟩)).run Tryd.prog W = .ok (.string (mkS (digU 4 f0 ++ [45] ++ digU 2 f1 ++ [45] ++ digU 2 f2 ++ [84] ++ digU 2 f3 ++ [58] ++ digU 2 f4 ++ [58] ++ digU 2 f5 ++ [46]))) W := fun W => add_any' _ _ (by simp only [List.length_append, digU_len, List.length_cons, List.length_nil]; omega) W
    have ad11 : ∀ W, (Op.stringOp .add (mkS (digU 4 f0 ++ [45] ++ digU 2 f1 ++ [45] ++ digU 2 f2 ++ [84] ++ digU 2 f3 ++ [58] ++ digU 2 f4 ++ [58] ++ digU 2 f5 ++ [46])) (mkS (digU 6 f6))).run Tryd.prog W = .ok (.string (mkS (digU 4 f0 ++ [45] ++ digU 2 f1 ++ [45] ++ digU 2 f2 ++ [84] ++ digU 2 f3 ++ [58] ++ digU 2 f4 ++ [58] ++ digU 2 f5 ++ [46] ++ digU 6 f6))) W := fun W => add_any' _ _ (by simp only [List.length_append, digU_len, List.length_cons, List.length_nil]; omega) W
    generalize digU 4 f0 ++ [45] = G1 at *
    generalize G1 ++ digU 2 f1 = G2 at *
    generalize G2 ++ [45] = G3 at *
    generalize G3 ++ digU 2 f2 = G4 at *
    generalize G4 ++ [84] = G5 at *
    generalize G5 ++ digU 2 f3 = G6 at *
    generalize G6 ++ [58] = G7 at *
    generalize G7 ++ digU 2 f4 = G8 at *
    generalize G8 ++ [58] = G9 at *
    generalize G9 ++ digU 2 f5 = G10 at *
    generalize G10 ++ [46] = G11 at *
    generalize G11 ++ digU 6 f6 = G12 at *
    have lb := hB.lt
    have hg := @grow_cell
    have g1 := hB.c 1 _ rfl
    refine region_ext (by kernel_rfl) (by kernel_rfl) ?_
    go_big_quiet_step (fail)
    repeat (go_big_quiet_step ((go_at_call 41; first | with_reducible exact Calls.regrown_of (HD0.out _) | with_reducible exact Calls.regrown_of (HD1.out _) | with_reducible exact Calls.regrown_of (HD2.out _) | with_reducible exact Calls.regrown_of (HD3.out _) | with_reducible exact Calls.regrown_of (HD4.out _) | with_reducible exact Calls.regrown_of (HD5.out _) | with_reducible exact Calls.regrown_of (HD6.out _))))
    refine wpQuiet_nil ?_
    intro w9 hx
    go_wp2_with fail
    go_ret2
    exact ⟨by rw [HR.out, HU.out]; rfl, hE.trans hx⟩
end Go.Proofs.YtchbeheekahhiaaDoor
