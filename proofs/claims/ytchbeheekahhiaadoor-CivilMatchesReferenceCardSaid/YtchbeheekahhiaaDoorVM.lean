/-
  civil.Text, walked. Written by wip/gen_vm.py.
-/
import Derived.Test.YtchbeheekahhiaaDoorVL
import Derived.Laws.BytesArg
namespace Go.Proofs.YtchbeheekahhiaaDoor
open Go.RowKit Go.Sort Go.Shelf
set_option linter.unusedSimpArgs false
set_option linter.unusedVariables false
set_option maxRecDepth 100000

/-- The text's parts, how many digits each has, what stands behind it. -/
def wid (i : Nat) : Nat := [4, 2, 2, 2, 2, 2, 6].getD i 0
def sep (i : Nat) : List Int := [[45], [45], [84], [58], [58], [46]].getD i []
def preT (f : Nat → Nat) : Nat → List Int
  | 0 => []
  | i + 1 => preT f i ++ dgs (wid i) (f i) ++ sep i
/-- Hours, minutes, seconds. -/
def hmsN (n : Nat) : Nat × Nat × Nat := if n = 86400 then (23, 59, 60) else (n / 3600, n / 60 % 60, n % 60)
def partN (Y MO DD us : Nat) (i : Nat) : Nat := [Y, MO, DD, (hmsN (us / 1000000)).1, (hmsN (us / 1000000)).2.1, (hmsN (us / 1000000)).2.2, us % 1000000].getD i 0
/-- What Text answers. -/
noncomputable def txtL (day micro : Int) : List Int := preT (partN (2000 + monOf day / 12) (monN (monOf day)) (day - monS (monOf day) + 1).toNat micro.toNat) 7
noncomputable def txtF (day micro : Int) : ByteArray × Int := if (0 ≤ day ∧ day ≤ 34000) ∧ 0 ≤ micro ∧ micro ≤ 86400999999 then (strOfNums (txtL day micro), 0) else (ByteArray.empty, 1)

set_option maxHeartbeats 4000000 in
/-- The loop of Text over seven parts, as a contract of its rounds. -/
theorem ctext_any (day micro : Int) (w : World) (ht : TB w) (hl : TL w) :
    Calls Tryd.prog 20 #[.agg #[.int .i64 day, .int .i64 micro]] w fun e w' => e = .returned (.tuple #[.string (txtF day micro).1, .int .i64 (txtF day micro).2]) ∧ Ext w w' := by
  have HT := Lib.hid ht
  have HTL := Lib.hid hl
  clear ht hl
  have hB := Bk.new w 24 #[.int .i64 day, .int .i64 micro]
  have hE : Ext w (w.alloc (.cells #[.int .i64 day, .int .i64 micro] 24)) := (Ext.refl w).alloc _
  go_enter Tryd.func20, Tryd.ntmps20
  go_upto_region 1 with fail
  generalize w.alloc (.cells #[.int .i64 day, .int .i64 micro] 24) = V at *
  generalize w.heap.size = b at hB ⊢
  have g0 := hB.c 0 _ rfl
  have g1 := hB.c 1 _ rfl
  go_wp2_with fail
  refine (kdate_any day V (HTL.out.ext hE)).mono ?_
  rintro e w1 ⟨rfl, rfl⟩
  by_cases hday : 0 ≤ day ∧ day ≤ 34000
  · obtain ⟨hm, hm9⟩ := monOf_spec hday.1 hday.2
    rw [datF_yes hday.1 hday.2 hm]
    rcases hmi : inW micro 0 86400999999 with _ | _
    · have HR : Hid (txtF day micro = (ByteArray.empty, 1)) := Lib.hid (by unfold txtF; rw [if_neg (fun h => by rw [inW_yes h.2.1 h.2.2] at hmi; cases hmi)])
      have HMI := Lib.hid hmi
      clear hmi hm hday
      go_wp2_with fail
      refine (cwithin_any micro 0 86400999999 w1).mono ?_
      rintro e w2 ⟨rfl, rfl⟩
      rw [HMI.out]
      go_wp2_with fail
      go_ret2
      exact ⟨by rw [HR.out]; rfl, hE⟩
    · obtain ⟨hmi0, hmi9⟩ := inW_iff.1 hmi
      have HMI := Lib.hid hmi
      have HR : Hid (txtF day micro = (strOfNums (preT (partN (2000 + monOf day / 12) (monN (monOf day)) (day - monS (monOf day) + 1).toNat micro.toNat) 7), 0)) := Lib.hid (by unfold txtF; rw [if_pos ⟨hday, hmi0, hmi9⟩]; rfl)
      obtain ⟨us, rfl⟩ : ∃ us : Nat, micro = (us : Int) := ⟨micro.toNat, by omega⟩
      rw [Int.toNat_natCast] at HR
      have hin := hm.2
      have hin2 := hm.1
      have hmm : monS (monOf day + 1) = monS (monOf day) + lenN (monOf day) := rfl
      have hll := lenN_bd (monOf day)
      have hmb := monN_bd (monOf day)
      obtain ⟨Y, hY⟩ : ∃ Y : Nat, 2000 + monOf day / 12 = Y := ⟨_, rfl⟩
      have hYI : yearN (monOf day) = (Y : Int) := by unfold yearN; omega
      obtain ⟨DD, hDD⟩ : ∃ DD : Nat, (day - monS (monOf day) + 1).toNat = DD := ⟨_, rfl⟩
      have hDI : day - monS (monOf day) + 1 = (DD : Int) := by omega
      rw [hYI, hDI]
      rw [hY, hDD] at HR
      have hY9 : Y < 10000 := by omega
      have hD9 : DD < 100 := by omega
      generalize monN (monOf day) = MO at *
      clear hmi hm hday hin hin2 hmm hll hY hYI hDD hDI hm9
      go_wp2_with fail
      refine (cwithin_any (us : Int) 0 86400999999 w1).mono ?_
      rintro e w2 ⟨rfl, rfl⟩
      rw [HMI.out]
      obtain ⟨n, hn⟩ : ∃ n : Nat, us / 1000000 = n := ⟨_, rfl⟩
      have hnI : (us : Int) / 1000000 = (n : Int) := by omega
      have hn9 : n ≤ 86400 := by omega
      have hu6 : us % 1000000 < 1000000 := Nat.mod_lt _ (by decide)
      have hf : ∀ i, partN Y MO DD us i = [Y, MO, DD, (hmsN n).1, (hmsN n).2.1, (hmsN n).2.2, us % 1000000].getD i 0 := fun i => by unfold partN; rw [hn]
      have hb0 : partN Y MO DD us 0 = Y := hf 0
      have hb1 : partN Y MO DD us 1 = MO := hf 1
      have hb2 : partN Y MO DD us 2 = DD := hf 2
      have hb3 : partN Y MO DD us 3 = (hmsN n).1 := hf 3
      have hb4 : partN Y MO DD us 4 = (hmsN n).2.1 := hf 4
      have hb5 : partN Y MO DD us 5 = (hmsN n).2.2 := hf 5
      have hb6 : partN Y MO DD us 6 = us % 1000000 := hf 6
      have hh1 : (hmsN n).1 < 100 := by unfold hmsN; split <;> simp <;> omega
      have hh2 : (hmsN n).2.1 < 100 := by unfold hmsN; split <;> simp <;> omega
      have hh3 : (hmsN n).2.2 < 100 := by unfold hmsN; split <;> simp <;> omega
      have hM9 : MO < 100 := by omega
      generalize partN Y MO DD us = f at *
      clear hf
      -- the parts as they are written: the last ones may be written over
      have hcase : (n = 86400 ∧ hmsN n = (23, 59, 60)) ∨ (¬ n = 86400 ∧ hmsN n = (n / 3600, n / 60 % 60, n % 60)) := by
        by_cases h : n = 86400
        · exact .inl ⟨h, by unfold hmsN; rw [if_pos h]⟩
        · exact .inr ⟨h, by unfold hmsN; rw [if_neg h]⟩
      have HLOOP : Hid (∀ (wr : World), wr = wr) := Lib.hid fun _ => rfl
      rcases hcase with ⟨hn6, hh⟩ | ⟨hn6, hh⟩
      · rw [hh] at hb3 hb4 hb5 hh1 hh2 hh3
        clear hh
        have e0 : ((f 0 : Nat) : Int) = (Y : Int) := by rw [hb0]
        have e1 : ((f 1 : Nat) : Int) = (MO : Int) := by rw [hb1]
        have e2 : ((f 2 : Nat) : Int) = (DD : Int) := by rw [hb2]
        have e3 : ((f 3 : Nat) : Int) = 23 := by rw [hb3]; rfl
        have e4 : ((f 4 : Nat) : Int) = 59 := by rw [hb4]; rfl
        have e5 : ((f 5 : Nat) : Int) = 60 := by rw [hb5]; rfl
        have e6 : ((f 6 : Nat) : Int) = (us : Int) % 1000000 := by rw [hb6]; omega
        have HH : Hid (f 0 < 10 ^ 4 ∧ f 1 < 10 ^ 2 ∧ f 2 < 10 ^ 2 ∧ f 3 < 10 ^ 2 ∧ f 4 < 10 ^ 2 ∧ f 5 < 10 ^ 2 ∧ f 6 < 10 ^ 6) := Lib.hid (by rw [hb0, hb1, hb2, hb3, hb4, hb5, hb6]; exact ⟨hY9, hM9, hD9, hh1, hh2, hh3, hu6⟩)
        have HE0 := Lib.hid e0
        have HE1 := Lib.hid e1
        have HE2 := Lib.hid e2
        have HE3 := Lib.hid e3
        have HE4 := Lib.hid e4
        have HE5 := Lib.hid e5
        have HE6 := Lib.hid e6
        clear e0 e1 e2 e3 e4 e5 e6 hb0 hb1 hb2 hb3 hb4 hb5 hb6 hh1 hh2 hh3 hY9 hM9 hD9 hu6 HLOOP hmb
        go_upto_region 6 with fail
        have hP0 := Bk.new w1 3 #[.int .i64 (Y : Int), .int .i64 (MO : Int), .int .i64 (DD : Int), .int .i64 24, .int .i64 0, .int .i64 0, .int .i64 ((us : Int) % 1000000)]
        have hbp : w1.heap.size ≤ w1.heap.size := Nat.le_refl _
        have hx0 : Ext w1 (w1.alloc (.cells #[.int .i64 (Y : Int), .int .i64 (MO : Int), .int .i64 (DD : Int), .int .i64 24, .int .i64 0, .int .i64 0, .int .i64 ((us : Int) % 1000000)] 3)) := (Ext.refl w1).alloc _
        generalize w1.alloc (.cells #[.int .i64 (Y : Int), .int .i64 (MO : Int), .int .i64 (DD : Int), .int .i64 24, .int .i64 0, .int .i64 0, .int .i64 ((us : Int) % 1000000)] 3) = U at *
        generalize hbpe : w1.heap.size = bp at hP0 ⊢
        replace hbp : w1.heap.size ≤ bp := Nat.le_of_eq hbpe
        clear hbpe g0 g1
        have q3 := hP0.c 3 _ rfl
        have q4 := hP0.c 4 _ rfl
        have q5 := hP0.c 5 _ rfl
        have f3 := hP0.free 3
        have f4 := hP0.free 4
        have f5 := hP0.free 5
        go_upto_region 8 with fail
        have hP1 := ((hP0.set 3 (.int .i64 23)).set 4 (.int .i64 59)).set 5 (.int .i64 60)
        replace hx0 := ((hx0.setCell (p := ⟨bp, 3, none⟩) hbp (.int .i64 23)).setCell (p := ⟨bp, 4, none⟩) hbp (.int .i64 59)).setCell (p := ⟨bp, 5, none⟩) hbp (.int .i64 60)
        clear q3 q4 q5 f3 f4 f5 hP0
        generalize ((U.setCell ⟨bp, 3, none⟩ (.int .i64 23)).setCell ⟨bp, 4, none⟩ (.int .i64 59)).setCell ⟨bp, 5, none⟩ (.int .i64 60) = U2 at *
        have hP : Bk U2 bp 3 #[.int .i64 ((f 0 : Nat) : Int), .int .i64 ((f 1 : Nat) : Int), .int .i64 ((f 2 : Nat) : Int), .int .i64 ((f 3 : Nat) : Int), .int .i64 ((f 4 : Nat) : Int), .int .i64 ((f 5 : Nat) : Int), .int .i64 ((f 6 : Nat) : Int)] := by rw [HE0.out, HE1.out, HE2.out, HE3.out, HE4.out, HE5.out, HE6.out]; exact hP1
        replace hE := hE.trans hx0
        have hTB := Lib.hid (TB.ext HT.out hE)
        clear hP1 hx0 hbp hB
        go_wp2_with fail
        go_loopw [10, 56] (fun bs i wr => ∃ (k : Nat) (aa : Option Addr) (cc : Nat), k ≤ 7 ∧ i = .int .i64 (k : Int) ∧ bs = .slice aa ([0, 5, 8, 11, 14, 17, 20, 26].getD k 0) cc ∧ OwI .u8 5 U2.heap.size wr aa ([0, 5, 8, 11, 14, 17, 20, 26].getD k 0) cc (preT f k) ∧ Ext U2 wr) (fun _ i _ => 7 - (intOf i).toNat)
        case atStart => exact ⟨0, none, 0, by omega, rfl, rfl, OwI.nil _ _ _ _, Ext.refl _⟩
        case round =>
          obtain ⟨k, aa, cc, hk, rfl, rfl, ho, hx⟩ := hrel
          have hPr := hP.ext hx
          obtain ⟨r0, r1, r2, r3, r4, r5, r6⟩ := HH.out
          have hk7 : k = 0 ∨ k = 1 ∨ k = 2 ∨ k = 3 ∨ k = 4 ∨ k = 5 ∨ k = 6 ∨ k = 7 := by omega
          rcases hk7 with rfl | rfl | rfl | rfl | rfl | rfl | rfl | rfl
          · simp only [List.getD_cons_succ, List.getD_cons_zero] at ho ⊢
            have p := hPr.c 0 _ rfl
            have HF : Hid (preT f 1 = preT f 0 ++ dgs 4 (f 0) ++ [45]) := Lib.hid rfl
            clear hP
            generalize preT f 0 = PT at *
            go_wp2_with fail
            refine (pad_any U2 aa 0 cc PT (f 0) 4 ⟨by decide, by decide⟩ r0 (by decide) _ (hx.alloc _) (ho.ext ((Ext.refl wr).alloc _)) hTB.out).mono ?_
            rintro e w3 ⟨⟨g, c3, rfl, ho3⟩, hx3⟩
            have hz3 := hx3.sz
            go_wp2_with (at_builtin; refine app1 el_u8 rfl _ _ rfl _ U2.heap.size _ _ _ _ 45 rfl ho3 rfl hz3 (by unfold maxLen; omega) (by omega) ?_; intro g5 c5 w5 ho5 hB5; refine hold ?_)
            refine held ?_
            go_wp2_with fail
            exact ⟨⟨1, _, c5, by omega, by simp, rfl, by rw [HF.out]; exact ho5, Below.trans hx3 hB5⟩, by simp only [intOf]; omega⟩
          · simp only [List.getD_cons_succ, List.getD_cons_zero] at ho ⊢
            have p := hPr.c 1 _ rfl
            have HF : Hid (preT f 2 = preT f 1 ++ dgs 2 (f 1) ++ [45]) := Lib.hid rfl
            clear hP
            generalize preT f 1 = PT at *
            go_wp2_with fail
            refine (pad_any U2 aa 5 cc PT (f 1) 2 ⟨by decide, by decide⟩ r1 (by decide) _ (hx.alloc _) (ho.ext ((Ext.refl wr).alloc _)) hTB.out).mono ?_
            rintro e w3 ⟨⟨g, c3, rfl, ho3⟩, hx3⟩
            have hz3 := hx3.sz
            go_wp2_with (at_builtin; refine app1 el_u8 rfl _ _ rfl _ U2.heap.size _ _ _ _ 45 rfl ho3 rfl hz3 (by unfold maxLen; omega) (by omega) ?_; intro g5 c5 w5 ho5 hB5; refine hold ?_)
            refine held ?_
            go_wp2_with fail
            exact ⟨⟨2, _, c5, by omega, by simp, rfl, by rw [HF.out]; exact ho5, Below.trans hx3 hB5⟩, by simp only [intOf]; omega⟩
          · simp only [List.getD_cons_succ, List.getD_cons_zero] at ho ⊢
            have p := hPr.c 2 _ rfl
            have HF : Hid (preT f 3 = preT f 2 ++ dgs 2 (f 2) ++ [84]) := Lib.hid rfl
            clear hP
            generalize preT f 2 = PT at *
            go_wp2_with fail
            refine (pad_any U2 aa 8 cc PT (f 2) 2 ⟨by decide, by decide⟩ r2 (by decide) _ (hx.alloc _) (ho.ext ((Ext.refl wr).alloc _)) hTB.out).mono ?_
            rintro e w3 ⟨⟨g, c3, rfl, ho3⟩, hx3⟩
            have hz3 := hx3.sz
            go_wp2_with (at_builtin; refine app1 el_u8 rfl _ _ rfl _ U2.heap.size _ _ _ _ 84 rfl ho3 rfl hz3 (by unfold maxLen; omega) (by omega) ?_; intro g5 c5 w5 ho5 hB5; refine hold ?_)
            refine held ?_
            go_wp2_with fail
            exact ⟨⟨3, _, c5, by omega, by simp, rfl, by rw [HF.out]; exact ho5, Below.trans hx3 hB5⟩, by simp only [intOf]; omega⟩
          · simp only [List.getD_cons_succ, List.getD_cons_zero] at ho ⊢
            have p := hPr.c 3 _ rfl
            have HF : Hid (preT f 4 = preT f 3 ++ dgs 2 (f 3) ++ [58]) := Lib.hid rfl
            clear hP
            generalize preT f 3 = PT at *
            go_wp2_with fail
            refine (pad_any U2 aa 11 cc PT (f 3) 2 ⟨by decide, by decide⟩ r3 (by decide) _ (hx.alloc _) (ho.ext ((Ext.refl wr).alloc _)) hTB.out).mono ?_
            rintro e w3 ⟨⟨g, c3, rfl, ho3⟩, hx3⟩
            have hz3 := hx3.sz
            go_wp2_with (at_builtin; refine app1 el_u8 rfl _ _ rfl _ U2.heap.size _ _ _ _ 58 rfl ho3 rfl hz3 (by unfold maxLen; omega) (by omega) ?_; intro g5 c5 w5 ho5 hB5; refine hold ?_)
            refine held ?_
            go_wp2_with fail
            exact ⟨⟨4, _, c5, by omega, by simp, rfl, by rw [HF.out]; exact ho5, Below.trans hx3 hB5⟩, by simp only [intOf]; omega⟩
          · simp only [List.getD_cons_succ, List.getD_cons_zero] at ho ⊢
            have p := hPr.c 4 _ rfl
            have HF : Hid (preT f 5 = preT f 4 ++ dgs 2 (f 4) ++ [58]) := Lib.hid rfl
            clear hP
            generalize preT f 4 = PT at *
            go_wp2_with fail
            refine (pad_any U2 aa 14 cc PT (f 4) 2 ⟨by decide, by decide⟩ r4 (by decide) _ (hx.alloc _) (ho.ext ((Ext.refl wr).alloc _)) hTB.out).mono ?_
            rintro e w3 ⟨⟨g, c3, rfl, ho3⟩, hx3⟩
            have hz3 := hx3.sz
            go_wp2_with (at_builtin; refine app1 el_u8 rfl _ _ rfl _ U2.heap.size _ _ _ _ 58 rfl ho3 rfl hz3 (by unfold maxLen; omega) (by omega) ?_; intro g5 c5 w5 ho5 hB5; refine hold ?_)
            refine held ?_
            go_wp2_with fail
            exact ⟨⟨5, _, c5, by omega, by simp, rfl, by rw [HF.out]; exact ho5, Below.trans hx3 hB5⟩, by simp only [intOf]; omega⟩
          · simp only [List.getD_cons_succ, List.getD_cons_zero] at ho ⊢
            have p := hPr.c 5 _ rfl
            have HF : Hid (preT f 6 = preT f 5 ++ dgs 2 (f 5) ++ [46]) := Lib.hid rfl
            clear hP
            generalize preT f 5 = PT at *
            go_wp2_with fail
            refine (pad_any U2 aa 17 cc PT (f 5) 2 ⟨by decide, by decide⟩ r5 (by decide) _ (hx.alloc _) (ho.ext ((Ext.refl wr).alloc _)) hTB.out).mono ?_
            rintro e w3 ⟨⟨g, c3, rfl, ho3⟩, hx3⟩
            have hz3 := hx3.sz
            go_wp2_with (at_builtin; refine app1 el_u8 rfl _ _ rfl _ U2.heap.size _ _ _ _ 46 rfl ho3 rfl hz3 (by unfold maxLen; omega) (by omega) ?_; intro g5 c5 w5 ho5 hB5; refine hold ?_)
            refine held ?_
            go_wp2_with fail
            exact ⟨⟨6, _, c5, by omega, by simp, rfl, by rw [HF.out]; exact ho5, Below.trans hx3 hB5⟩, by simp only [intOf]; omega⟩
          · simp only [List.getD_cons_succ, List.getD_cons_zero] at ho ⊢
            have p := hPr.c 6 _ rfl
            have HF : Hid (preT f 7 = preT f 6 ++ dgs 6 (f 6) ++ []) := Lib.hid rfl
            clear hP
            generalize preT f 6 = PT at *
            go_wp2_with fail
            refine (pad_any U2 aa 20 cc PT (f 6) 6 ⟨by decide, by decide⟩ r6 (by decide) _ (hx.alloc _) (ho.ext ((Ext.refl wr).alloc _)) hTB.out).mono ?_
            rintro e w3 ⟨⟨g, c3, rfl, ho3⟩, hx3⟩
            have hz3 := hx3.sz
            go_wp2_with fail
            exact ⟨⟨7, _, c3, by omega, by simp, rfl, by rw [HF.out, List.append_nil]; exact ho3, hx3⟩, by simp only [intOf]; omega⟩
          · simp only [List.getD_cons_succ, List.getD_cons_zero] at ho ⊢
            have hsl := ho.hlen
            obtain ⟨g, off, rfl, hcell⟩ : ∃ g off, aa = some ⟨g, off, none⟩ ∧ ∀ i, i < 26 → wr.cell? ⟨g, off + i, none⟩ = some (.int .u8 ((preT f 7).getD i 0)) := by
              rcases ho.2 with ⟨hv, h0⟩ | ⟨g, cap, cur, hv, -⟩
              · omega
              · simp only [Value.slice.injEq] at hv
                obtain ⟨rfl, -, rfl⟩ := hv
                exact ⟨g, 0, rfl, fun i hi => by rw [Nat.zero_add]; exact ho.cellAt hi⟩
            have hcv := run_convert_bytes_arg (P := Tryd.prog) wr 66 5 (by kernel_rfl) (by kernel_rfl) g off 26 cc (preT f 7) hsl hcell 9 (by kernel_rfl)
            clear hP hcell
            generalize hST : strOfNums (preT f 7) = ST at *
            have HST := Lib.hid hST
            clear hST
            go_wp2_with fail
            go_ret2
            exact ⟨by rw [HR.out]; rfl, hE.trans hx⟩
      · rw [hh] at hb3 hb4 hb5 hh1 hh2 hh3
        clear hh
        have e0 : ((f 0 : Nat) : Int) = (Y : Int) := by rw [hb0]
        have e1 : ((f 1 : Nat) : Int) = (MO : Int) := by rw [hb1]
        have e2 : ((f 2 : Nat) : Int) = (DD : Int) := by rw [hb2]
        have e3 : ((f 3 : Nat) : Int) = (n : Int) / 3600 := by rw [hb3]; simp only []; omega
        have e4 : ((f 4 : Nat) : Int) = (n : Int) / 60 % 60 := by rw [hb4]; simp only []; omega
        have e5 : ((f 5 : Nat) : Int) = (n : Int) % 60 := by rw [hb5]; simp only []; omega
        have e6 : ((f 6 : Nat) : Int) = (us : Int) % 1000000 := by rw [hb6]; omega
        have HH : Hid (f 0 < 10 ^ 4 ∧ f 1 < 10 ^ 2 ∧ f 2 < 10 ^ 2 ∧ f 3 < 10 ^ 2 ∧ f 4 < 10 ^ 2 ∧ f 5 < 10 ^ 2 ∧ f 6 < 10 ^ 6) := Lib.hid (by rw [hb0, hb1, hb2, hb3, hb4, hb5, hb6]; exact ⟨hY9, hM9, hD9, hh1, hh2, hh3, hu6⟩)
        have HE0 := Lib.hid e0
        have HE1 := Lib.hid e1
        have HE2 := Lib.hid e2
        have HE3 := Lib.hid e3
        have HE4 := Lib.hid e4
        have HE5 := Lib.hid e5
        have HE6 := Lib.hid e6
        clear e0 e1 e2 e3 e4 e5 e6 hb0 hb1 hb2 hb3 hb4 hb5 hb6 hh1 hh2 hh3 hY9 hM9 hD9 hu6 HLOOP hmb
        have hn7 : ¬ (86399 : Int) < (n : Int) := by omega
        go_upto_region 6 with fail
        have hP0 := Bk.new w1 3 #[.int .i64 (Y : Int), .int .i64 (MO : Int), .int .i64 (DD : Int), .int .i64 ((n : Int) / 3600), .int .i64 ((n : Int) / 60 % 60), .int .i64 ((n : Int) % 60), .int .i64 ((us : Int) % 1000000)]
        have hbp : w1.heap.size ≤ w1.heap.size := Nat.le_refl _
        have hx0 : Ext w1 (w1.alloc (.cells #[.int .i64 (Y : Int), .int .i64 (MO : Int), .int .i64 (DD : Int), .int .i64 ((n : Int) / 3600), .int .i64 ((n : Int) / 60 % 60), .int .i64 ((n : Int) % 60), .int .i64 ((us : Int) % 1000000)] 3)) := (Ext.refl w1).alloc _
        generalize w1.alloc (.cells #[.int .i64 (Y : Int), .int .i64 (MO : Int), .int .i64 (DD : Int), .int .i64 ((n : Int) / 3600), .int .i64 ((n : Int) / 60 % 60), .int .i64 ((n : Int) % 60), .int .i64 ((us : Int) % 1000000)] 3) = U at *
        generalize hbpe : w1.heap.size = bp at hP0 ⊢
        replace hbp : w1.heap.size ≤ bp := Nat.le_of_eq hbpe
        clear hbpe g0 g1
        go_upto_region 8 with fail
        have hP1 := hP0
        clear hP0
        generalize U = U2 at *
        have hP : Bk U2 bp 3 #[.int .i64 ((f 0 : Nat) : Int), .int .i64 ((f 1 : Nat) : Int), .int .i64 ((f 2 : Nat) : Int), .int .i64 ((f 3 : Nat) : Int), .int .i64 ((f 4 : Nat) : Int), .int .i64 ((f 5 : Nat) : Int), .int .i64 ((f 6 : Nat) : Int)] := by rw [HE0.out, HE1.out, HE2.out, HE3.out, HE4.out, HE5.out, HE6.out]; exact hP1
        replace hE := hE.trans hx0
        have hTB := Lib.hid (TB.ext HT.out hE)
        clear hP1 hx0 hbp hB
        go_wp2_with fail
        go_loopw [10, 56] (fun bs i wr => ∃ (k : Nat) (aa : Option Addr) (cc : Nat), k ≤ 7 ∧ i = .int .i64 (k : Int) ∧ bs = .slice aa ([0, 5, 8, 11, 14, 17, 20, 26].getD k 0) cc ∧ OwI .u8 5 U2.heap.size wr aa ([0, 5, 8, 11, 14, 17, 20, 26].getD k 0) cc (preT f k) ∧ Ext U2 wr) (fun _ i _ => 7 - (intOf i).toNat)
        case atStart => exact ⟨0, none, 0, by omega, rfl, rfl, OwI.nil _ _ _ _, Ext.refl _⟩
        case round =>
          obtain ⟨k, aa, cc, hk, rfl, rfl, ho, hx⟩ := hrel
          have hPr := hP.ext hx
          obtain ⟨r0, r1, r2, r3, r4, r5, r6⟩ := HH.out
          have hk7 : k = 0 ∨ k = 1 ∨ k = 2 ∨ k = 3 ∨ k = 4 ∨ k = 5 ∨ k = 6 ∨ k = 7 := by omega
          rcases hk7 with rfl | rfl | rfl | rfl | rfl | rfl | rfl | rfl
          · simp only [List.getD_cons_succ, List.getD_cons_zero] at ho ⊢
            have p := hPr.c 0 _ rfl
            have HF : Hid (preT f 1 = preT f 0 ++ dgs 4 (f 0) ++ [45]) := Lib.hid rfl
            clear hP
            generalize preT f 0 = PT at *
            go_wp2_with fail
            refine (pad_any U2 aa 0 cc PT (f 0) 4 ⟨by decide, by decide⟩ r0 (by decide) _ (hx.alloc _) (ho.ext ((Ext.refl wr).alloc _)) hTB.out).mono ?_
            rintro e w3 ⟨⟨g, c3, rfl, ho3⟩, hx3⟩
            have hz3 := hx3.sz
            go_wp2_with (at_builtin; refine app1 el_u8 rfl _ _ rfl _ U2.heap.size _ _ _ _ 45 rfl ho3 rfl hz3 (by unfold maxLen; omega) (by omega) ?_; intro g5 c5 w5 ho5 hB5; refine hold ?_)
            refine held ?_
            go_wp2_with fail
            exact ⟨⟨1, _, c5, by omega, by simp, rfl, by rw [HF.out]; exact ho5, Below.trans hx3 hB5⟩, by simp only [intOf]; omega⟩
          · simp only [List.getD_cons_succ, List.getD_cons_zero] at ho ⊢
            have p := hPr.c 1 _ rfl
            have HF : Hid (preT f 2 = preT f 1 ++ dgs 2 (f 1) ++ [45]) := Lib.hid rfl
            clear hP
            generalize preT f 1 = PT at *
            go_wp2_with fail
            refine (pad_any U2 aa 5 cc PT (f 1) 2 ⟨by decide, by decide⟩ r1 (by decide) _ (hx.alloc _) (ho.ext ((Ext.refl wr).alloc _)) hTB.out).mono ?_
            rintro e w3 ⟨⟨g, c3, rfl, ho3⟩, hx3⟩
            have hz3 := hx3.sz
            go_wp2_with (at_builtin; refine app1 el_u8 rfl _ _ rfl _ U2.heap.size _ _ _ _ 45 rfl ho3 rfl hz3 (by unfold maxLen; omega) (by omega) ?_; intro g5 c5 w5 ho5 hB5; refine hold ?_)
            refine held ?_
            go_wp2_with fail
            exact ⟨⟨2, _, c5, by omega, by simp, rfl, by rw [HF.out]; exact ho5, Below.trans hx3 hB5⟩, by simp only [intOf]; omega⟩
          · simp only [List.getD_cons_succ, List.getD_cons_zero] at ho ⊢
            have p := hPr.c 2 _ rfl
            have HF : Hid (preT f 3 = preT f 2 ++ dgs 2 (f 2) ++ [84]) := Lib.hid rfl
            clear hP
            generalize preT f 2 = PT at *
            go_wp2_with fail
            refine (pad_any U2 aa 8 cc PT (f 2) 2 ⟨by decide, by decide⟩ r2 (by decide) _ (hx.alloc _) (ho.ext ((Ext.refl wr).alloc _)) hTB.out).mono ?_
            rintro e w3 ⟨⟨g, c3, rfl, ho3⟩, hx3⟩
            have hz3 := hx3.sz
            go_wp2_with (at_builtin; refine app1 el_u8 rfl _ _ rfl _ U2.heap.size _ _ _ _ 84 rfl ho3 rfl hz3 (by unfold maxLen; omega) (by omega) ?_; intro g5 c5 w5 ho5 hB5; refine hold ?_)
            refine held ?_
            go_wp2_with fail
            exact ⟨⟨3, _, c5, by omega, by simp, rfl, by rw [HF.out]; exact ho5, Below.trans hx3 hB5⟩, by simp only [intOf]; omega⟩
          · simp only [List.getD_cons_succ, List.getD_cons_zero] at ho ⊢
            have p := hPr.c 3 _ rfl
            have HF : Hid (preT f 4 = preT f 3 ++ dgs 2 (f 3) ++ [58]) := Lib.hid rfl
            clear hP
            generalize preT f 3 = PT at *
            go_wp2_with fail
            refine (pad_any U2 aa 11 cc PT (f 3) 2 ⟨by decide, by decide⟩ r3 (by decide) _ (hx.alloc _) (ho.ext ((Ext.refl wr).alloc _)) hTB.out).mono ?_
            rintro e w3 ⟨⟨g, c3, rfl, ho3⟩, hx3⟩
            have hz3 := hx3.sz
            go_wp2_with (at_builtin; refine app1 el_u8 rfl _ _ rfl _ U2.heap.size _ _ _ _ 58 rfl ho3 rfl hz3 (by unfold maxLen; omega) (by omega) ?_; intro g5 c5 w5 ho5 hB5; refine hold ?_)
            refine held ?_
            go_wp2_with fail
            exact ⟨⟨4, _, c5, by omega, by simp, rfl, by rw [HF.out]; exact ho5, Below.trans hx3 hB5⟩, by simp only [intOf]; omega⟩
          · simp only [List.getD_cons_succ, List.getD_cons_zero] at ho ⊢
            have p := hPr.c 4 _ rfl
            have HF : Hid (preT f 5 = preT f 4 ++ dgs 2 (f 4) ++ [58]) := Lib.hid rfl
            clear hP
            generalize preT f 4 = PT at *
            go_wp2_with fail
            refine (pad_any U2 aa 14 cc PT (f 4) 2 ⟨by decide, by decide⟩ r4 (by decide) _ (hx.alloc _) (ho.ext ((Ext.refl wr).alloc _)) hTB.out).mono ?_
            rintro e w3 ⟨⟨g, c3, rfl, ho3⟩, hx3⟩
            have hz3 := hx3.sz
            go_wp2_with (at_builtin; refine app1 el_u8 rfl _ _ rfl _ U2.heap.size _ _ _ _ 58 rfl ho3 rfl hz3 (by unfold maxLen; omega) (by omega) ?_; intro g5 c5 w5 ho5 hB5; refine hold ?_)
            refine held ?_
            go_wp2_with fail
            exact ⟨⟨5, _, c5, by omega, by simp, rfl, by rw [HF.out]; exact ho5, Below.trans hx3 hB5⟩, by simp only [intOf]; omega⟩
          · simp only [List.getD_cons_succ, List.getD_cons_zero] at ho ⊢
            have p := hPr.c 5 _ rfl
            have HF : Hid (preT f 6 = preT f 5 ++ dgs 2 (f 5) ++ [46]) := Lib.hid rfl
            clear hP
            generalize preT f 5 = PT at *
            go_wp2_with fail
            refine (pad_any U2 aa 17 cc PT (f 5) 2 ⟨by decide, by decide⟩ r5 (by decide) _ (hx.alloc _) (ho.ext ((Ext.refl wr).alloc _)) hTB.out).mono ?_
            rintro e w3 ⟨⟨g, c3, rfl, ho3⟩, hx3⟩
            have hz3 := hx3.sz
            go_wp2_with (at_builtin; refine app1 el_u8 rfl _ _ rfl _ U2.heap.size _ _ _ _ 46 rfl ho3 rfl hz3 (by unfold maxLen; omega) (by omega) ?_; intro g5 c5 w5 ho5 hB5; refine hold ?_)
            refine held ?_
            go_wp2_with fail
            exact ⟨⟨6, _, c5, by omega, by simp, rfl, by rw [HF.out]; exact ho5, Below.trans hx3 hB5⟩, by simp only [intOf]; omega⟩
          · simp only [List.getD_cons_succ, List.getD_cons_zero] at ho ⊢
            have p := hPr.c 6 _ rfl
            have HF : Hid (preT f 7 = preT f 6 ++ dgs 6 (f 6) ++ []) := Lib.hid rfl
            clear hP
            generalize preT f 6 = PT at *
            go_wp2_with fail
            refine (pad_any U2 aa 20 cc PT (f 6) 6 ⟨by decide, by decide⟩ r6 (by decide) _ (hx.alloc _) (ho.ext ((Ext.refl wr).alloc _)) hTB.out).mono ?_
            rintro e w3 ⟨⟨g, c3, rfl, ho3⟩, hx3⟩
            have hz3 := hx3.sz
            go_wp2_with fail
            exact ⟨⟨7, _, c3, by omega, by simp, rfl, by rw [HF.out, List.append_nil]; exact ho3, hx3⟩, by simp only [intOf]; omega⟩
          · simp only [List.getD_cons_succ, List.getD_cons_zero] at ho ⊢
            have hsl := ho.hlen
            obtain ⟨g, off, rfl, hcell⟩ : ∃ g off, aa = some ⟨g, off, none⟩ ∧ ∀ i, i < 26 → wr.cell? ⟨g, off + i, none⟩ = some (.int .u8 ((preT f 7).getD i 0)) := by
              rcases ho.2 with ⟨hv, h0⟩ | ⟨g, cap, cur, hv, -⟩
              · omega
              · simp only [Value.slice.injEq] at hv
                obtain ⟨rfl, -, rfl⟩ := hv
                exact ⟨g, 0, rfl, fun i hi => by rw [Nat.zero_add]; exact ho.cellAt hi⟩
            have hcv := run_convert_bytes_arg (P := Tryd.prog) wr 66 5 (by kernel_rfl) (by kernel_rfl) g off 26 cc (preT f 7) hsl hcell 9 (by kernel_rfl)
            clear hP hcell
            generalize hST : strOfNums (preT f 7) = ST at *
            have HST := Lib.hid hST
            clear hST
            go_wp2_with fail
            go_ret2
            exact ⟨by rw [HR.out]; rfl, hE.trans hx⟩
  · rw [datF_no hday]
    have HR : Hid (txtF day micro = (ByteArray.empty, 1)) := Lib.hid (by unfold txtF; rw [if_neg (fun h => hday h.1)])
    clear hday
    go_wp2_with fail
    go_ret2
    exact ⟨by rw [HR.out]; rfl, hE⟩
end Go.Proofs.YtchbeheekahhiaaDoor
