/-
  The inbox's small functions, walked: what was asked, the nonces, a box's own replies. Written by wip/gen_ic.py.
-/
import Derived.Test.YtdmfdimhjemngaaGreatDoorIP
import Derived.Test.YtdmfdimhjemngaaGreatDoorIM
namespace Go.Proofs.YtdmfdimhjemngaaGreatDoor
open Go.RowKit Go.Sort Go.Shelf
set_option linter.unusedSimpArgs false
set_option linter.unusedVariables false
set_option maxRecDepth 100000

open Go.Maps
theorem ibetween_any (n lo hi : Int) (w : World) : Calls Tryz.prog 21 #[.int .i64 n, .int .i64 lo, .int .i64 hi] w fun e w' => e = .returned (.bool (inC n lo hi)) ∧ w = w' := by
  by_cases h1 : lo ≤ n
  · by_cases h2 : n ≤ hi
    · have e : inC n lo hi = true := inC_iff.2 ⟨h1, h2⟩
      rw [e]; clear e
      go_enter Tryz.func21, Tryz.ntmps21
      go_wp2
      go_ret
      exact ⟨rfl, rfl⟩
    · have e : inC n lo hi = false := by unfold inC; simp; omega
      rw [e]; clear e
      go_enter Tryz.func21, Tryz.ntmps21
      go_wp2
      go_ret
      exact ⟨rfl, rfl⟩
  · have e : inC n lo hi = false := by unfold inC; simp; omega
    rw [e]; clear e
    go_enter Tryz.func21, Tryz.ntmps21
    go_wp2
    go_ret
    exact ⟨rfl, rfl⟩

/-- One step of what was asked. -/
def stepA (l : List Int) (i : Nat) : Prop := inC (nth l i) 1 16 = true ∧ (0 < i → nth l (i - 1) < nth l i)
theorem askB_steps {l : List Int} : askB l = true ↔ ∀ i, i < l.length → stepA l i := by
  rw [askB_iff]
  exact ⟨fun h i hi => ⟨inC_iff.2 (h i hi).1, (h i hi).2⟩, fun h i hi => ⟨inC_iff.1 (h i hi).1, (h i hi).2⟩⟩
theorem askB_no {l : List Int} {k : Nat} (hk : k < l.length) (h : ¬ stepA l k) : askB l = false := by
  rw [Bool.eq_false_iff]
  exact fun e => h (askB_steps.1 e k hk)

set_option maxHeartbeats 1000000 in
theorem iasked_any (a : Option Addr) (n c : Nat) (l : List Int) (w : World) (h1 : Sl .i64 w a n c l) :
    Calls Tryz.prog 22 #[.slice a n c] w fun e w' => e = .returned (.bool (askB l)) ∧ Ext w w' := by
  have bd := h1.bd
  have HL := Lib.hid h1.hlen
  go_enter Tryz.func22, Tryz.ntmps22
  go_wp2_with fail
  go_loopw [7] (fun i wr => ∃ (k : Nat), k ≤ n ∧ i = .int .i64 (k : Int) ∧ Hid (∀ j, j < k → stepA l j) ∧ Ext w wr) (fun i _ => n - (intOf i).toNat)
  case atStart => exact ⟨0, by omega, rfl, Lib.hid (fun i hi => absurd hi (by omega)), Ext.refl w⟩
  case round =>
    obtain ⟨k, hk, rfl, HOK, hE⟩ := hrel
    by_cases hlt : k < n
    · obtain ⟨x1, o1, rfl, hc1⟩ := h1.at (by omega)
      have d0 := hE.cell (hc1 k hlt)
      have dp : 0 < k → wr.cell? ⟨x1, o1 + (k - 1), none⟩ = some (.int .i64 (nth l (k - 1))) := fun h0 => hE.cell (hc1 (k - 1) (by omega))
      have HST : Hid (stepA l k ↔ inC (nth l k) 1 16 = true ∧ (0 < k → nth l (k - 1) < nth l k)) := Lib.hid Iff.rfl
      generalize nth l k = x at *
      generalize nth l (k - 1) = y at *
      have HDP := Lib.hid dp
      clear dp hc1
      rcases hb : inC x 1 16 with _ | _
      · have HB := Lib.hid hb
        have hbt := ibetween_any x 1 16
        rw [hb] at hbt
        clear hb
        go_wp2_with (go_at_call 21; refine (hbt _).mono ?_; rintro e w' ⟨rfl, rfl⟩)
        go_ret
        refine ⟨ret_bool ?_, hE⟩
        rw [askB_no (k := k) (by rw [HL.out]; exact hlt) (fun h => by have := (HST.out.1 h).1; rw [HB.out] at this; cases this)]
      · have HB := Lib.hid hb
        have hbt := ibetween_any x 1 16
        rw [hb] at hbt
        clear hb
        by_cases hk0 : k = 0
        · have hk1 : decide ((0 : Int) < (k : Int)) = false := by simp; omega
          have hk2 : decide (0 < k) = false := by simp; omega
          have HK0 := Lib.hid hk0
          clear hk0
          go_wp2_with (go_at_call 21; refine (hbt _).mono ?_; rintro e w' ⟨rfl, rfl⟩)
          refine ⟨⟨k + 1, by omega, by go_num, Lib.hid (fun i hi => ?_), hE⟩, by simp [intOf]; omega⟩
          by_cases e : i = k
          · rw [e]; exact HST.out.2 ⟨HB.out, fun h => absurd HK0.out (by omega)⟩
          · exact HOK.out i (by omega)
        · obtain ⟨m, rfl⟩ : ∃ m, k = m + 1 := ⟨k - 1, by omega⟩
          have hy := HDP.out (by omega)
          rw [show m + 1 - 1 = m by omega] at hy
          have hk1 : decide ((0 : Int) < (m : Int) + 1) = true := decide_eq_true (by omega)
          have hk2 : decide (0 < m + 1) = true := by simp
          have hml : (m : Int) < n := by omega
          have hwr : IntKind.i64.wrap ((m : Int) + 1 - 1) = m := IntWalk.i64_in _ (by omega) |>.trans (by omega)
          have HLT := Lib.hid hlt
          by_cases hlt2 : y < x
          · have hle : decide (x ≤ y) = false := by simp; omega
            have hle2 : ¬ x ≤ y := by omega
            have H2 := Lib.hid hlt2
            clear hlt2
            go_wp2_with (go_at_call 21; refine (hbt _).mono ?_; rintro e w' ⟨rfl, rfl⟩)
            refine ⟨⟨m + 1 + 1, by omega, by go_num, Lib.hid (fun i hi => ?_), hE⟩, by simp [intOf]; omega⟩
            by_cases e : i = m + 1
            · rw [e]; exact HST.out.2 ⟨HB.out, fun _ => H2.out⟩
            · exact HOK.out i (by omega)
          · have hle : decide (x ≤ y) = true := by simp; omega
            have hle2 : x ≤ y := by omega
            have H2 := Lib.hid hlt2
            clear hlt2
            go_wp2_with (go_at_call 21; refine (hbt _).mono ?_; rintro e w' ⟨rfl, rfl⟩)
            go_ret
            refine ⟨ret_bool ?_, hE⟩
            rw [askB_no (k := m + 1) (by rw [HL.out]; exact HLT.out) (fun h => by have h3 := (HST.out.1 h).2 (by omega); have h4 := H2.out; omega)]
    · obtain rfl : k = n := by omega
      have ht : askB l = true := askB_steps.2 (fun i hi => HOK.out i (by rw [← HL.out]; exact hi))
      have hlen := askB_len ht
      rw [HL.out] at hlen
      have q : decide ((k : Int) ≤ 16) = true := by simp; omega
      have HT := Lib.hid ht
      clear ht
      go_wp2_with fail
      go_ret
      exact ⟨ret_bool HT.out.symm, hE⟩

theorem inonce_any (b : Bx) (sa : Option Addr) (sn sc : Nat) (ga : Option Addr) (gn gc : Nat) (x : Int) (hx : (Lit.int .i64 x).wf = true) (w : World) (ho : b.Ok) (ht : TB w) :
    Calls Tryz.prog 31 #[.agg #[.int .i64 b.host, .int .i64 b.round, .int .u64 b.head, .int .i64 b.sent, .int .i64 b.wait, .slice sa sn sc, .slice ga gn gc], .int .i64 x] w fun e w' => e = .returned (.int .u64 (nonF b.head b.host b.round x)) ∧ Ext w w' := by
  have HT := Lib.hid ht
  clear ht
  have hE0 : Ext w (w.alloc (.cells #[.int .i64 b.host, .int .i64 b.round, .int .u64 b.head, .int .i64 b.sent, .int .i64 b.wait, .slice sa sn sc, .slice ga gn gc] 29)) := (Ext.refl w).alloc _
  go_enter Tryz.func31, Tryz.ntmps31
  go_wp2_with fail
  refine (nonce_any _ _ _ _ ho.head ho.host ho.round hx _ (TB.ext HT.out hE0)).mono ?_
  rintro e w1 ⟨rfl, hE1⟩
  go_wp2_with fail
  go_ret
  exact ⟨rfl, hE0.trans hE1⟩

theorem key_int : Keyed Tryz.prog 3 := int_keyed Tryz.underlying3
theorem zero_u64 (w : World) : (zeroValue 26).run Tryz.prog w = .ok (.int .u64 0) w := by kernel_rfl
/-- The map of the nonces lies in this block. -/
def MpO (w : World) (b : Bx) (g m k : Nat) : Prop := w.ownsMap Tryz.prog 3 (plainElem Tryz.prog 26) g m (nonD b k)
theorem MpO.ext {w w' : World} {b : Bx} {g m k : Nat} (h : MpO w b g m k) (hE : Ext w w') : MpO w' b g m k := World.ownsMap.kept h (row := none) ⟨hE.os, hE.tape, hE.output, hE.size, fun k hk _ => hE.block k hk⟩ (by simp)
theorem MpO.lt {w : World} {b : Bx} {g m k : Nat} (h : MpO w b g m k) : g < w.heap.size := World.ownsMap.lt h

set_option maxHeartbeats 2000000 in
theorem inonces_any (b : Bx) (sa : Option Addr) (sn sc : Nat) (ga : Option Addr) (gn gc : Nat) (w : World) (hb : BxF w b sa sn sc ga gn gc) (ht : TB w) :
    Calls Tryz.prog 55 #[.agg #[.int .i64 b.host, .int .i64 b.round, .int .u64 b.head, .int .i64 b.sent, .int .i64 b.wait, .slice sa sn sc, .slice ga gn gc]] w fun e w' => ∃ g, e = .returned (.map (some g)) ∧ MpO w' b g sn sn ∧ Ext w w' := by
  have h1 := hb.sl
  have bd := h1.bd
  have HL := Lib.hid h1.hlen
  have HT := Lib.hid ht
  have HO := Lib.hid hb.ok
  have hmm := @run_makeMap Tryz.prog
  have hB := Bk.new w 29 #[.int .i64 b.host, .int .i64 b.round, .int .u64 b.head, .int .i64 b.sent, .int .i64 b.wait, .slice sa sn sc, .slice ga gn gc]
  have hE0 : Ext w (w.alloc (.cells #[.int .i64 b.host, .int .i64 b.round, .int .u64 b.head, .int .i64 b.sent, .int .i64 b.wait, .slice sa sn sc, .slice ga gn gc] 29)) := (Ext.refl w).alloc _
  clear ht hb
  go_enter Tryz.func55, Tryz.ntmps55
  go_upto_region 1 with fail
  generalize hV : w.alloc (.cells #[.int .i64 b.host, .int .i64 b.round, .int .u64 b.head, .int .i64 b.sent, .int .i64 b.wait, .slice sa sn sc, .slice ga gn gc] 29) = V at *
  generalize w.heap.size = pb at hB ⊢
  clear hV
  go_upto_region 2 with fail
  have hM0 : MpO (V.alloc (.map #[] 0)) b V.heap.size 0 0 := World.ownsMap_made V _ _ _
  have hMl := hM0.lt
  have hE1 : Ext V (V.alloc (.map #[] 0)) := (Ext.refl V).alloc _
  have hB1 := hB.ext hE1
  have hEV := Lib.hid hE0
  have hgz : V.heap.size ≤ V.heap.size := Nat.le_refl _
  generalize hG : V.heap.size = g at hM0 hMl hgz ⊢
  generalize V.alloc (.map #[] 0) = U at *
  have hgw : w.heap.size ≤ g := by rw [← hG]; exact hE0.sz
  have b5 := hB1.c 5 _ rfl
  go_wp2_with fail
  go_loopw [10] (fun i wr => ∃ (k : Nat), k ≤ sn ∧ i = .int .i64 (k : Int) ∧ MpO wr b g k k ∧ Below g U wr) (fun i _ => sn - (intOf i).toNat)
  case atStart => exact ⟨0, by omega, rfl, hM0, Below.refl _ _⟩
  case round =>
    obtain ⟨k, hk, rfl, hM, hW⟩ := hrel
    have hBl : Below g V wr := Below.trans (Below.mono hE1 (by omega)) hW
    have hEx : Ext w wr := Below.trans hE0 (Below.mono hBl hgw)
    have hBw : Bk wr pb 29 #[.int .i64 b.host, .int .i64 b.round, .int .u64 b.head, .int .i64 b.sent, .int .i64 b.wait, .slice sa sn sc, .slice ga gn gc] := (hBl.block pb (by have := hB.lt; omega)).trans hB
    have e0 := hBw.c 0 _ rfl
    have e1 := hBw.c 1 _ rfl
    have e2 := hBw.c 2 _ rfl
    have e3 := hBw.c 3 _ rfl
    have e4 := hBw.c 4 _ rfl
    have e5 := hBw.c 5 _ rfl
    have e6 := hBw.c 6 _ rfl
    by_cases hlt : k < sn
    · obtain ⟨x1, o1, rfl, hc1⟩ := h1.at (by omega)
      have d0 := hEx.cell (hc1 k hlt)
      have hxw := h1.wfAt hlt
      have HS := Lib.hid (nonD_succ (b := b) (k := k) (by rw [HL.out]; exact hlt))
      clear hc1
      generalize nth b.asked k = x at *
      go_wp2_with fail
      refine (inonce_any b _ sn sc ga gn gc x hxw wr HO.out (TB.ext HT.out hEx)).mono ?_
      rintro e w1 ⟨rfl, hx⟩
      have hM1 := hM.ext hx
      clear e0 e1 e2 e3 e4 e5 e6 d0
      go_wp2_with (at_mapUpdate; refine wpList_mapUpdate_own _ rfl _ _ _ 102 rfl 3 26 key_int Tryz.underlying102 _ g k _ rfl hM1 (by unfold maxLen; omega) _ _ _ rfl rfl (keyOf_int_mk Tryz.underlying3 hxw) _ [] (plainElem_int Tryz.underlying26 (u64_wf (nonF_rng _ _ _ _))) ?_; intro w2 hown2 hgr2; refine hold ?_)
      refine held ?_
      go_wp2_with fail
      have hW2 : Below g w1 w2 := (Below.refl g w1).grown hgr2 (by have := hx.sz; have := hM.lt; omega) (fun j hj => by cases hj; exact Nat.le_refl _)
      refine ⟨⟨k + 1, by omega, by go_num, ?_, Below.trans (Below.trans hW (Below.mono hx (by have := hM.lt; omega))) hW2⟩, by simp [intOf]; omega⟩
      unfold MpO
      rw [HS.out]
      exact hown2
    · obtain rfl : k = sn := by omega
      go_wp2_with fail
      go_ret
      exact ⟨g, rfl, hM, hEx⟩
end Go.Proofs.YtdmfdimhjemngaaGreatDoor
