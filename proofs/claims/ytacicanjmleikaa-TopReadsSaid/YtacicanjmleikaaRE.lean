/-
  Same of the reference, of equal lists; r14Last; walked. Written by wip/gen_re.py.
-/
import Derived.Test.YtacicanjmleikaaRD
namespace Go.Proofs.Ytacicanjmleikaa
open Go.RowKit Go.Sort Go.Shelf
set_option linter.unusedSimpArgs false
set_option linter.unusedVariables false
set_option maxRecDepth 100000

set_option maxHeartbeats 4000000 in
theorem same_any (a : Option Addr) (n c : Nat) (b : Option Addr) (d : Nat) (l : List Vn) (w : World) (h1 : Rw w a n c l) (h2 : Rw w b n d l) :
    Calls Try.prog 16 #[.slice a n c, .slice b n d] w fun e w' => e = .returned (.bool true) ∧ Ext w w' := by
  have bd := h1.bd
  have bd2 := h2.bd
  go_enter Try.func16, Try.ntmps16
  go_wp2_with fail
  go_loopw [5] (fun i wr => ∃ (k : Nat), k ≤ n ∧ i = .int .i64 k ∧ Ext w wr) (fun i _ => n - (intOf i).toNat)
  case atStart => exact ⟨0, by omega, rfl, Ext.refl _⟩
  case round =>
    obtain ⟨k, hk, rfl, hx⟩ := hrel
    by_cases hlt : k < n
    · obtain ⟨x1, o1, rfl, hc1⟩ := h1.at (by omega)
      obtain ⟨x2, o2, rfl, hc2⟩ := h2.at (by omega)
      have hr := rangeAt_ext (hc1 k hlt) hx
      have hr2 := rangeAt_ext (hc2 k hlt) hx
      rw [sz_vn] at hr hr2
      clear hc1 hc2
      generalize nthR l k = x at *
      obtain ⟨xk, xt, xv, xg⟩ := x
      obtain ⟨d0, d1, d2, d3⟩ := cells_vn hr
      obtain ⟨f0, f1, f2, f3⟩ := cells_vn hr2
      simp only at d0 d1 d2 d3 f0 f1 f2 f3
      have l1 := lt_of_cell d0
      have l2 := lt_of_cell f0
      simp only at l1 l2
      clear hr hr2
      have hz := fun W => eqVn xk xt xv xg xk xt xv xg W
      simp only [decide_true] at hz
      have hg := @grow_cell
      go_upto_region 6 with fail
      refine region_ext (by kernel_rfl) (by kernel_rfl) ?_
      repeat (go_big_quiet_step (fail))
      refine wpQuiet_nil ?_
      intro W1 hx1
      go_wp2_with fail
      exact ⟨⟨k + 1, by omega, by go_num, hx.trans hx1⟩, by simp only [intOf]; omega⟩
    · obtain rfl : n = k := by omega
      go_wp2_with fail
      go_ret
      exact ⟨rfl, hx⟩

theorem res_last14 (W : World) (b : Nat) (v0 v1 v2 v3 y1 : Value) (tmps : Array Value) (hb : tmps[6]?.getD undef = .pointer (some ⟨b, 0, none⟩)) (h7 : tmps[7]?.getD undef = y1) (h : Bk W b 47 #[v0, v1, v2, v3]) :
    (results Try.f12 tmps).run Try.prog W = .ok (.tuple #[.agg #[v0, v1, v2, v3], y1]) W := by
  have c0 := h.c 0 _ rfl
  have c1 := h.c 1 _ rfl
  have c2 := h.c 2 _ rfl
  have c3 := h.c 3 _ rfl
  simp [results, Try.results12, go_sem, hb, h7, c0, c1, c2, c3]

theorem pickV_app (a b : List Vn) (k ts : Int) : pickV (a ++ b) k ts = b.foldl (pickS k ts) (pickV a k ts) := by simp [pickV]
set_option maxHeartbeats 8000000 in
theorem last14_any (a : Option Addr) (n c : Nat) (d : List Tx) (key ts : Int) (w : World) (h : Txs w a n c d) :
    Calls Try.prog 12 #[.slice a n c, .int .i64 key, .int .i64 ts] w fun e w' => e = .returned (.tuple #[valV (ansV (pickT d key ts)), .bool (ansB (pickT d key ts))]) ∧ Ext w w' := by
  have bd := h.bd
  have HLO := Lib.hid h.hlen
  have HP0 : Hid (pickV (allV (d.take 0)) key ts = ⟨0, 0, 0, false⟩) := Lib.hid rfl
  have hR := (Bk.new w 47 #[.int .i64 0, .int .i64 0, .int .i64 0, .bool false]).ext ((Ext.refl _).alloc (.cells #[.int .i64 0, .int .i64 0, .int .i64 0, .bool false] 47))
  have hO := Bk.new (w.alloc (.cells #[.int .i64 0, .int .i64 0, .int .i64 0, .bool false] 47)) 47 #[.int .i64 0, .int .i64 0, .int .i64 0, .bool false]
  have hE : Ext w ((w.alloc (.cells #[.int .i64 0, .int .i64 0, .int .i64 0, .bool false] 47)).alloc (.cells #[.int .i64 0, .int .i64 0, .int .i64 0, .bool false] 47)) := ((Ext.refl w).alloc _).alloc _
  simp only [World.size_alloc] at hO
  go_enter Try.func12, Try.ntmps12
  go_upto_region 2 with fail
  generalize (w.alloc (.cells #[.int .i64 0, .int .i64 0, .int .i64 0, .bool false] 47)).alloc (.cells #[.int .i64 0, .int .i64 0, .int .i64 0, .bool false] 47) = V at *
  obtain ⟨rb, hrb⟩ : ∃ rb, w.heap.size = rb := ⟨_, rfl⟩
  obtain ⟨ob, hob⟩ : ∃ ob, w.heap.size + 1 = ob := ⟨_, rfl⟩
  have hwr : w.heap.size ≤ rb := by omega
  have hwo : w.heap.size ≤ ob := by omega
  have hne : rb ≠ ob := by omega
  rw [hob] at hO ⊢
  rw [hrb] at hR ⊢
  clear hrb hob
  have HRR := Lib.hid hR
  have HOO := Lib.hid hO
  clear hR hO
  go_wp2_with fail
  go_loopw [15] (fun i wr => ∃ (k : Nat) (o : Vn), k ≤ n ∧ i = .int .i64 k ∧ Hid (pickV (allV (d.take k)) key ts = o) ∧ Ext w wr ∧ Hid (Bk wr ob 47 #[.int .i64 o.k, .int .i64 o.t, .int .i64 o.v, .bool o.g]) ∧ Hid (Bk wr rb 47 #[.int .i64 0, .int .i64 0, .int .i64 0, .bool false])) (fun i _ => n - (intOf i).toNat)
  case atStart => exact ⟨0, ⟨0, 0, 0, false⟩, by omega, rfl, HP0, hE, HOO, HRR⟩
  case round =>
    clear HRR HOO
    obtain ⟨k, o, hk, rfl, HP, hx, HO, HR⟩ := hrel
    by_cases hlt : k < n
    · obtain ⟨x1, o1, rfl, hc1⟩ := h.at (by omega)
      obtain ⟨r, hr0, htx, hok⟩ := hc1 k hlt
      have hr := rangeAt_ext hr0 hx
      have HS := Lib.hid (allV_succ (op := d) (k := k) (by rw [HLO.out]; exact hlt))
      have HW := Lib.hid htx.wr
      have HTS := Lib.hid htx.ts
      clear hr0 hc1 htx hok
      generalize nthT d k = t at *
      obtain ⟨ri, rt, ra, rn, rc, wa, wn, wc⟩ := r
      obtain ⟨tid, tts, trd, xw⟩ := t
      obtain ⟨d0, d1, d2, d3⟩ := cells_tr hr
      simp only at d0 d1 d2 d3 HW HTS
      have e1 := HTS.out
      subst e1
      have bdw := HW.out.bd
      clear hr HTS
      have hb := Bk.new wr 26 #[.int .i64 ri, .int .i64 rt, .slice ra rn rc, .slice wa wn wc]
      have hE2 : Ext wr (wr.alloc (.cells #[.int .i64 ri, .int .i64 rt, .slice ra rn rc, .slice wa wn wc] 26)) := (Ext.refl wr).alloc _
      have HO2 := Lib.hid (HO.out.ext hE2)
      have HR2 := Lib.hid (HR.out.ext hE2)
      have hbo : wr.heap.size ≠ ob := by have := HO.out.lt; omega
      go_upto_region 5 with fail
      replace hx := hx.trans hE2
      clear hE2 d0 d1 d2 d3 HO HR
      generalize wr.alloc (.cells #[.int .i64 ri, .int .i64 rt, .slice ra rn rc, .slice wa wn wc] 26) = V3 at *
      have HTB := Lib.hid hb
      have b3 := hb.c 3 _ rfl
      have hx7 := hx
      clear hb
      generalize wr.heap.size = zb at *
      go_wp2_with fail
      clear b3 hx
      go_loopw [22] (fun i wr => ∃ (j : Nat) (o' : Vn), j ≤ wn ∧ i = .int .i64 j ∧ Hid (((xw.take j).map (verW rt)).foldl (pickS key ts) o = o') ∧ Ext w wr ∧ Hid (Bk wr ob 47 #[.int .i64 o'.k, .int .i64 o'.t, .int .i64 o'.v, .bool o'.g]) ∧ Hid (Bk wr rb 47 #[.int .i64 0, .int .i64 0, .int .i64 0, .bool false]) ∧ Hid (Bk wr zb 26 #[.int .i64 ri, .int .i64 rt, .slice ra rn rc, .slice wa wn wc])) (fun i _ => wn - (intOf i).toNat)
      case atStart => exact ⟨0, o, by omega, rfl, Lib.hid rfl, hx7, HO2, HR2, HTB⟩
      case round =>
        clear hx7 HO2 HR2 HTB
        obtain ⟨j, o', hj, rfl, HF, hx, HO, HR, HT⟩ := hrel
        by_cases hlt2 : j < wn
        · obtain ⟨x6, o6, rfl, hc6⟩ := HW.out.at (by omega)
          have hr6 := rangeAt_ext (hc6 j hlt2) hx
          rw [sz_wr] at hr6
          have HS2 : Hid (((xw.take (j + 1)).map (verW rt)).foldl (pickS key ts) o = pickS key ts o' (verW rt (nthR xw j))) := Lib.hid (by
            rw [take_nthR_succ (by rw [HW.out.hlen]; exact hlt2), List.map_append, List.foldl_append, HF.out]; rfl)
          clear hc6
          generalize nthR xw j = u at *
          obtain ⟨d0, d1, d2⟩ := cells_wr hr6
          clear hr6
          have hb := Bk.new wr 60 #[.int .i64 u.k, .int .i64 u.v, .bool u.g]
          have hE2 : Ext wr (wr.alloc (.cells #[.int .i64 u.k, .int .i64 u.v, .bool u.g] 60)) := (Ext.refl wr).alloc _
          have hO3 := HO.out.ext hE2
          have hR3 := HR.out.ext hE2
          have hT3 := HT.out.ext hE2
          go_upto_region 8 with fail
          replace hx := hx.trans hE2
          clear hE2 d0 d1 d2 HO HR HT
          generalize wr.alloc (.cells #[.int .i64 u.k, .int .i64 u.v, .bool u.g] 60) = V4 at *
          have u0 := hb.c 0 _ rfl
          have u1 := hb.c 1 _ rfl
          have u2 := hb.c 2 _ rfl
          have t1 := hT3.c 1 _ rfl
          have p0 := hO3.c 0 _ rfl
          have p1 := hO3.c 1 _ rfl
          have p2 := hO3.c 2 _ rfl
          have p3 := hO3.c 3 _ rfl
          have hf := hO3.free
          have HOH := Lib.hid hO3
          have HRH := Lib.hid hR3
          have HTH := Lib.hid hT3
          clear hO3 hR3 hT3 hb
          by_cases hk1 : u.k = key
          · by_cases ht1 : rt ≤ ts
            · have HS3 := Lib.hid (HS2.out.trans (show pickS key ts o' (verW rt u) = ⟨key, rt, u.v, u.g⟩ by unfold pickS; rw [if_pos ⟨hk1, ht1⟩]; simp [verW, hk1]))
              have hk2 : (u.k == key) = true := by simp [hk1]
              have HKK := Lib.hid hk1
              clear hk1
              go_wp2_with fail
              exact ⟨⟨j + 1, ⟨key, rt, u.v, u.g⟩, by omega, by go_num, HS3, hx.set4 hwo _ _ _ _, Lib.hid (HOH.out.set4 _ _ _ _), Lib.hid (HRH.out.other4 (Ne.symm hne) _ _ _ _), Lib.hid (HTH.out.other4 (Ne.symm hbo) _ _ _ _)⟩, by simp only [intOf]; omega⟩
            · have HS3 := Lib.hid (HS2.out.trans (show pickS key ts o' (verW rt u) = o' by unfold pickS; rw [if_neg (fun e => ht1 e.2)]))
              have hk2 : (u.k == key) = true := by simp [hk1]
              have ht2 : decide (rt ≤ ts) = false := decide_eq_false ht1
              have HKK := Lib.hid hk1
              clear hk1
              go_wp2_with fail
              exact ⟨⟨j + 1, o', by omega, by go_num, HS3, hx, HOH, HRH, HTH⟩, by simp only [intOf]; omega⟩
          · have HS3 := Lib.hid (HS2.out.trans (show pickS key ts o' (verW rt u) = o' by unfold pickS; rw [if_neg (fun e => hk1 e.1)]))
            have hk2 : (u.k == key) = false := by simp [hk1]
            go_wp2_with fail
            exact ⟨⟨j + 1, o', by omega, by go_num, HS3, hx, HOH, HRH, HTH⟩, by simp only [intOf]; omega⟩
        · obtain rfl : wn = j := by omega
          go_wp2_with fail
          refine ⟨⟨k + 1, o', by omega, by go_num, Lib.hid ?_, hx, HO, HR⟩, by simp only [intOf]; omega⟩
          rw [HS.out, pickV_app, HP.out]
          have hl : xw.take wn = xw := List.take_of_length_le (by rw [HW.out.hlen]; exact Nat.le_refl _)
          have := HF.out
          rw [hl] at this
          exact this
    · obtain rfl : n = k := by omega
      have HPF : Hid (pickT d key ts = o) := Lib.hid (by
        have := HP.out
        rw [List.take_of_length_le (by rw [HLO.out]; exact Nat.le_refl _)] at this
        exact this)
      clear HP
      obtain ⟨ok, ot, ov, og⟩ := o
      have hO := HO.out
      have hR := HR.out
      have p0 := hO.c 0 _ rfl
      have p1 := hO.c 1 _ rfl
      have p2 := hO.c 2 _ rfl
      have p3 := hO.c 3 _ rfl
      have r0 := hR.c 0 _ rfl
      have r1 := hR.c 1 _ rfl
      have r2 := hR.c 2 _ rfl
      have r3 := hR.c 3 _ rfl
      have hf := hR.free
      cases og with
      | true =>
        have HA : Hid (ansV ⟨ok, ot, ov, true⟩ = v0 ∧ ansB ⟨ok, ot, ov, true⟩ = false) := Lib.hid ⟨if_pos (.inl rfl), by simp [ansB]⟩
        go_wp2_with fail
        refine bodyPost_ret (res_last14 _ rb (.int .i64 0) (.int .i64 0) (.int .i64 0) (.bool false) (.bool false) _ (by rfl) (by rfl) (hR.set4 _ _ _ _)) rfl ?_
        exact ⟨by rw [HPF.out, HA.out.1, HA.out.2]; rfl, hx.set4 hwr _ _ _ _⟩
      | false =>
        by_cases hz : ok = 0
        · subst hz
          have HA : Hid (ansV ⟨0, ot, ov, false⟩ = v0 ∧ ansB ⟨0, ot, ov, false⟩ = false) := Lib.hid ⟨if_pos (.inr rfl), by simp [ansB]⟩
          go_wp2_with fail
          refine bodyPost_ret (res_last14 _ rb (.int .i64 0) (.int .i64 0) (.int .i64 0) (.bool false) (.bool false) _ (by rfl) (by rfl) (hR.set4 _ _ _ _)) rfl ?_
          exact ⟨by rw [HPF.out, HA.out.1, HA.out.2]; rfl, hx.set4 hwr _ _ _ _⟩
        · have HA : Hid (ansV ⟨ok, ot, ov, false⟩ = ⟨ok, ot, ov, false⟩ ∧ ansB ⟨ok, ot, ov, false⟩ = true) := Lib.hid ⟨if_neg (by rintro (h | h); cases h; exact hz h), by simp [ansB, hz]⟩
          have hz2 : (ok == 0) = false := by simp [hz]
          go_wp2_with fail
          refine bodyPost_ret (res_last14 _ rb (.int .i64 ok) (.int .i64 ot) (.int .i64 ov) (.bool false) (.bool true) _ (by rfl) (by rfl) (hR.set4 _ _ _ _)) rfl ?_
          exact ⟨by rw [HPF.out, HA.out.1, HA.out.2]; rfl, hx.set4 hwr _ _ _ _⟩
end Go.Proofs.Ytacicanjmleikaa
