/-
  Package commit, walked: past, by sort.Search. Written by wip/gen_qx.py.
-/
import Derived.Test.YtacicanjmleikaaQW
namespace Go.Proofs.Ytacicanjmleikaa
open Go.RowKit Go.Sort Go.Shelf
set_option linter.unusedSimpArgs false
set_option linter.unusedVariables false
set_option maxRecDepth 100000

theorem Good.le {d : List Tx} (h : Good d) {i j : Nat} (hij : i ≤ j) (hj : j < d.length) : (nthT d i).ts ≤ (nthT d j).ts := by
  rcases Nat.lt_or_ge i j with h1 | h1
  · have := List.pairwise_iff_getElem.1 h.asc i j (by omega) hj h1
    rw [nthT_get (by omega), nthT_get hj]; omega
  · obtain rfl : i = j := by omega
    exact Int.le_refl _

set_option maxHeartbeats 1000000 in
theorem past1_any (Bl Bt : Nat) (last : Int) (sa : Option Addr) (sn sc : Nat) (oa : Option Addr) (on oc : Nat) (op : List Tx) (i : Nat) (t : Int) (w : World) (h1 : Txs w oa on oc op) (hi : i < on)
    (hl : Bk w Bl 36 #[.int .i64 last, .slice sa sn sc, .slice oa on oc]) (ht : Bk w Bt 3 #[.int .i64 t]) :
    Calls Try.prog 42 #[.int .i64 i, .pointer (some ⟨Bl, 0, none⟩), .pointer (some ⟨Bt, 0, none⟩)] w fun e w' => e = .returned (.bool (decide (t ≤ (nthT op i).ts))) ∧ Ext w w' := by
  obtain ⟨x1, o1, rfl, hc1⟩ := h1.at (by omega)
  obtain ⟨r, hr0, htx, hok⟩ := hc1 i hi
  have HTS := Lib.hid htx.ts
  obtain ⟨ri, rt, ra, rn, rc, wa, wn, wc⟩ := r
  obtain ⟨d0, d1, d2, d3⟩ := cells_tr hr0
  simp only at d0 d1 d2 d3 HTS
  have bd := h1.bd
  clear hr0 hc1 htx hok h1
  have c2 := hl.c 2 _ rfl
  have b0 := ht.c 0 _ rfl
  have l1 := hl.lt
  have l2 := ht.lt
  have l3 := lt_of_cell d1
  simp only at l3
  go_enter Try.func42, Try.ntmps42
  go_upto_region 1 with fail
  have hg := @grow_cell
  refine region_ext (by kernel_rfl) (by kernel_rfl) ?_
  repeat (go_big_quiet_step (fail))
  refine wpQuiet_nil ?_
  intro V hx
  go_wp2_with fail
  go_ret
  exact ⟨by rw [← HTS.out]; rfl, hx⟩

set_option maxHeartbeats 2000000 in
theorem psearch_any (Bl Bt : Nat) (last : Int) (sa : Option Addr) (sn sc : Nat) (oa : Option Addr) (on oc : Nat) (op : List Tx) (t : Int) (w : World) (h1 : Txs w oa on oc op) (hg : Good op)
    (hl : Bk w Bl 36 #[.int .i64 last, .slice sa sn sc, .slice oa on oc]) (ht : Bk w Bt 3 #[.int .i64 t]) :
    Calls Try.prog 41 #[.int .i64 on, .func (.func 42) #[] #[.pointer (some ⟨Bl, 0, none⟩), .pointer (some ⟨Bt, 0, none⟩)]] w fun e w' => e = .returned (.int .i64 (pastN op t : Nat)) ∧ Ext w w' := by
  have HLO := Lib.hid h1.hlen
  have bd := h1.bd
  have HM : Hid (∀ i j : Nat, i ≤ j → j < on → (nthT op i).ts ≤ (nthT op j).ts) := Lib.hid (fun i j hij hj => hg.le hij (by rw [HLO.out]; exact hj))
  clear hg
  go_enter Try.func41, Try.ntmps41
  go_wp2_with fail
  go_loopw [5, 6] (fun s5 s6 wr => ∃ (lo hi : Nat), s5 = .int .i64 lo ∧ s6 = .int .i64 hi ∧ lo ≤ hi ∧ hi ≤ on ∧ Ext w wr ∧ Hid ((∀ i : Nat, i < lo → (nthT op i).ts < t) ∧ (∀ i : Nat, hi ≤ i → i < on → t ≤ (nthT op i).ts))) (fun s5 s6 _ => (intOf s6).toNat - (intOf s5).toNat)
  case atStart => exact ⟨0, on, rfl, rfl, by omega, by omega, Ext.refl _, Lib.hid ⟨fun i hi => by omega, fun i h1 h2 => by omega⟩⟩
  case round =>
    obtain ⟨lo, hi, rfl, rfl, hlh, h9, hx, I⟩ := hrel
    by_cases hlt : lo < hi
    · obtain ⟨h, hh⟩ : ∃ h : Nat, (lo + hi) / 2 = h := ⟨_, rfl⟩
      have hm : ((lo : Int) + (hi : Int)) / 2 = (h : Int) := by omega
      have hhn : h < on := by omega
      have hh1 : lo ≤ h ∧ h < hi := by omega
      have hc := past1_any Bl Bt last sa sn sc oa on oc op h t wr (h1.ext hx) hhn (hl.ext hx) (ht.ext hx)
      clear hh
      rcases hp : decide (t ≤ (nthT op h).ts) with _ | _
      · rw [hp] at hc
        have HP : Hid ((nthT op h).ts < t) := Lib.hid (by simpa using hp)
        have HC := Lib.hid hc
        clear hp hc
        go_wp2_with fail
        refine HC.out.mono ?_
        rintro e w1 ⟨rfl, hy⟩
        go_wp2_with fail
        refine ⟨⟨h + 1, hi, by go_num, rfl, by omega, h9, hx.trans hy, Lib.hid ⟨fun i hi' => Int.lt_of_le_of_lt (HM.out i h (by omega) hhn) HP.out, I.out.2⟩⟩, ?_⟩
        simp only [intOf]
        omega
      · rw [hp] at hc
        have HP : Hid (t ≤ (nthT op h).ts) := Lib.hid (by simpa using hp)
        have HC := Lib.hid hc
        clear hp hc
        go_wp2_with fail
        refine HC.out.mono ?_
        rintro e w1 ⟨rfl, hy⟩
        go_wp2_with fail
        refine ⟨⟨lo, h, rfl, rfl, by omega, by omega, hx.trans hy, Lib.hid ⟨I.out.1, fun i hi' hin => Int.le_trans HP.out (HM.out h i hi' hin)⟩⟩, ?_⟩
        simp only [intOf]
        omega
    · obtain rfl : lo = hi := by omega
      have HR := Lib.hid (pastN_eq (op := op) (a := t) (i := lo) (by rw [HLO.out]; exact h9) I.out.1 (fun j h1 h2 => I.out.2 j h1 (by rw [HLO.out] at h2; exact h2)))
      go_wp2_with fail
      go_ret
      exact ⟨by rw [HR.out]; rfl, hx⟩

set_option maxHeartbeats 2000000 in
theorem cpast_any (r : LdR) (l : Ld) (t : Int) (w : World) (h : LdL w r l) (hg : Good l.op) :
    Calls Try.prog 19 #[valL r, .int .i64 t] w fun e w' => e = .returned (.int .i64 (pastN l.op t : Nat)) ∧ Ext w w' := by
  have hmf : ∀ (fn : Fn) (first cap : Array Value) (w : World), (Instr.makeFunc fn first cap).run Try.prog w = .ok (.func fn first cap) w := fun _ _ _ _ => rfl
  obtain ⟨last, sa, sn, sc, oa, on, oc⟩ := r
  obtain ⟨last2, st, op⟩ := l
  obtain ⟨e1, hst, hop⟩ := h
  simp only at e1 hst hop hg
  subst e1
  unfold valL
  have bd := hop.bd
  have hl := (Bk.new w 36 #[.int .i64 last, .slice sa sn sc, .slice oa on oc]).ext ((Ext.refl _).alloc (.cells #[.int .i64 t] 3))
  have ht := Bk.new (w.alloc (.cells #[.int .i64 last, .slice sa sn sc, .slice oa on oc] 36)) 3 #[.int .i64 t]
  have hE : Ext w ((w.alloc (.cells #[.int .i64 last, .slice sa sn sc, .slice oa on oc] 36)).alloc (.cells #[.int .i64 t] 3)) := ((Ext.refl w).alloc _).alloc _
  simp only [World.size_alloc] at ht
  go_enter Try.func19, Try.ntmps19
  go_upto_region 1 with fail
  generalize (w.alloc (.cells #[.int .i64 last, .slice sa sn sc, .slice oa on oc] 36)).alloc (.cells #[.int .i64 t] 3) = V at *
  have HPS := Lib.hid (psearch_any _ _ last sa sn sc oa on oc op t V (hop.ext hE) hg hl ht)
  have c2 := hl.c 2 _ rfl
  clear hl ht hg
  go_wp2_with fail
  refine HPS.out.mono ?_
  rintro e w1 ⟨rfl, hx⟩
  go_wp2_with fail
  go_ret
  exact ⟨rfl, hE.trans hx⟩
end Go.Proofs.Ytacicanjmleikaa
