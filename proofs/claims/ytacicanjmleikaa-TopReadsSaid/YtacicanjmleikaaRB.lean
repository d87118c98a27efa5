/-
  Whether a transaction conflicts, walked. Written by wip/gen_rb.py.
-/
import Derived.Test.YtacicanjmleikaaRA
namespace Go.Proofs.Ytacicanjmleikaa
open Go.RowKit Go.Sort Go.Shelf Go.Maps
set_option linter.unusedSimpArgs false
set_option linter.unusedVariables false
set_option maxRecDepth 100000

theorem stamp2_any (x : Sn) (hx : x.Ok) (Bm b n : Nat) (w : World) (hm : Bk w Bm 73 #[.map (some b)]) (hi : IsM w b n) :
    Calls Try.prog 30 #[.agg #[.int .i64 x.k, .int .i64 x.t], .pointer (some ⟨Bm, 0, none⟩)] w fun e w' => ∃ B : Bool, e = .returned (.bool B) ∧ Ext w w' := by
  have hkw : (Lit.int .i64 x.k).wf = true := hx.k
  have hE : Ext w (w.alloc (.cells #[.int .i64 x.k, .int .i64 x.t] 77)) := (Ext.refl w).alloc _
  have hb := Bk.new w 77 #[.int .i64 x.k, .int .i64 x.t]
  have hm2 := hm.ext hE
  obtain ⟨D, hown⟩ := hi.ext hE
  have HOW := Lib.hid hown
  clear hown
  go_enter Try.func30, Try.ntmps30
  go_upto_region 1 with fail
  generalize w.alloc (.cells #[.int .i64 x.k, .int .i64 x.t] 77) = V at *
  have c0 := hb.c 0 _ rfl
  have c1 := hb.c 1 _ rfl
  have m0 := hm2.c 0 _ rfl
  go_wp2_with (at_lookup; refine wpList_lookup_own_int _ rfl _ _ 73 rfl 3 3 .i64 mlaw Try.underlying73 Try.underlying3 (mzero _) b _ _ rfl HOW.out _ _ rfl (keyOf_int_mk Try.underlying3 hkw) ?_; intro c hat hwc; clear hat)
  go_ret
  exact ⟨_, rfl, hE⟩

set_option maxHeartbeats 2000000 in
theorem sindex_any (a : Option Addr) (n c : Nat) (xs : List Sn) (Bm b N : Nat) (w : World) (h : Rw w a n c xs) (hm : Bk w Bm 73 #[.map (some b)]) (hi : IsM w b N) :
    Calls Try.prog 46 #[.slice a n c, .func (.func 30) #[] #[.pointer (some ⟨Bm, 0, none⟩)]] w fun e w' => ∃ i : Int, e = .returned (.int .i64 i) ∧ -1 ≤ i ∧ (n = 0 → i = -1) ∧ Ext w w' := by
  have bd := h.bd
  have HL := Lib.hid h.hlen
  go_enter Try.func46, Try.ntmps46
  go_wp2_with fail
  go_loopw [8] (fun i wr => ∃ (k : Nat), k ≤ n ∧ i = .int .i64 k ∧ Ext w wr) (fun i _ => n - (intOf i).toNat)
  case atStart => exact ⟨0, by omega, rfl, Ext.refl _⟩
  case round =>
    obtain ⟨k, hk, rfl, hx⟩ := hrel
    by_cases hlt : k < n
    · obtain ⟨x1, o1, rfl, hc1⟩ := h.at (by omega)
      have hr := rangeAt_ext (hc1 k hlt) hx
      have HOKX := Lib.hid (h.wfAt hlt)
      rw [sz_sn] at hr
      clear hc1
      generalize nthR xs k = x at *
      obtain ⟨d0, d1⟩ := cells_sn hr
      have HC := Lib.hid (stamp2_any x HOKX.out Bm b N wr (hm.ext hx) (hi.ext hx))
      clear hr
      go_wp2_with fail
      refine HC.out.mono ?_
      rintro e w2 ⟨B, rfl, hx2⟩
      cases B with
      | true =>
        go_wp2_with fail
        go_ret
        exact ⟨k, rfl, by omega, fun h => by omega, hx.trans hx2⟩
      | false =>
        go_wp2_with fail
        exact ⟨⟨k + 1, by omega, by go_num, hx.trans hx2⟩, by simp only [intOf]; omega⟩
    · obtain rfl : n = k := by omega
      go_wp2_with fail
      go_ret
      exact ⟨-1, rfl, by omega, fun _ => rfl, hx⟩

theorem scontains_any (a : Option Addr) (n c : Nat) (xs : List Sn) (Bm b N : Nat) (w : World) (h : Rw w a n c xs) (hm : Bk w Bm 73 #[.map (some b)]) (hi : IsM w b N) :
    Calls Try.prog 29 #[.slice a n c, .func (.func 30) #[] #[.pointer (some ⟨Bm, 0, none⟩)]] w fun e w' => ∃ B : Bool, e = .returned (.bool B) ∧ (n = 0 → B = false) ∧ Ext w w' := by
  have HC := Lib.hid (sindex_any a n c xs Bm b N w h hm hi)
  clear h hm hi
  go_enter Try.func29, Try.ntmps29
  go_wp2_with fail
  refine HC.out.mono ?_
  rintro e w2 ⟨i, rfl, h1, h2, hx⟩
  by_cases hi : 0 ≤ i
  · go_wp2_with fail
    go_ret
    exact ⟨true, rfl, fun h => by have := h2 h; omega, hx⟩
  · have hd : decide (0 ≤ i) = false := decide_eq_false hi
    go_wp2_with fail
    go_ret
    exact ⟨false, rfl, fun _ => rfl, hx⟩
end Go.Proofs.Ytacicanjmleikaa
