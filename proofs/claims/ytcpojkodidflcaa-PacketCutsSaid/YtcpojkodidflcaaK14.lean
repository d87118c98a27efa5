/-
  PacketKinds, PacketSizes: walked.
-/
import Derived.Test.YtcpojkodidflcaaK13
namespace Go.Proofs.Ytcpojkodidflcaa
open Go.RowKit Go.Sort Go.Shelf
set_option linter.unusedSimpArgs false
set_option linter.unusedVariables false
set_option maxRecDepth 100000

theorem getRequest_no {xs : List Int} (hq : lreq xs = none) (a1 : Option Addr) (n1 c1 : Nat) (w : World) (h1 : Sl .u8 w a1 n1 c1 xs) (hn1 : n1 ≤ 1000000000) :
    Calls Try.prog 14 #[.slice a1 n1 c1] w fun e w' => e = .returned (.tuple #[.agg #[.int .i64 0, .int .i64 0, .int .i64 0, .int .u64 0], .int .i64 7]) ∧ Ext w w' :=
  (getRequest_any a1 n1 c1 xs w h1 hn1).mono fun e w' h => by rw [hq] at h; exact h
theorem getRequest_yes {xs : List Int} {h a r n : Int} (hq : lreq xs = some (h, a, r, n)) (a1 : Option Addr) (n1 c1 : Nat) (w : World) (h1 : Sl .u8 w a1 n1 c1 xs) (hn1 : n1 ≤ 1000000000) :
    Calls Try.prog 14 #[.slice a1 n1 c1] w fun e w' => e = .returned (.tuple #[.agg #[.int .i64 h, .int .i64 a, .int .i64 r, .int .u64 n], .int .i64 0]) ∧ Ext w w' :=
  (getRequest_any a1 n1 c1 xs w h1 hn1).mono fun e w' h => by rw [hq] at h; exact h
theorem getReply_no {xs : List Int} (hq : lrep xs = none) (a1 : Option Addr) (n1 c1 : Nat) (w : World) (h1 : Sl .u8 w a1 n1 c1 xs) (hn1 : n1 ≤ 1000000000) :
    Calls Try.prog 18 #[.slice a1 n1 c1] w fun e w' => e = .returned (.tuple #[.agg #[.int .i64 0, .int .i64 0, .int .i64 0, .int .u64 0, .int .i64 0, .int .i64 0, .int .i64 0, .int .i64 0, .int .i64 0, .int .i64 0], .int .i64 7]) ∧ Ext w w' :=
  (getReply_any a1 n1 c1 xs w h1 hn1).mono fun e w' h => by rw [hq] at h; exact h
theorem getReply_yes {xs : List Int} {a h r n lo hi k t c s : Int} (hq : lrep xs = some ⟨a, h, r, n, lo, hi, k, t, c, s⟩) (a1 : Option Addr) (n1 c1 : Nat) (w : World) (h1 : Sl .u8 w a1 n1 c1 xs) (hn1 : n1 ≤ 1000000000) :
    Calls Try.prog 18 #[.slice a1 n1 c1] w fun e w' => e = .returned (.tuple #[.agg #[.int .i64 a, .int .i64 h, .int .i64 r, .int .u64 n, .int .i64 lo, .int .i64 hi, .int .i64 k, .int .i64 t, .int .i64 c, .int .i64 s], .int .i64 0]) ∧ Ext w w' :=
  (getReply_any a1 n1 c1 xs w h1 hn1).mono fun e w' h => by rw [hq] at h; exact h

set_option maxHeartbeats 1000000 in
theorem kinds_any (a1 : Option Addr) (n1 c1 : Nat) (xs : List Int) (w : World) (h1 : Sl .u8 w a1 n1 c1 xs) :
    Calls Try.prog 6 #[.slice a1 n1 c1] w fun e w' => e = .returned (.bool true) ∧ Ext w w' := by
  have b1 := h1.bd
  by_cases hn : n1 ≤ 300
  · have hd : decide ((300 : Int) < n1) = false := by simp; omega
    have hex := @lreq_lrep xs
    rcases hq : lreq xs with _ | ⟨h, a, r, n⟩
    · have HQ := Lib.hid hq
      clear hq hex
      rcases hp : lrep xs with _ | ⟨a', h', r', n', lo, hi, k, t, c, s⟩
      all_goals
        have HP := Lib.hid hp
        clear hp
        go_enter Try.func6, Try.ntmps6
        go_wp2_with fail
        refine (head_any _).mono ?_
        rintro e w1 ⟨rfl, hE1⟩
        go_wp2_with fail
        refine (getRequest_no HQ.out _ _ _ _ (h1.ext hE1) (by omega)).mono ?_
        rintro e w2 ⟨rfl, hE2⟩
        replace hE1 := hE1.trans hE2
        have hE3 : Ext w2 (w2.alloc (.cells #[.int .i64 0, .int .i64 0, .int .i64 0, .int .u64 0] 24)) := (Ext.refl w2).alloc _
        go_wp2_with fail
      · refine (getReply_no HP.out _ _ _ _ (h1.ext (hE1.trans hE3)) (by omega)).mono ?_
        rintro e w3 ⟨rfl, hE4⟩
        replace hE1 := (hE1.trans hE3).trans hE4
        go_wp2
        go_ret
        exact ⟨rfl, hE1.alloc _⟩
      · refine (getReply_yes HP.out _ _ _ _ (h1.ext (hE1.trans hE3)) (by omega)).mono ?_
        rintro e w3 ⟨rfl, hE4⟩
        replace hE1 := (hE1.trans hE3).trans hE4
        go_wp2
        go_ret
        exact ⟨rfl, hE1.alloc _⟩
    · have HP := Lib.hid (hex hq)
      have HQ := Lib.hid hq
      clear hq hex
      go_enter Try.func6, Try.ntmps6
      go_wp2_with fail
      refine (head_any _).mono ?_
      rintro e w1 ⟨rfl, hE1⟩
      go_wp2_with fail
      refine (getRequest_yes HQ.out _ _ _ _ (h1.ext hE1) (by omega)).mono ?_
      rintro e w2 ⟨rfl, hE2⟩
      replace hE1 := hE1.trans hE2
      have hE3 : Ext w2 (w2.alloc (.cells #[.int .i64 h, .int .i64 a, .int .i64 r, .int .u64 n] 24)) := (Ext.refl w2).alloc _
      go_wp2_with fail
      refine (getReply_no HP.out _ _ _ _ (h1.ext (hE1.trans hE3)) (by omega)).mono ?_
      rintro e w3 ⟨rfl, hE4⟩
      replace hE1 := (hE1.trans hE3).trans hE4
      go_wp2
      go_ret
      exact ⟨rfl, hE1.alloc _⟩
  · have hd : decide ((300 : Int) < n1) = true := by simp; omega
    go_enter Try.func6, Try.ntmps6
    go_wp2_with fail
    refine (head_any _).mono ?_
    rintro e w1 ⟨rfl, hE1⟩
    go_wp2
    go_ret
    exact ⟨rfl, hE1⟩

set_option maxHeartbeats 2000000 in
theorem sizes_any (h a r n a1 h1 r1 n1 lo hi k t c s : Int) (w : World) (hw : ReqW h a r n) (hv : RepW a1 h1 r1 n1 lo hi k t c s) :
    Calls Try.prog 9 #[.agg #[.int .i64 h, .int .i64 a, .int .i64 r, .int .u64 n], .agg #[.int .i64 a1, .int .i64 h1, .int .i64 r1, .int .u64 n1, .int .i64 lo, .int .i64 hi, .int .i64 k, .int .i64 t, .int .i64 c, .int .i64 s]] w fun e w' => e = .returned (.bool true) ∧ Ext w w' := by
  have hv' : Rep.W ⟨a1, h1, r1, n1, lo, hi, k, t, c, s⟩ := hv
  have sz1 := fun hb : reqB h a r = true => pkt_req_size (wf_u64 hw.n) hb
  have sz2 := fun hb : Rep.ok ⟨a1, h1, r1, n1, lo, hi, k, t, c, s⟩ = true => pkt_rep_size (wf_u64 hv.q.n) hb
  have S1 := Lib.hid sz1
  have S2 := Lib.hid sz2
  clear sz1 sz2
  go_enter Try.func9, Try.ntmps9
  go_wp2_with fail
  have hE0 : Ext w ((w.alloc (.cells #[.int .i64 h, .int .i64 a, .int .i64 r, .int .u64 n] 24)).alloc (.cells #[.int .i64 a1, .int .i64 h1, .int .i64 r1, .int .u64 n1, .int .i64 lo, .int .i64 hi, .int .i64 k, .int .i64 t, .int .i64 c, .int .i64 s] 30)) := ((Ext.refl w).alloc _).alloc _
  have BR : ReqBlk ((w.alloc (.cells #[.int .i64 h, .int .i64 a, .int .i64 r, .int .u64 n] 24)).alloc (.cells #[.int .i64 a1, .int .i64 h1, .int .i64 r1, .int .u64 n1, .int .i64 lo, .int .i64 hi, .int .i64 k, .int .i64 t, .int .i64 c, .int .i64 s] 30)) w.heap.size h a r n := alloc_keep (alloc_at rfl)
  have BP : RepBlk ((w.alloc (.cells #[.int .i64 h, .int .i64 a, .int .i64 r, .int .u64 n] 24)).alloc (.cells #[.int .i64 a1, .int .i64 h1, .int .i64 r1, .int .u64 n1, .int .i64 lo, .int .i64 hi, .int .i64 k, .int .i64 t, .int .i64 c, .int .i64 s] 30)) (w.heap.size + 1) ⟨a1, h1, r1, n1, lo, hi, k, t, c, s⟩ := alloc_at (by simp)
  generalize ((w.alloc (.cells #[.int .i64 h, .int .i64 a, .int .i64 r, .int .u64 n] 24)).alloc (.cells #[.int .i64 a1, .int .i64 h1, .int .i64 r1, .int .u64 n1, .int .i64 lo, .int .i64 hi, .int .i64 k, .int .i64 t, .int .i64 c, .int .i64 s] 30)) = W0 at *
  generalize w.heap.size + 1 = bP at *
  generalize w.heap.size = bR at *
  have gr0 := cell_of_block BR 0 (.int .i64 h) rfl
  have gr1 := cell_of_block BR 1 (.int .i64 a) rfl
  have gr2 := cell_of_block BR 2 (.int .i64 r) rfl
  have gr3 := cell_of_block BR 3 (.int .u64 n) rfl
  have gp0 := cell_of_block BP 0 (.int .i64 a1) rfl
  have gp1 := cell_of_block BP 1 (.int .i64 h1) rfl
  have gp2 := cell_of_block BP 2 (.int .i64 r1) rfl
  have gp3 := cell_of_block BP 3 (.int .u64 n1) rfl
  have gp4 := cell_of_block BP 4 (.int .i64 lo) rfl
  have gp5 := cell_of_block BP 5 (.int .i64 hi) rfl
  have gp6 := cell_of_block BP 6 (.int .i64 k) rfl
  have gp7 := cell_of_block BP 7 (.int .i64 t) rfl
  have gp8 := cell_of_block BP 8 (.int .i64 c) rfl
  have gp9 := cell_of_block BP 9 (.int .i64 s) rfl
  have lR := lt_of_block BR
  have lP := lt_of_block BP
  clear BR BP
  refine (head_any _).mono ?_
  rintro e w1 ⟨rfl, hE1⟩
  obtain ⟨hc1, hf1⟩ := hE1.rules
  rcases hb1 : reqB h a r with _ | _
  · have HB1 := Lib.hid hb1
    clear hb1
    go_wp2_with fail
    refine (rrequest_any h a r n _).mono ?_
    rintro e w2 ⟨rfl, hE2⟩
    rw [HB1.out]
    replace hE1 := hE1.trans hE2
    clear hE2 hc1 hf1
    obtain ⟨hc1, hf1⟩ := hE1.rules
    rcases hb2 : Rep.ok ⟨a1, h1, r1, n1, lo, hi, k, t, c, s⟩ with _ | _
    · have HB2 : Hid (repB a1 h1 r1 lo hi k t c s = false) := hb2
      clear hb2
      go_wp2_with fail
      refine (rreply_any a1 h1 r1 n1 lo hi k t c s _).mono ?_
      rintro e w5 ⟨rfl, hE5⟩
      rw [HB2.out]
      go_wp2
      go_ret
      exact ⟨rfl, hE0.trans (hE1.trans hE5)⟩
    · have HB2 : Hid (repB a1 h1 r1 lo hi k t c s = true) := hb2
      have HB3 := Lib.hid hb2
      clear hb2
      go_wp2_with fail
      refine (rreply_any a1 h1 r1 n1 lo hi k t c s _).mono ?_
      rintro e w5 ⟨rfl, hE5⟩
      rw [HB2.out]
      replace hE1 := hE1.trans hE5
      clear hE5 hc1 hf1
      obtain ⟨hc1, hf1⟩ := hE1.rules
      have hs2 := S2.out HB3.out
      go_wp2_with fail
      refine (putReply_yes ⟨a1, h1, r1, n1, lo, hi, k, t, c, s⟩ hv' HB3.out _).mono ?_
      rintro e w6 ⟨x2, y2, rfl, s2, hE6⟩
      obtain ⟨b2, off2, rfl, hcell⟩ := s2.at (by omega)
      have g2 : w6.cell? ⟨b2, off2, none⟩ = some (.int .u8 2) := hcell 0 (by omega)
      clear hcell s2
      generalize (pkt 2 (Rep.ints ⟨a1, h1, r1, n1, lo, hi, k, t, c, s⟩)).length = L2 at *
      have hm1 : ((13 : Int) ≤ L2) := by omega
      have hm2 : ((L2 : Int) ≤ 47) := by omega
      have hm0 : ((0 : Int) < L2) := by omega
      go_wp2
      go_ret
      exact ⟨rfl, hE0.trans (hE1.trans hE6)⟩
  · have HB1 := Lib.hid hb1
    clear hb1
    go_wp2_with fail
    refine (rrequest_any h a r n _).mono ?_
    rintro e w2 ⟨rfl, hE2⟩
    rw [HB1.out]
    replace hE1 := hE1.trans hE2
    clear hE2 hc1 hf1
    obtain ⟨hc1, hf1⟩ := hE1.rules
    have hs1 := S1.out HB1.out
    go_wp2_with fail
    refine (putRequest_yes h a r n hw HB1.out _).mono ?_
    rintro e w3 ⟨x1, y1, rfl, s1, hE2⟩
    obtain ⟨b1, off1, rfl, hcell⟩ := s1.at (by omega)
    have g1 : w3.cell? ⟨b1, off1, none⟩ = some (.int .u8 1) := hcell 0 (by omega)
    clear hcell s1
    replace hE1 := hE1.trans hE2
    clear hE2 hc1 hf1
    obtain ⟨hc1, hf1⟩ := hE1.rules
    generalize (pkt 1 (reqInts h a r n)).length = L1 at *
    have hl1 : ((7 : Int) ≤ L1) := by omega
    have hl2 : ((L1 : Int) ≤ 17) := by omega
    have hl0 : ((0 : Int) < L1) := by omega
    rcases hb2 : Rep.ok ⟨a1, h1, r1, n1, lo, hi, k, t, c, s⟩ with _ | _
    · have HB2 : Hid (repB a1 h1 r1 lo hi k t c s = false) := hb2
      clear hb2
      go_wp2_with fail
      refine (rreply_any a1 h1 r1 n1 lo hi k t c s _).mono ?_
      rintro e w5 ⟨rfl, hE5⟩
      rw [HB2.out]
      go_wp2
      go_ret
      exact ⟨rfl, hE0.trans (hE1.trans hE5)⟩
    · have HB2 : Hid (repB a1 h1 r1 lo hi k t c s = true) := hb2
      have HB3 := Lib.hid hb2
      clear hb2
      go_wp2_with fail
      refine (rreply_any a1 h1 r1 n1 lo hi k t c s _).mono ?_
      rintro e w5 ⟨rfl, hE5⟩
      rw [HB2.out]
      replace hE1 := hE1.trans hE5
      clear hE5 hc1 hf1
      obtain ⟨hc1, hf1⟩ := hE1.rules
      have hs2 := S2.out HB3.out
      go_wp2_with fail
      refine (putReply_yes ⟨a1, h1, r1, n1, lo, hi, k, t, c, s⟩ hv' HB3.out _).mono ?_
      rintro e w6 ⟨x2, y2, rfl, s2, hE6⟩
      obtain ⟨b2, off2, rfl, hcell⟩ := s2.at (by omega)
      have g2 : w6.cell? ⟨b2, off2, none⟩ = some (.int .u8 2) := hcell 0 (by omega)
      clear hcell s2
      generalize (pkt 2 (Rep.ints ⟨a1, h1, r1, n1, lo, hi, k, t, c, s⟩)).length = L2 at *
      have hm1 : ((13 : Int) ≤ L2) := by omega
      have hm2 : ((L2 : Int) ≤ 47) := by omega
      have hm0 : ((0 : Int) < L2) := by omega
      go_wp2
      go_ret
      exact ⟨rfl, hE0.trans (hE1.trans hE6)⟩
end Go.Proofs.Ytcpojkodidflcaa
