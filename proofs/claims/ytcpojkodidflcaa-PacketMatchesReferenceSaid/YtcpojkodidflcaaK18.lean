/-
  PacketMatchesReference, walked.
-/
import Derived.Test.YtcpojkodidflcaaK14
namespace Go.Proofs.Ytcpojkodidflcaa
open Go.RowKit Go.Sort Go.Shelf
set_option linter.unusedSimpArgs false
set_option linter.unusedVariables false
set_option maxRecDepth 100000

theorem rgetRequest_no {xs : List Int} (hq : lreq xs = none) (a1 : Option Addr) (n1 c1 : Nat) (w : World) (h1 : Sl .u8 w a1 n1 c1 xs) (hn1 : n1 ≤ 1000000000) :
    Calls Try.prog 15 #[.slice a1 n1 c1] w fun e w' => e = .returned (.tuple #[.agg #[.int .i64 0, .int .i64 0, .int .i64 0, .int .u64 0], .int .i64 7]) ∧ Ext w w' :=
  (rgetRequest_any a1 n1 c1 xs w h1 hn1).mono fun e w' h => by rw [hq] at h; exact h
theorem rgetRequest_yes {xs : List Int} {h a r n : Int} (hq : lreq xs = some (h, a, r, n)) (a1 : Option Addr) (n1 c1 : Nat) (w : World) (h1 : Sl .u8 w a1 n1 c1 xs) (hn1 : n1 ≤ 1000000000) :
    Calls Try.prog 15 #[.slice a1 n1 c1] w fun e w' => e = .returned (.tuple #[.agg #[.int .i64 h, .int .i64 a, .int .i64 r, .int .u64 n], .int .i64 0]) ∧ Ext w w' :=
  (rgetRequest_any a1 n1 c1 xs w h1 hn1).mono fun e w' h => by rw [hq] at h; exact h
theorem rgetReply_no {xs : List Int} (hq : lrep xs = none) (a1 : Option Addr) (n1 c1 : Nat) (w : World) (h1 : Sl .u8 w a1 n1 c1 xs) (hn1 : n1 ≤ 1000000000) :
    Calls Try.prog 19 #[.slice a1 n1 c1] w fun e w' => e = .returned (.tuple #[.agg #[.int .i64 0, .int .i64 0, .int .i64 0, .int .u64 0, .int .i64 0, .int .i64 0, .int .i64 0, .int .i64 0, .int .i64 0, .int .i64 0], .int .i64 7]) ∧ Ext w w' :=
  (rgetReply_any a1 n1 c1 xs w h1 hn1).mono fun e w' h => by rw [hq] at h; exact h
theorem rgetReply_yes {xs : List Int} {a h r n lo hi k t c s : Int} (hq : lrep xs = some ⟨a, h, r, n, lo, hi, k, t, c, s⟩) (a1 : Option Addr) (n1 c1 : Nat) (w : World) (h1 : Sl .u8 w a1 n1 c1 xs) (hn1 : n1 ≤ 1000000000) :
    Calls Try.prog 19 #[.slice a1 n1 c1] w fun e w' => e = .returned (.tuple #[.agg #[.int .i64 a, .int .i64 h, .int .i64 r, .int .u64 n, .int .i64 lo, .int .i64 hi, .int .i64 k, .int .i64 t, .int .i64 c, .int .i64 s], .int .i64 0]) ∧ Ext w w' :=
  (rgetReply_any a1 n1 c1 xs w h1 hn1).mono fun e w' h => by rw [hq] at h; exact h

theorem same_self (a1 a2 : Option Addr) (n1 c1 n2 c2 : Nat) (xs : List Int) (w : World) (h1 : Sl .u8 w a1 n1 c1 xs) (h2 : Sl .u8 w a2 n2 c2 xs) :
    Calls Try.prog 13 #[.slice a1 n1 c1, .slice a2 n2 c2] w fun e w' => e = .returned (.bool true) ∧ Ext w w' :=
  (same_any a1 a2 n1 c1 n2 c2 xs xs w h1 h2).mono fun e w' ⟨h, hE⟩ => ⟨by rw [h, beq_self_eq_true], hE⟩

/-- Two packets, alike. -/
theorem pkts_alike {ok : Bool} {bs : List Int} {P : Prop} {w0 w1 w2 : World} {e1 e2 : Ending} (h1 : PktPost w0 w1 e1 ok bs) (h2 : PktPost w1 w2 e2 ok bs)
    (h : ∀ (a1 a2 : Option Addr) (n1 n2 c1 c2 : Nat) (zs : List Int) (r : Int), e1 = .returned (.tuple #[.slice a1 n1 c1, .int .i64 r]) → e2 = .returned (.tuple #[.slice a2 n2 c2, .int .i64 r]) → Sl .u8 w2 a1 n1 c1 zs → Sl .u8 w2 a2 n2 c2 zs → Ext w0 w1 → Ext w1 w2 → P) : P := by
  obtain ⟨a1, n1, c1, zs1, r1, he1, s1, x1, hz1, hr1⟩ := h1
  obtain ⟨a2, n2, c2, zs2, r2, he2, s2, x2, hz2, hr2⟩ := h2
  have hz : zs2 = zs1 := by rw [hz1, hz2]
  have hr : r2 = r1 := by rw [hr1, hr2]
  rw [hz] at s2
  rw [hr] at he2
  exact h a1 a2 n1 n2 c1 c2 zs1 r1 he1 he2 (s1.ext x2) s2 x1 x2

set_option maxHeartbeats 4000000 in
theorem pmatches_any (h a r n a1 h1 r1 n1 lo hi k t c s : Int) (a2 : Option Addr) (n2 c2 : Nat) (xs : List Int) (w : World) (hw : ReqW h a r n) (hv : RepW a1 h1 r1 n1 lo hi k t c s) (hs : Sl .u8 w a2 n2 c2 xs) :
    Calls Try.prog 3 #[.agg #[.int .i64 h, .int .i64 a, .int .i64 r, .int .u64 n], .agg #[.int .i64 a1, .int .i64 h1, .int .i64 r1, .int .u64 n1, .int .i64 lo, .int .i64 hi, .int .i64 k, .int .i64 t, .int .i64 c, .int .i64 s], .slice a2 n2 c2] w fun e w' => e = .returned (.bool true) ∧ Ext w w' := by
  have b1 := hs.bd
  go_enter Try.func3, Try.ntmps3
  go_wp2_with fail
  have hE0 : Ext w ((w.alloc (.cells #[.int .i64 h, .int .i64 a, .int .i64 r, .int .u64 n] 24)).alloc (.cells #[.int .i64 a1, .int .i64 h1, .int .i64 r1, .int .u64 n1, .int .i64 lo, .int .i64 hi, .int .i64 k, .int .i64 t, .int .i64 c, .int .i64 s] 30)) := ((Ext.refl w).alloc _).alloc _
  have BR : ReqBlk ((w.alloc (.cells #[.int .i64 h, .int .i64 a, .int .i64 r, .int .u64 n] 24)).alloc (.cells #[.int .i64 a1, .int .i64 h1, .int .i64 r1, .int .u64 n1, .int .i64 lo, .int .i64 hi, .int .i64 k, .int .i64 t, .int .i64 c, .int .i64 s] 30)) w.heap.size h a r n := alloc_keep (alloc_at rfl)
  have BP : RepBlk ((w.alloc (.cells #[.int .i64 h, .int .i64 a, .int .i64 r, .int .u64 n] 24)).alloc (.cells #[.int .i64 a1, .int .i64 h1, .int .i64 r1, .int .u64 n1, .int .i64 lo, .int .i64 hi, .int .i64 k, .int .i64 t, .int .i64 c, .int .i64 s] 30)) (w.heap.size + 1) ⟨a1, h1, r1, n1, lo, hi, k, t, c, s⟩ := alloc_at (by simp)
  generalize ((w.alloc (.cells #[.int .i64 h, .int .i64 a, .int .i64 r, .int .u64 n] 24)).alloc (.cells #[.int .i64 a1, .int .i64 h1, .int .i64 r1, .int .u64 n1, .int .i64 lo, .int .i64 hi, .int .i64 k, .int .i64 t, .int .i64 c, .int .i64 s] 30)) = W0 at *
  generalize w.heap.size + 1 = bP at *
  generalize w.heap.size = bR at *
  have gr0 := cell_of_block BR 0 (.int .i64 h) rfl
  have gr1 := cell_of_block BR 1 (.int .i64 a) rfl
  have gr2 := cell_of_block BR 2 (.int .i64 r) rfl
  have gr3 := cell_of_block BR 3 (.int .u64 n) rfl
  have gp0 := cell_of_block BP 0 (.int .i64 a1) rfl
  have gp1 := cell_of_block BP 1 (.int .i64 h1) rfl
  have gp2 := cell_of_block BP 2 (.int .i64 r1) rfl
  have gp3 := cell_of_block BP 3 (.int .u64 n1) rfl
  have gp4 := cell_of_block BP 4 (.int .i64 lo) rfl
  have gp5 := cell_of_block BP 5 (.int .i64 hi) rfl
  have gp6 := cell_of_block BP 6 (.int .i64 k) rfl
  have gp7 := cell_of_block BP 7 (.int .i64 t) rfl
  have gp8 := cell_of_block BP 8 (.int .i64 c) rfl
  have gp9 := cell_of_block BP 9 (.int .i64 s) rfl
  have lR := lt_of_block BR
  have lP := lt_of_block BP
  clear BR BP
  replace hs := hs.ext hE0
  refine (head_any _).mono ?_
  rintro e w1 ⟨rfl, hE1⟩
  obtain ⟨hc1, hf1⟩ := hE1.rules
  by_cases hn : n2 ≤ 300
  · have hd : decide ((300 : Int) < n2) = false := by simp; omega
    go_wp2_with fail
    refine (putRequest_any h a r n hw _).mono ?_
    rintro e w2 HQ1
    obtain ⟨a3, m3, c3, zs3, r3, rfl, s3, hE2, hz3, hr3⟩ := HQ1
    have HZ := Lib.hid hz3
    have HR := Lib.hid hr3
    clear hz3 hr3
    replace hE1 := hE1.trans hE2
    clear hE2 hc1 hf1
    obtain ⟨hc1, hf1⟩ := hE1.rules
    go_wp2_with fail
    refine (rputRequest_any h a r n hw _).mono ?_
    rintro e w3 HQ1
    obtain ⟨a4, m4, c4, zs4, r4, rfl, s4, hE2, hz4, hr4⟩ := HQ1
    obtain rfl : zs4 = zs3 := by rw [HZ.out, hz4]
    obtain rfl : r4 = r3 := by rw [HR.out, hr4]
    clear HZ hz4 HR hr4
    replace s3 := s3.ext hE2
    replace hE1 := hE1.trans hE2
    clear hE2 hc1 hf1
    obtain ⟨hc1, hf1⟩ := hE1.rules
    go_wp2_with fail
    refine (same_self _ _ _ _ _ _ _ _ s3 s4).mono ?_
    rintro e w4 ⟨rfl, hE2⟩
    replace hE1 := hE1.trans hE2
    clear hE2 hc1 hf1
    obtain ⟨hc1, hf1⟩ := hE1.rules
    clear s3 s4
    rcases hlq : lreq xs with _ | ⟨hq, aq, rq, nq⟩
    · have HQ := Lib.hid hlq
      clear hlq
      go_wp2_with fail
      refine (getRequest_no HQ.out _ _ _ _ (hs.ext hE1) (by omega)).mono ?_
      rintro e w5 ⟨rfl, hE2⟩
      replace hE1 := hE1.trans hE2
      clear hE2 hc1 hf1
      obtain ⟨hc1, hf1⟩ := hE1.rules
      go_wp2_with fail
      have hE2 : Ext w5 (w5.alloc (.cells #[.int .i64 0, .int .i64 0, .int .i64 0, .int .u64 0] 24)) := (Ext.refl w5).alloc _
      have BS : ReqBlk (w5.alloc (.cells #[.int .i64 0, .int .i64 0, .int .i64 0, .int .u64 0] 24)) w5.heap.size 0 0 0 0 := World.alloc_heap_new w5 _
      generalize (w5.alloc (.cells #[.int .i64 0, .int .i64 0, .int .i64 0, .int .u64 0] 24)) = V1 at *
      generalize w5.heap.size = bS at *
      replace hE1 := hE1.trans hE2
      clear hE2 hc1 hf1
      obtain ⟨hc1, hf1⟩ := hE1.rules
      refine (rgetRequest_no HQ.out _ _ _ _ (hs.ext hE1) (by omega)).mono ?_
      rintro e w6 ⟨rfl, hE2⟩
      replace BS := BS.ext hE2
      replace hE1 := hE1.trans hE2
      clear hE2 hc1 hf1
      obtain ⟨hc1, hf1⟩ := hE1.rules
      have hE2 : Ext w6 (w6.alloc (.cells #[.int .i64 0, .int .i64 0, .int .i64 0, .int .u64 0] 24)) := (Ext.refl w6).alloc _
      have BT : ReqBlk (w6.alloc (.cells #[.int .i64 0, .int .i64 0, .int .i64 0, .int .u64 0] 24)) w6.heap.size 0 0 0 0 := World.alloc_heap_new w6 _
      replace BS : ReqBlk (w6.alloc (.cells #[.int .i64 0, .int .i64 0, .int .i64 0, .int .u64 0] 24)) bS 0 0 0 0 := alloc_keep BS
      have lS := lt_of_block BS
      have lT := lt_of_block BT
      have gs0 := cell_of_block BS 0 (.int .i64 0) rfl
      have gt0 := cell_of_block BT 0 (.int .i64 0) rfl
      have gs1 := cell_of_block BS 1 (.int .i64 0) rfl
      have gt1 := cell_of_block BT 1 (.int .i64 0) rfl
      have gs2 := cell_of_block BS 2 (.int .i64 0) rfl
      have gt2 := cell_of_block BT 2 (.int .i64 0) rfl
      have gs3 := cell_of_block BS 3 (.int .u64 0) rfl
      have gt3 := cell_of_block BT 3 (.int .u64 0) rfl
      replace hE1 := hE1.trans hE2
      clear hE2 hc1 hf1 BS BT
      obtain ⟨hc1, hf1⟩ := hE1.rules
      go_wp2_with fail
      generalize (w6.alloc (.cells #[.int .i64 0, .int .i64 0, .int .i64 0, .int .u64 0] 24)) = V2 at *
      generalize w6.heap.size = bT at *
      clear gs0 gt0 gs1 gt1 gs2 gt2 gs3 gt3 lS lT HQ
      refine (putReply_any a1 h1 r1 n1 lo hi k t c s hv _).mono ?_
      rintro e w7 HQ1
      obtain ⟨a3, m3, c3, zs3, r3, rfl, s3, hE2, hz3, hr3⟩ := HQ1
      have HZ := Lib.hid hz3
      have HR := Lib.hid hr3
      clear hz3 hr3
      replace hE1 := hE1.trans hE2
      clear hE2 hc1 hf1
      obtain ⟨hc1, hf1⟩ := hE1.rules
      go_wp2_with fail
      refine (rputReply_any a1 h1 r1 n1 lo hi k t c s hv _).mono ?_
      rintro e w8 HQ1
      obtain ⟨a4, m4, c4, zs4, r4, rfl, s4, hE2, hz4, hr4⟩ := HQ1
      obtain rfl : zs4 = zs3 := by rw [HZ.out, hz4]
      obtain rfl : r4 = r3 := by rw [HR.out, hr4]
      clear HZ hz4 HR hr4
      replace s3 := s3.ext hE2
      replace hE1 := hE1.trans hE2
      clear hE2 hc1 hf1
      obtain ⟨hc1, hf1⟩ := hE1.rules
      go_wp2_with fail
      refine (same_self _ _ _ _ _ _ _ _ s3 s4).mono ?_
      rintro e w9 ⟨rfl, hE2⟩
      replace hE1 := hE1.trans hE2
      clear hE2 hc1 hf1
      obtain ⟨hc1, hf1⟩ := hE1.rules
      clear s3 s4
      rcases hlp : lrep xs with _ | ⟨aw, hw1, rw1, nw, low, hiw, kw, tw, cw, sw⟩
      · have HQ := Lib.hid hlp
        clear hlp
        go_wp2_with fail
        refine (getReply_no HQ.out _ _ _ _ (hs.ext hE1) (by omega)).mono ?_
        rintro e w10 ⟨rfl, hE2⟩
        replace hE1 := hE1.trans hE2
        clear hE2 hc1 hf1
        obtain ⟨hc1, hf1⟩ := hE1.rules
        go_wp2_with fail
        have hE2 : Ext w10 (w10.alloc (.cells #[.int .i64 0, .int .i64 0, .int .i64 0, .int .u64 0, .int .i64 0, .int .i64 0, .int .i64 0, .int .i64 0, .int .i64 0, .int .i64 0] 30)) := (Ext.refl w10).alloc _
        have BS : RepBlk (w10.alloc (.cells #[.int .i64 0, .int .i64 0, .int .i64 0, .int .u64 0, .int .i64 0, .int .i64 0, .int .i64 0, .int .i64 0, .int .i64 0, .int .i64 0] 30)) w10.heap.size ⟨0, 0, 0, 0, 0, 0, 0, 0, 0, 0⟩ := World.alloc_heap_new w10 _
        generalize (w10.alloc (.cells #[.int .i64 0, .int .i64 0, .int .i64 0, .int .u64 0, .int .i64 0, .int .i64 0, .int .i64 0, .int .i64 0, .int .i64 0, .int .i64 0] 30)) = V1 at *
        generalize w10.heap.size = bS at *
        replace hE1 := hE1.trans hE2
        clear hE2 hc1 hf1
        obtain ⟨hc1, hf1⟩ := hE1.rules
        refine (rgetReply_no HQ.out _ _ _ _ (hs.ext hE1) (by omega)).mono ?_
        rintro e w11 ⟨rfl, hE2⟩
        replace BS := BS.ext hE2
        replace hE1 := hE1.trans hE2
        clear hE2 hc1 hf1
        obtain ⟨hc1, hf1⟩ := hE1.rules
        have hE2 : Ext w11 (w11.alloc (.cells #[.int .i64 0, .int .i64 0, .int .i64 0, .int .u64 0, .int .i64 0, .int .i64 0, .int .i64 0, .int .i64 0, .int .i64 0, .int .i64 0] 30)) := (Ext.refl w11).alloc _
        have BT : RepBlk (w11.alloc (.cells #[.int .i64 0, .int .i64 0, .int .i64 0, .int .u64 0, .int .i64 0, .int .i64 0, .int .i64 0, .int .i64 0, .int .i64 0, .int .i64 0] 30)) w11.heap.size ⟨0, 0, 0, 0, 0, 0, 0, 0, 0, 0⟩ := World.alloc_heap_new w11 _
        replace BS : RepBlk (w11.alloc (.cells #[.int .i64 0, .int .i64 0, .int .i64 0, .int .u64 0, .int .i64 0, .int .i64 0, .int .i64 0, .int .i64 0, .int .i64 0, .int .i64 0] 30)) bS ⟨0, 0, 0, 0, 0, 0, 0, 0, 0, 0⟩ := alloc_keep BS
        have lS := lt_of_block BS
        have lT := lt_of_block BT
        have gs0 := cell_of_block BS 0 (.int .i64 0) rfl
        have gt0 := cell_of_block BT 0 (.int .i64 0) rfl
        have gs1 := cell_of_block BS 1 (.int .i64 0) rfl
        have gt1 := cell_of_block BT 1 (.int .i64 0) rfl
        have gs2 := cell_of_block BS 2 (.int .i64 0) rfl
        have gt2 := cell_of_block BT 2 (.int .i64 0) rfl
        have gs3 := cell_of_block BS 3 (.int .u64 0) rfl
        have gt3 := cell_of_block BT 3 (.int .u64 0) rfl
        have gs4 := cell_of_block BS 4 (.int .i64 0) rfl
        have gt4 := cell_of_block BT 4 (.int .i64 0) rfl
        have gs5 := cell_of_block BS 5 (.int .i64 0) rfl
        have gt5 := cell_of_block BT 5 (.int .i64 0) rfl
        have gs6 := cell_of_block BS 6 (.int .i64 0) rfl
        have gt6 := cell_of_block BT 6 (.int .i64 0) rfl
        have gs7 := cell_of_block BS 7 (.int .i64 0) rfl
        have gt7 := cell_of_block BT 7 (.int .i64 0) rfl
        have gs8 := cell_of_block BS 8 (.int .i64 0) rfl
        have gt8 := cell_of_block BT 8 (.int .i64 0) rfl
        have gs9 := cell_of_block BS 9 (.int .i64 0) rfl
        have gt9 := cell_of_block BT 9 (.int .i64 0) rfl
        replace hE1 := hE1.trans hE2
        clear hE2 hc1 hf1 BS BT
        obtain ⟨hc1, hf1⟩ := hE1.rules
        go_wp2
        go_ret
        exact ⟨rfl, hE0.trans hE1⟩
      · have HQ := Lib.hid hlp
        clear hlp
        go_wp2_with fail
        refine (getReply_yes HQ.out _ _ _ _ (hs.ext hE1) (by omega)).mono ?_
        rintro e w10 ⟨rfl, hE2⟩
        replace hE1 := hE1.trans hE2
        clear hE2 hc1 hf1
        obtain ⟨hc1, hf1⟩ := hE1.rules
        go_wp2_with fail
        have hE2 : Ext w10 (w10.alloc (.cells #[.int .i64 aw, .int .i64 hw1, .int .i64 rw1, .int .u64 nw, .int .i64 low, .int .i64 hiw, .int .i64 kw, .int .i64 tw, .int .i64 cw, .int .i64 sw] 30)) := (Ext.refl w10).alloc _
        have BS : RepBlk (w10.alloc (.cells #[.int .i64 aw, .int .i64 hw1, .int .i64 rw1, .int .u64 nw, .int .i64 low, .int .i64 hiw, .int .i64 kw, .int .i64 tw, .int .i64 cw, .int .i64 sw] 30)) w10.heap.size ⟨aw, hw1, rw1, nw, low, hiw, kw, tw, cw, sw⟩ := World.alloc_heap_new w10 _
        generalize (w10.alloc (.cells #[.int .i64 aw, .int .i64 hw1, .int .i64 rw1, .int .u64 nw, .int .i64 low, .int .i64 hiw, .int .i64 kw, .int .i64 tw, .int .i64 cw, .int .i64 sw] 30)) = V1 at *
        generalize w10.heap.size = bS at *
        replace hE1 := hE1.trans hE2
        clear hE2 hc1 hf1
        obtain ⟨hc1, hf1⟩ := hE1.rules
        refine (rgetReply_yes HQ.out _ _ _ _ (hs.ext hE1) (by omega)).mono ?_
        rintro e w11 ⟨rfl, hE2⟩
        replace BS := BS.ext hE2
        replace hE1 := hE1.trans hE2
        clear hE2 hc1 hf1
        obtain ⟨hc1, hf1⟩ := hE1.rules
        have hE2 : Ext w11 (w11.alloc (.cells #[.int .i64 aw, .int .i64 hw1, .int .i64 rw1, .int .u64 nw, .int .i64 low, .int .i64 hiw, .int .i64 kw, .int .i64 tw, .int .i64 cw, .int .i64 sw] 30)) := (Ext.refl w11).alloc _
        have BT : RepBlk (w11.alloc (.cells #[.int .i64 aw, .int .i64 hw1, .int .i64 rw1, .int .u64 nw, .int .i64 low, .int .i64 hiw, .int .i64 kw, .int .i64 tw, .int .i64 cw, .int .i64 sw] 30)) w11.heap.size ⟨aw, hw1, rw1, nw, low, hiw, kw, tw, cw, sw⟩ := World.alloc_heap_new w11 _
        replace BS : RepBlk (w11.alloc (.cells #[.int .i64 aw, .int .i64 hw1, .int .i64 rw1, .int .u64 nw, .int .i64 low, .int .i64 hiw, .int .i64 kw, .int .i64 tw, .int .i64 cw, .int .i64 sw] 30)) bS ⟨aw, hw1, rw1, nw, low, hiw, kw, tw, cw, sw⟩ := alloc_keep BS
        have lS := lt_of_block BS
        have lT := lt_of_block BT
        have gs0 := cell_of_block BS 0 (.int .i64 aw) rfl
        have gt0 := cell_of_block BT 0 (.int .i64 aw) rfl
        have gs1 := cell_of_block BS 1 (.int .i64 hw1) rfl
        have gt1 := cell_of_block BT 1 (.int .i64 hw1) rfl
        have gs2 := cell_of_block BS 2 (.int .i64 rw1) rfl
        have gt2 := cell_of_block BT 2 (.int .i64 rw1) rfl
        have gs3 := cell_of_block BS 3 (.int .u64 nw) rfl
        have gt3 := cell_of_block BT 3 (.int .u64 nw) rfl
        have gs4 := cell_of_block BS 4 (.int .i64 low) rfl
        have gt4 := cell_of_block BT 4 (.int .i64 low) rfl
        have gs5 := cell_of_block BS 5 (.int .i64 hiw) rfl
        have gt5 := cell_of_block BT 5 (.int .i64 hiw) rfl
        have gs6 := cell_of_block BS 6 (.int .i64 kw) rfl
        have gt6 := cell_of_block BT 6 (.int .i64 kw) rfl
        have gs7 := cell_of_block BS 7 (.int .i64 tw) rfl
        have gt7 := cell_of_block BT 7 (.int .i64 tw) rfl
        have gs8 := cell_of_block BS 8 (.int .i64 cw) rfl
        have gt8 := cell_of_block BT 8 (.int .i64 cw) rfl
        have gs9 := cell_of_block BS 9 (.int .i64 sw) rfl
        have gt9 := cell_of_block BT 9 (.int .i64 sw) rfl
        replace hE1 := hE1.trans hE2
        clear hE2 hc1 hf1 BS BT
        obtain ⟨hc1, hf1⟩ := hE1.rules
        go_wp2
        go_ret
        exact ⟨rfl, hE0.trans hE1⟩
    · have HQ := Lib.hid hlq
      clear hlq
      go_wp2_with fail
      refine (getRequest_yes HQ.out _ _ _ _ (hs.ext hE1) (by omega)).mono ?_
      rintro e w5 ⟨rfl, hE2⟩
      replace hE1 := hE1.trans hE2
      clear hE2 hc1 hf1
      obtain ⟨hc1, hf1⟩ := hE1.rules
      go_wp2_with fail
      have hE2 : Ext w5 (w5.alloc (.cells #[.int .i64 hq, .int .i64 aq, .int .i64 rq, .int .u64 nq] 24)) := (Ext.refl w5).alloc _
      have BS : ReqBlk (w5.alloc (.cells #[.int .i64 hq, .int .i64 aq, .int .i64 rq, .int .u64 nq] 24)) w5.heap.size hq aq rq nq := World.alloc_heap_new w5 _
      generalize (w5.alloc (.cells #[.int .i64 hq, .int .i64 aq, .int .i64 rq, .int .u64 nq] 24)) = V1 at *
      generalize w5.heap.size = bS at *
      replace hE1 := hE1.trans hE2
      clear hE2 hc1 hf1
      obtain ⟨hc1, hf1⟩ := hE1.rules
      refine (rgetRequest_yes HQ.out _ _ _ _ (hs.ext hE1) (by omega)).mono ?_
      rintro e w6 ⟨rfl, hE2⟩
      replace BS := BS.ext hE2
      replace hE1 := hE1.trans hE2
      clear hE2 hc1 hf1
      obtain ⟨hc1, hf1⟩ := hE1.rules
      have hE2 : Ext w6 (w6.alloc (.cells #[.int .i64 hq, .int .i64 aq, .int .i64 rq, .int .u64 nq] 24)) := (Ext.refl w6).alloc _
      have BT : ReqBlk (w6.alloc (.cells #[.int .i64 hq, .int .i64 aq, .int .i64 rq, .int .u64 nq] 24)) w6.heap.size hq aq rq nq := World.alloc_heap_new w6 _
      replace BS : ReqBlk (w6.alloc (.cells #[.int .i64 hq, .int .i64 aq, .int .i64 rq, .int .u64 nq] 24)) bS hq aq rq nq := alloc_keep BS
      have lS := lt_of_block BS
      have lT := lt_of_block BT
      have gs0 := cell_of_block BS 0 (.int .i64 hq) rfl
      have gt0 := cell_of_block BT 0 (.int .i64 hq) rfl
      have gs1 := cell_of_block BS 1 (.int .i64 aq) rfl
      have gt1 := cell_of_block BT 1 (.int .i64 aq) rfl
      have gs2 := cell_of_block BS 2 (.int .i64 rq) rfl
      have gt2 := cell_of_block BT 2 (.int .i64 rq) rfl
      have gs3 := cell_of_block BS 3 (.int .u64 nq) rfl
      have gt3 := cell_of_block BT 3 (.int .u64 nq) rfl
      replace hE1 := hE1.trans hE2
      clear hE2 hc1 hf1 BS BT
      obtain ⟨hc1, hf1⟩ := hE1.rules
      go_wp2_with fail
      generalize (w6.alloc (.cells #[.int .i64 hq, .int .i64 aq, .int .i64 rq, .int .u64 nq] 24)) = V2 at *
      generalize w6.heap.size = bT at *
      clear gs0 gt0 gs1 gt1 gs2 gt2 gs3 gt3 lS lT HQ
      refine (putReply_any a1 h1 r1 n1 lo hi k t c s hv _).mono ?_
      rintro e w7 HQ1
      obtain ⟨a3, m3, c3, zs3, r3, rfl, s3, hE2, hz3, hr3⟩ := HQ1
      have HZ := Lib.hid hz3
      have HR := Lib.hid hr3
      clear hz3 hr3
      replace hE1 := hE1.trans hE2
      clear hE2 hc1 hf1
      obtain ⟨hc1, hf1⟩ := hE1.rules
      go_wp2_with fail
      refine (rputReply_any a1 h1 r1 n1 lo hi k t c s hv _).mono ?_
      rintro e w8 HQ1
      obtain ⟨a4, m4, c4, zs4, r4, rfl, s4, hE2, hz4, hr4⟩ := HQ1
      obtain rfl : zs4 = zs3 := by rw [HZ.out, hz4]
      obtain rfl : r4 = r3 := by rw [HR.out, hr4]
      clear HZ hz4 HR hr4
      replace s3 := s3.ext hE2
      replace hE1 := hE1.trans hE2
      clear hE2 hc1 hf1
      obtain ⟨hc1, hf1⟩ := hE1.rules
      go_wp2_with fail
      refine (same_self _ _ _ _ _ _ _ _ s3 s4).mono ?_
      rintro e w9 ⟨rfl, hE2⟩
      replace hE1 := hE1.trans hE2
      clear hE2 hc1 hf1
      obtain ⟨hc1, hf1⟩ := hE1.rules
      clear s3 s4
      rcases hlp : lrep xs with _ | ⟨aw, hw1, rw1, nw, low, hiw, kw, tw, cw, sw⟩
      · have HQ := Lib.hid hlp
        clear hlp
        go_wp2_with fail
        refine (getReply_no HQ.out _ _ _ _ (hs.ext hE1) (by omega)).mono ?_
        rintro e w10 ⟨rfl, hE2⟩
        replace hE1 := hE1.trans hE2
        clear hE2 hc1 hf1
        obtain ⟨hc1, hf1⟩ := hE1.rules
        go_wp2_with fail
        have hE2 : Ext w10 (w10.alloc (.cells #[.int .i64 0, .int .i64 0, .int .i64 0, .int .u64 0, .int .i64 0, .int .i64 0, .int .i64 0, .int .i64 0, .int .i64 0, .int .i64 0] 30)) := (Ext.refl w10).alloc _
        have BS : RepBlk (w10.alloc (.cells #[.int .i64 0, .int .i64 0, .int .i64 0, .int .u64 0, .int .i64 0, .int .i64 0, .int .i64 0, .int .i64 0, .int .i64 0, .int .i64 0] 30)) w10.heap.size ⟨0, 0, 0, 0, 0, 0, 0, 0, 0, 0⟩ := World.alloc_heap_new w10 _
        generalize (w10.alloc (.cells #[.int .i64 0, .int .i64 0, .int .i64 0, .int .u64 0, .int .i64 0, .int .i64 0, .int .i64 0, .int .i64 0, .int .i64 0, .int .i64 0] 30)) = V1 at *
        generalize w10.heap.size = bS at *
        replace hE1 := hE1.trans hE2
        clear hE2 hc1 hf1
        obtain ⟨hc1, hf1⟩ := hE1.rules
        refine (rgetReply_no HQ.out _ _ _ _ (hs.ext hE1) (by omega)).mono ?_
        rintro e w11 ⟨rfl, hE2⟩
        replace BS := BS.ext hE2
        replace hE1 := hE1.trans hE2
        clear hE2 hc1 hf1
        obtain ⟨hc1, hf1⟩ := hE1.rules
        have hE2 : Ext w11 (w11.alloc (.cells #[.int .i64 0, .int .i64 0, .int .i64 0, .int .u64 0, .int .i64 0, .int .i64 0, .int .i64 0, .int .i64 0, .int .i64 0, .int .i64 0] 30)) := (Ext.refl w11).alloc _
        have BT : RepBlk (w11.alloc (.cells #[.int .i64 0, .int .i64 0, .int .i64 0, .int .u64 0, .int .i64 0, .int .i64 0, .int .i64 0, .int .i64 0, .int .i64 0, .int .i64 0] 30)) w11.heap.size ⟨0, 0, 0, 0, 0, 0, 0, 0, 0, 0⟩ := World.alloc_heap_new w11 _
        replace BS : RepBlk (w11.alloc (.cells #[.int .i64 0, .int .i64 0, .int .i64 0, .int .u64 0, .int .i64 0, .int .i64 0, .int .i64 0, .int .i64 0, .int .i64 0, .int .i64 0] 30)) bS ⟨0, 0, 0, 0, 0, 0, 0, 0, 0, 0⟩ := alloc_keep BS
        have lS := lt_of_block BS
        have lT := lt_of_block BT
        have gs0 := cell_of_block BS 0 (.int .i64 0) rfl
        have gt0 := cell_of_block BT 0 (.int .i64 0) rfl
        have gs1 := cell_of_block BS 1 (.int .i64 0) rfl
        have gt1 := cell_of_block BT 1 (.int .i64 0) rfl
        have gs2 := cell_of_block BS 2 (.int .i64 0) rfl
        have gt2 := cell_of_block BT 2 (.int .i64 0) rfl
        have gs3 := cell_of_block BS 3 (.int .u64 0) rfl
        have gt3 := cell_of_block BT 3 (.int .u64 0) rfl
        have gs4 := cell_of_block BS 4 (.int .i64 0) rfl
        have gt4 := cell_of_block BT 4 (.int .i64 0) rfl
        have gs5 := cell_of_block BS 5 (.int .i64 0) rfl
        have gt5 := cell_of_block BT 5 (.int .i64 0) rfl
        have gs6 := cell_of_block BS 6 (.int .i64 0) rfl
        have gt6 := cell_of_block BT 6 (.int .i64 0) rfl
        have gs7 := cell_of_block BS 7 (.int .i64 0) rfl
        have gt7 := cell_of_block BT 7 (.int .i64 0) rfl
        have gs8 := cell_of_block BS 8 (.int .i64 0) rfl
        have gt8 := cell_of_block BT 8 (.int .i64 0) rfl
        have gs9 := cell_of_block BS 9 (.int .i64 0) rfl
        have gt9 := cell_of_block BT 9 (.int .i64 0) rfl
        replace hE1 := hE1.trans hE2
        clear hE2 hc1 hf1 BS BT
        obtain ⟨hc1, hf1⟩ := hE1.rules
        go_wp2
        go_ret
        exact ⟨rfl, hE0.trans hE1⟩
      · have HQ := Lib.hid hlp
        clear hlp
        go_wp2_with fail
        refine (getReply_yes HQ.out _ _ _ _ (hs.ext hE1) (by omega)).mono ?_
        rintro e w10 ⟨rfl, hE2⟩
        replace hE1 := hE1.trans hE2
        clear hE2 hc1 hf1
        obtain ⟨hc1, hf1⟩ := hE1.rules
        go_wp2_with fail
        have hE2 : Ext w10 (w10.alloc (.cells #[.int .i64 aw, .int .i64 hw1, .int .i64 rw1, .int .u64 nw, .int .i64 low, .int .i64 hiw, .int .i64 kw, .int .i64 tw, .int .i64 cw, .int .i64 sw] 30)) := (Ext.refl w10).alloc _
        have BS : RepBlk (w10.alloc (.cells #[.int .i64 aw, .int .i64 hw1, .int .i64 rw1, .int .u64 nw, .int .i64 low, .int .i64 hiw, .int .i64 kw, .int .i64 tw, .int .i64 cw, .int .i64 sw] 30)) w10.heap.size ⟨aw, hw1, rw1, nw, low, hiw, kw, tw, cw, sw⟩ := World.alloc_heap_new w10 _
        generalize (w10.alloc (.cells #[.int .i64 aw, .int .i64 hw1, .int .i64 rw1, .int .u64 nw, .int .i64 low, .int .i64 hiw, .int .i64 kw, .int .i64 tw, .int .i64 cw, .int .i64 sw] 30)) = V1 at *
        generalize w10.heap.size = bS at *
        replace hE1 := hE1.trans hE2
        clear hE2 hc1 hf1
        obtain ⟨hc1, hf1⟩ := hE1.rules
        refine (rgetReply_yes HQ.out _ _ _ _ (hs.ext hE1) (by omega)).mono ?_
        rintro e w11 ⟨rfl, hE2⟩
        replace BS := BS.ext hE2
        replace hE1 := hE1.trans hE2
        clear hE2 hc1 hf1
        obtain ⟨hc1, hf1⟩ := hE1.rules
        have hE2 : Ext w11 (w11.alloc (.cells #[.int .i64 aw, .int .i64 hw1, .int .i64 rw1, .int .u64 nw, .int .i64 low, .int .i64 hiw, .int .i64 kw, .int .i64 tw, .int .i64 cw, .int .i64 sw] 30)) := (Ext.refl w11).alloc _
        have BT : RepBlk (w11.alloc (.cells #[.int .i64 aw, .int .i64 hw1, .int .i64 rw1, .int .u64 nw, .int .i64 low, .int .i64 hiw, .int .i64 kw, .int .i64 tw, .int .i64 cw, .int .i64 sw] 30)) w11.heap.size ⟨aw, hw1, rw1, nw, low, hiw, kw, tw, cw, sw⟩ := World.alloc_heap_new w11 _
        replace BS : RepBlk (w11.alloc (.cells #[.int .i64 aw, .int .i64 hw1, .int .i64 rw1, .int .u64 nw, .int .i64 low, .int .i64 hiw, .int .i64 kw, .int .i64 tw, .int .i64 cw, .int .i64 sw] 30)) bS ⟨aw, hw1, rw1, nw, low, hiw, kw, tw, cw, sw⟩ := alloc_keep BS
        have lS := lt_of_block BS
        have lT := lt_of_block BT
        have gs0 := cell_of_block BS 0 (.int .i64 aw) rfl
        have gt0 := cell_of_block BT 0 (.int .i64 aw) rfl
        have gs1 := cell_of_block BS 1 (.int .i64 hw1) rfl
        have gt1 := cell_of_block BT 1 (.int .i64 hw1) rfl
        have gs2 := cell_of_block BS 2 (.int .i64 rw1) rfl
        have gt2 := cell_of_block BT 2 (.int .i64 rw1) rfl
        have gs3 := cell_of_block BS 3 (.int .u64 nw) rfl
        have gt3 := cell_of_block BT 3 (.int .u64 nw) rfl
        have gs4 := cell_of_block BS 4 (.int .i64 low) rfl
        have gt4 := cell_of_block BT 4 (.int .i64 low) rfl
        have gs5 := cell_of_block BS 5 (.int .i64 hiw) rfl
        have gt5 := cell_of_block BT 5 (.int .i64 hiw) rfl
        have gs6 := cell_of_block BS 6 (.int .i64 kw) rfl
        have gt6 := cell_of_block BT 6 (.int .i64 kw) rfl
        have gs7 := cell_of_block BS 7 (.int .i64 tw) rfl
        have gt7 := cell_of_block BT 7 (.int .i64 tw) rfl
        have gs8 := cell_of_block BS 8 (.int .i64 cw) rfl
        have gt8 := cell_of_block BT 8 (.int .i64 cw) rfl
        have gs9 := cell_of_block BS 9 (.int .i64 sw) rfl
        have gt9 := cell_of_block BT 9 (.int .i64 sw) rfl
        replace hE1 := hE1.trans hE2
        clear hE2 hc1 hf1 BS BT
        obtain ⟨hc1, hf1⟩ := hE1.rules
        go_wp2
        go_ret
        exact ⟨rfl, hE0.trans hE1⟩
  · have hd : decide ((300 : Int) < n2) = true := by simp; omega
    go_wp2
    go_ret
    exact ⟨rfl, hE0.trans hE1⟩
end Go.Proofs.Ytcpojkodidflcaa
