/-
  PacketRequests, walked.
-/
import Derived.Test.YtcpojkodidflcaaK14
import Derived.Deep.Cut
namespace Go.Proofs.Ytcpojkodidflcaa
open Go.RowKit Go.Sort Go.Shelf
set_option linter.unusedSimpArgs false
set_option linter.unusedVariables false
set_option maxRecDepth 100000

set_option maxHeartbeats 3000000 in
theorem requests_any (h a r n : Int) (a1 : Option Addr) (n1 c1 : Nat) (xs : List Int) (w : World) (hw : ReqW h a r n) (h1 : Sl .u8 w a1 n1 c1 xs) :
    Calls Try.prog 4 #[.agg #[.int .i64 h, .int .i64 a, .int .i64 r, .int .u64 n], .slice a1 n1 c1] w fun e w' => e = .returned (.bool true) ∧ Ext w w' := by
  have b1 := h1.bd
  by_cases hn : n1 ≤ 300
  · have hd : decide ((300 : Int) < n1) = false := by simp; omega
    have hrt : reqB h a r = true → lreq (pkt 1 (reqInts h a r n)) = some (h, a, r, n) := fun hb => lreq_pkt hw hb
    have HRT := Lib.hid hrt
    clear hrt
    have hpl : (pkt 1 (reqInts h a r n)).length ≤ 20000 := by
      have := lput_len (xs := (reqInts h a r n)) (ReqW.ints hw) (by simp [reqInts])
      simp only [pkt, List.length_cons]
      have e : ((reqInts h a r n)).length ≤ 11 := by simp [reqInts]
      omega
    have HPL := Lib.hid hpl
    clear hpl
    rcases hq : lreq xs with _ | ⟨h', a', r', n'⟩
    · have HQ := Lib.hid hq
      clear hq
      go_enter Try.func4, Try.ntmps4
      go_wp2_with fail
      have hE0 : Ext w (w.alloc (.cells #[.int .i64 h, .int .i64 a, .int .i64 r, .int .u64 n] 24)) := (Ext.refl w).alloc _
      have BR : ReqBlk (w.alloc (.cells #[.int .i64 h, .int .i64 a, .int .i64 r, .int .u64 n] 24)) w.heap.size h a r n := alloc_at rfl
      generalize (w.alloc (.cells #[.int .i64 h, .int .i64 a, .int .i64 r, .int .u64 n] 24)) = W0 at *
      generalize w.heap.size = bR at *
      have gr0 := cell_of_block BR 0 (.int .i64 h) rfl
      have gr1 := cell_of_block BR 1 (.int .i64 a) rfl
      have gr2 := cell_of_block BR 2 (.int .i64 r) rfl
      have gr3 := cell_of_block BR 3 (.int .u64 n) rfl
      have lR := lt_of_block BR
      clear BR
      refine (head_any _).mono ?_
      rintro e w1 ⟨rfl, hE1⟩
      obtain ⟨hc1, hf1⟩ := hE1.rules
      go_wp2_with fail
      refine (getRequest_no HQ.out _ _ _ _ (h1.ext (hE0.trans hE1)) (by omega)).mono ?_
      rintro e w2 ⟨rfl, hE2⟩
      replace hE1 := hE1.trans hE2
      clear hE2 hc1 hf1
      have hE3 : Ext w2 (w2.alloc (.cells #[.int .i64 0, .int .i64 0, .int .i64 0, .int .u64 0] 24)) := (Ext.refl w2).alloc _
      replace hE1 := hE1.trans hE3
      have lR1 : bR < (w2.alloc (.cells #[.int .i64 0, .int .i64 0, .int .i64 0, .int .u64 0] 24)).heap.size := Nat.lt_of_lt_of_le lR hE1.sz
      go_upto_region 5 with fail
      have BN : ReqBlk (w2.alloc (.cells #[.int .i64 0, .int .i64 0, .int .i64 0, .int .u64 0] 24)) w2.heap.size 0 0 0 0 := World.alloc_heap_new w2 _
      generalize w2.alloc (.cells #[.int .i64 0, .int .i64 0, .int .i64 0, .int .u64 0] 24) = W2 at *
      generalize w2.heap.size = bN at *
      clear hE3
      have gn0 := cell_of_block BN 0 (.int .i64 0) rfl
      have gn1 := cell_of_block BN 1 (.int .i64 0) rfl
      have gn2 := cell_of_block BN 2 (.int .i64 0) rfl
      have gn3 := cell_of_block BN 3 (.int .u64 0) rfl
      obtain ⟨hc1, hf1⟩ := hE1.rules
      rcases hb1 : reqB h a r with _ | _
      · have HB1 : Hid (reqB h a r = false) := hb1
        clear hb1
        go_wp2_with fail
        refine (rrequest_any h a r n _).mono ?_
        rintro e w5 ⟨rfl, hE5⟩
        rw [HB1.out]
        go_wp2
        go_ret
        exact ⟨rfl, hE0.trans (hE1.trans hE5)⟩
      · have HB1 : Hid (reqB h a r = true) := hb1
        have HB2 := Lib.hid hb1
        clear hb1
        go_wp2_with fail
        refine (rrequest_any h a r n _).mono ?_
        rintro e w5 ⟨rfl, hE5⟩
        rw [HB1.out]
        replace hE1 := hE1.trans hE5
        clear hE5 hc1 hf1
        obtain ⟨hc1, hf1⟩ := hE1.rules
        go_wp2_with fail
        refine (putRequest_yes h a r n hw HB2.out _).mono ?_
        rintro e w6 ⟨x6, y6, rfl, s6, hE6⟩
        replace hE1 := hE1.trans hE6
        clear hE6 hc1 hf1
        go_wp2_with fail
        refine (getRequest_yes (HRT.out HB2.out) _ _ _ _ s6 (by have := HPL.out; omega)).mono ?_
        rintro e w7 ⟨rfl, hE7⟩
        replace hE1 := hE1.trans hE7
        obtain ⟨hc1, hf1⟩ := hE1.rules
        clear hE7 s6
        have lR7 : bR < w7.heap.size := Nat.lt_of_lt_of_le lR hE1.sz
        go_wp2
        go_ret
        exact ⟨rfl, hE0.trans (hE1.alloc _)⟩
    · obtain ⟨hcv1, hcv2, hcv3⟩ := lreq_conv h1.wf hq
      have HQ := Lib.hid hq
      have HCV := Lib.hid hcv1
      have HOK := Lib.hid hcv2
      clear hq hcv1 hcv2
      go_enter Try.func4, Try.ntmps4
      go_wp2_with fail
      have hE0 : Ext w (w.alloc (.cells #[.int .i64 h, .int .i64 a, .int .i64 r, .int .u64 n] 24)) := (Ext.refl w).alloc _
      have BR : ReqBlk (w.alloc (.cells #[.int .i64 h, .int .i64 a, .int .i64 r, .int .u64 n] 24)) w.heap.size h a r n := alloc_at rfl
      generalize (w.alloc (.cells #[.int .i64 h, .int .i64 a, .int .i64 r, .int .u64 n] 24)) = W0 at *
      generalize w.heap.size = bR at *
      have gr0 := cell_of_block BR 0 (.int .i64 h) rfl
      have gr1 := cell_of_block BR 1 (.int .i64 a) rfl
      have gr2 := cell_of_block BR 2 (.int .i64 r) rfl
      have gr3 := cell_of_block BR 3 (.int .u64 n) rfl
      have lR := lt_of_block BR
      clear BR
      refine (head_any _).mono ?_
      rintro e w1 ⟨rfl, hE1⟩
      obtain ⟨hc1, hf1⟩ := hE1.rules
      go_wp2_with fail
      refine (getRequest_yes HQ.out _ _ _ _ (h1.ext (hE0.trans hE1)) (by omega)).mono ?_
      rintro e w2 ⟨rfl, hE2⟩
      replace hE1 := hE1.trans hE2
      clear hE2 hc1 hf1
      have hE3 : Ext w2 (w2.alloc (.cells #[.int .i64 h', .int .i64 a', .int .i64 r', .int .u64 n'] 24)) := (Ext.refl w2).alloc _
      replace hE1 := hE1.trans hE3
      have lR1 : bR < (w2.alloc (.cells #[.int .i64 h', .int .i64 a', .int .i64 r', .int .u64 n'] 24)).heap.size := Nat.lt_of_lt_of_le lR hE1.sz
      go_upto_region 5 with fail
      have BN : ReqBlk (w2.alloc (.cells #[.int .i64 h', .int .i64 a', .int .i64 r', .int .u64 n'] 24)) w2.heap.size h' a' r' n' := World.alloc_heap_new w2 _
      generalize w2.alloc (.cells #[.int .i64 h', .int .i64 a', .int .i64 r', .int .u64 n'] 24) = W2 at *
      generalize w2.heap.size = bN at *
      clear hE3
      have gn0 := cell_of_block BN 0 (.int .i64 h') rfl
      have gn1 := cell_of_block BN 1 (.int .i64 a') rfl
      have gn2 := cell_of_block BN 2 (.int .i64 r') rfl
      have gn3 := cell_of_block BN 3 (.int .u64 n') rfl
      go_wp2_with fail
      refine (putRequest_yes h' a' r' n' hcv3 HOK.out _).mono ?_
      rintro e w3 ⟨x3, y3, rfl, s3, hE4⟩
      rw [HCV.out, h1.hlen] at s3 ⊢
      have s4 := (h1.ext (hE0.trans hE1)).ext hE4
      replace hE1 := hE1.trans hE4
      clear hE4 BN
      go_wp2_with fail
      refine (same_any _ _ _ _ _ _ xs xs _ s4 s3).mono ?_
      rintro e w4 ⟨he, hE5⟩
      rw [show (xs == xs) = true from by simp] at he
      subst he
      replace hE1 := hE1.trans hE5
      clear hE5 s3 s4
      obtain ⟨hc1, hf1⟩ := hE1.rules
      rcases hb1 : reqB h a r with _ | _
      · have HB1 : Hid (reqB h a r = false) := hb1
        clear hb1
        go_wp2_with fail
        refine (rrequest_any h a r n _).mono ?_
        rintro e w5 ⟨rfl, hE5⟩
        rw [HB1.out]
        go_wp2
        go_ret
        exact ⟨rfl, hE0.trans (hE1.trans hE5)⟩
      · have HB1 : Hid (reqB h a r = true) := hb1
        have HB2 := Lib.hid hb1
        clear hb1
        go_wp2_with fail
        refine (rrequest_any h a r n _).mono ?_
        rintro e w5 ⟨rfl, hE5⟩
        rw [HB1.out]
        replace hE1 := hE1.trans hE5
        clear hE5 hc1 hf1
        obtain ⟨hc1, hf1⟩ := hE1.rules
        go_wp2_with fail
        refine (putRequest_yes h a r n hw HB2.out _).mono ?_
        rintro e w6 ⟨x6, y6, rfl, s6, hE6⟩
        replace hE1 := hE1.trans hE6
        clear hE6 hc1 hf1
        go_wp2_with fail
        refine (getRequest_yes (HRT.out HB2.out) _ _ _ _ s6 (by have := HPL.out; omega)).mono ?_
        rintro e w7 ⟨rfl, hE7⟩
        replace hE1 := hE1.trans hE7
        obtain ⟨hc1, hf1⟩ := hE1.rules
        clear hE7 s6
        have lR7 : bR < w7.heap.size := Nat.lt_of_lt_of_le lR hE1.sz
        go_wp2
        go_ret
        exact ⟨rfl, hE0.trans (hE1.alloc _)⟩
  · have hd : decide ((300 : Int) < n1) = true := by simp; omega
    go_enter Try.func4, Try.ntmps4
    go_wp2_with fail
    refine (head_any _).mono ?_
    rintro e w1 ⟨rfl, hE1⟩
    go_wp2
    go_ret
    exact ⟨rfl, ((Ext.refl w).alloc _).trans hE1⟩

end Go.Proofs.Ytcpojkodidflcaa
