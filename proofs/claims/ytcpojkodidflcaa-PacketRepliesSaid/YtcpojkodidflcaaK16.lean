/-
  PacketReplies, walked.
-/
import Derived.Test.YtcpojkodidflcaaK14
import Derived.Deep.Cut
namespace Go.Proofs.Ytcpojkodidflcaa
open Go.RowKit Go.Sort Go.Shelf
set_option linter.unusedSimpArgs false
set_option linter.unusedVariables false
set_option maxRecDepth 100000

set_option maxHeartbeats 3000000 in
theorem replies_any (a h r n lo hi k t c s : Int) (a1 : Option Addr) (n1 c1 : Nat) (xs : List Int) (w : World) (hw : RepW a h r n lo hi k t c s) (h1 : Sl .u8 w a1 n1 c1 xs) :
    Calls Try.prog 5 #[.agg #[.int .i64 a, .int .i64 h, .int .i64 r, .int .u64 n, .int .i64 lo, .int .i64 hi, .int .i64 k, .int .i64 t, .int .i64 c, .int .i64 s], .slice a1 n1 c1] w fun e w' => e = .returned (.bool true) ∧ Ext w w' := by
  have b1 := h1.bd
  by_cases hn : n1 ≤ 300
  · have hd : decide ((300 : Int) < n1) = false := by simp; omega
    have hrt : Rep.ok ⟨a, h, r, n, lo, hi, k, t, c, s⟩ = true → lrep (pkt 2 (Rep.ints ⟨a, h, r, n, lo, hi, k, t, c, s⟩)) = some ⟨a, h, r, n, lo, hi, k, t, c, s⟩ := fun hb => lrep_pkt hw hb
    have HRT := Lib.hid hrt
    clear hrt
    have hpl : (pkt 2 (Rep.ints ⟨a, h, r, n, lo, hi, k, t, c, s⟩)).length ≤ 20000 := by
      have := lput_len (xs := (Rep.ints ⟨a, h, r, n, lo, hi, k, t, c, s⟩)) (RepW.ints hw) (by simp [Rep.ints, repInts])
      simp only [pkt, List.length_cons]
      have e : ((Rep.ints ⟨a, h, r, n, lo, hi, k, t, c, s⟩)).length ≤ 11 := by simp [Rep.ints, repInts]
      omega
    have HPL := Lib.hid hpl
    clear hpl
    rcases hq : lrep xs with _ | ⟨a', h', r', n', lo', hi', k', t', c', s'⟩
    · have HQ := Lib.hid hq
      clear hq
      go_enter Try.func5, Try.ntmps5
      go_wp2_with fail
      have hE0 : Ext w (w.alloc (.cells #[.int .i64 a, .int .i64 h, .int .i64 r, .int .u64 n, .int .i64 lo, .int .i64 hi, .int .i64 k, .int .i64 t, .int .i64 c, .int .i64 s] 30)) := (Ext.refl w).alloc _
      have BR : RepBlk (w.alloc (.cells #[.int .i64 a, .int .i64 h, .int .i64 r, .int .u64 n, .int .i64 lo, .int .i64 hi, .int .i64 k, .int .i64 t, .int .i64 c, .int .i64 s] 30)) w.heap.size ⟨a, h, r, n, lo, hi, k, t, c, s⟩ := alloc_at rfl
      generalize (w.alloc (.cells #[.int .i64 a, .int .i64 h, .int .i64 r, .int .u64 n, .int .i64 lo, .int .i64 hi, .int .i64 k, .int .i64 t, .int .i64 c, .int .i64 s] 30)) = W0 at *
      generalize w.heap.size = bR at *
      have gr0 := cell_of_block BR 0 (.int .i64 a) rfl
      have gr1 := cell_of_block BR 1 (.int .i64 h) rfl
      have gr2 := cell_of_block BR 2 (.int .i64 r) rfl
      have gr3 := cell_of_block BR 3 (.int .u64 n) rfl
      have gr4 := cell_of_block BR 4 (.int .i64 lo) rfl
      have gr5 := cell_of_block BR 5 (.int .i64 hi) rfl
      have gr6 := cell_of_block BR 6 (.int .i64 k) rfl
      have gr7 := cell_of_block BR 7 (.int .i64 t) rfl
      have gr8 := cell_of_block BR 8 (.int .i64 c) rfl
      have gr9 := cell_of_block BR 9 (.int .i64 s) rfl
      have lR := lt_of_block BR
      clear BR
      refine (head_any _).mono ?_
      rintro e w1 ⟨rfl, hE1⟩
      obtain ⟨hc1, hf1⟩ := hE1.rules
      go_wp2_with fail
      refine (getReply_no HQ.out _ _ _ _ (h1.ext (hE0.trans hE1)) (by omega)).mono ?_
      rintro e w2 ⟨rfl, hE2⟩
      replace hE1 := hE1.trans hE2
      clear hE2 hc1 hf1
      have hE3 : Ext w2 (w2.alloc (.cells #[.int .i64 0, .int .i64 0, .int .i64 0, .int .u64 0, .int .i64 0, .int .i64 0, .int .i64 0, .int .i64 0, .int .i64 0, .int .i64 0] 30)) := (Ext.refl w2).alloc _
      replace hE1 := hE1.trans hE3
      have lR1 : bR < (w2.alloc (.cells #[.int .i64 0, .int .i64 0, .int .i64 0, .int .u64 0, .int .i64 0, .int .i64 0, .int .i64 0, .int .i64 0, .int .i64 0, .int .i64 0] 30)).heap.size := Nat.lt_of_lt_of_le lR hE1.sz
      go_upto_region 5 with fail
      have BN : RepBlk (w2.alloc (.cells #[.int .i64 0, .int .i64 0, .int .i64 0, .int .u64 0, .int .i64 0, .int .i64 0, .int .i64 0, .int .i64 0, .int .i64 0, .int .i64 0] 30)) w2.heap.size ⟨0, 0, 0, 0, 0, 0, 0, 0, 0, 0⟩ := World.alloc_heap_new w2 _
      generalize w2.alloc (.cells #[.int .i64 0, .int .i64 0, .int .i64 0, .int .u64 0, .int .i64 0, .int .i64 0, .int .i64 0, .int .i64 0, .int .i64 0, .int .i64 0] 30) = W2 at *
      generalize w2.heap.size = bN at *
      clear hE3
      have gn0 := cell_of_block BN 0 (.int .i64 0) rfl
      have gn1 := cell_of_block BN 1 (.int .i64 0) rfl
      have gn2 := cell_of_block BN 2 (.int .i64 0) rfl
      have gn3 := cell_of_block BN 3 (.int .u64 0) rfl
      have gn4 := cell_of_block BN 4 (.int .i64 0) rfl
      have gn5 := cell_of_block BN 5 (.int .i64 0) rfl
      have gn6 := cell_of_block BN 6 (.int .i64 0) rfl
      have gn7 := cell_of_block BN 7 (.int .i64 0) rfl
      have gn8 := cell_of_block BN 8 (.int .i64 0) rfl
      have gn9 := cell_of_block BN 9 (.int .i64 0) rfl
      obtain ⟨hc1, hf1⟩ := hE1.rules
      rcases hb1 : Rep.ok ⟨a, h, r, n, lo, hi, k, t, c, s⟩ with _ | _
      · have HB1 : Hid (repB a h r lo hi k t c s = false) := hb1
        clear hb1
        go_wp2_with fail
        refine (rreply_any a h r n lo hi k t c s _).mono ?_
        rintro e w5 ⟨rfl, hE5⟩
        rw [HB1.out]
        go_wp2
        go_ret
        exact ⟨rfl, hE0.trans (hE1.trans hE5)⟩
      · have HB1 : Hid (repB a h r lo hi k t c s = true) := hb1
        have HB2 := Lib.hid hb1
        clear hb1
        go_wp2_with fail
        refine (rreply_any a h r n lo hi k t c s _).mono ?_
        rintro e w5 ⟨rfl, hE5⟩
        rw [HB1.out]
        replace hE1 := hE1.trans hE5
        clear hE5 hc1 hf1
        obtain ⟨hc1, hf1⟩ := hE1.rules
        go_wp2_with fail
        refine (putReply_yes ⟨a, h, r, n, lo, hi, k, t, c, s⟩ hw HB2.out _).mono ?_
        rintro e w6 ⟨x6, y6, rfl, s6, hE6⟩
        replace hE1 := hE1.trans hE6
        clear hE6 hc1 hf1
        go_wp2_with fail
        refine (getReply_yes (HRT.out HB2.out) _ _ _ _ s6 (by have := HPL.out; omega)).mono ?_
        rintro e w7 ⟨rfl, hE7⟩
        replace hE1 := hE1.trans hE7
        obtain ⟨hc1, hf1⟩ := hE1.rules
        clear hE7 s6
        have lR7 : bR < w7.heap.size := Nat.lt_of_lt_of_le lR hE1.sz
        go_wp2
        go_ret
        exact ⟨rfl, hE0.trans (hE1.alloc _)⟩
    · obtain ⟨hcv1, hcv2, hcv3⟩ := lrep_conv h1.wf hq
      have HQ := Lib.hid hq
      have HCV := Lib.hid hcv1
      have HOK := Lib.hid hcv2
      clear hq hcv1 hcv2
      go_enter Try.func5, Try.ntmps5
      go_wp2_with fail
      have hE0 : Ext w (w.alloc (.cells #[.int .i64 a, .int .i64 h, .int .i64 r, .int .u64 n, .int .i64 lo, .int .i64 hi, .int .i64 k, .int .i64 t, .int .i64 c, .int .i64 s] 30)) := (Ext.refl w).alloc _
      have BR : RepBlk (w.alloc (.cells #[.int .i64 a, .int .i64 h, .int .i64 r, .int .u64 n, .int .i64 lo, .int .i64 hi, .int .i64 k, .int .i64 t, .int .i64 c, .int .i64 s] 30)) w.heap.size ⟨a, h, r, n, lo, hi, k, t, c, s⟩ := alloc_at rfl
      generalize (w.alloc (.cells #[.int .i64 a, .int .i64 h, .int .i64 r, .int .u64 n, .int .i64 lo, .int .i64 hi, .int .i64 k, .int .i64 t, .int .i64 c, .int .i64 s] 30)) = W0 at *
      generalize w.heap.size = bR at *
      have gr0 := cell_of_block BR 0 (.int .i64 a) rfl
      have gr1 := cell_of_block BR 1 (.int .i64 h) rfl
      have gr2 := cell_of_block BR 2 (.int .i64 r) rfl
      have gr3 := cell_of_block BR 3 (.int .u64 n) rfl
      have gr4 := cell_of_block BR 4 (.int .i64 lo) rfl
      have gr5 := cell_of_block BR 5 (.int .i64 hi) rfl
      have gr6 := cell_of_block BR 6 (.int .i64 k) rfl
      have gr7 := cell_of_block BR 7 (.int .i64 t) rfl
      have gr8 := cell_of_block BR 8 (.int .i64 c) rfl
      have gr9 := cell_of_block BR 9 (.int .i64 s) rfl
      have lR := lt_of_block BR
      clear BR
      refine (head_any _).mono ?_
      rintro e w1 ⟨rfl, hE1⟩
      obtain ⟨hc1, hf1⟩ := hE1.rules
      go_wp2_with fail
      refine (getReply_yes HQ.out _ _ _ _ (h1.ext (hE0.trans hE1)) (by omega)).mono ?_
      rintro e w2 ⟨rfl, hE2⟩
      replace hE1 := hE1.trans hE2
      clear hE2 hc1 hf1
      have hE3 : Ext w2 (w2.alloc (.cells #[.int .i64 a', .int .i64 h', .int .i64 r', .int .u64 n', .int .i64 lo', .int .i64 hi', .int .i64 k', .int .i64 t', .int .i64 c', .int .i64 s'] 30)) := (Ext.refl w2).alloc _
      replace hE1 := hE1.trans hE3
      have lR1 : bR < (w2.alloc (.cells #[.int .i64 a', .int .i64 h', .int .i64 r', .int .u64 n', .int .i64 lo', .int .i64 hi', .int .i64 k', .int .i64 t', .int .i64 c', .int .i64 s'] 30)).heap.size := Nat.lt_of_lt_of_le lR hE1.sz
      go_upto_region 5 with fail
      have BN : RepBlk (w2.alloc (.cells #[.int .i64 a', .int .i64 h', .int .i64 r', .int .u64 n', .int .i64 lo', .int .i64 hi', .int .i64 k', .int .i64 t', .int .i64 c', .int .i64 s'] 30)) w2.heap.size ⟨a', h', r', n', lo', hi', k', t', c', s'⟩ := World.alloc_heap_new w2 _
      generalize w2.alloc (.cells #[.int .i64 a', .int .i64 h', .int .i64 r', .int .u64 n', .int .i64 lo', .int .i64 hi', .int .i64 k', .int .i64 t', .int .i64 c', .int .i64 s'] 30) = W2 at *
      generalize w2.heap.size = bN at *
      clear hE3
      have gn0 := cell_of_block BN 0 (.int .i64 a') rfl
      have gn1 := cell_of_block BN 1 (.int .i64 h') rfl
      have gn2 := cell_of_block BN 2 (.int .i64 r') rfl
      have gn3 := cell_of_block BN 3 (.int .u64 n') rfl
      have gn4 := cell_of_block BN 4 (.int .i64 lo') rfl
      have gn5 := cell_of_block BN 5 (.int .i64 hi') rfl
      have gn6 := cell_of_block BN 6 (.int .i64 k') rfl
      have gn7 := cell_of_block BN 7 (.int .i64 t') rfl
      have gn8 := cell_of_block BN 8 (.int .i64 c') rfl
      have gn9 := cell_of_block BN 9 (.int .i64 s') rfl
      go_wp2_with fail
      refine (putReply_yes ⟨a', h', r', n', lo', hi', k', t', c', s'⟩ hcv3 HOK.out _).mono ?_
      rintro e w3 ⟨x3, y3, rfl, s3, hE4⟩
      rw [HCV.out, h1.hlen] at s3 ⊢
      have s4 := (h1.ext (hE0.trans hE1)).ext hE4
      replace hE1 := hE1.trans hE4
      clear hE4 BN
      go_wp2_with fail
      refine (same_any _ _ _ _ _ _ xs xs _ s4 s3).mono ?_
      rintro e w4 ⟨he, hE5⟩
      rw [show (xs == xs) = true from by simp] at he
      subst he
      replace hE1 := hE1.trans hE5
      clear hE5 s3 s4
      obtain ⟨hc1, hf1⟩ := hE1.rules
      rcases hb1 : Rep.ok ⟨a, h, r, n, lo, hi, k, t, c, s⟩ with _ | _
      · have HB1 : Hid (repB a h r lo hi k t c s = false) := hb1
        clear hb1
        go_wp2_with fail
        refine (rreply_any a h r n lo hi k t c s _).mono ?_
        rintro e w5 ⟨rfl, hE5⟩
        rw [HB1.out]
        go_wp2
        go_ret
        exact ⟨rfl, hE0.trans (hE1.trans hE5)⟩
      · have HB1 : Hid (repB a h r lo hi k t c s = true) := hb1
        have HB2 := Lib.hid hb1
        clear hb1
        go_wp2_with fail
        refine (rreply_any a h r n lo hi k t c s _).mono ?_
        rintro e w5 ⟨rfl, hE5⟩
        rw [HB1.out]
        replace hE1 := hE1.trans hE5
        clear hE5 hc1 hf1
        obtain ⟨hc1, hf1⟩ := hE1.rules
        go_wp2_with fail
        refine (putReply_yes ⟨a, h, r, n, lo, hi, k, t, c, s⟩ hw HB2.out _).mono ?_
        rintro e w6 ⟨x6, y6, rfl, s6, hE6⟩
        replace hE1 := hE1.trans hE6
        clear hE6 hc1 hf1
        go_wp2_with fail
        refine (getReply_yes (HRT.out HB2.out) _ _ _ _ s6 (by have := HPL.out; omega)).mono ?_
        rintro e w7 ⟨rfl, hE7⟩
        replace hE1 := hE1.trans hE7
        obtain ⟨hc1, hf1⟩ := hE1.rules
        clear hE7 s6
        have lR7 : bR < w7.heap.size := Nat.lt_of_lt_of_le lR hE1.sz
        go_wp2
        go_ret
        exact ⟨rfl, hE0.trans (hE1.alloc _)⟩
  · have hd : decide ((300 : Int) < n1) = true := by simp; omega
    go_enter Try.func5, Try.ntmps5
    go_wp2_with fail
    refine (head_any _).mono ?_
    rintro e w1 ⟨rfl, hE1⟩
    go_wp2
    go_ret
    exact ⟨rfl, ((Ext.refl w).alloc _).trans hE1⟩

end Go.Proofs.Ytcpojkodidflcaa
