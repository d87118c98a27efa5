/-
  PacketFields, walked.
-/
import Derived.Test.YtcpojkodidflcaaK14
import Derived.Test.YtcpojkodidflcaaKEq
namespace Go.Proofs.Ytcpojkodidflcaa
open Go.RowKit Go.Sort Go.Shelf
set_option linter.unusedSimpArgs false
set_option linter.unusedVariables false
set_option maxRecDepth 100000

theorem req_eq {h a r n h' a' r' n' : Int} (hw : ReqW h a r n) (hw' : ReqW h' a' r' n') (hb : reqB h a r = true) (hb' : reqB h' a' r' = true) (he : pkt 1 (reqInts h a r n) = pkt 1 (reqInts h' a' r' n')) : h = h' ∧ a = a' ∧ r = r' ∧ n = n' := by
  have h1 := lreq_pkt hw hb
  rw [he, lreq_pkt hw' hb'] at h1
  simp at h1
  omega
theorem rep_eq {q q' : Rep} (hw : q.W) (hw' : q'.W) (hb : q.ok = true) (hb' : q'.ok = true) (he : pkt 2 q.ints = pkt 2 q'.ints) : q = q' := by
  have h1 := lrep_pkt hw hb
  rw [he, lrep_pkt hw' hb'] at h1
  exact (Option.some.inj h1).symm

theorem same_eq (D : Bool) (a1 a2 : Option Addr) (n1 c1 n2 c2 : Nat) (xs ys : List Int) (w : World) (hD : (xs == ys) = D) (h1 : Sl .u8 w a1 n1 c1 xs) (h2 : Sl .u8 w a2 n2 c2 ys) :
    Calls Try.prog 13 #[.slice a1 n1 c1, .slice a2 n2 c2] w fun e w' => e = .returned (.bool D) ∧ Ext w w' :=
  (same_any a1 a2 n1 c1 n2 c2 xs ys w h1 h2).mono fun e w' ⟨h, hE⟩ => ⟨by rw [h, hD], hE⟩
theorem req_beq {h a r n h' a' r' n' : Int} (hw : ReqW h a r n) (hw' : ReqW h' a' r' n') (hb : reqB h a r = true) (hb' : reqB h' a' r' = true) : (pkt 1 (reqInts h a r n) == pkt 1 (reqInts h' a' r' n')) = decide (h = h' ∧ a = a' ∧ r = r' ∧ n = n') := by
  by_cases he : h = h' ∧ a = a' ∧ r = r' ∧ n = n'
  · obtain ⟨rfl, rfl, rfl, rfl⟩ := he
    simp
  · rw [decide_eq_false he, beq_eq_false_iff_ne]
    exact fun h => he (req_eq hw hw' hb hb' h)
theorem rep_beq {q q' : Rep} (hw : q.W) (hw' : q'.W) (hb : q.ok = true) (hb' : q'.ok = true) : (pkt 2 q.ints == pkt 2 q'.ints) = decide (q = q') := by
  by_cases he : q = q'
  · subst he
    simp
  · rw [decide_eq_false he, beq_eq_false_iff_ne]
    exact fun h => he (rep_eq hw hw' hb hb' h)


set_option maxHeartbeats 4000000 in
theorem fields_any (h a r n h' a' r' n' a1 h1 r1 n1 lo hi k t c s a1' h1' r1' n1' lo' hi' k' t' c' s' : Int) (w : World) (hw : ReqW h a r n) (hw' : ReqW h' a' r' n') (hv : RepW a1 h1 r1 n1 lo hi k t c s) (hv' : RepW a1' h1' r1' n1' lo' hi' k' t' c' s') :
    Calls Try.prog 8 #[.agg #[.int .i64 h, .int .i64 a, .int .i64 r, .int .u64 n], .agg #[.int .i64 h', .int .i64 a', .int .i64 r', .int .u64 n'], .agg #[.int .i64 a1, .int .i64 h1, .int .i64 r1, .int .u64 n1, .int .i64 lo, .int .i64 hi, .int .i64 k, .int .i64 t, .int .i64 c, .int .i64 s], .agg #[.int .i64 a1', .int .i64 h1', .int .i64 r1', .int .u64 n1', .int .i64 lo', .int .i64 hi', .int .i64 k', .int .i64 t', .int .i64 c', .int .i64 s']] w fun e w' => e = .returned (.bool true) ∧ Ext w w' := by
  have hV : Rep.W ⟨a1, h1, r1, n1, lo, hi, k, t, c, s⟩ := hv
  have hV' : Rep.W ⟨a1', h1', r1', n1', lo', hi', k', t', c', s'⟩ := hv'
  go_enter Try.func8, Try.ntmps8
  go_wp2_with fail
  have hE0 : Ext w ((((w.alloc (.cells #[.int .i64 h, .int .i64 a, .int .i64 r, .int .u64 n] 24)).alloc (.cells #[.int .i64 h', .int .i64 a', .int .i64 r', .int .u64 n'] 24)).alloc (.cells #[.int .i64 a1, .int .i64 h1, .int .i64 r1, .int .u64 n1, .int .i64 lo, .int .i64 hi, .int .i64 k, .int .i64 t, .int .i64 c, .int .i64 s] 30)).alloc (.cells #[.int .i64 a1', .int .i64 h1', .int .i64 r1', .int .u64 n1', .int .i64 lo', .int .i64 hi', .int .i64 k', .int .i64 t', .int .i64 c', .int .i64 s'] 30)) := ((((Ext.refl w).alloc _).alloc _).alloc _).alloc _
  have B0 : ReqBlk ((((w.alloc (.cells #[.int .i64 h, .int .i64 a, .int .i64 r, .int .u64 n] 24)).alloc (.cells #[.int .i64 h', .int .i64 a', .int .i64 r', .int .u64 n'] 24)).alloc (.cells #[.int .i64 a1, .int .i64 h1, .int .i64 r1, .int .u64 n1, .int .i64 lo, .int .i64 hi, .int .i64 k, .int .i64 t, .int .i64 c, .int .i64 s] 30)).alloc (.cells #[.int .i64 a1', .int .i64 h1', .int .i64 r1', .int .u64 n1', .int .i64 lo', .int .i64 hi', .int .i64 k', .int .i64 t', .int .i64 c', .int .i64 s'] 30)) w.heap.size h a r n := alloc_keep (alloc_keep (alloc_keep (alloc_at rfl)))
  have B1 : ReqBlk ((((w.alloc (.cells #[.int .i64 h, .int .i64 a, .int .i64 r, .int .u64 n] 24)).alloc (.cells #[.int .i64 h', .int .i64 a', .int .i64 r', .int .u64 n'] 24)).alloc (.cells #[.int .i64 a1, .int .i64 h1, .int .i64 r1, .int .u64 n1, .int .i64 lo, .int .i64 hi, .int .i64 k, .int .i64 t, .int .i64 c, .int .i64 s] 30)).alloc (.cells #[.int .i64 a1', .int .i64 h1', .int .i64 r1', .int .u64 n1', .int .i64 lo', .int .i64 hi', .int .i64 k', .int .i64 t', .int .i64 c', .int .i64 s'] 30)) (w.heap.size + 1) h' a' r' n' := alloc_keep (alloc_keep (alloc_at (by simp)))
  have B2 : RepBlk ((((w.alloc (.cells #[.int .i64 h, .int .i64 a, .int .i64 r, .int .u64 n] 24)).alloc (.cells #[.int .i64 h', .int .i64 a', .int .i64 r', .int .u64 n'] 24)).alloc (.cells #[.int .i64 a1, .int .i64 h1, .int .i64 r1, .int .u64 n1, .int .i64 lo, .int .i64 hi, .int .i64 k, .int .i64 t, .int .i64 c, .int .i64 s] 30)).alloc (.cells #[.int .i64 a1', .int .i64 h1', .int .i64 r1', .int .u64 n1', .int .i64 lo', .int .i64 hi', .int .i64 k', .int .i64 t', .int .i64 c', .int .i64 s'] 30)) (w.heap.size + 1 + 1) ⟨a1, h1, r1, n1, lo, hi, k, t, c, s⟩ := alloc_keep (alloc_at (by simp))
  have B3 : RepBlk ((((w.alloc (.cells #[.int .i64 h, .int .i64 a, .int .i64 r, .int .u64 n] 24)).alloc (.cells #[.int .i64 h', .int .i64 a', .int .i64 r', .int .u64 n'] 24)).alloc (.cells #[.int .i64 a1, .int .i64 h1, .int .i64 r1, .int .u64 n1, .int .i64 lo, .int .i64 hi, .int .i64 k, .int .i64 t, .int .i64 c, .int .i64 s] 30)).alloc (.cells #[.int .i64 a1', .int .i64 h1', .int .i64 r1', .int .u64 n1', .int .i64 lo', .int .i64 hi', .int .i64 k', .int .i64 t', .int .i64 c', .int .i64 s'] 30)) (w.heap.size + 1 + 1 + 1) ⟨a1', h1', r1', n1', lo', hi', k', t', c', s'⟩ := alloc_at (by simp)
  generalize ((((w.alloc (.cells #[.int .i64 h, .int .i64 a, .int .i64 r, .int .u64 n] 24)).alloc (.cells #[.int .i64 h', .int .i64 a', .int .i64 r', .int .u64 n'] 24)).alloc (.cells #[.int .i64 a1, .int .i64 h1, .int .i64 r1, .int .u64 n1, .int .i64 lo, .int .i64 hi, .int .i64 k, .int .i64 t, .int .i64 c, .int .i64 s] 30)).alloc (.cells #[.int .i64 a1', .int .i64 h1', .int .i64 r1', .int .u64 n1', .int .i64 lo', .int .i64 hi', .int .i64 k', .int .i64 t', .int .i64 c', .int .i64 s'] 30)) = W0 at *
  generalize w.heap.size + 1 + 1 + 1 = b3 at *
  generalize w.heap.size + 1 + 1 = b2 at *
  generalize w.heap.size + 1 = b1 at *
  generalize w.heap.size = b0 at *
  have g0_0 := cell_of_block B0 0 (.int .i64 h) rfl
  have g0_1 := cell_of_block B0 1 (.int .i64 a) rfl
  have g0_2 := cell_of_block B0 2 (.int .i64 r) rfl
  have g0_3 := cell_of_block B0 3 (.int .u64 n) rfl
  have l0 := lt_of_block B0
  have g1_0 := cell_of_block B1 0 (.int .i64 h') rfl
  have g1_1 := cell_of_block B1 1 (.int .i64 a') rfl
  have g1_2 := cell_of_block B1 2 (.int .i64 r') rfl
  have g1_3 := cell_of_block B1 3 (.int .u64 n') rfl
  have l1 := lt_of_block B1
  have g2_0 := cell_of_block B2 0 (.int .i64 a1) rfl
  have g2_1 := cell_of_block B2 1 (.int .i64 h1) rfl
  have g2_2 := cell_of_block B2 2 (.int .i64 r1) rfl
  have g2_3 := cell_of_block B2 3 (.int .u64 n1) rfl
  have g2_4 := cell_of_block B2 4 (.int .i64 lo) rfl
  have g2_5 := cell_of_block B2 5 (.int .i64 hi) rfl
  have g2_6 := cell_of_block B2 6 (.int .i64 k) rfl
  have g2_7 := cell_of_block B2 7 (.int .i64 t) rfl
  have g2_8 := cell_of_block B2 8 (.int .i64 c) rfl
  have g2_9 := cell_of_block B2 9 (.int .i64 s) rfl
  have l2 := lt_of_block B2
  have g3_0 := cell_of_block B3 0 (.int .i64 a1') rfl
  have g3_1 := cell_of_block B3 1 (.int .i64 h1') rfl
  have g3_2 := cell_of_block B3 2 (.int .i64 r1') rfl
  have g3_3 := cell_of_block B3 3 (.int .u64 n1') rfl
  have g3_4 := cell_of_block B3 4 (.int .i64 lo') rfl
  have g3_5 := cell_of_block B3 5 (.int .i64 hi') rfl
  have g3_6 := cell_of_block B3 6 (.int .i64 k') rfl
  have g3_7 := cell_of_block B3 7 (.int .i64 t') rfl
  have g3_8 := cell_of_block B3 8 (.int .i64 c') rfl
  have g3_9 := cell_of_block B3 9 (.int .i64 s') rfl
  have l3 := lt_of_block B3
  clear B0 B1 B2 B3
  refine (head_any _).mono ?_
  rintro e w1 ⟨rfl, hE1⟩
  obtain ⟨hc1, hf1⟩ := hE1.rules
  rcases hb : reqB h a r with _ | _
  · have HB := Lib.hid hb
    clear hb
    go_wp2_with fail
    refine (rrequest_any h a r n _).mono ?_
    rintro e w2 ⟨rfl, hE2⟩
    rw [HB.out]
    replace hE1 := hE1.trans hE2
    clear hE2 hc1 hf1
    obtain ⟨hc1, hf1⟩ := hE1.rules
    rcases hb3 : repB a1 h1 r1 lo hi k t c s with _ | _
    · have HB3 := Lib.hid hb3
      clear hb3
      go_wp2_with fail
      refine (rreply_any a1 h1 r1 n1 lo hi k t c s _).mono ?_
      rintro e w3 ⟨rfl, hE3⟩
      rw [HB3.out]
      replace hE1 := hE1.trans hE3
      clear hE3 hc1 hf1
      obtain ⟨hc1, hf1⟩ := hE1.rules
      go_wp2
      go_ret
      exact ⟨rfl, hE0.trans hE1⟩
    · have HB3 := Lib.hid hb3
      clear hb3
      go_wp2_with fail
      refine (rreply_any a1 h1 r1 n1 lo hi k t c s _).mono ?_
      rintro e w3 ⟨rfl, hE3⟩
      rw [HB3.out]
      replace hE1 := hE1.trans hE3
      clear hE3 hc1 hf1
      obtain ⟨hc1, hf1⟩ := hE1.rules
      rcases hb4 : repB a1' h1' r1' lo' hi' k' t' c' s' with _ | _
      · have HB4 := Lib.hid hb4
        clear hb4
        go_wp2_with fail
        refine (rreply_any a1' h1' r1' n1' lo' hi' k' t' c' s' _).mono ?_
        rintro e w4 ⟨rfl, hE4⟩
        rw [HB4.out]
        replace hE1 := hE1.trans hE4
        clear hE4 hc1 hf1
        obtain ⟨hc1, hf1⟩ := hE1.rules
        go_wp2
        go_ret
        exact ⟨rfl, hE0.trans hE1⟩
      · have HB4 := Lib.hid hb4
        clear hb4
        go_wp2_with fail
        refine (rreply_any a1' h1' r1' n1' lo' hi' k' t' c' s' _).mono ?_
        rintro e w4 ⟨rfl, hE4⟩
        rw [HB4.out]
        replace hE1 := hE1.trans hE4
        clear hE4 hc1 hf1
        obtain ⟨hc1, hf1⟩ := hE1.rules
        go_wp2_with fail
        refine (putReply_yes ⟨a1, h1, r1, n1, lo, hi, k, t, c, s⟩ hV HB3.out _).mono ?_
        rintro e w5 ⟨x1, y1, rfl, s1, hE5⟩
        replace hE1 := hE1.trans hE5
        clear hE5 hc1 hf1
        obtain ⟨hc1, hf1⟩ := hE1.rules
        go_wp2_with fail
        refine (putReply_yes ⟨a1', h1', r1', n1', lo', hi', k', t', c', s'⟩ hV' HB4.out _).mono ?_
        rintro e w6 ⟨x2, y2, rfl, s2, hE6⟩
        replace s1 := s1.ext hE6
        replace hE1 := hE1.trans hE6
        clear hE6 hc1 hf1
        obtain ⟨hc1, hf1⟩ := hE1.rules
        go_wp2_with fail
        have q0 : w6.cell? ⟨b2, 0, none⟩ = some (.int .i64 a1) := (hc1 _ _ l2).trans g2_0
        have q1 : w6.cell? ⟨b2, 1, none⟩ = some (.int .i64 h1) := (hc1 _ _ l2).trans g2_1
        have q2 : w6.cell? ⟨b2, 2, none⟩ = some (.int .i64 r1) := (hc1 _ _ l2).trans g2_2
        have q3 : w6.cell? ⟨b2, 3, none⟩ = some (.int .u64 n1) := (hc1 _ _ l2).trans g2_3
        have q4 : w6.cell? ⟨b2, 4, none⟩ = some (.int .i64 lo) := (hc1 _ _ l2).trans g2_4
        have q5 : w6.cell? ⟨b2, 5, none⟩ = some (.int .i64 hi) := (hc1 _ _ l2).trans g2_5
        have q6 : w6.cell? ⟨b2, 6, none⟩ = some (.int .i64 k) := (hc1 _ _ l2).trans g2_6
        have q7 : w6.cell? ⟨b2, 7, none⟩ = some (.int .i64 t) := (hc1 _ _ l2).trans g2_7
        have q8 : w6.cell? ⟨b2, 8, none⟩ = some (.int .i64 c) := (hc1 _ _ l2).trans g2_8
        have q9 : w6.cell? ⟨b2, 9, none⟩ = some (.int .i64 s) := (hc1 _ _ l2).trans g2_9
        have qm : b2 < w6.heap.size := Nat.lt_of_lt_of_le l2 hE1.sz
        have u0 : w6.cell? ⟨b3, 0, none⟩ = some (.int .i64 a1') := (hc1 _ _ l3).trans g3_0
        have u1 : w6.cell? ⟨b3, 1, none⟩ = some (.int .i64 h1') := (hc1 _ _ l3).trans g3_1
        have u2 : w6.cell? ⟨b3, 2, none⟩ = some (.int .i64 r1') := (hc1 _ _ l3).trans g3_2
        have u3 : w6.cell? ⟨b3, 3, none⟩ = some (.int .u64 n1') := (hc1 _ _ l3).trans g3_3
        have u4 : w6.cell? ⟨b3, 4, none⟩ = some (.int .i64 lo') := (hc1 _ _ l3).trans g3_4
        have u5 : w6.cell? ⟨b3, 5, none⟩ = some (.int .i64 hi') := (hc1 _ _ l3).trans g3_5
        have u6 : w6.cell? ⟨b3, 6, none⟩ = some (.int .i64 k') := (hc1 _ _ l3).trans g3_6
        have u7 : w6.cell? ⟨b3, 7, none⟩ = some (.int .i64 t') := (hc1 _ _ l3).trans g3_7
        have u8 : w6.cell? ⟨b3, 8, none⟩ = some (.int .i64 c') := (hc1 _ _ l3).trans g3_8
        have u9 : w6.cell? ⟨b3, 9, none⟩ = some (.int .i64 s') := (hc1 _ _ l3).trans g3_9
        have um : b3 < w6.heap.size := Nat.lt_of_lt_of_le l3 hE1.sz
        have hg := @grow_cell
        have eqq := eqRep a1 h1 r1 n1 lo hi k t c s a1' h1' r1' n1' lo' hi' k' t' c' s'
        have hD := rep_beq hV hV' HB3.out HB4.out
        have HD := Lib.hid hD
        clear hD
        generalize decide ((⟨a1, h1, r1, n1, lo, hi, k, t, c, s⟩ : Rep) = ⟨a1', h1', r1', n1', lo', hi', k', t', c', s'⟩) = D at eqq HD
        refine region_ext (by kernel_rfl) (by kernel_rfl) ?_
        repeat (go_big_quiet_step ((go_at_call 13; exact Calls.regrown_of (same_eq D _ _ _ _ _ _ _ _ _ HD.out (s1.ext (ext_grow _ _ _)) (s2.ext (ext_grow _ _ _))))))
        try simp only [beq_self_eq_true]
        repeat (go_big_quiet_step (fail))
        refine wpQuiet_nil ?_
        intro w7 hE7
        clear eqq HD hg s1 s2
        replace hE1 := hE1.trans hE7
        clear hE7 hc1 hf1
        obtain ⟨hc1, hf1⟩ := hE1.rules
        go_wp2
        go_ret
        exact ⟨rfl, hE0.trans hE1⟩
  · have HB := Lib.hid hb
    clear hb
    go_wp2_with fail
    refine (rrequest_any h a r n _).mono ?_
    rintro e w2 ⟨rfl, hE2⟩
    rw [HB.out]
    replace hE1 := hE1.trans hE2
    clear hE2 hc1 hf1
    obtain ⟨hc1, hf1⟩ := hE1.rules
    rcases hb' : reqB h' a' r' with _ | _
    · have HB' := Lib.hid hb'
      clear hb'
      go_wp2_with fail
      refine (rrequest_any h' a' r' n' _).mono ?_
      rintro e w3 ⟨rfl, hE3⟩
      rw [HB'.out]
      replace hE1 := hE1.trans hE3
      clear hE3 hc1 hf1
      obtain ⟨hc1, hf1⟩ := hE1.rules
      rcases hb3 : repB a1 h1 r1 lo hi k t c s with _ | _
      · have HB3 := Lib.hid hb3
        clear hb3
        go_wp2_with fail
        refine (rreply_any a1 h1 r1 n1 lo hi k t c s _).mono ?_
        rintro e w4 ⟨rfl, hE4⟩
        rw [HB3.out]
        replace hE1 := hE1.trans hE4
        clear hE4 hc1 hf1
        obtain ⟨hc1, hf1⟩ := hE1.rules
        go_wp2
        go_ret
        exact ⟨rfl, hE0.trans hE1⟩
      · have HB3 := Lib.hid hb3
        clear hb3
        go_wp2_with fail
        refine (rreply_any a1 h1 r1 n1 lo hi k t c s _).mono ?_
        rintro e w4 ⟨rfl, hE4⟩
        rw [HB3.out]
        replace hE1 := hE1.trans hE4
        clear hE4 hc1 hf1
        obtain ⟨hc1, hf1⟩ := hE1.rules
        rcases hb4 : repB a1' h1' r1' lo' hi' k' t' c' s' with _ | _
        · have HB4 := Lib.hid hb4
          clear hb4
          go_wp2_with fail
          refine (rreply_any a1' h1' r1' n1' lo' hi' k' t' c' s' _).mono ?_
          rintro e w5 ⟨rfl, hE5⟩
          rw [HB4.out]
          replace hE1 := hE1.trans hE5
          clear hE5 hc1 hf1
          obtain ⟨hc1, hf1⟩ := hE1.rules
          go_wp2
          go_ret
          exact ⟨rfl, hE0.trans hE1⟩
        · have HB4 := Lib.hid hb4
          clear hb4
          go_wp2_with fail
          refine (rreply_any a1' h1' r1' n1' lo' hi' k' t' c' s' _).mono ?_
          rintro e w5 ⟨rfl, hE5⟩
          rw [HB4.out]
          replace hE1 := hE1.trans hE5
          clear hE5 hc1 hf1
          obtain ⟨hc1, hf1⟩ := hE1.rules
          go_wp2_with fail
          refine (putReply_yes ⟨a1, h1, r1, n1, lo, hi, k, t, c, s⟩ hV HB3.out _).mono ?_
          rintro e w6 ⟨x1, y1, rfl, s1, hE6⟩
          replace hE1 := hE1.trans hE6
          clear hE6 hc1 hf1
          obtain ⟨hc1, hf1⟩ := hE1.rules
          go_wp2_with fail
          refine (putReply_yes ⟨a1', h1', r1', n1', lo', hi', k', t', c', s'⟩ hV' HB4.out _).mono ?_
          rintro e w7 ⟨x2, y2, rfl, s2, hE7⟩
          replace s1 := s1.ext hE7
          replace hE1 := hE1.trans hE7
          clear hE7 hc1 hf1
          obtain ⟨hc1, hf1⟩ := hE1.rules
          go_wp2_with fail
          have q0 : w7.cell? ⟨b2, 0, none⟩ = some (.int .i64 a1) := (hc1 _ _ l2).trans g2_0
          have q1 : w7.cell? ⟨b2, 1, none⟩ = some (.int .i64 h1) := (hc1 _ _ l2).trans g2_1
          have q2 : w7.cell? ⟨b2, 2, none⟩ = some (.int .i64 r1) := (hc1 _ _ l2).trans g2_2
          have q3 : w7.cell? ⟨b2, 3, none⟩ = some (.int .u64 n1) := (hc1 _ _ l2).trans g2_3
          have q4 : w7.cell? ⟨b2, 4, none⟩ = some (.int .i64 lo) := (hc1 _ _ l2).trans g2_4
          have q5 : w7.cell? ⟨b2, 5, none⟩ = some (.int .i64 hi) := (hc1 _ _ l2).trans g2_5
          have q6 : w7.cell? ⟨b2, 6, none⟩ = some (.int .i64 k) := (hc1 _ _ l2).trans g2_6
          have q7 : w7.cell? ⟨b2, 7, none⟩ = some (.int .i64 t) := (hc1 _ _ l2).trans g2_7
          have q8 : w7.cell? ⟨b2, 8, none⟩ = some (.int .i64 c) := (hc1 _ _ l2).trans g2_8
          have q9 : w7.cell? ⟨b2, 9, none⟩ = some (.int .i64 s) := (hc1 _ _ l2).trans g2_9
          have qm : b2 < w7.heap.size := Nat.lt_of_lt_of_le l2 hE1.sz
          have u0 : w7.cell? ⟨b3, 0, none⟩ = some (.int .i64 a1') := (hc1 _ _ l3).trans g3_0
          have u1 : w7.cell? ⟨b3, 1, none⟩ = some (.int .i64 h1') := (hc1 _ _ l3).trans g3_1
          have u2 : w7.cell? ⟨b3, 2, none⟩ = some (.int .i64 r1') := (hc1 _ _ l3).trans g3_2
          have u3 : w7.cell? ⟨b3, 3, none⟩ = some (.int .u64 n1') := (hc1 _ _ l3).trans g3_3
          have u4 : w7.cell? ⟨b3, 4, none⟩ = some (.int .i64 lo') := (hc1 _ _ l3).trans g3_4
          have u5 : w7.cell? ⟨b3, 5, none⟩ = some (.int .i64 hi') := (hc1 _ _ l3).trans g3_5
          have u6 : w7.cell? ⟨b3, 6, none⟩ = some (.int .i64 k') := (hc1 _ _ l3).trans g3_6
          have u7 : w7.cell? ⟨b3, 7, none⟩ = some (.int .i64 t') := (hc1 _ _ l3).trans g3_7
          have u8 : w7.cell? ⟨b3, 8, none⟩ = some (.int .i64 c') := (hc1 _ _ l3).trans g3_8
          have u9 : w7.cell? ⟨b3, 9, none⟩ = some (.int .i64 s') := (hc1 _ _ l3).trans g3_9
          have um : b3 < w7.heap.size := Nat.lt_of_lt_of_le l3 hE1.sz
          have hg := @grow_cell
          have eqq := eqRep a1 h1 r1 n1 lo hi k t c s a1' h1' r1' n1' lo' hi' k' t' c' s'
          have hD := rep_beq hV hV' HB3.out HB4.out
          have HD := Lib.hid hD
          clear hD
          generalize decide ((⟨a1, h1, r1, n1, lo, hi, k, t, c, s⟩ : Rep) = ⟨a1', h1', r1', n1', lo', hi', k', t', c', s'⟩) = D at eqq HD
          refine region_ext (by kernel_rfl) (by kernel_rfl) ?_
          repeat (go_big_quiet_step ((go_at_call 13; exact Calls.regrown_of (same_eq D _ _ _ _ _ _ _ _ _ HD.out (s1.ext (ext_grow _ _ _)) (s2.ext (ext_grow _ _ _))))))
          try simp only [beq_self_eq_true]
          repeat (go_big_quiet_step (fail))
          refine wpQuiet_nil ?_
          intro w8 hE8
          clear eqq HD hg s1 s2
          replace hE1 := hE1.trans hE8
          clear hE8 hc1 hf1
          obtain ⟨hc1, hf1⟩ := hE1.rules
          go_wp2
          go_ret
          exact ⟨rfl, hE0.trans hE1⟩
    · have HB' := Lib.hid hb'
      clear hb'
      go_wp2_with fail
      refine (rrequest_any h' a' r' n' _).mono ?_
      rintro e w3 ⟨rfl, hE3⟩
      rw [HB'.out]
      replace hE1 := hE1.trans hE3
      clear hE3 hc1 hf1
      obtain ⟨hc1, hf1⟩ := hE1.rules
      go_wp2_with fail
      refine (putRequest_yes h a r n hw HB.out _).mono ?_
      rintro e w4 ⟨x1, y1, rfl, s1, hE4⟩
      replace hE1 := hE1.trans hE4
      clear hE4 hc1 hf1
      obtain ⟨hc1, hf1⟩ := hE1.rules
      go_wp2_with fail
      refine (putRequest_yes h' a' r' n' hw' HB'.out _).mono ?_
      rintro e w5 ⟨x2, y2, rfl, s2, hE5⟩
      replace s1 := s1.ext hE5
      replace hE1 := hE1.trans hE5
      clear hE5 hc1 hf1
      obtain ⟨hc1, hf1⟩ := hE1.rules
      go_wp2_with fail
      have q0 : w5.cell? ⟨b0, 0, none⟩ = some (.int .i64 h) := (hc1 _ _ l0).trans g0_0
      have q1 : w5.cell? ⟨b0, 1, none⟩ = some (.int .i64 a) := (hc1 _ _ l0).trans g0_1
      have q2 : w5.cell? ⟨b0, 2, none⟩ = some (.int .i64 r) := (hc1 _ _ l0).trans g0_2
      have q3 : w5.cell? ⟨b0, 3, none⟩ = some (.int .u64 n) := (hc1 _ _ l0).trans g0_3
      have qm : b0 < w5.heap.size := Nat.lt_of_lt_of_le l0 hE1.sz
      have u0 : w5.cell? ⟨b1, 0, none⟩ = some (.int .i64 h') := (hc1 _ _ l1).trans g1_0
      have u1 : w5.cell? ⟨b1, 1, none⟩ = some (.int .i64 a') := (hc1 _ _ l1).trans g1_1
      have u2 : w5.cell? ⟨b1, 2, none⟩ = some (.int .i64 r') := (hc1 _ _ l1).trans g1_2
      have u3 : w5.cell? ⟨b1, 3, none⟩ = some (.int .u64 n') := (hc1 _ _ l1).trans g1_3
      have um : b1 < w5.heap.size := Nat.lt_of_lt_of_le l1 hE1.sz
      have hg := @grow_cell
      have eqq := eqReq h a r n h' a' r' n'
      have hD := req_beq hw hw' HB.out HB'.out
      have HD := Lib.hid hD
      clear hD
      generalize decide (h = h' ∧ a = a' ∧ r = r' ∧ n = n') = D at eqq HD
      refine region_ext (by kernel_rfl) (by kernel_rfl) ?_
      repeat (go_big_quiet_step ((go_at_call 13; exact Calls.regrown_of (same_eq D _ _ _ _ _ _ _ _ _ HD.out (s1.ext (ext_grow _ _ _)) (s2.ext (ext_grow _ _ _))))))
      try simp only [beq_self_eq_true]
      repeat (go_big_quiet_step (fail))
      refine wpQuiet_nil ?_
      intro w6 hE6
      clear eqq HD hg s1 s2
      replace hE1 := hE1.trans hE6
      clear hE6 hc1 hf1
      obtain ⟨hc1, hf1⟩ := hE1.rules
      rcases hb3 : repB a1 h1 r1 lo hi k t c s with _ | _
      · have HB3 := Lib.hid hb3
        clear hb3
        go_wp2_with fail
        refine (rreply_any a1 h1 r1 n1 lo hi k t c s _).mono ?_
        rintro e w7 ⟨rfl, hE7⟩
        rw [HB3.out]
        replace hE1 := hE1.trans hE7
        clear hE7 hc1 hf1
        obtain ⟨hc1, hf1⟩ := hE1.rules
        go_wp2
        go_ret
        exact ⟨rfl, hE0.trans hE1⟩
      · have HB3 := Lib.hid hb3
        clear hb3
        go_wp2_with fail
        refine (rreply_any a1 h1 r1 n1 lo hi k t c s _).mono ?_
        rintro e w7 ⟨rfl, hE7⟩
        rw [HB3.out]
        replace hE1 := hE1.trans hE7
        clear hE7 hc1 hf1
        obtain ⟨hc1, hf1⟩ := hE1.rules
        rcases hb4 : repB a1' h1' r1' lo' hi' k' t' c' s' with _ | _
        · have HB4 := Lib.hid hb4
          clear hb4
          go_wp2_with fail
          refine (rreply_any a1' h1' r1' n1' lo' hi' k' t' c' s' _).mono ?_
          rintro e w8 ⟨rfl, hE8⟩
          rw [HB4.out]
          replace hE1 := hE1.trans hE8
          clear hE8 hc1 hf1
          obtain ⟨hc1, hf1⟩ := hE1.rules
          go_wp2
          go_ret
          exact ⟨rfl, hE0.trans hE1⟩
        · have HB4 := Lib.hid hb4
          clear hb4
          go_wp2_with fail
          refine (rreply_any a1' h1' r1' n1' lo' hi' k' t' c' s' _).mono ?_
          rintro e w8 ⟨rfl, hE8⟩
          rw [HB4.out]
          replace hE1 := hE1.trans hE8
          clear hE8 hc1 hf1
          obtain ⟨hc1, hf1⟩ := hE1.rules
          go_wp2_with fail
          refine (putReply_yes ⟨a1, h1, r1, n1, lo, hi, k, t, c, s⟩ hV HB3.out _).mono ?_
          rintro e w9 ⟨x1, y1, rfl, s1, hE9⟩
          replace hE1 := hE1.trans hE9
          clear hE9 hc1 hf1
          obtain ⟨hc1, hf1⟩ := hE1.rules
          go_wp2_with fail
          refine (putReply_yes ⟨a1', h1', r1', n1', lo', hi', k', t', c', s'⟩ hV' HB4.out _).mono ?_
          rintro e w10 ⟨x2, y2, rfl, s2, hE10⟩
          replace s1 := s1.ext hE10
          replace hE1 := hE1.trans hE10
          clear hE10 hc1 hf1
          obtain ⟨hc1, hf1⟩ := hE1.rules
          go_wp2_with fail
          have q0 : w10.cell? ⟨b2, 0, none⟩ = some (.int .i64 a1) := (hc1 _ _ l2).trans g2_0
          have q1 : w10.cell? ⟨b2, 1, none⟩ = some (.int .i64 h1) := (hc1 _ _ l2).trans g2_1
          have q2 : w10.cell? ⟨b2, 2, none⟩ = some (.int .i64 r1) := (hc1 _ _ l2).trans g2_2
          have q3 : w10.cell? ⟨b2, 3, none⟩ = some (.int .u64 n1) := (hc1 _ _ l2).trans g2_3
          have q4 : w10.cell? ⟨b2, 4, none⟩ = some (.int .i64 lo) := (hc1 _ _ l2).trans g2_4
          have q5 : w10.cell? ⟨b2, 5, none⟩ = some (.int .i64 hi) := (hc1 _ _ l2).trans g2_5
          have q6 : w10.cell? ⟨b2, 6, none⟩ = some (.int .i64 k) := (hc1 _ _ l2).trans g2_6
          have q7 : w10.cell? ⟨b2, 7, none⟩ = some (.int .i64 t) := (hc1 _ _ l2).trans g2_7
          have q8 : w10.cell? ⟨b2, 8, none⟩ = some (.int .i64 c) := (hc1 _ _ l2).trans g2_8
          have q9 : w10.cell? ⟨b2, 9, none⟩ = some (.int .i64 s) := (hc1 _ _ l2).trans g2_9
          have qm : b2 < w10.heap.size := Nat.lt_of_lt_of_le l2 hE1.sz
          have u0 : w10.cell? ⟨b3, 0, none⟩ = some (.int .i64 a1') := (hc1 _ _ l3).trans g3_0
          have u1 : w10.cell? ⟨b3, 1, none⟩ = some (.int .i64 h1') := (hc1 _ _ l3).trans g3_1
          have u2 : w10.cell? ⟨b3, 2, none⟩ = some (.int .i64 r1') := (hc1 _ _ l3).trans g3_2
          have u3 : w10.cell? ⟨b3, 3, none⟩ = some (.int .u64 n1') := (hc1 _ _ l3).trans g3_3
          have u4 : w10.cell? ⟨b3, 4, none⟩ = some (.int .i64 lo') := (hc1 _ _ l3).trans g3_4
          have u5 : w10.cell? ⟨b3, 5, none⟩ = some (.int .i64 hi') := (hc1 _ _ l3).trans g3_5
          have u6 : w10.cell? ⟨b3, 6, none⟩ = some (.int .i64 k') := (hc1 _ _ l3).trans g3_6
          have u7 : w10.cell? ⟨b3, 7, none⟩ = some (.int .i64 t') := (hc1 _ _ l3).trans g3_7
          have u8 : w10.cell? ⟨b3, 8, none⟩ = some (.int .i64 c') := (hc1 _ _ l3).trans g3_8
          have u9 : w10.cell? ⟨b3, 9, none⟩ = some (.int .i64 s') := (hc1 _ _ l3).trans g3_9
          have um : b3 < w10.heap.size := Nat.lt_of_lt_of_le l3 hE1.sz
          have hg := @grow_cell
          have eqq := eqRep a1 h1 r1 n1 lo hi k t c s a1' h1' r1' n1' lo' hi' k' t' c' s'
          have hD := rep_beq hV hV' HB3.out HB4.out
          have HD := Lib.hid hD
          clear hD
          generalize decide ((⟨a1, h1, r1, n1, lo, hi, k, t, c, s⟩ : Rep) = ⟨a1', h1', r1', n1', lo', hi', k', t', c', s'⟩) = D at eqq HD
          refine region_ext (by kernel_rfl) (by kernel_rfl) ?_
          repeat (go_big_quiet_step ((go_at_call 13; exact Calls.regrown_of (same_eq D _ _ _ _ _ _ _ _ _ HD.out (s1.ext (ext_grow _ _ _)) (s2.ext (ext_grow _ _ _))))))
          try simp only [beq_self_eq_true]
          repeat (go_big_quiet_step (fail))
          refine wpQuiet_nil ?_
          intro w11 hE11
          clear eqq HD hg s1 s2
          replace hE1 := hE1.trans hE11
          clear hE11 hc1 hf1
          obtain ⟨hc1, hf1⟩ := hE1.rules
          go_wp2
          go_ret
          exact ⟨rfl, hE0.trans hE1⟩
end Go.Proofs.Ytcpojkodidflcaa
