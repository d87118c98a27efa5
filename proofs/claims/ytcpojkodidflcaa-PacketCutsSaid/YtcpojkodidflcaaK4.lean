/-
  The packets of requests and replies, by the reference; the packets of replies.
-/
import Derived.Test.YtcpojkodidflcaaK3
namespace Go.Proofs.Ytcpojkodidflcaa
open Go.RowKit Go.Sort Go.Shelf
set_option linter.unusedSimpArgs false
set_option linter.unusedVariables false
set_option maxRecDepth 100000

theorem upper_any (n : Int) (w : World) (hn : 0 ≤ n ∧ n ≤ 18446744073709551615) : Calls Try.prog 41 #[.int .u64 n] w fun e w' => e = .returned (.int .i64 (n / 4294967296)) ∧ Ext w w' := by
  go_enter Try.func41, Try.ntmps41
  go_wp2
  go_ret
  exact ⟨ret_int (by simp), Ext.refl w⟩
theorem lower_any (n : Int) (w : World) (hn : 0 ≤ n ∧ n ≤ 18446744073709551615) : Calls Try.prog 42 #[.int .u64 n] w fun e w' => e = .returned (.int .i64 (n % 4294967296)) ∧ Ext w w' := by
  have ha := and32 hn
  go_enter Try.func42, Try.ntmps42
  go_wp2
  go_ret
  exact ⟨ret_int (by simp), Ext.refl w⟩

/-- A slice of integers that the call has made. -/
def NewI (w w' : World) (v : Value) (xs : List Int) : Prop := ∃ a c, v = .slice a xs.length c ∧ Sl .i64 w' a xs.length c xs ∧ Ext w w'

theorem rreqInts_any (h a r n : Int) (hw : ReqW h a r n) (w : World) : Calls Try.prog 26 #[.agg #[.int .i64 h, .int .i64 a, .int .i64 r, .int .u64 n]] w fun e w' => ∃ v, e = .returned v ∧ NewI w w' v (reqInts h a r n) := by
  have hn := wf_u64 hw.n
  have hi := Lib.hid hw.ints
  go_enter Try.func26, Try.ntmps26
  go_wp2_with fail
  refine region_tail 12 (by kernel_rfl) (by kernel_rfl) ?_
  simp only [List.take_succ_cons, List.take_zero, List.drop_succ_cons, List.drop_zero]
  have hg := @grow_cell
  repeat (go_big_quiet_step (first | (go_at_call 41; exact Calls.regrown_of (upper_any _ _ hn)) | (go_at_call 42; exact Calls.regrown_of (lower_any _ _ hn))))
  refine wpQuiet_nil ?_
  intro w1 hE1
  clear hg
  go_wp2
  go_ret
  exact ⟨_, rfl, _, _, rfl, newSlAt .i64 3 _ _ _ _ _ rfl rfl rfl (by simp [reqInts, maxLen]) hi.out, (((Ext.refl w).alloc _).trans hE1).alloc _⟩

set_option maxHeartbeats 1000000 in
theorem rputRequest_any (h a r n : Int) (hw : ReqW h a r n) (w : World) : Calls Try.prog 12 #[.agg #[.int .i64 h, .int .i64 a, .int .i64 r, .int .u64 n]] w fun e w' => PktPost w w' e (reqB h a r) (pkt 1 (reqInts h a r n)) := by
  rcases hb : reqB h a r with _ | _
  all_goals
    have HB := Lib.hid hb
    clear hb
    go_enter Try.func12, Try.ntmps12
    go_wp2_with (first | (go_at_call 20; refine (rrequest_any _ _ _ _ _).mono ?_; rintro e w1 ⟨rfl, hE1⟩; rw [HB.out]; obtain ⟨hc1, hf1⟩ := hE1.rules; have hz1 := hE1.sz1) | (go_at_call 26; refine (rreqInts_any _ _ _ _ hw _).mono ?_; rintro e w2 ⟨v2, rfl, a2, c2, rfl, hs2, hE2⟩) | (go_at_call 25; refine (rpacket_any 1 (by omega) _ _ _ (reqInts h a r n) _ hs2 (by simp [reqInts])).mono ?_; rintro e w3 ⟨v, rfl, hN⟩))
  · go_ret2
    exact pktPost_no rfl (((Ext.refl w).alloc _).trans hE1)
  · go_ret2
    exact pktPost_yes rfl hN (pkt_wf (by omega) _) ((((Ext.refl w).alloc _).trans hE1).trans hE2)

/-- The integers of a reply. -/
def repInts (a h r n lo hi k t c s : Int) : List Int := [a, h, r, n / 4294967296, n % 4294967296, lo, hi, k, t, c, s]
structure RepW (a h r n lo hi k t c s : Int) : Prop where
  q : ReqW h a r n
  lo : (Lit.int .i64 lo).wf = true
  hi : (Lit.int .i64 hi).wf = true
  k : (Lit.int .i64 k).wf = true
  t : (Lit.int .i64 t).wf = true
  c : (Lit.int .i64 c).wf = true
  s : (Lit.int .i64 s).wf = true
theorem RepW.ints {a h r n lo hi k t c s : Int} (hw : RepW a h r n lo hi k t c s) : ∀ x ∈ [a, h, r, n / 4294967296, n % 4294967296, lo, hi, k, t, c, s], (Lit.int .i64 x).wf = true := by
  have hn := wf_u64 hw.q.n
  intro x hx
  simp only [List.mem_cons, List.not_mem_nil, or_false] at hx
  rcases hx with rfl | rfl | rfl | rfl | rfl | rfl | rfl | rfl | rfl | rfl | rfl
  · exact hw.q.a
  · exact hw.q.h
  · exact hw.q.r
  · exact wf_of_i64 (by omega) (by omega)
  · exact wf_of_i64 (by omega) (by omega)
  · exact hw.lo
  · exact hw.hi
  · exact hw.k
  · exact hw.t
  · exact hw.c
  · exact hw.s

set_option maxHeartbeats 1000000 in
theorem putReply_any (a h r n lo hi k t c s : Int) (hw : RepW a h r n lo hi k t c s) (w : World) : Calls Try.prog 16 #[.agg #[.int .i64 a, .int .i64 h, .int .i64 r, .int .u64 n, .int .i64 lo, .int .i64 hi, .int .i64 k, .int .i64 t, .int .i64 c, .int .i64 s]] w fun e w' => PktPost w w' e (repB a h r lo hi k t c s) (pkt 2 (repInts a h r n lo hi k t c s)) := by
  have hn := wf_u64 hw.q.n
  have hi' := Lib.hid hw.ints
  rcases hb : repB a h r lo hi k t c s with _ | _
  all_goals
    have HB := Lib.hid hb
    clear hb
    go_enter Try.func16, Try.ntmps16
    go_wp2_with (first | (go_at_call 32; refine (reply_any _ _ _ _ _ _ _ _ _ _ _).mono ?_; rintro e w1 ⟨rfl, hE1⟩; rw [HB.out]; obtain ⟨hc1, hf1⟩ := hE1.rules; have hz1 := hE1.sz1) | (go_at_call 23; refine (halves_any _ _ hn).mono ?_; rintro e w2 ⟨rfl, hE2⟩; obtain ⟨hc2, hf2⟩ := hE2.rules; have hz2 := Nat.lt_of_lt_of_le hz1 hE2.sz) | (go_at_call 24; refine (put_pkt 2 (by omega) _ _ _ [a, h, r, n / 4294967296, n % 4294967296, lo, hi, k, t, c, s] _ (newSlAt .i64 3 _ _ _ _ _ (by simp) rfl rfl (by simp [maxLen]) hi'.out) (by simp)).mono ?_; rintro e w3 ⟨v, rfl, hN⟩))
  · go_ret2
    exact pktPost_no rfl (((Ext.refl w).alloc _).trans hE1)
  · go_ret2
    exact pktPost_yes rfl hN (pkt_wf (by omega) _) (((((((Ext.refl w).alloc _).trans hE1).trans hE2).alloc _)).alloc _)

set_option maxHeartbeats 1000000 in
theorem rrepInts_any (a h r n lo hi k t c s : Int) (hw : RepW a h r n lo hi k t c s) (w : World) : Calls Try.prog 33 #[.agg #[.int .i64 a, .int .i64 h, .int .i64 r, .int .u64 n, .int .i64 lo, .int .i64 hi, .int .i64 k, .int .i64 t, .int .i64 c, .int .i64 s]] w fun e w' => ∃ v, e = .returned v ∧ NewI w w' v (repInts a h r n lo hi k t c s) := by
  have hn := wf_u64 hw.q.n
  have hi' := Lib.hid hw.ints
  go_enter Try.func33, Try.ntmps33
  go_wp2_with fail
  refine region_tail 28 (by kernel_rfl) (by kernel_rfl) ?_
  simp only [List.take_succ_cons, List.take_zero, List.drop_succ_cons, List.drop_zero]
  have hg := @grow_cell
  repeat (go_big_quiet_step (first | (go_at_call 41; exact Calls.regrown_of (upper_any _ _ hn)) | (go_at_call 42; exact Calls.regrown_of (lower_any _ _ hn))))
  refine wpQuiet_nil ?_
  intro w1 hE1
  clear hg
  go_wp2
  go_ret
  exact ⟨_, rfl, _, _, rfl, newSlAt .i64 3 _ _ _ _ _ rfl rfl rfl (by simp [repInts, maxLen]) hi'.out, (((Ext.refl w).alloc _).trans hE1).alloc _⟩

set_option maxHeartbeats 1000000 in
theorem rputReply_any (a h r n lo hi k t c s : Int) (hw : RepW a h r n lo hi k t c s) (w : World) : Calls Try.prog 17 #[.agg #[.int .i64 a, .int .i64 h, .int .i64 r, .int .u64 n, .int .i64 lo, .int .i64 hi, .int .i64 k, .int .i64 t, .int .i64 c, .int .i64 s]] w fun e w' => PktPost w w' e (repB a h r lo hi k t c s) (pkt 2 (repInts a h r n lo hi k t c s)) := by
  rcases hb : repB a h r lo hi k t c s with _ | _
  all_goals
    have HB := Lib.hid hb
    clear hb
    go_enter Try.func17, Try.ntmps17
    go_wp2_with (first | (go_at_call 21; refine (rreply_any _ _ _ _ _ _ _ _ _ _ _).mono ?_; rintro e w1 ⟨rfl, hE1⟩; rw [HB.out]; obtain ⟨hc1, hf1⟩ := hE1.rules; have hz1 := hE1.sz1) | (go_at_call 33; refine (rrepInts_any _ _ _ _ _ _ _ _ _ _ hw _).mono ?_; rintro e w2 ⟨v2, rfl, a2, c2, rfl, hs2, hE2⟩) | (go_at_call 25; refine (rpacket_any 2 (by omega) _ _ _ (repInts a h r n lo hi k t c s) _ hs2 (by simp [repInts])).mono ?_; rintro e w3 ⟨v, rfl, hN⟩))
  · go_ret2
    exact pktPost_no rfl (((Ext.refl w).alloc _).trans hE1)
  · go_ret2
    exact pktPost_yes rfl hN (pkt_wf (by omega) _) ((((Ext.refl w).alloc _).trans hE1).trans hE2)

end Go.Proofs.Ytcpojkodidflcaa
