/-
  The head of the laws of packets.
-/
import Derived.Test.YtcpojkodidflcaaK12
import Derived.Test.YtcpojkodidflcaaKP
namespace Go.Proofs.Ytcpojkodidflcaa
open Go.RowKit Go.Sort Go.Shelf
set_option linter.unusedSimpArgs false
set_option linter.unusedVariables false
set_option maxRecDepth 100000

def digsG : Nat → Nat → List Int
  | 0, u => [(u : Int)]
  | n + 1, u => if u < 128 then [(u : Int)] else ((u % 128 + 128 : Nat) : Int) :: digsG n (u / 128)
theorem digs_eqG : ∀ (n u : Nat), u < 128 ^ (n + 1) → digs u = digsG n u
  | 0, u, h => digs_small (by omega)
  | n + 1, u, h => by
    unfold digsG
    by_cases hu : u < 128
    · rw [if_pos hu, digs_small hu]
    · rw [if_neg hu, digs_big hu, digs_eqG n (u / 128) (by rw [Nat.pow_succ] at h; omega)]
def lputG (xs : List Int) : List Int := digsG 9 (num xs.length) ++ xs.flatMap fun x => digsG 9 (num x)
theorem lput_G {xs : List Int} (hw : ∀ x ∈ xs, (Lit.int .i64 x).wf = true) (hl : xs.length ≤ 1100) : lput xs = lputG xs := by
  have e : ∀ {n : Int}, -9223372036854775808 ≤ n ∧ n ≤ 9223372036854775807 → digs (num n) = digsG 9 (num n) := fun h => digs_eqG 9 _ (by have := num_lt h; omega)
  unfold lput lputG
  rw [e (n := xs.length) (by omega)]
  congr 1
  induction xs with
  | nil => rfl
  | cons x xs ih =>
    rw [List.flatMap_cons, List.flatMap_cons, e (wf_i64 (hw x (by simp))), ih (fun y hy => hw y (by simp [hy])) (by simp at hl; omega)]

theorem evP1 : pkt 1 (reqInts 1 2 3 4294967301) = [1, 10, 2, 4, 6, 2, 10] := by unfold pkt; rw [lput_G (by decide) (by decide)]; decide
theorem evP2 : pkt 2 (repInts 2 1 3 7 10 70 1 0 5 6) = [2, 22, 4, 2, 6, 0, 14, 20, 140, 1, 2, 0, 10, 12] := by unfold pkt; rw [lput_G (by decide) (by decide)]; decide
theorem ev_w1 : ReqW 1 2 3 4294967301 := ⟨by decide, by decide, by decide, by decide⟩
theorem ev_w0 : ReqW 0 0 0 0 := ⟨by decide, by decide, by decide, by decide⟩
theorem ev_w2 : Rep.W ⟨2, 1, 3, 7, 10, 70, 1, 0, 5, 6⟩ := ⟨⟨by decide, by decide, by decide, by decide⟩, by decide, by decide, by decide, by decide, by decide, by decide⟩
theorem ev_g1 : lreq [1, 10, 2, 4, 6, 2, 10] = some (1, 2, 3, 4294967301) := by rw [← evP1]; exact lreq_pkt ev_w1 (by decide)
theorem ev_g2 : lrep [2, 22, 4, 2, 6, 0, 14, 20, 140, 1, 2, 0, 10, 12] = some ⟨2, 1, 3, 7, 10, 70, 1, 0, 5, 6⟩ := by rw [← evP2]; exact lrep_pkt ev_w2 (by decide)
theorem ev_g3 : lrep [1, 10, 2, 4, 6, 2, 10] = none := lreq_lrep ev_g1

theorem putRequest_yes (h a r n : Int) (hw : ReqW h a r n) (hb : reqB h a r = true) (w : World) : Calls Try.prog 11 #[.agg #[.int .i64 h, .int .i64 a, .int .i64 r, .int .u64 n]] w fun e w' =>
    ∃ a' c, e = .returned (.tuple #[.slice a' (pkt 1 (reqInts h a r n)).length c, .int .i64 0]) ∧ Sl .u8 w' a' (pkt 1 (reqInts h a r n)).length c (pkt 1 (reqInts h a r n)) ∧ Ext w w' :=
  (putRequest_any h a r n hw w).mono fun e w' ⟨a', m, c, zs, k, he, hs, hE, hz, hk⟩ => by
    rw [hb] at hz hk
    simp only [if_true] at hz hk
    subst hz hk
    have := hs.hlen
    subst this
    exact ⟨a', c, he, hs, hE⟩
theorem putRequest_no (h a r n : Int) (hw : ReqW h a r n) (hb : reqB h a r = false) (w : World) : Calls Try.prog 11 #[.agg #[.int .i64 h, .int .i64 a, .int .i64 r, .int .u64 n]] w fun e w' =>
    ∃ a' c, e = .returned (.tuple #[.slice a' 0 c, .int .i64 1]) ∧ Sl .u8 w' a' 0 c [] ∧ Ext w w' :=
  (putRequest_any h a r n hw w).mono fun e w' ⟨a', m, c, zs, k, he, hs, hE, hz, hk⟩ => by
    rw [hb] at hz hk
    simp only [Bool.false_eq_true, if_false] at hz hk
    subst hz hk
    have := hs.hlen
    subst this
    exact ⟨a', c, he, hs, hE⟩
theorem putReply_yes (q : Rep) (hw : q.W) (hb : q.ok = true) (w : World) : Calls Try.prog 16 #[repV q] w fun e w' =>
    ∃ a' c, e = .returned (.tuple #[.slice a' (pkt 2 q.ints).length c, .int .i64 0]) ∧ Sl .u8 w' a' (pkt 2 q.ints).length c (pkt 2 q.ints) ∧ Ext w w' :=
  (putReply_any q.a q.h q.r q.n q.lo q.hi q.k q.t q.c q.s hw w).mono fun e w' ⟨a', m, c, zs, k, he, hs, hE, hz, hk⟩ => by
    rw [show repB q.a q.h q.r q.lo q.hi q.k q.t q.c q.s = true from hb] at hz hk
    simp only [if_true] at hz hk
    subst hz hk
    have := hs.hlen
    subst this
    exact ⟨a', c, he, hs, hE⟩

set_option maxHeartbeats 1000000 in
theorem head_any (w : World) : Calls Try.prog 10 #[] w fun e w' => e = .returned (.bool true) ∧ Ext w w' := by
  go_enter Try.func10, Try.ntmps10
  go_wp2_with fail
  refine (putRequest_yes 1 2 3 4294967301 ev_w1 (by decide) _).mono ?_
  rintro e w1 ⟨a1, c1, rfl, s1, hE1⟩
  rw [evP1] at s1 ⊢
  have B1 : ReqBlk w1 w.heap.size 1 2 3 4294967301 := ReqBlk.ext (World.alloc_heap_new w _) hE1
  replace hE1 : Ext w w1 := ((Ext.refl w).alloc _).trans hE1
  have lB1 : w.heap.size < w1.heap.size := lt_of_block B1
  generalize w.heap.size = b1 at *
  go_wp2_with fail
  refine (getRequest_any _ _ _ _ _ s1 (by decide)).mono ?_
  intro e w2 hp
  rw [ev_g1] at hp
  obtain ⟨rfl, hE2⟩ := hp
  simp only [reqV, Option.getD_some, Option.isSome_some, if_true]
  replace B1 := B1.ext hE2
  replace s1 := s1.ext hE2
  replace hE1 := hE1.trans hE2
  clear hE2 lB1
  go_wp2_with fail
  refine (putReply_yes ⟨2, 1, 3, 7, 10, 70, 1, 0, 5, 6⟩ ev_w2 (by decide) _).mono ?_
  rintro e w3 ⟨a3, c3, rfl, s3, hE3⟩
  rw [show pkt 2 (Rep.ints ⟨2, 1, 3, 7, 10, 70, 1, 0, 5, 6⟩) = _ from evP2] at s3 ⊢
  have hE23 : Ext w2 ((w2.alloc (.cells #[.int .i64 1, .int .i64 2, .int .i64 3, .int .u64 4294967301] 24)).alloc (.cells #[.int .i64 2, .int .i64 1, .int .i64 3, .int .u64 7, .int .i64 10, .int .i64 70, .int .i64 1, .int .i64 0, .int .i64 5, .int .i64 6] 30)) := ((Ext.refl w2).alloc _).alloc _
  have B4 : ReqBlk w3 w2.heap.size 1 2 3 4294967301 := ReqBlk.ext (alloc_keep (alloc_at rfl)) hE3
  have B6 : RepBlk w3 (w2.heap.size + 1) ⟨2, 1, 3, 7, 10, 70, 1, 0, 5, 6⟩ := RepBlk.ext (alloc_at (by simp)) hE3
  replace B1 := B1.ext (hE23.trans hE3)
  replace s1 := s1.ext (hE23.trans hE3)
  replace hE1 := hE1.trans (hE23.trans hE3)
  clear hE23 hE3
  generalize w2.heap.size + 1 = b6 at *
  generalize w2.heap.size = b4 at *
  go_wp2_with fail
  refine (getReply_any _ _ _ _ _ s3 (by decide)).mono ?_
  intro e w4 hp
  rw [ev_g2] at hp
  obtain ⟨rfl, hE4⟩ := hp
  simp only [repV, Option.getD_some, Option.isSome_some, if_true]
  replace B1 := B1.ext hE4
  replace B4 := B4.ext hE4
  replace B6 := B6.ext hE4
  replace s1 := s1.ext hE4
  replace s3 := s3.ext hE4
  replace hE1 := hE1.trans hE4
  clear hE4
  have hE45 : Ext w4 (w4.alloc (.cells #[.int .i64 2, .int .i64 1, .int .i64 3, .int .u64 7, .int .i64 10, .int .i64 70, .int .i64 1, .int .i64 0, .int .i64 5, .int .i64 6] 30)) := (Ext.refl w4).alloc _
  have B9 : RepBlk (w4.alloc (.cells #[.int .i64 2, .int .i64 1, .int .i64 3, .int .u64 7, .int .i64 10, .int .i64 70, .int .i64 1, .int .i64 0, .int .i64 5, .int .i64 6] 30)) w4.heap.size ⟨2, 1, 3, 7, 10, 70, 1, 0, 5, 6⟩ := World.alloc_heap_new w4 _
  go_wp2_with fail
  refine (getReply_any _ _ _ _ _ (s1.ext hE45) (by decide)).mono ?_
  intro e w5 hp
  rw [ev_g3] at hp
  obtain ⟨rfl, hE5⟩ := hp
  simp only [repV, rep0, Option.getD_none, Option.isSome_none, Bool.false_eq_true, if_false]
  replace B9 := B9.ext hE5
  replace B1 := B1.ext (hE45.trans hE5)
  replace B4 := B4.ext (hE45.trans hE5)
  replace B6 := B6.ext (hE45.trans hE5)
  replace s1 := s1.ext (hE45.trans hE5)
  replace s3 := s3.ext (hE45.trans hE5)
  replace hE1 := hE1.trans (hE45.trans hE5)
  clear hE45 hE5
  generalize w4.heap.size = b9 at *
  have hE56 : Ext w5 (w5.alloc (.cells #[.int .i64 0, .int .i64 0, .int .i64 0, .int .u64 0, .int .i64 0, .int .i64 0, .int .i64 0, .int .i64 0, .int .i64 0, .int .i64 0] 30)) := (Ext.refl w5).alloc _
  go_wp2_with fail
  refine (putRequest_no 0 0 0 0 ev_w0 (by decide) _).mono ?_
  rintro e w6 ⟨a6, c6, rfl, s6, hE6⟩
  replace B9 := B9.ext (hE56.trans hE6)
  replace B1 := B1.ext (hE56.trans hE6)
  replace B4 := B4.ext (hE56.trans hE6)
  replace B6 := B6.ext (hE56.trans hE6)
  replace s1 := s1.ext (hE56.trans hE6)
  replace s3 := s3.ext (hE56.trans hE6)
  replace hE1 := hE1.trans (hE56.trans hE6)
  clear hE56 hE6 s6
  generalize w5.heap.size = b5 at *
  go_wp2_with fail
  refine (same_any _ _ _ _ _ _ [1, 10, 2, 4, 6, 2, 10] [1, 10, 2, 4, 6, 2, 10] _ (s1.ext ((Ext.refl _).alloc _)) (newSlAt .u8 5 w6 _ _ _ _ rfl rfl rfl (by simp [maxLen]) (by decide))).mono ?_
  rintro e w7 ⟨he, hE7⟩
  rw [show (([1, 10, 2, 4, 6, 2, 10] : List Int) == [1, 10, 2, 4, 6, 2, 10]) = true from by decide] at he
  subst he
  have hE67 : Ext w6 w7 := ((Ext.refl w6).alloc _).trans hE7
  replace B9 := B9.ext hE67
  replace B1 := B1.ext hE67
  replace B4 := B4.ext hE67
  replace B6 := B6.ext hE67
  replace s3 := s3.ext hE67
  replace hE1 := hE1.trans hE67
  clear hE67 hE7 s1
  have r0 := cell_of_block B1 0 (.int .i64 1) rfl
  have r1 := cell_of_block B1 1 (.int .i64 2) rfl
  have r2 := cell_of_block B1 2 (.int .i64 3) rfl
  have r3 := cell_of_block B1 3 (.int .u64 4294967301) rfl
  have t0 := cell_of_block B4 0 (.int .i64 1) rfl
  have t1 := cell_of_block B4 1 (.int .i64 2) rfl
  have t2 := cell_of_block B4 2 (.int .i64 3) rfl
  have t3 := cell_of_block B4 3 (.int .u64 4294967301) rfl
  have u0 := cell_of_block B6 0 (.int .i64 2) rfl
  have u1 := cell_of_block B6 1 (.int .i64 1) rfl
  have u2 := cell_of_block B6 2 (.int .i64 3) rfl
  have u3 := cell_of_block B6 3 (.int .u64 7) rfl
  have u4 := cell_of_block B6 4 (.int .i64 10) rfl
  have u5 := cell_of_block B6 5 (.int .i64 70) rfl
  have u6 := cell_of_block B6 6 (.int .i64 1) rfl
  have u7 := cell_of_block B6 7 (.int .i64 0) rfl
  have u8 := cell_of_block B6 8 (.int .i64 5) rfl
  have u9 := cell_of_block B6 9 (.int .i64 6) rfl
  have v0 := cell_of_block B9 0 (.int .i64 2) rfl
  have v1 := cell_of_block B9 1 (.int .i64 1) rfl
  have v2 := cell_of_block B9 2 (.int .i64 3) rfl
  have v3 := cell_of_block B9 3 (.int .u64 7) rfl
  have v4 := cell_of_block B9 4 (.int .i64 10) rfl
  have v5 := cell_of_block B9 5 (.int .i64 70) rfl
  have v6 := cell_of_block B9 6 (.int .i64 1) rfl
  have v7 := cell_of_block B9 7 (.int .i64 0) rfl
  have v8 := cell_of_block B9 8 (.int .i64 5) rfl
  have v9 := cell_of_block B9 9 (.int .i64 6) rfl
  go_wp2_with fail
  refine (same_any _ _ _ _ _ _ [2, 22, 4, 2, 6, 0, 14, 20, 140, 1, 2, 0, 10, 12] [2, 22, 4, 2, 6, 0, 14, 20, 140, 1, 2, 0, 10, 12] _ (s3.ext ((Ext.refl _).alloc _)) (newSlAt .u8 5 w7 _ _ _ _ rfl rfl rfl (by simp [maxLen]) (by decide))).mono ?_
  rintro e w8 ⟨he, hE8⟩
  rw [show (([2, 22, 4, 2, 6, 0, 14, 20, 140, 1, 2, 0, 10, 12] : List Int) == [2, 22, 4, 2, 6, 0, 14, 20, 140, 1, 2, 0, 10, 12]) = true from by decide] at he
  subst he
  go_wp2
  go_ret
  exact ⟨rfl, hE1.trans (((Ext.refl w7).alloc _).trans hE8)⟩

end Go.Proofs.Ytcpojkodidflcaa
