/-
  Whether a reply is one for a box: the package. Written by wip/gen_id.py.
-/
import Derived.Test.YtdmfdimhjemngaaGreatDoorIC
namespace Go.Proofs.YtdmfdimhjemngaaGreatDoor
open Go.RowKit Go.Sort Go.Shelf
set_option linter.unusedSimpArgs false
set_option linter.unusedVariables false
set_option maxRecDepth 100000

open Go.Maps
theorem lenlit10 {vs : List Value} (h : vs.length = 10) : ∃ x0 x1 x2 x3 x4 x5 x6 x7 x8 x9 : Value, vs = [x0, x1, x2, x3, x4, x5, x6, x7, x8, x9] := by
  obtain ⟨x0, v0, rfl, h0⟩ := len_cons h
  obtain ⟨x1, v1, rfl, h1⟩ := len_cons h0
  obtain ⟨x2, v2, rfl, h2⟩ := len_cons h1
  obtain ⟨x3, v3, rfl, h3⟩ := len_cons h2
  obtain ⟨x4, v4, rfl, h4⟩ := len_cons h3
  obtain ⟨x5, v5, rfl, h5⟩ := len_cons h4
  obtain ⟨x6, v6, rfl, h6⟩ := len_cons h5
  obtain ⟨x7, v7, rfl, h7⟩ := len_cons h6
  obtain ⟨x8, v8, rfl, h8⟩ := len_cons h7
  obtain ⟨x9, v9, rfl, h9⟩ := len_cons h8
  obtain rfl := len_nil h9
  exact ⟨x0, x1, x2, x3, x4, x5, x6, x7, x8, x9, rfl⟩

def RMp (b : Bx) (m : Nat) : Rel Ext := ⟨fun v W => ∃ g, v = .map (some g) ∧ MpO W b g m m, fun v W W' ⟨g, h1, h2⟩ hE => ⟨g, h1, h2.ext hE⟩⟩
def nvX (b : Bx) (a : Int) : Int := if a ∈ b.asked then nonF b.head b.host b.round a else 0
theorem nv_at {b : Bx} {m : Nat} (hm : b.asked.length = m) (a c : Int) (h : (nonD b m).atKey (.int .i64 a) (.lit (.int .u64 0)) = .lit (.int .u64 c)) : c = nvX b a := by
  subst hm
  unfold nvX
  by_cases ha : a ∈ b.asked
  · rw [if_pos ha]
    rw [nonD_at b a ha] at h
    injection h with h
    injection h with h1 h2
    exact h2.symm
  · rw [if_neg ha]
    have h0 : Maps.has (nonD b b.asked.length) (.int .i64 a) = false := by rw [nonD_has]; simpa using ha
    rw [atKey_of_not_has h0] at h
    injection h with h
    injection h with h1 h2
    exact h2.symm
theorem own_eq (b : Bx) (x : Rp) : ownB b x = (decide (x.a ∈ b.asked) && (x.h == b.host && (x.r == b.round && x.n == nvX b x.a))) := by
  unfold ownB nvX
  by_cases h : x.a ∈ b.asked
  · simp [h]
  · simp [h]

set_option maxHeartbeats 4000000 in
theorem iown_any (b : Bx) (sa : Option Addr) (sn sc : Nat) (ga : Option Addr) (gn gc : Nat) (x : Rp) (hx : x.Ok) (w : World) (hb : BxF w b sa sn sc ga gn gc) (ht : TB w) :
    Calls Tryz.prog 36 #[.agg #[.int .i64 b.host, .int .i64 b.round, .int .u64 b.head, .int .i64 b.sent, .int .i64 b.wait, .slice sa sn sc, .slice ga gn gc], .agg #[.int .i64 x.a, .int .i64 x.h, .int .i64 x.r, .int .u64 x.n, .int .i64 x.lo, .int .i64 x.hi, .int .i64 x.k, .int .i64 x.t, .int .i64 x.c, .int .i64 x.s]] w fun e w' => e = .returned (.bool (ownB b x)) ∧ Ext w w' := by
  have HT := Lib.hid ht
  have HXA := Lib.hid hx.a
  have HE : Hid (ownB b x = (decide (x.a ∈ b.asked) && (x.h == b.host && (x.r == b.round && x.n == nvX b x.a)))) := Lib.hid (own_eq b x)
  have HAT : Hid (∀ c : Int, (nonD b sn).atKey (.int .i64 x.a) (.lit (.int .u64 0)) = .lit (.int .u64 c) → c = nvX b x.a) := Lib.hid (fun c h => nv_at hb.sl.hlen x.a c h)
  have HHS : Hid (Maps.has (nonD b sn) (.int .i64 x.a) = decide (x.a ∈ b.asked)) := Lib.hid (by rw [← hb.sl.hlen]; exact nonD_has b x.a)
  clear ht
  have hP := Bk.new w 29 #[.int .i64 b.host, .int .i64 b.round, .int .u64 b.head, .int .i64 b.sent, .int .i64 b.wait, .slice sa sn sc, .slice ga gn gc]
  have hQ := Bk.new (w.alloc (.cells #[.int .i64 b.host, .int .i64 b.round, .int .u64 b.head, .int .i64 b.sent, .int .i64 b.wait, .slice sa sn sc, .slice ga gn gc] 29)) 60 #[.int .i64 x.a, .int .i64 x.h, .int .i64 x.r, .int .u64 x.n, .int .i64 x.lo, .int .i64 x.hi, .int .i64 x.k, .int .i64 x.t, .int .i64 x.c, .int .i64 x.s]
  rw [World.size_alloc] at hQ
  replace hP := hP.ext ((Ext.refl _).alloc (.cells #[.int .i64 x.a, .int .i64 x.h, .int .i64 x.r, .int .u64 x.n, .int .i64 x.lo, .int .i64 x.hi, .int .i64 x.k, .int .i64 x.t, .int .i64 x.c, .int .i64 x.s] 60))
  have hE : Ext w ((w.alloc (.cells #[.int .i64 b.host, .int .i64 b.round, .int .u64 b.head, .int .i64 b.sent, .int .i64 b.wait, .slice sa sn sc, .slice ga gn gc] 29)).alloc (.cells #[.int .i64 x.a, .int .i64 x.h, .int .i64 x.r, .int .u64 x.n, .int .i64 x.lo, .int .i64 x.hi, .int .i64 x.k, .int .i64 x.t, .int .i64 x.c, .int .i64 x.s] 60)) := ((Ext.refl w).alloc _).alloc _
  generalize decide (x.a ∈ b.asked) = MB at *
  generalize nvX b x.a = NV at *
  go_enter Tryz.func36, Tryz.ntmps36
  go_upto_region 1 with fail
  generalize (w.alloc (.cells #[.int .i64 b.host, .int .i64 b.round, .int .u64 b.head, .int .i64 b.sent, .int .i64 b.wait, .slice sa sn sc, .slice ga gn gc] 29)).alloc (.cells #[.int .i64 x.a, .int .i64 x.h, .int .i64 x.r, .int .u64 x.n, .int .i64 x.lo, .int .i64 x.hi, .int .i64 x.k, .int .i64 x.t, .int .i64 x.c, .int .i64 x.s] 60) = V at *
  generalize w.heap.size + 1 = qb at hQ ⊢
  generalize w.heap.size = pb at hP ⊢
  have p0 := hP.c 0 _ rfl
  have p1 := hP.c 1 _ rfl
  have p2 := hP.c 2 _ rfl
  have p3 := hP.c 3 _ rfl
  have p4 := hP.c 4 _ rfl
  have p5 := hP.c 5 _ rfl
  have p6 := hP.c 6 _ rfl
  have r0 := hQ.c 0 _ rfl
  have r1 := hQ.c 1 _ rfl
  have r2 := hQ.c 2 _ rfl
  have r3 := hQ.c 3 _ rfl
  have r4 := hQ.c 4 _ rfl
  have r5 := hQ.c 5 _ rfl
  have r6 := hQ.c 6 _ rfl
  have r7 := hQ.c 7 _ rfl
  have r8 := hQ.c 8 _ rfl
  have r9 := hQ.c 9 _ rfl
  refine region_rely (S := Ext) (fun W' => Ext V W') [some 8, some 9, some 10, some 11, some 12, some 7, some 13, some 14, some 5, some 6] [[], [0], [], [2], [1, 3], [4], [5], [5], [6], [7]] [[], [], [], [], [], [], [], [], [], []] [.one (.agg #[.int .i64 b.host, .int .i64 b.round, .int .u64 b.head, .int .i64 b.sent, .int .i64 b.wait, .slice sa sn sc, .slice ga gn gc]), RMp b sn, .one (.pointer (some ⟨qb, 0, none⟩)), .one (.int .i64 x.a), .one (.tuple #[.int .u64 NV, .bool MB]), .one (.tuple #[.int .u64 NV, .bool MB]), .one (.int .u64 NV), .one (.bool MB), .one (.int .u64 NV), .one (.bool MB)] (by kernel_rfl) (by kernel_rfl) (Ext.refl V).drew ?_ ?_
  · refine stepsR_cons ?_ ?_
    · intro vs W' hl hI hd ho
      refine hold ?_
      obtain ⟨x0, x1, x2, x3, x4, x5, x6, x7, x8, x9, rfl⟩ := lenlit10 hl; clear hl
      refine held ?_
      simp only [putAll, Act.put, List.setIfInBounds_toArray, List.set_cons_succ, List.set_cons_zero]
      have q0 := hI.cell p0
      have q1 := hI.cell p1
      have q2 := hI.cell p2
      have q3 := hI.cell p3
      have q4 := hI.cell p4
      have q5 := hI.cell p5
      have q6 := hI.cell p6
      go_wp2_with fail
      exact rely_done _ rfl rfl (Ext.refl _) hI
    refine stepsR_cons ?_ ?_
    · intro vs W' hl hI hd ho
      refine hold ?_
      obtain ⟨x0, x1, x2, x3, x4, x5, x6, x7, x8, x9, rfl⟩ := lenlit10 hl; clear hl
      simp only [factsR, atR, List.getElem?_cons_succ, List.getElem?_cons_zero, Rel.one, Rel.blk, RMp] at hd
      obtain ⟨rfl, -⟩ := hd
      refine held ?_
      simp only [putAll, Act.put, List.setIfInBounds_toArray, List.set_cons_succ, List.set_cons_zero]
      go_wp2_with fail
      refine (inonces_any b sa sn sc ga gn gc W' ((hb.ext hE).ext hI) (TB.ext HT.out (hE.trans hI))).mono ?_
      rintro e w4 ⟨g1, rfl, hM, hx4⟩
      go_wp2_with fail
      exact rely_done _ rfl ⟨_, rfl, hM⟩ hx4 (hI.trans hx4)
    refine stepsR_cons ?_ ?_
    · intro vs W' hl hI hd ho
      refine hold ?_
      obtain ⟨x0, x1, x2, x3, x4, x5, x6, x7, x8, x9, rfl⟩ := lenlit10 hl; clear hl
      refine held ?_
      simp only [putAll, Act.put, List.setIfInBounds_toArray, List.set_cons_succ, List.set_cons_zero]
      go_wp2_with fail
      exact rely_done _ rfl rfl (Ext.refl _) hI
    refine stepsR_cons ?_ ?_
    · intro vs W' hl hI hd ho
      refine hold ?_
      obtain ⟨x0, x1, x2, x3, x4, x5, x6, x7, x8, x9, rfl⟩ := lenlit10 hl; clear hl
      simp only [factsR, atR, List.getElem?_cons_succ, List.getElem?_cons_zero, Rel.one, Rel.blk, RMp] at hd
      obtain ⟨rfl, -⟩ := hd
      refine held ?_
      simp only [putAll, Act.put, List.setIfInBounds_toArray, List.set_cons_succ, List.set_cons_zero]
      have q := hI.cell r0
      go_wp2_with fail
      exact rely_done _ rfl rfl (Ext.refl _) hI
    refine stepsR_cons ?_ ?_
    · intro vs W' hl hI hd ho
      refine hold ?_
      obtain ⟨x0, x1, x2, x3, x4, x5, x6, x7, x8, x9, rfl⟩ := lenlit10 hl; clear hl
      simp only [factsR, atR, List.getElem?_cons_succ, List.getElem?_cons_zero, Rel.one, Rel.blk, RMp] at hd
      obtain ⟨⟨g1, rfl, hM⟩, rfl, -⟩ := hd
      refine held ?_
      simp only [putAll, Act.put, List.setIfInBounds_toArray, List.set_cons_succ, List.set_cons_zero]
      go_wp2_with (at_lookup; refine wpList_lookup_own_ok_int _ rfl _ _ 102 rfl 3 26 .u64 key_int Tryz.underlying102 Tryz.underlying26 (zero_u64 _) g1 sn _ rfl hM _ _ rfl (keyOf_int_mk Tryz.underlying3 HXA.out) ?_; intro c hat hwc; refine hold ?_)
      refine held ?_
      obtain rfl := HAT.out c hat
      rw [HHS.out]
      clear hat
      go_wp2_with fail
      exact rely_done _ rfl rfl (Ext.refl _) hI
    refine stepsR_cons ?_ ?_
    · intro vs W' hl hI hd ho
      refine hold ?_
      obtain ⟨x0, x1, x2, x3, x4, x5, x6, x7, x8, x9, rfl⟩ := lenlit10 hl; clear hl
      simp only [factsR, atR, List.getElem?_cons_succ, List.getElem?_cons_zero, Rel.one, Rel.blk, RMp] at hd
      obtain ⟨rfl, -⟩ := hd
      refine held ?_
      simp only [putAll, Act.put, List.setIfInBounds_toArray, List.set_cons_succ, List.set_cons_zero]
      go_wp2_with fail
      exact rely_done _ rfl rfl (Ext.refl _) hI
    refine stepsR_cons ?_ ?_
    · intro vs W' hl hI hd ho
      refine hold ?_
      obtain ⟨x0, x1, x2, x3, x4, x5, x6, x7, x8, x9, rfl⟩ := lenlit10 hl; clear hl
      simp only [factsR, atR, List.getElem?_cons_succ, List.getElem?_cons_zero, Rel.one, Rel.blk, RMp] at hd
      obtain ⟨rfl, -⟩ := hd
      refine held ?_
      simp only [putAll, Act.put, List.setIfInBounds_toArray, List.set_cons_succ, List.set_cons_zero]
      go_wp2_with fail
      exact rely_done _ rfl rfl (Ext.refl _) hI
    refine stepsR_cons ?_ ?_
    · intro vs W' hl hI hd ho
      refine hold ?_
      obtain ⟨x0, x1, x2, x3, x4, x5, x6, x7, x8, x9, rfl⟩ := lenlit10 hl; clear hl
      simp only [factsR, atR, List.getElem?_cons_succ, List.getElem?_cons_zero, Rel.one, Rel.blk, RMp] at hd
      obtain ⟨rfl, -⟩ := hd
      refine held ?_
      simp only [putAll, Act.put, List.setIfInBounds_toArray, List.set_cons_succ, List.set_cons_zero]
      go_wp2_with fail
      exact rely_done _ rfl rfl (Ext.refl _) hI
    refine stepsR_cons ?_ ?_
    · intro vs W' hl hI hd ho
      refine hold ?_
      obtain ⟨x0, x1, x2, x3, x4, x5, x6, x7, x8, x9, rfl⟩ := lenlit10 hl; clear hl
      simp only [factsR, atR, List.getElem?_cons_succ, List.getElem?_cons_zero, Rel.one, Rel.blk, RMp] at hd
      obtain ⟨rfl, -⟩ := hd
      refine held ?_
      simp only [putAll, Act.put, List.setIfInBounds_toArray, List.set_cons_succ, List.set_cons_zero]
      go_wp2_with fail
      exact rely_done _ rfl rfl (Ext.refl _) hI
    refine stepsR_cons ?_ ?_
    · intro vs W' hl hI hd ho
      refine hold ?_
      obtain ⟨x0, x1, x2, x3, x4, x5, x6, x7, x8, x9, rfl⟩ := lenlit10 hl; clear hl
      simp only [factsR, atR, List.getElem?_cons_succ, List.getElem?_cons_zero, Rel.one, Rel.blk, RMp] at hd
      obtain ⟨rfl, -⟩ := hd
      refine held ?_
      simp only [putAll, Act.put, List.setIfInBounds_toArray, List.set_cons_succ, List.set_cons_zero]
      go_wp2_with fail
      exact rely_done _ rfl rfl (Ext.refl _) hI
    exact trivial
  · intro vs W' hl hI hd
    obtain ⟨x0, x1, x2, x3, x4, x5, x6, x7, x8, x9, rfl⟩ := lenlit10 hl; clear hl
    simp only [List.length_cons, List.length_nil, List.range, List.range.loop, Nat.zero_add, Nat.reduceAdd, factsR, atR, List.getElem?_cons_succ, List.getElem?_cons_zero, Rel.one, Rel.blk, RMp] at hd
    obtain ⟨rfl, ⟨g1, rfl, hM⟩, rfl, rfl, rfl, rfl, rfl, rfl, rfl, rfl, -⟩ := hd
    simp only [putAll, Act.put, List.setIfInBounds_toArray, List.set_cons_succ, List.set_cons_zero]
    have hE2 := hE.trans hI
    have hP2 := hP.ext hI
    have hQ2 := hQ.ext hI
    clear p0 p1 p2 p3 p4 p5 p6 r0 r1 r2 r3 r4 r5 r6 r7 r8 r9 hM
    have p0 := hP2.c 0 _ rfl
    have p1 := hP2.c 1 _ rfl
    have p2 := hP2.c 2 _ rfl
    have p3 := hP2.c 3 _ rfl
    have p4 := hP2.c 4 _ rfl
    have p5 := hP2.c 5 _ rfl
    have p6 := hP2.c 6 _ rfl
    have r0 := hQ2.c 0 _ rfl
    have r1 := hQ2.c 1 _ rfl
    have r2 := hQ2.c 2 _ rfl
    have r3 := hQ2.c 3 _ rfl
    have r4 := hQ2.c 4 _ rfl
    have r5 := hQ2.c 5 _ rfl
    have r6 := hQ2.c 6 _ rfl
    have r7 := hQ2.c 7 _ rfl
    have r8 := hQ2.c 8 _ rfl
    have r9 := hQ2.c 9 _ rfl
    rcases MB with _ | _
    · go_wp2_with fail
      go_ret
      exact ⟨ret_bool (by rw [HE.out]; rfl), hE2⟩
    rcases c1 : (x.h == b.host) with _ | _
    · have C1 := Lib.hid c1
      go_wp2_with fail
      go_ret
      exact ⟨ret_bool (by rw [HE.out, C1.out]; rfl), hE2⟩
    have C1 := Lib.hid c1
    rcases c2 : (x.r == b.round) with _ | _
    · have C2 := Lib.hid c2
      go_wp2_with fail
      go_ret
      exact ⟨ret_bool (by rw [HE.out, C1.out, C2.out]; rfl), hE2⟩
    have C2 := Lib.hid c2
    go_wp2_with fail
    go_ret
    exact ⟨ret_bool (by rw [HE.out, C1.out, C2.out]; simp), hE2⟩
end Go.Proofs.YtdmfdimhjemngaaGreatDoor
