/-
  Take: the package, walked. Written by wip/gen_ik.py.
-/
import Derived.Test.YtdmfdimhjemngaaGreatDoorIJ
namespace Go.Proofs.YtdmfdimhjemngaaGreatDoor
open Go.RowKit Go.Sort Go.Shelf
set_option linter.unusedSimpArgs false
set_option linter.unusedVariables false
set_option maxRecDepth 100000

theorem igetR_no {xs : List Int} (h : gpX xs = none) (a1 : Option Addr) (n1 c1 : Nat) (w : World) (h1 : Sl .u8 w a1 n1 c1 xs) (hn1 : n1 ≤ 1000000000) :
    Calls Tryz.prog 33 #[.slice a1 n1 c1] w fun e w' => e = .returned (.tuple #[.agg #[.int .i64 0, .int .i64 0, .int .i64 0, .int .u64 0, .int .i64 0, .int .i64 0, .int .i64 0, .int .i64 0, .int .i64 0, .int .i64 0], .int .i64 7]) ∧ Ext w w' :=
  (getReply_any a1 n1 c1 xs w h1 hn1).mono fun e w' h2 => by
    have hq : lrep xs = none := by unfold gpX at h; simpa using h
    rw [hq] at h2; exact h2
theorem igetR_yes {xs : List Int} {x : Rp} (h : gpX xs = some x) (a1 : Option Addr) (n1 c1 : Nat) (w : World) (h1 : Sl .u8 w a1 n1 c1 xs) (hn1 : n1 ≤ 1000000000) :
    Calls Tryz.prog 33 #[.slice a1 n1 c1] w fun e w' => e = .returned (.tuple #[.agg #[.int .i64 x.a, .int .i64 x.h, .int .i64 x.r, .int .u64 x.n, .int .i64 x.lo, .int .i64 x.hi, .int .i64 x.k, .int .i64 x.t, .int .i64 x.c, .int .i64 x.s], .int .i64 0]) ∧ Ext w w' :=
  (getReply_any a1 n1 c1 xs w h1 hn1).mono fun e w' h2 => by
    unfold gpX at h
    rcases hq : lrep xs with _ | q
    · rw [hq] at h; cases h
    rw [hq] at h h2
    obtain rfl : rpOf q = x := Option.some.inj h
    exact h2
theorem risn_of {b : Bx} (hF : FrmP b) : Risn b.got := by
  have h := gfrom_iff.1 hF.got
  intro i j hij hj
  induction j with
  | zero => omega
  | succ m ih =>
    have h1 := (h (m + 1) hj).2.2.2 (by omega)
    rw [Nat.add_sub_cancel] at h1
    rcases Nat.lt_or_ge i m with h2 | h2
    · have := ih h2 (by omega); omega
    · obtain rfl : i = m := by omega
      exact h1
theorem rng_of {b : Bx} (hF : FrmP b) {i : Nat} (hi : i < b.got.length) : 0 ≤ (nthR b.got i).a ∧ (nthR b.got i).a ≤ 16 := by
  have := own_pos hF ((gfrom_iff.1 hF.got i hi).2.1)
  omega
theorem wfR_a {x : Rp} (h : wfR x = true) : 0 ≤ x.a ∧ x.a ≤ 16 := by
  unfold wfR idsB at h
  simp only [Bool.and_eq_true, inC_iff] at h
  omega
/-- What Take answers; its slices lie in blocks of its own. -/
def TkQ (w w' : World) (e : Ending) (b : Bx) (k z : Int) : Prop := ∃ sa sn sc ga gn gc, e = .returned (.tuple #[.agg #[.int .i64 b.host, .int .i64 b.round, .int .u64 b.head, .int .i64 b.sent, .int .i64 b.wait, .slice sa sn sc, .slice ga gn gc], .int .i64 k, .int .i64 z]) ∧ BxF w' b sa sn sc ga gn gc ∧ (Frsh w.heap.size sa sn ∧ Frsh w.heap.size ga gn) ∧ Ext w w'
def BxQ (w w' : World) (e : Ending) (b : Bx) (z : Int) : Prop := ∃ sa sn sc ga gn gc, e = .returned (.tuple #[.agg #[.int .i64 b.host, .int .i64 b.round, .int .u64 b.head, .int .i64 b.sent, .int .i64 b.wait, .slice sa sn sc, .slice ga gn gc], .int .i64 z]) ∧ BxF w' b sa sn sc ga gn gc ∧ (Frsh w.heap.size sa sn ∧ Frsh w.heap.size ga gn) ∧ Ext w w'
theorem frsh0 (B : Nat) (a : Option Addr) : Frsh B a 0 := fun _ _ _ h => absurd h (by omega)
theorem res_take (W : World) (b : Nat) (v0 v1 v2 v3 v4 v5 v6 k z : Value) (tmps : Array Value) (hb : tmps[6]?.getD undef = .pointer (some ⟨b, 0, none⟩)) (h7 : tmps[7]?.getD undef = k) (h8 : tmps[8]?.getD undef = z) (h : Bk W b 29 #[v0, v1, v2, v3, v4, v5, v6]) :
    (results Tryz.f13 tmps).run Tryz.prog W = .ok (.tuple #[.agg #[v0, v1, v2, v3, v4, v5, v6], k, z]) W := by
  have c0 := h.c 0 _ rfl
  have c1 := h.c 1 _ rfl
  have c2 := h.c 2 _ rfl
  have c3 := h.c 3 _ rfl
  have c4 := h.c 4 _ rfl
  have c5 := h.c 5 _ rfl
  have c6 := h.c 6 _ rfl
  simp [results, Tryz.results13, go_sem, hb, h7, h8, c0, c1, c2, c3, c4, c5, c6]
theorem tkB_no {b : Bx} {p : Option Rp} {t E : Int} (h : tkE b t = E) (h0 : E ≠ 0) : tkB b p t = bx0 := by unfold tkB; rw [h, if_neg h0]
theorem tkK_no {b : Bx} {p : Option Rp} {t E : Int} (h : tkE b t = E) (h0 : E ≠ 0) : tkK b p t = 0 := by unfold tkK; rw [h, if_neg h0]
theorem tkB_same {b : Bx} {p : Option Rp} {t k : Int} (h : tkE b t = 0) (hk : kdX b p t = k) (h1 : k ≠ 1) : tkB b p t = b ∧ tkK b p t = k := by
  refine ⟨?_, by unfold tkK; rw [if_pos h, hk]⟩
  unfold tkB
  rw [if_pos h]
  rcases p with _ | r
  · rfl
  · rw [got_some, hk, if_neg h1]
theorem tkB_fresh {b : Bx} {r : Rp} {t : Int} (h : tkE b t = 0) (hk : kdX b (some r) t = 1) : tkB b (some r) t = { b with got := insR r b.got } ∧ tkK b (some r) t = 1 := by
  refine ⟨?_, by unfold tkK; rw [if_pos h, hk]⟩
  unfold tkB
  rw [if_pos h, got_some, hk, if_pos rfl]

set_option maxHeartbeats 16000000 in
theorem itake_any (b : Bx) (sa : Option Addr) (sn sc : Nat) (ga : Option Addr) (gn gc : Nat) (pa : Option Addr) (pn pc : Nat) (bytes : List Int) (t : Int) (w : World) (hb : BxF w b sa sn sc ga gn gc) (hp : Sl .u8 w pa pn pc bytes) (hpn : pn ≤ 1000000000) (hsn : sn ≤ 1000) (hgn : gn ≤ 1000) (ht : TB w) :
    Calls Tryz.prog 13 #[.agg #[.int .i64 b.host, .int .i64 b.round, .int .u64 b.head, .int .i64 b.sent, .int .i64 b.wait, .slice sa sn sc, .slice ga gn gc], .slice pa pn pc, .int .i64 t] w fun e w' => TkQ w w' e (tkB b (gpX bytes) t) (tkK b (gpX bytes) t) (tkE b t) := by
  have HT := Lib.hid ht
  have HO := Lib.hid hb.ok
  have HLg := Lib.hid hb.rw.hlen
  have k1 := ibetween_any t 0 3000000000000000
  have hE : Ext w ((w.alloc (.cells #[.int .i64 b.host, .int .i64 b.round, .int .u64 b.head, .int .i64 b.sent, .int .i64 b.wait, .slice sa sn sc, .slice ga gn gc] 29)).alloc (.cells #[.int .i64 0, .int .i64 0, .int .u64 0, .int .i64 0, .int .i64 0, .slice none 0 0, .slice none 0 0] 29)) := ((Ext.refl w).alloc _).alloc _
  have hP : Bk ((w.alloc (.cells #[.int .i64 b.host, .int .i64 b.round, .int .u64 b.head, .int .i64 b.sent, .int .i64 b.wait, .slice sa sn sc, .slice ga gn gc] 29)).alloc (.cells #[.int .i64 0, .int .i64 0, .int .u64 0, .int .i64 0, .int .i64 0, .slice none 0 0, .slice none 0 0] 29)) w.heap.size 29 #[.int .i64 b.host, .int .i64 b.round, .int .u64 b.head, .int .i64 b.sent, .int .i64 b.wait, .slice sa sn sc, .slice ga gn gc] := (Bk.new w 29 #[.int .i64 b.host, .int .i64 b.round, .int .u64 b.head, .int .i64 b.sent, .int .i64 b.wait, .slice sa sn sc, .slice ga gn gc]).ext ((Ext.refl _).alloc _)
  have hR := Bk.new (w.alloc (.cells #[.int .i64 b.host, .int .i64 b.round, .int .u64 b.head, .int .i64 b.sent, .int .i64 b.wait, .slice sa sn sc, .slice ga gn gc] 29)) 29 #[.int .i64 0, .int .i64 0, .int .u64 0, .int .i64 0, .int .i64 0, .slice none 0 0, .slice none 0 0]
  rw [World.size_alloc] at hR
  clear ht
  go_enter Tryz.func13, Tryz.ntmps13
  go_upto_region 1 with fail
  generalize (w.alloc (.cells #[.int .i64 b.host, .int .i64 b.round, .int .u64 b.head, .int .i64 b.sent, .int .i64 b.wait, .slice sa sn sc, .slice ga gn gc] 29)).alloc (.cells #[.int .i64 0, .int .i64 0, .int .u64 0, .int .i64 0, .int .i64 0, .slice none 0 0, .slice none 0 0] 29) = V at *
  obtain ⟨rb, hrb⟩ : ∃ rb, w.heap.size + 1 = rb := ⟨_, rfl⟩
  obtain ⟨pb, hpb⟩ : ∃ pb, w.heap.size = pb := ⟨_, rfl⟩
  rw [hrb] at hR ⊢
  have hws : w.heap.size ≤ pb ∧ w.heap.size ≤ rb ∧ pb ≠ rb := by omega
  rw [hpb] at hP ⊢
  clear hrb hpb
  obtain ⟨hpw, hrw, hpr⟩ := hws
  have p0 := hP.c 0 _ rfl
  have p1 := hP.c 1 _ rfl
  have p2 := hP.c 2 _ rfl
  have p3 := hP.c 3 _ rfl
  have p4 := hP.c 4 _ rfl
  have p5 := hP.c 5 _ rfl
  have p6 := hP.c 6 _ rfl
  have z0 := hR.c 0 _ rfl
  have z1 := hR.c 1 _ rfl
  have z2 := hR.c 2 _ rfl
  have z3 := hR.c 3 _ rfl
  have z4 := hR.c 4 _ rfl
  have z5 := hR.c 5 _ rfl
  have z6 := hR.c 6 _ rfl
  have fz := hR.free
  have fp := hP.free
  go_wp2_with fail
  refine (iformed_any b sa sn sc ga gn gc V (hb.ext hE) (TB.ext HT.out hE)).mono ?_
  rintro _ w1 ⟨rfl, hx⟩
  clear p0 p1 p2 p3 p4 p5 p6 z0 z1 z2 z3 z4 z5 z6 fz fp
  replace hP := hP.ext hx
  replace hR := hR.ext hx
  replace hE := hE.trans hx
  clear hx
  have p0 := hP.c 0 _ rfl
  have p1 := hP.c 1 _ rfl
  have p2 := hP.c 2 _ rfl
  have p3 := hP.c 3 _ rfl
  have p4 := hP.c 4 _ rfl
  have p5 := hP.c 5 _ rfl
  have p6 := hP.c 6 _ rfl
  have z0 := hR.c 0 _ rfl
  have z1 := hR.c 1 _ rfl
  have z2 := hR.c 2 _ rfl
  have z3 := hR.c 3 _ rfl
  have z4 := hR.c 4 _ rfl
  have z5 := hR.c 5 _ rfl
  have z6 := hR.c 6 _ rfl
  have fz := hR.free
  have fp := hP.free
  rcases hf : frmX b with _ | _
  · have HE : Hid (tkE b t = 1) := Lib.hid (by unfold tkE; rw [hf]; rfl)
    clear hf
    go_wp2_with fail
    exact bodyPost_ret (res_take _ rb (.int .i64 0) (.int .i64 0) (.int .u64 0) (.int .i64 0) (.int .i64 0) (.slice none 0 0) (.slice none 0 0) (.int .i64 0) (.int .i64 1) _ (by rfl) (by rfl) (by rfl) (Bk.set7 hR _ _ _ _ _ _ _)) rfl ⟨none, 0, 0, none, 0, 0, by rw [tkB_no HE.out (by decide), tkK_no HE.out (by decide), HE.out]; rfl, by rw [tkB_no HE.out (by decide)]; exact bx0_f _, ⟨frsh0 _ _, frsh0 _ _⟩, hE.set7 hrw _ _ _ _ _ _ _⟩
  have HF := Lib.hid hf
  clear hf
  rcases ht : inC t 0 3000000000000000 with _ | _
  · have HE : Hid (tkE b t = 1) := Lib.hid (by unfold tkE; rw [HF.out, ht]; rfl)
    rw [ht] at k1
    clear ht
    go_wp2_with (go_at_call 21; refine (k1 _).mono ?_; rintro e w' ⟨rfl, rfl⟩)
    exact bodyPost_ret (res_take _ rb (.int .i64 0) (.int .i64 0) (.int .u64 0) (.int .i64 0) (.int .i64 0) (.slice none 0 0) (.slice none 0 0) (.int .i64 0) (.int .i64 1) _ (by rfl) (by rfl) (by rfl) (Bk.set7 hR _ _ _ _ _ _ _)) rfl ⟨none, 0, 0, none, 0, 0, by rw [tkB_no HE.out (by decide), tkK_no HE.out (by decide), HE.out]; rfl, by rw [tkB_no HE.out (by decide)]; exact bx0_f _, ⟨frsh0 _ _, frsh0 _ _⟩, hE.set7 hrw _ _ _ _ _ _ _⟩
  rw [ht] at k1
  have HIT := Lib.hid ht
  clear ht
  by_cases hts : t < b.sent
  · have hq : decide (t < b.sent) = true := decide_eq_true hts
    have HE : Hid (tkE b t = 30) := Lib.hid (by unfold tkE; rw [HF.out, HIT.out, if_pos (by decide), if_pos hts])
    clear hts
    go_wp2_with (go_at_call 21; refine (k1 _).mono ?_; rintro e w' ⟨rfl, rfl⟩)
    exact bodyPost_ret (res_take _ rb (.int .i64 0) (.int .i64 0) (.int .u64 0) (.int .i64 0) (.int .i64 0) (.slice none 0 0) (.slice none 0 0) (.int .i64 0) (.int .i64 30) _ (by rfl) (by rfl) (by rfl) (Bk.set7 hR _ _ _ _ _ _ _)) rfl ⟨none, 0, 0, none, 0, 0, by rw [tkB_no HE.out (by decide), tkK_no HE.out (by decide), HE.out]; rfl, by rw [tkB_no HE.out (by decide)]; exact bx0_f _, ⟨frsh0 _ _, frsh0 _ _⟩, hE.set7 hrw _ _ _ _ _ _ _⟩
  have hq : decide (t < b.sent) = false := decide_eq_false hts
  have HE : Hid (tkE b t = 0) := Lib.hid (by unfold tkE; rw [HF.out, HIT.out, if_pos (by decide), if_neg hts])
  clear hts
  go_wp2_with (go_at_call 21; refine (k1 _).mono ?_; rintro e w' ⟨rfl, rfl⟩)
  clear k1 hq
  refine (icopied_any b sa sn sc ga gn gc w1 (hb.ext hE) hsn hgn).mono ?_
  rintro _ w2 ⟨a5, c5, a6, c6, rfl, hs5, hf5, hr6, hf6, hh6, hx⟩
  have hpB := hP.lt
  have hrB := hR.lt
  have hwB := hE.sz
  clear p0 p1 p2 p3 p4 p5 p6 z0 z1 z2 z3 z4 z5 z6 fz fp
  replace hP := hP.ext hx
  replace hR := hR.ext hx
  replace hE := hE.trans hx
  clear hx
  have p0 := hP.c 0 _ rfl
  have p1 := hP.c 1 _ rfl
  have p2 := hP.c 2 _ rfl
  have p3 := hP.c 3 _ rfl
  have p4 := hP.c 4 _ rfl
  have p5 := hP.c 5 _ rfl
  have p6 := hP.c 6 _ rfl
  have z0 := hR.c 0 _ rfl
  have z1 := hR.c 1 _ rfl
  have z2 := hR.c 2 _ rfl
  have z3 := hR.c 3 _ rfl
  have z4 := hR.c 4 _ rfl
  have z5 := hR.c 5 _ rfl
  have z6 := hR.c 6 _ rfl
  have fz := hR.free
  have fp := hP.free
  go_upto_region 7 with fail
  have hP3 : Bk (((((((w2.setCell ⟨pb, 0, none⟩ (.int .i64 b.host)).setCell ⟨pb, 1, none⟩ (.int .i64 b.round)).setCell ⟨pb, 2, none⟩ (.int .u64 b.head)).setCell ⟨pb, 3, none⟩ (.int .i64 b.sent)).setCell ⟨pb, 4, none⟩ (.int .i64 b.wait)).setCell ⟨pb, 5, none⟩ (.slice a5 sn c5)).setCell ⟨pb, 6, none⟩ (.slice a6 gn c6)) pb 29 #[.int .i64 b.host, .int .i64 b.round, .int .u64 b.head, .int .i64 b.sent, .int .i64 b.wait, .slice a5 sn c5, .slice a6 gn c6] := Bk.set7 hP _ _ _ _ _ _ _
  have hR3 : Bk (((((((w2.setCell ⟨pb, 0, none⟩ (.int .i64 b.host)).setCell ⟨pb, 1, none⟩ (.int .i64 b.round)).setCell ⟨pb, 2, none⟩ (.int .u64 b.head)).setCell ⟨pb, 3, none⟩ (.int .i64 b.sent)).setCell ⟨pb, 4, none⟩ (.int .i64 b.wait)).setCell ⟨pb, 5, none⟩ (.slice a5 sn c5)).setCell ⟨pb, 6, none⟩ (.slice a6 gn c6)) rb 29 #[.int .i64 0, .int .i64 0, .int .u64 0, .int .i64 0, .int .i64 0, .slice none 0 0, .slice none 0 0] := (set7_other (fun e => hpr e.symm) (.int .i64 b.host) (.int .i64 b.round) (.int .u64 b.head) (.int .i64 b.sent) (.int .i64 b.wait) (.slice a5 sn c5) (.slice a6 gn c6)).trans hR
  have hs3 := hs5.set7 (hf5.ap hpB) (.int .i64 b.host) (.int .i64 b.round) (.int .u64 b.head) (.int .i64 b.sent) (.int .i64 b.wait) (.slice a5 sn c5) (.slice a6 gn c6)
  have hr3 := hr6.set7 (hf6.ap hpB) (.int .i64 b.host) (.int .i64 b.round) (.int .u64 b.head) (.int .i64 b.sent) (.int .i64 b.wait) (.slice a5 sn c5) (.slice a6 gn c6)
  have hE3 := hE.set7 hpw (.int .i64 b.host) (.int .i64 b.round) (.int .u64 b.head) (.int .i64 b.sent) (.int .i64 b.wait) (.slice a5 sn c5) (.slice a6 gn c6)
  clear p0 p1 p2 p3 p4 p5 p6 z0 z1 z2 z3 z4 z5 z6 fz fp
  clear hP hR hs5 hr6 hE
  generalize (((((((w2.setCell ⟨pb, 0, none⟩ (.int .i64 b.host)).setCell ⟨pb, 1, none⟩ (.int .i64 b.round)).setCell ⟨pb, 2, none⟩ (.int .u64 b.head)).setCell ⟨pb, 3, none⟩ (.int .i64 b.sent)).setCell ⟨pb, 4, none⟩ (.int .i64 b.wait)).setCell ⟨pb, 5, none⟩ (.slice a5 sn c5)).setCell ⟨pb, 6, none⟩ (.slice a6 gn c6)) = W3 at *
  have hP := hP3
  have hR := hR3
  have hs5 := hs3
  have hr6 := hr3
  have hE := hE3
  clear hP3 hR3 hs3 hr3 hE3
  have p0 := hP.c 0 _ rfl
  have p1 := hP.c 1 _ rfl
  have p2 := hP.c 2 _ rfl
  have p3 := hP.c 3 _ rfl
  have p4 := hP.c 4 _ rfl
  have p5 := hP.c 5 _ rfl
  have p6 := hP.c 6 _ rfl
  have z0 := hR.c 0 _ rfl
  have z1 := hR.c 1 _ rfl
  have z2 := hR.c 2 _ rfl
  have z3 := hR.c 3 _ rfl
  have z4 := hR.c 4 _ rfl
  have z5 := hR.c 5 _ rfl
  have z6 := hR.c 6 _ rfl
  have fz := hR.free
  have fp := hP.free
  rcases hq : gpX bytes with _ | x
  · have HQ := Lib.hid hq
    clear hq
    go_wp2_with fail
    refine (igetR_no HQ.out pa pn pc W3 (hp.ext hE) hpn).mono ?_
    rintro _ w4 ⟨rfl, hx⟩
    clear p0 p1 p2 p3 p4 p5 p6 z0 z1 z2 z3 z4 z5 z6 fz fp
    replace hP := hP.ext hx
    replace hR := hR.ext hx
    replace hs5 := hs5.ext hx
    replace hr6 := hr6.ext hx
    replace hE := hE.trans hx
    clear hx
    have p0 := hP.c 0 _ rfl
    have p1 := hP.c 1 _ rfl
    have p2 := hP.c 2 _ rfl
    have p3 := hP.c 3 _ rfl
    have p4 := hP.c 4 _ rfl
    have p5 := hP.c 5 _ rfl
    have p6 := hP.c 6 _ rfl
    have z0 := hR.c 0 _ rfl
    have z1 := hR.c 1 _ rfl
    have z2 := hR.c 2 _ rfl
    have z3 := hR.c 3 _ rfl
    have z4 := hR.c 4 _ rfl
    have z5 := hR.c 5 _ rfl
    have z6 := hR.c 6 _ rfl
    have fz := hR.free
    have fp := hP.free
    go_upto_region 8 with fail
    have hx : Ext w4 (w4.alloc (.cells #[.int .i64 0, .int .i64 0, .int .i64 0, .int .u64 0, .int .i64 0, .int .i64 0, .int .i64 0, .int .i64 0, .int .i64 0, .int .i64 0] 60)) := (Ext.refl w4).alloc _
    generalize w4.alloc (.cells #[.int .i64 0, .int .i64 0, .int .i64 0, .int .u64 0, .int .i64 0, .int .i64 0, .int .i64 0, .int .i64 0, .int .i64 0, .int .i64 0] 60) = W4 at *
    clear p0 p1 p2 p3 p4 p5 p6 z0 z1 z2 z3 z4 z5 z6 fz fp
    replace hP := hP.ext hx
    replace hR := hR.ext hx
    replace hs5 := hs5.ext hx
    replace hr6 := hr6.ext hx
    replace hE := hE.trans hx
    clear hx
    have p0 := hP.c 0 _ rfl
    have p1 := hP.c 1 _ rfl
    have p2 := hP.c 2 _ rfl
    have p3 := hP.c 3 _ rfl
    have p4 := hP.c 4 _ rfl
    have p5 := hP.c 5 _ rfl
    have p6 := hP.c 6 _ rfl
    have z0 := hR.c 0 _ rfl
    have z1 := hR.c 1 _ rfl
    have z2 := hR.c 2 _ rfl
    have z3 := hR.c 3 _ rfl
    have z4 := hR.c 4 _ rfl
    have z5 := hR.c 5 _ rfl
    have z6 := hR.c 6 _ rfl
    have fz := hR.free
    have fp := hP.free
    have HK : Hid (tkB b none t = b ∧ tkK b none t = 5) := Lib.hid (tkB_same HE.out kd_none (by decide))
    go_wp2_with fail
    rw [HQ.out, HK.out.1, HK.out.2, HE.out]
    exact bodyPost_ret (res_take _ rb (.int .i64 b.host) (.int .i64 b.round) (.int .u64 b.head) (.int .i64 b.sent) (.int .i64 b.wait) (.slice a5 sn c5) (.slice a6 gn c6) (.int .i64 5) (.int .i64 0) _ (by rfl) (by rfl) (by rfl) (Bk.set7 hR _ _ _ _ _ _ _)) rfl ⟨_, _, _, _, _, _, rfl, ⟨HO.out, hs5.set7 (hf5.ap hrB) _ _ _ _ _ _ _, hr6.set7 (hf6.ap hrB) _ _ _ _ _ _ _⟩, ⟨hf5.mono hwB, hf6.mono hwB⟩, hE.set7 hrw _ _ _ _ _ _ _⟩
  have HQ := Lib.hid hq
  obtain ⟨hxw, hxo⟩ := gpX_conv hp.wf hq
  have HXW := Lib.hid hxw
  have HXO := Lib.hid hxo
  clear hq hxw hxo
  go_wp2_with fail
  refine (igetR_yes HQ.out pa pn pc W3 (hp.ext hE) hpn).mono ?_
  rintro _ w4 ⟨rfl, hx⟩
  clear p0 p1 p2 p3 p4 p5 p6 z0 z1 z2 z3 z4 z5 z6 fz fp
  replace hP := hP.ext hx
  replace hR := hR.ext hx
  replace hs5 := hs5.ext hx
  replace hr6 := hr6.ext hx
  replace hE := hE.trans hx
  clear hx
  have p0 := hP.c 0 _ rfl
  have p1 := hP.c 1 _ rfl
  have p2 := hP.c 2 _ rfl
  have p3 := hP.c 3 _ rfl
  have p4 := hP.c 4 _ rfl
  have p5 := hP.c 5 _ rfl
  have p6 := hP.c 6 _ rfl
  have z0 := hR.c 0 _ rfl
  have z1 := hR.c 1 _ rfl
  have z2 := hR.c 2 _ rfl
  have z3 := hR.c 3 _ rfl
  have z4 := hR.c 4 _ rfl
  have z5 := hR.c 5 _ rfl
  have z6 := hR.c 6 _ rfl
  have fz := hR.free
  have fp := hP.free
  go_upto_region 8 with fail
  have hX := Bk.new w4 60 #[.int .i64 x.a, .int .i64 x.h, .int .i64 x.r, .int .u64 x.n, .int .i64 x.lo, .int .i64 x.hi, .int .i64 x.k, .int .i64 x.t, .int .i64 x.c, .int .i64 x.s]
  have hx : Ext w4 (w4.alloc (.cells #[.int .i64 x.a, .int .i64 x.h, .int .i64 x.r, .int .u64 x.n, .int .i64 x.lo, .int .i64 x.hi, .int .i64 x.k, .int .i64 x.t, .int .i64 x.c, .int .i64 x.s] 60)) := (Ext.refl w4).alloc _
  generalize w4.alloc (.cells #[.int .i64 x.a, .int .i64 x.h, .int .i64 x.r, .int .u64 x.n, .int .i64 x.lo, .int .i64 x.hi, .int .i64 x.k, .int .i64 x.t, .int .i64 x.c, .int .i64 x.s] 60) = W4 at *
  generalize w4.heap.size = qb at hX ⊢
  clear p0 p1 p2 p3 p4 p5 p6 z0 z1 z2 z3 z4 z5 z6 fz fp
  replace hP := hP.ext hx
  replace hR := hR.ext hx
  replace hs5 := hs5.ext hx
  replace hr6 := hr6.ext hx
  replace hE := hE.trans hx
  clear hx
  have p0 := hP.c 0 _ rfl
  have p1 := hP.c 1 _ rfl
  have p2 := hP.c 2 _ rfl
  have p3 := hP.c 3 _ rfl
  have p4 := hP.c 4 _ rfl
  have p5 := hP.c 5 _ rfl
  have p6 := hP.c 6 _ rfl
  have z0 := hR.c 0 _ rfl
  have z1 := hR.c 1 _ rfl
  have z2 := hR.c 2 _ rfl
  have z3 := hR.c 3 _ rfl
  have z4 := hR.c 4 _ rfl
  have z5 := hR.c 5 _ rfl
  have z6 := hR.c 6 _ rfl
  have fz := hR.free
  have fp := hP.free
  have r0 := hX.c 0 _ rfl
  have r1 := hX.c 1 _ rfl
  have r2 := hX.c 2 _ rfl
  have r3 := hX.c 3 _ rfl
  have r4 := hX.c 4 _ rfl
  have r5 := hX.c 5 _ rfl
  have r6 := hX.c 6 _ rfl
  have r7 := hX.c 7 _ rfl
  have r8 := hX.c 8 _ rfl
  have r9 := hX.c 9 _ rfl
  have hFP := frmX_iff.1 HF.out
  have hgl := frm_got_len hFP
  have hgl2 : gn ≤ 1000 := hgn
  go_wp2_with fail
  refine (isearch_any a6 gn c6 b.got x.a (wfR_a HXW.out) W4 hr6 hgl2 (risn_of hFP) (fun i hi => rng_of hFP (by rw [HLg.out]; exact hi))).mono ?_
  rintro _ w5 ⟨i, rfl, hx, hil, hi1, hi2⟩
  have HIP : Hid (i ≤ b.got.length ∧ (∀ j, j < i → (nthR b.got j).a < x.a) ∧ (i < b.got.length → x.a ≤ (nthR b.got i).a)) := Lib.hid ⟨hil, hi1, hi2⟩
  clear hil hi1 hi2 hFP hgl
  generalize hAN : (b.got.any fun y => y.a == x.a) = AN at *
  have HAN := Lib.hid hAN
  clear hAN
  clear p0 p1 p2 p3 p4 p5 p6 z0 z1 z2 z3 z4 z5 z6 fz fp
  clear r0 r1 r2 r3 r4 r5 r6 r7 r8 r9
  replace hP := hP.ext hx
  replace hR := hR.ext hx
  replace hs5 := hs5.ext hx
  replace hr6 := hr6.ext hx
  replace hX := hX.ext hx
  replace hE := hE.trans hx
  clear hx
  have p0 := hP.c 0 _ rfl
  have p1 := hP.c 1 _ rfl
  have p2 := hP.c 2 _ rfl
  have p3 := hP.c 3 _ rfl
  have p4 := hP.c 4 _ rfl
  have p5 := hP.c 5 _ rfl
  have p6 := hP.c 6 _ rfl
  have z0 := hR.c 0 _ rfl
  have z1 := hR.c 1 _ rfl
  have z2 := hR.c 2 _ rfl
  have z3 := hR.c 3 _ rfl
  have z4 := hR.c 4 _ rfl
  have z5 := hR.c 5 _ rfl
  have z6 := hR.c 6 _ rfl
  have fz := hR.free
  have fp := hP.free
  have r0 := hX.c 0 _ rfl
  have r1 := hX.c 1 _ rfl
  have r2 := hX.c 2 _ rfl
  have r3 := hX.c 3 _ rfl
  have r4 := hX.c 4 _ rfl
  have r5 := hX.c 5 _ rfl
  have r6 := hX.c 6 _ rfl
  have r7 := hX.c 7 _ rfl
  have r8 := hX.c 8 _ rfl
  have r9 := hX.c 9 _ rfl
  go_wp2_with fail
  refine (iown_any b a5 sn c5 a6 gn c6 x HXO.out w5 ⟨HO.out, hs5, hr6⟩ (TB.ext HT.out hE)).mono ?_
  rintro _ w6 ⟨rfl, hx⟩
  clear p0 p1 p2 p3 p4 p5 p6 z0 z1 z2 z3 z4 z5 z6 fz fp
  clear r0 r1 r2 r3 r4 r5 r6 r7 r8 r9
  replace hP := hP.ext hx
  replace hR := hR.ext hx
  replace hs5 := hs5.ext hx
  replace hr6 := hr6.ext hx
  replace hX := hX.ext hx
  replace hE := hE.trans hx
  clear hx
  have p0 := hP.c 0 _ rfl
  have p1 := hP.c 1 _ rfl
  have p2 := hP.c 2 _ rfl
  have p3 := hP.c 3 _ rfl
  have p4 := hP.c 4 _ rfl
  have p5 := hP.c 5 _ rfl
  have p6 := hP.c 6 _ rfl
  have z0 := hR.c 0 _ rfl
  have z1 := hR.c 1 _ rfl
  have z2 := hR.c 2 _ rfl
  have z3 := hR.c 3 _ rfl
  have z4 := hR.c 4 _ rfl
  have z5 := hR.c 5 _ rfl
  have z6 := hR.c 6 _ rfl
  have fz := hR.free
  have fp := hP.free
  have r0 := hX.c 0 _ rfl
  have r1 := hX.c 1 _ rfl
  have r2 := hX.c 2 _ rfl
  have r3 := hX.c 3 _ rfl
  have r4 := hX.c 4 _ rfl
  have r5 := hX.c 5 _ rfl
  have r6 := hX.c 6 _ rfl
  have r7 := hX.c 7 _ rfl
  have r8 := hX.c 8 _ rfl
  have r9 := hX.c 9 _ rfl
  rcases ho : ownB b x with _ | _
  · have HOW := Lib.hid ho
    clear ho
    have HK : Hid (tkB b (some x) t = b ∧ tkK b (some x) t = 3) := Lib.hid (tkB_same HE.out (kd_other.2 HOW.out) (by decide))
    go_wp2_with fail
    rw [HQ.out, HK.out.1, HK.out.2, HE.out]
    exact bodyPost_ret (res_take _ rb (.int .i64 b.host) (.int .i64 b.round) (.int .u64 b.head) (.int .i64 b.sent) (.int .i64 b.wait) (.slice a5 sn c5) (.slice a6 gn c6) (.int .i64 3) (.int .i64 0) _ (by rfl) (by rfl) (by rfl) (Bk.set7 hR _ _ _ _ _ _ _)) rfl ⟨_, _, _, _, _, _, rfl, ⟨HO.out, hs5.set7 (hf5.ap hrB) _ _ _ _ _ _ _, hr6.set7 (hf6.ap hrB) _ _ _ _ _ _ _⟩, ⟨hf5.mono hwB, hf6.mono hwB⟩, hE.set7 hrw _ _ _ _ _ _ _⟩
  have HOW := Lib.hid ho
  clear ho
  rcases AN with _ | _
  rotate_left
  · have HKD : Hid (kdX b (some x) t = 2) := Lib.hid (by unfold kdX kindX; simp only; rw [HOW.out, if_neg (by decide), if_pos HAN.out])
    have HK : Hid (tkB b (some x) t = b ∧ tkK b (some x) t = 2) := Lib.hid (tkB_same HE.out HKD.out (by decide))
    go_wp2_with fail
    rw [HQ.out, HK.out.1, HK.out.2, HE.out]
    exact bodyPost_ret (res_take _ rb (.int .i64 b.host) (.int .i64 b.round) (.int .u64 b.head) (.int .i64 b.sent) (.int .i64 b.wait) (.slice a5 sn c5) (.slice a6 gn c6) (.int .i64 2) (.int .i64 0) _ (by rfl) (by rfl) (by rfl) (Bk.set7 hR _ _ _ _ _ _ _)) rfl ⟨_, _, _, _, _, _, rfl, ⟨HO.out, hs5.set7 (hf5.ap hrB) _ _ _ _ _ _ _, hr6.set7 (hf6.ap hrB) _ _ _ _ _ _ _⟩, ⟨hf5.mono hwB, hf6.mono hwB⟩, hE.set7 hrw _ _ _ _ _ _ _⟩
  have hwr : IntKind.i64.wrap (b.sent + b.wait) = b.sent + b.wait := by
    have hFP := frmX_iff.1 HF.out
    have h1 := hFP.sent
    have h2 := hFP.wait
    exact IntWalk.i64_in _ (by omega)
  by_cases hl : b.sent + b.wait < t
  · have HKD : Hid (kdX b (some x) t = 4) := Lib.hid (by unfold kdX kindX; simp only; rw [HOW.out, if_neg (by decide), HAN.out, if_neg (by decide), if_pos hl])
    have hl2 : decide (b.sent + b.wait < t) = true := decide_eq_true hl
    have HK : Hid (tkB b (some x) t = b ∧ tkK b (some x) t = 4) := Lib.hid (tkB_same HE.out HKD.out (by decide))
    go_wp2_with fail
    rw [HQ.out, HK.out.1, HK.out.2, HE.out]
    exact bodyPost_ret (res_take _ rb (.int .i64 b.host) (.int .i64 b.round) (.int .u64 b.head) (.int .i64 b.sent) (.int .i64 b.wait) (.slice a5 sn c5) (.slice a6 gn c6) (.int .i64 4) (.int .i64 0) _ (by rfl) (by rfl) (by rfl) (Bk.set7 hR _ _ _ _ _ _ _)) rfl ⟨_, _, _, _, _, _, rfl, ⟨HO.out, hs5.set7 (hf5.ap hrB) _ _ _ _ _ _ _, hr6.set7 (hf6.ap hrB) _ _ _ _ _ _ _⟩, ⟨hf5.mono hwB, hf6.mono hwB⟩, hE.set7 hrw _ _ _ _ _ _ _⟩
  have hl2 : decide (b.sent + b.wait < t) = false := decide_eq_false hl
  have HKD : Hid (kdX b (some x) t = 1) := Lib.hid (kd_fresh.2 ⟨HOW.out, HAN.out, hl⟩)
  clear hl
  have HPOS : Hid (b.got.take i ++ x :: b.got.drop i = insR x b.got) := Lib.hid (by
    have hne := any_false HAN.out
    rw [insR_at, posR_uniq (k := i) HIP.out.1 HIP.out.2.1 (fun h => by
      have h1 := HIP.out.2.2 h
      have h2 := hne _ (nthR_mem h)
      omega)])
  have hig : i ≤ gn := by rw [← HLg.out]; exact HIP.out.1
  go_wp2_with fail
  refine (iinsert_any a6 gn c6 b.got i hig x HXO.out w6 hr6 hh6 hgl2).mono ?_
  rintro _ w7 ⟨g, rfl, hog, hx⟩
  rw [HPOS.out] at hog
  have hgw := hog.frsh.1
  have hg6 := hE.sz
  have hpg := hP.lt
  have hrg := hR.lt
  clear p0 p1 p2 p3 p4 p5 p6 z0 z1 z2 z3 z4 z5 z6 fz fp
  clear r0 r1 r2 r3 r4 r5 r6 r7 r8 r9
  replace hP := hP.ext hx
  replace hR := hR.ext hx
  replace hs5 := hs5.ext hx
  replace hX := hX.ext hx
  replace hE := hE.trans hx
  clear hx
  have p0 := hP.c 0 _ rfl
  have p1 := hP.c 1 _ rfl
  have p2 := hP.c 2 _ rfl
  have p3 := hP.c 3 _ rfl
  have p4 := hP.c 4 _ rfl
  have p5 := hP.c 5 _ rfl
  have p6 := hP.c 6 _ rfl
  have z0 := hR.c 0 _ rfl
  have z1 := hR.c 1 _ rfl
  have z2 := hR.c 2 _ rfl
  have z3 := hR.c 3 _ rfl
  have z4 := hR.c 4 _ rfl
  have z5 := hR.c 5 _ rfl
  have z6 := hR.c 6 _ rfl
  have fz := hR.free
  have fp := hP.free
  have hrI := hog.rw (by omega) (fun y hy => by
    rcases mem_insR.1 hy with rfl | hy
    · exact HXO.out
    · exact hr6.wf y hy)
  have r0 := hX.c 0 _ rfl
  have r1 := hX.c 1 _ rfl
  have r2 := hX.c 2 _ rfl
  have r3 := hX.c 3 _ rfl
  have r4 := hX.c 4 _ rfl
  have r5 := hX.c 5 _ rfl
  have r6 := hX.c 6 _ rfl
  have r7 := hX.c 7 _ rfl
  have r8 := hX.c 8 _ rfl
  have r9 := hX.c 9 _ rfl
  go_upto_region 18 with fail
  have hP8 : Bk (w7.setCell ⟨pb, 6, none⟩ (.slice (some ⟨g, 0, none⟩) (gn + 1) (gn + 1))) pb 29 #[.int .i64 b.host, .int .i64 b.round, .int .u64 b.head, .int .i64 b.sent, .int .i64 b.wait, .slice a5 sn c5, .slice (some ⟨g, 0, none⟩) (gn + 1) (gn + 1)] := hP.set 6 _
  have hR8 : Bk (w7.setCell ⟨pb, 6, none⟩ (.slice (some ⟨g, 0, none⟩) (gn + 1) (gn + 1))) rb 29 #[.int .i64 0, .int .i64 0, .int .u64 0, .int .i64 0, .int .i64 0, .slice none 0 0, .slice none 0 0] := (heap_setCell_other w7 ⟨pb, 6, none⟩ rb _ (fun e => hpr e.symm)).trans hR
  have hs8 : Sl .i64 (w7.setCell ⟨pb, 6, none⟩ (.slice (some ⟨g, 0, none⟩) (gn + 1) (gn + 1))) a5 sn c5 b.asked := hs5.below (fun b' off ha hn => heap_setCell_other w7 ⟨pb, 6, none⟩ b' _ ((hf5.ap hpB) b' off ha hn))
  have hr8 : Rw (w7.setCell ⟨pb, 6, none⟩ (.slice (some ⟨g, 0, none⟩) (gn + 1) (gn + 1))) (some ⟨g, 0, none⟩) (gn + 1) (gn + 1) (insR x b.got) := hrI.below (fun b' off ha hn => heap_setCell_other w7 ⟨pb, 6, none⟩ b' _ (by have := hgw b' off ha hn; simp only; omega))
  have hE8 : Ext w (w7.setCell ⟨pb, 6, none⟩ (.slice (some ⟨g, 0, none⟩) (gn + 1) (gn + 1))) := hE.setCell (p := ⟨pb, 6, none⟩) hpw _
  clear p0 p1 p2 p3 p4 p5 p6 z0 z1 z2 z3 z4 z5 z6 fz fp
  clear r0 r1 r2 r3 r4 r5 r6 r7 r8 r9 hP hR hs5 hr6 hE hX hrI
  generalize w7.setCell ⟨pb, 6, none⟩ (.slice (some ⟨g, 0, none⟩) (gn + 1) (gn + 1)) = W8 at *
  have hP := hP8
  have hR := hR8
  have hs5 := hs8
  have hr6 := hr8
  have hE := hE8
  clear hP8 hR8 hs8 hr8 hE8
  have p0 := hP.c 0 _ rfl
  have p1 := hP.c 1 _ rfl
  have p2 := hP.c 2 _ rfl
  have p3 := hP.c 3 _ rfl
  have p4 := hP.c 4 _ rfl
  have p5 := hP.c 5 _ rfl
  have p6 := hP.c 6 _ rfl
  have z0 := hR.c 0 _ rfl
  have z1 := hR.c 1 _ rfl
  have z2 := hR.c 2 _ rfl
  have z3 := hR.c 3 _ rfl
  have z4 := hR.c 4 _ rfl
  have z5 := hR.c 5 _ rfl
  have z6 := hR.c 6 _ rfl
  have fz := hR.free
  have fp := hP.free
  have HK := Lib.hid (tkB_fresh HE.out HKD.out)
  go_wp2_with fail
  rw [HQ.out, HK.out.1, HK.out.2, HE.out]
  exact bodyPost_ret (res_take _ rb (.int .i64 b.host) (.int .i64 b.round) (.int .u64 b.head) (.int .i64 b.sent) (.int .i64 b.wait) (.slice a5 sn c5) (.slice (some ⟨g, 0, none⟩) (gn + 1) (gn + 1)) (.int .i64 1) (.int .i64 0) _ (by rfl) (by rfl) (by rfl) (Bk.set7 hR _ _ _ _ _ _ _)) rfl ⟨_, _, _, _, _, _, rfl, ⟨⟨HO.out.host, HO.out.round, HO.out.head, HO.out.sent, HO.out.wait⟩, hs5.set7 (hf5.ap hrB) _ _ _ _ _ _ _, hr6.set7 (hgw.ap hrg) _ _ _ _ _ _ _⟩, ⟨hf5.mono hwB, hgw.mono hg6⟩, hE.set7 hrw _ _ _ _ _ _ _⟩
end Go.Proofs.YtdmfdimhjemngaaGreatDoor
