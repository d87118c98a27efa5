
import Derived.Test.YtacicanjmleikaaGreatDoorTJM
/-
  Heads: what is signed of them, and their signatures. Written by wip/gen_tn.py.
-/
namespace Go.Proofs.YtacicanjmleikaaGreatDoor
open Go.RowKit Go.Sort Go.Shelf
set_option linter.unusedSimpArgs false
set_option linter.unusedVariables false
set_option maxRecDepth 100000

theorem Bk.set5 {W : World} {b : Nat} {T : TypeId} {u0 u1 u2 u3 u4 : Value} (h : Bk W b T #[u0, u1, u2, u3, u4]) (v0 v1 v2 v3 v4 : Value) : Bk (((((W.setCell ⟨b, 0, none⟩ v0).setCell ⟨b, 1, none⟩ v1).setCell ⟨b, 2, none⟩ v2).setCell ⟨b, 3, none⟩ v3).setCell ⟨b, 4, none⟩ v4) b T #[v0, v1, v2, v3, v4] := (((((h.set 0 v0).set 1 v1).set 2 v2).set 3 v3).set 4 v4)
theorem Ext.set5 {w W : World} {b : Nat} (hE : Ext w W) (hb : w.heap.size ≤ b) (v0 v1 v2 v3 v4 : Value) : Ext w (((((W.setCell ⟨b, 0, none⟩ v0).setCell ⟨b, 1, none⟩ v1).setCell ⟨b, 2, none⟩ v2).setCell ⟨b, 3, none⟩ v3).setCell ⟨b, 4, none⟩ v4) := (((((hE.setCell (p := ⟨b, 0, none⟩) hb v0).setCell (p := ⟨b, 1, none⟩) hb v1).setCell (p := ⟨b, 2, none⟩) hb v2).setCell (p := ⟨b, 3, none⟩) hb v3).setCell (p := ⟨b, 4, none⟩) hb v4)
theorem Bk.other5 {W : World} {b p : Nat} {T : TypeId} {cs : Array Value} (h : Bk W b T cs) (hne : p ≠ b) (v0 v1 v2 v3 v4 : Value) : Bk (((((W.setCell ⟨p, 0, none⟩ v0).setCell ⟨p, 1, none⟩ v1).setCell ⟨p, 2, none⟩ v2).setCell ⟨p, 3, none⟩ v3).setCell ⟨p, 4, none⟩ v4) b T cs := (((((h.otherB hne 0 v0).otherB hne 1 v1).otherB hne 2 v2).otherB hne 3 v3).otherB hne 4 v4)
structure Hd where
  o : Int
  s : Int
  r : Int
  C : Int
  S : Int
  deriving DecidableEq
def Hd.enc (h : Hd) : List Value := [.int .i64 h.o, .int .i64 h.s, .int .u64 h.r, .int .i64 h.C, .int .i64 h.S]
structure Hd.Ok (h : Hd) : Prop where
  o : 1 ≤ h.o ∧ h.o ≤ 16
  s : 1 ≤ h.s ∧ h.s ≤ 4096
  r : 0 ≤ h.r ∧ h.r ≤ 18446744073709551615
  C : 0 ≤ h.C ∧ h.C ≤ 1073741788
  S : 0 ≤ h.S ∧ h.S ≤ 1073741788
instance : Cel Hd where
  dflt := ⟨0, 0, 0, 0, 0⟩
  sz := 5
  enc := Hd.enc
  ok := Hd.Ok
  len := fun _ => rfl
  pos := by decide
  one := by intro x v hv; simp [Hd.enc] at hv; rcases hv with rfl | rfl | rfl | rfl | rfl <;> rfl
theorem sz_hd : Cel.sz Hd = 5 := rfl
theorem cells_hd {W : World} {b o : Nat} {x : Hd} (h : W.rangeAt b o (Cel.enc x)) : W.cell? ⟨b, o, none⟩ = some (.int .i64 x.o) ∧ W.cell? ⟨b, o + 1, none⟩ = some (.int .i64 x.s) ∧ W.cell? ⟨b, o + 2, none⟩ = some (.int .u64 x.r) ∧ W.cell? ⟨b, o + 3, none⟩ = some (.int .i64 x.C) ∧ W.cell? ⟨b, o + 4, none⟩ = some (.int .i64 x.S) :=
  ⟨by simpa using h 0 _ rfl, h 1 _ rfl, h 2 _ rfl, h 3 _ rfl, h 4 _ rfl⟩
def hdV (h : Hd) : Value := .agg #[.int .i64 h.o, .int .i64 h.s, .int .u64 h.r, .int .i64 h.C, .int .i64 h.S]
/-- What is signed of a head. -/
def msgH (o s r : Int) : List Int := [o, s, r / 4294967296, r % 4294967296]
theorem i64_wf {x : Int} (h : -9223372036854775808 ≤ x ∧ x ≤ 9223372036854775807) : (Lit.int .i64 x).wf = true := by simp [Lit.wf, IntKind.min, IntKind.max, IntKind.bits, IntKind.signed]; omega
theorem msg_wf {o s r : Int} (ho : 1 ≤ o ∧ o ≤ 16) (hs : 1 ≤ s ∧ s ≤ 4096) (hr : 0 ≤ r ∧ r ≤ 18446744073709551615) : ∀ x ∈ msgH o s r, (Lit.int .i64 x).wf = true := by
  intro x hx
  simp only [msgH, List.mem_cons, List.not_mem_nil, or_false] at hx
  rcases hx with rfl | rfl | rfl | rfl <;> exact i64_wf (by omega)
theorem omessage_any (h : Hd) (ho : 1 ≤ h.o ∧ h.o ≤ 16) (hs : 1 ≤ h.s ∧ h.s ≤ 4096) (hr : 0 ≤ h.r ∧ h.r ≤ 18446744073709551615) (w : World) :
    Calls Tryz.prog 30 #[hdV h] w fun e w' => ∃ a' c', e = .returned (.slice a' 4 c') ∧ Sl .i64 w' a' 4 c' (msgH h.o h.s h.r) ∧ Ext w w' := by
  unfold hdV
  have hB := Bk.new w 34 #[.int .i64 h.o, .int .i64 h.s, .int .u64 h.r, .int .i64 h.C, .int .i64 h.S]
  have hx : Ext w (w.alloc (.cells #[.int .i64 h.o, .int .i64 h.s, .int .u64 h.r, .int .i64 h.C, .int .i64 h.S] 34)) := (Ext.refl w).alloc _
  have HW := Lib.hid (msg_wf ho hs hr)
  have k1 : IntKind.i64.wrap (h.r / 4294967296) = h.r / 4294967296 := by rw [IntKind.wrap_i64]; omega
  have k3 : IntKind.i64.wrap (h.r % 4294967296) = h.r % 4294967296 := by rw [IntKind.wrap_i64]; omega
  go_enter Tryz.func30, Tryz.ntmps30
  go_upto_region 1 with fail
  generalize w.alloc (.cells #[.int .i64 h.o, .int .i64 h.s, .int .u64 h.r, .int .i64 h.C, .int .i64 h.S] 34) = V at *
  obtain ⟨b, hb⟩ : ∃ b, w.heap.size = b := ⟨_, rfl⟩
  rw [hb] at hB ⊢
  clear hb
  have c0 := hB.c 0 _ rfl
  have c1 := hB.c 1 _ rfl
  have c2 := hB.c 2 _ rfl
  go_wp2_with fail
  go_ret
  exact ⟨_, _, rfl, litSl .i64 3 V V.heap.size 4 (msgH h.o h.s h.r) _ rfl rfl rfl (by simp [msgH, maxLen]) HW.out, hx.alloc _⟩

theorem oroot_any (id : Int) (a : Option Addr) (n c : Nat) (es : List En) (m : Nat) (w : World) (h : Rw w a n c es) (h1 : 1 ≤ m) (hm : m ≤ n) (hn : n ≤ 4096) (ht : TB w) :
    Calls Tryz.prog 28 #[.agg #[.int .i64 id, .slice a n c], .int .i64 m] w fun e w' => e = .returned (.tuple #[.int .u64 (rootT (vals (es.take m))), .int .i64 0]) ∧ Ext w w' := by
  have bd := h.bd
  obtain ⟨x1, o1, rfl, _⟩ := h.at (by omega)
  have hB := Bk.new w 24 #[.int .i64 id, .slice (some ⟨x1, o1, none⟩) n c]
  have hx : Ext w (w.alloc (.cells #[.int .i64 id, .slice (some ⟨x1, o1, none⟩) n c] 24)) := (Ext.refl w).alloc _
  have HC := Lib.hid (fun (W : World) (hx : Ext w W) => collect_any (some ⟨x1, o1, none⟩) m c (es.take m) W ((h.take hm).ext hx) (by omega) (ht.ext hx))
  have HT := Lib.hid ht
  have hm1 : (m : Int) ≤ (c : Int) := by omega
  clear h ht
  go_enter Tryz.func28, Tryz.ntmps28
  go_upto_region 1 with fail
  generalize w.alloc (.cells #[.int .i64 id, .slice (some ⟨x1, o1, none⟩) n c] 24) = V at *
  obtain ⟨b, hb⟩ : ∃ b, w.heap.size = b := ⟨_, rfl⟩
  rw [hb] at hB ⊢
  clear hb
  have c1 := hB.c 1 _ rfl
  go_wp2_with (go_at_call 54; refine (HC.out _ hx).mono ?_; rintro e w2 ⟨a', c', rfl, ho, hx2⟩; refine hold ?_)
  refine held ?_
  obtain ⟨g, rfl, hg⟩ := ho.headU (by omega)
  have hs := ho.sl (vals_u _)
  have HR := Lib.hid (tRoot_any g 0 m c' (vals (es.take m)) w2 h1 (by omega) hs (HT.out.ext (hx.trans hx2)))
  clear c1
  go_wp2_with (go_at_call 15; refine HR.out.mono ?_; rintro e w3 ⟨rfl, hx3⟩)
  go_ret2
  exact ⟨rfl, (hx.trans hx2).trans hx3⟩

theorem res_osign (W : World) (b : Nat) (v0 v1 v2 v3 v4 z : Value) (tmps : Array Value) (hb : tmps[8]?.getD undef = .pointer (some ⟨b, 0, none⟩)) (h9 : tmps[9]?.getD undef = z) (h : Bk W b 34 #[v0, v1, v2, v3, v4]) :
    (results Tryz.f11 tmps).run Tryz.prog W = .ok (.tuple #[.agg #[v0, v1, v2, v3, v4], z]) W := by
  have c0 := h.c 0 _ rfl
  have c1 := h.c 1 _ rfl
  have c2 := h.c 2 _ rfl
  have c3 := h.c 3 _ rfl
  have c4 := h.c 4 _ rfl
  simp [results, Tryz.results11, go_sem, hb, h9, c0, c1, c2, c3, c4]


/-- The head that an office signs. -/
def sgHd (id : Int) (es : List En) (m key once : Nat) : Hd :=
  ⟨id, m, rootT (vals (es.take m)), sgC key once (msgH id m (rootT (vals (es.take m)))), sgS key once (msgH id m (rootT (vals (es.take m))))⟩
set_option maxHeartbeats 2000000 in
theorem osign_yes (id : Int) (a : Option Addr) (n c : Nat) (es : List En) (m key once : Nat) (w : World) (h : Rw w a n c es) (hv : offB id es = true) (h1 : 1 ≤ m) (hm : m ≤ n) (hk : Sec key) (ho : Sec once) (ht : TB w) :
    Calls Tryz.prog 11 #[.agg #[.int .i64 id, .slice a n c], .int .i64 m, .int .i64 key, .int .i64 once] w fun e w' => e = .returned (.tuple #[hdV (sgHd id es m key once), .int .i64 0]) ∧ Ext w w' := by
  have hid := (offB_iff.1 hv).1
  have hn : n ≤ 4096 := by rw [← h.hlen]; exact (offB_iff.1 hv).2.1
  have bd := h.bd
  have hrr := root_rng (vals (es.take m))
  have HVL := Lib.hid (fun (W : World) (hx : Ext w W) => ovalid_yes id a n c es W (h.ext hx) hv)
  have HRT := Lib.hid (fun (W : World) (hx : Ext w W) => oroot_any id a n c es m W (h.ext hx) h1 hm hn (ht.ext hx))
  have HBT := Lib.hid (fun W => between_yes (n := (m : Int)) (lo := 1) (hi := (n : Int)) (by omega) W)
  have HMS := Lib.hid (fun W => omessage_any ⟨id, m, rootT (vals (es.take m)), 0, 0⟩ hid (by show 1 ≤ (m : Int) ∧ (m : Int) ≤ 4096; omega) hrr W)
  have HSG := Lib.hid (fun (W : World) (hx : Ext w W) a1 c1 (h1 : Sl .i64 W a1 4 c1 (msgH id m (rootT (vals (es.take m))))) => sign_any key once a1 4 c1 _ W h1 (by omega) (ht.ext hx))
  have HE0 := Lib.hid (sgE_ok hk ho)
  have HHD : Hid (sgHd id es m key once = ⟨id, m, rootT (vals (es.take m)), sgC key once (msgH id m (rootT (vals (es.take m)))), sgS key once (msgH id m (rootT (vals (es.take m))))⟩) := Lib.hid rfl
  unfold hdV at HMS
  simp only at HMS
  rw [HE0.out] at HSG
  generalize rootT (vals (es.take m)) = R at *
  generalize sgC key once (msgH id m R) = C at *
  generalize sgS key once (msgH id m R) = S at *
  clear h hv ht hk ho
  have hB := (Bk.new w 24 #[.int .i64 id, .slice a n c]).ext ((Ext.refl _).alloc (.cells #[.int .i64 0, .int .i64 0, .int .u64 0, .int .i64 0, .int .i64 0] 34))
  have hH : Bk ((w.alloc (.cells #[.int .i64 id, .slice a n c] 24)).alloc (.cells #[.int .i64 0, .int .i64 0, .int .u64 0, .int .i64 0, .int .i64 0] 34)) (w.heap.size + 1) 34 #[.int .i64 0, .int .i64 0, .int .u64 0, .int .i64 0, .int .i64 0] := by simpa using Bk.new (w.alloc (.cells #[.int .i64 id, .slice a n c] 24)) 34 #[.int .i64 0, .int .i64 0, .int .u64 0, .int .i64 0, .int .i64 0]
  have hx : Ext w ((w.alloc (.cells #[.int .i64 id, .slice a n c] 24)).alloc (.cells #[.int .i64 0, .int .i64 0, .int .u64 0, .int .i64 0, .int .i64 0] 34)) := ((Ext.refl w).alloc _).alloc _
  go_enter Tryz.func11, Tryz.ntmps11
  go_upto_region 1 with fail
  generalize (w.alloc (.cells #[.int .i64 id, .slice a n c] 24)).alloc (.cells #[.int .i64 0, .int .i64 0, .int .u64 0, .int .i64 0, .int .i64 0] 34) = V at *
  obtain ⟨b, hb⟩ : ∃ b, w.heap.size = b := ⟨_, rfl⟩
  obtain ⟨b8, hb8⟩ : ∃ b8, w.heap.size + 1 = b8 := ⟨_, rfl⟩
  have HBS : Hid (w.heap.size ≤ b ∧ w.heap.size ≤ b8 ∧ b8 ≠ b) := Lib.hid (by omega)
  rw [hb8] at hH
  have hb82 : b + 1 = b8 := by omega
  rw [hb] at hB ⊢
  rw [hb82]
  clear hb hb8 hb82
  have c0 := hB.c 0 _ rfl
  have c1 := hB.c 1 _ rfl
  go_wp2_with (go_at_call 26; refine (HVL.out _ hx).mono ?_; rintro e w1 ⟨rfl, hx1⟩; refine hold ?_)
  refine held ?_
  replace hx := hx.trans hx1
  replace hB := hB.ext hx1
  replace hH := hH.ext hx1
  clear hx1 c0 c1 HVL
  have c0 := hB.c 0 _ rfl
  have c1 := hB.c 1 _ rfl
  go_wp2_with ((first | (go_at_call 27; refine (HBT.out _).mono ?_; rintro e w2 ⟨rfl, rfl⟩) | (go_at_call 28; refine (HRT.out _ hx).mono ?_; rintro e w2 ⟨rfl, hx1⟩; refine hold ?_)))
  refine held ?_
  replace hx := hx.trans hx1
  replace hB := hB.ext hx1
  replace hH := hH.ext hx1
  clear hx1 c0 c1 HRT HBT
  have c0 := hB.c 0 _ rfl
  have hN := Bk.new w2 34 #[.int .i64 id, .int .i64 m, .int .u64 R, .int .i64 0, .int .i64 0]
  have hx1 : Ext w2 (w2.alloc (.cells #[.int .i64 id, .int .i64 m, .int .u64 R, .int .i64 0, .int .i64 0] 34)) := (Ext.refl w2).alloc _
  go_upto_region 7 with fail
  replace hx := hx.trans hx1
  have HNW : Hid (w.heap.size ≤ w2.heap.size ∧ b8 ≠ w2.heap.size ∧ w2.heap.size ≠ b8) := Lib.hid ⟨by have := hx.sz; have := HBS.out; have h9 := hH.lt; have := hB.lt; simp at *; omega, by have h9 := hH.lt; omega, by have h9 := hH.lt; omega⟩
  replace hH := hH.ext hx1
  clear hx1 c0 hB
  generalize w2.alloc (.cells #[.int .i64 id, .int .i64 m, .int .u64 R, .int .i64 0, .int .i64 0] 34) = V3 at *
  generalize w2.heap.size = bn at *
  have k0 := hN.c 0 _ rfl
  have k1 := hN.c 1 _ rfl
  have k2 := hN.c 2 _ rfl
  have k3 := hN.c 3 _ rfl
  have k4 := hN.c 4 _ rfl
  go_wp2_with (go_at_call 30; refine (HMS.out _).mono ?_; rintro e w3 ⟨ma, mc, rfl, hms, hx1⟩; refine hold ?_)
  refine held ?_
  replace hx := hx.trans hx1
  replace hN := hN.ext hx1
  replace hH := hH.ext hx1
  clear hx1 k0 k1 k2 k3 k4 HMS
  go_wp2_with (go_at_call 29; refine (HSG.out _ hx _ _ hms).mono ?_; rintro e w4 ⟨rfl, hx1⟩; refine hold ?_)
  refine held ?_
  replace hx := hx.trans hx1
  replace hN := hN.ext hx1
  replace hH := hH.ext hx1
  clear hx1 hms HSG
  have hS := Bk.new w4 32 #[.int .i64 C, .int .i64 S]
  have hx1 : Ext w4 (w4.alloc (.cells #[.int .i64 C, .int .i64 S] 32)) := (Ext.refl w4).alloc _
  go_upto_region 10 with fail
  replace hx := hx.trans hx1
  replace hN := hN.ext hx1
  replace hH := hH.ext hx1
  clear hx1
  generalize w4.alloc (.cells #[.int .i64 C, .int .i64 S] 32) = V5 at *
  generalize w4.heap.size = bs at *
  have s0 := hS.c 0 _ rfl
  have s1 := hS.c 1 _ rfl
  have k3 := hN.c 3 _ rfl
  have k4 := hN.c 4 _ rfl
  have kf := hN.free
  go_upto_region 11 with fail
  clear s0 s1 k3 k4 kf hS
  have hx3 : Ext w ((V5.setCell ⟨bn, 3, none⟩ (.int .i64 C)).setCell ⟨bn, 4, none⟩ (.int .i64 S)) := (hx.setCell (p := ⟨bn, 3, none⟩) HNW.out.1 _).setCell (p := ⟨bn, 4, none⟩) HNW.out.1 _
  have hN3 : Bk ((V5.setCell ⟨bn, 3, none⟩ (.int .i64 C)).setCell ⟨bn, 4, none⟩ (.int .i64 S)) bn 34 #[.int .i64 id, .int .i64 m, .int .u64 R, .int .i64 C, .int .i64 S] := (hN.set 3 _).set 4 _
  have hH3 := (hH.otherB HNW.out.2.2 3 (.int .i64 C)).otherB HNW.out.2.2 4 (.int .i64 S)
  clear hx hN hH
  generalize (V5.setCell ⟨bn, 3, none⟩ (.int .i64 C)).setCell ⟨bn, 4, none⟩ (.int .i64 S) = V6 at *
  have k0 := hN3.c 0 _ rfl
  have k1 := hN3.c 1 _ rfl
  have k2 := hN3.c 2 _ rfl
  have k3 := hN3.c 3 _ rfl
  have k4 := hN3.c 4 _ rfl
  have q0 := hH3.c 0 _ rfl
  have q1 := hH3.c 1 _ rfl
  have q2 := hH3.c 2 _ rfl
  have q3 := hH3.c 3 _ rfl
  have q4 := hH3.c 4 _ rfl
  have qf := hH3.free
  go_wp2_with fail
  try simp only [Exit.inBlock, Exit.then]
  refine bodyPost_ret (res_osign _ b8 _ _ _ _ _ (.int .i64 0) _ (by rfl) (by rfl) (hH3.set5 (.int .i64 id) (.int .i64 m) (.int .u64 R) (.int .i64 C) (.int .i64 S))) rfl ⟨?_, hx3.set5 HBS.out.2.1 _ _ _ _ _⟩
  rw [HHD.out]
  rfl
end Go.Proofs.YtacicanjmleikaaGreatDoor

/-
  Whether a head is right. Written by wip/gen_to.py.
-/
namespace Go.Proofs.YtacicanjmleikaaGreatDoor
open Go.RowKit Go.Sort Go.Shelf
set_option linter.unusedSimpArgs false
set_option linter.unusedVariables false
set_option maxRecDepth 100000

theorem ispub_yes (pub : Int) (hp : pub ≠ 1) (hm : memB pub = true) (w : World) : Calls Tryz.prog 56 #[.int .i64 pub] w fun e w' => e = .returned (.bool true) ∧ Ext w w' := by
  have HM := Lib.hid (fun W => member_any pub W)
  rw [hm] at HM
  have g1 : (pub == 1) = false := by simp [hp]
  go_enter Tryz.func56, Tryz.ntmps56
  go_wp2_with (go_at_call 92; refine (HM.out _).mono ?_; rintro e w' ⟨rfl, hx⟩)
  go_ret
  exact ⟨rfl, hx⟩
theorem hformed_yes (h : Hd) (hk : h.Ok) (w : World) : Calls Tryz.prog 52 #[hdV h] w fun e w' => e = .returned (.bool true) ∧ Ext w w' := by
  unfold hdV
  have hB := Bk.new w 34 #[.int .i64 h.o, .int .i64 h.s, .int .u64 h.r, .int .i64 h.C, .int .i64 h.S]
  have hx : Ext w (w.alloc (.cells #[.int .i64 h.o, .int .i64 h.s, .int .u64 h.r, .int .i64 h.C, .int .i64 h.S] 34)) := (Ext.refl w).alloc _
  have H1 := Lib.hid (fun W => between_yes hk.o W)
  have H2 := Lib.hid (fun W => between_yes hk.s W)
  have H3 := Lib.hid (fun W => between_yes hk.C W)
  have H4 := Lib.hid (fun W => between_yes hk.S W)
  go_enter Tryz.func52, Tryz.ntmps52
  go_upto_region 1 with fail
  generalize w.alloc (.cells #[.int .i64 h.o, .int .i64 h.s, .int .u64 h.r, .int .i64 h.C, .int .i64 h.S] 34) = V at *
  obtain ⟨b, hb⟩ : ∃ b, w.heap.size = b := ⟨_, rfl⟩
  rw [hb] at hB ⊢
  clear hb
  have c0 := hB.c 0 _ rfl
  have c1 := hB.c 1 _ rfl
  have c2 := hB.c 2 _ rfl
  have c3 := hB.c 3 _ rfl
  have c4 := hB.c 4 _ rfl
  go_wp2_with (go_at_call 27; (first | with_reducible refine (H1.out _).mono ?_ | with_reducible refine (H2.out _).mono ?_ | with_reducible refine (H3.out _).mono ?_ | with_reducible refine (H4.out _).mono ?_); rintro e w' ⟨rfl, rfl⟩)
  go_ret
  exact ⟨rfl, hx⟩
def RSl4 (BS : List Int) : Rel Ext := ⟨fun v W => ∃ a c, v = .slice a 4 c ∧ Sl .i64 W a 4 c BS, fun v W W' ⟨a, c, h1, h2⟩ hE => ⟨a, c, h1, h2.ext hE⟩⟩
/-- Whether a head is right by a key. -/
def rightH (pub : Int) (h : Hd) : Bool := verB pub h.C h.S (msgH h.o h.s h.r)
theorem lenlit10 {vs : List Value} (h : vs.length = 10) : ∃ x0 x1 x2 x3 x4 x5 x6 x7 x8 x9 : Value, vs = [x0, x1, x2, x3, x4, x5, x6, x7, x8, x9] := by
  obtain ⟨x0, v0, rfl, h0⟩ := len_cons h
  obtain ⟨x1, v1, rfl, h1⟩ := len_cons h0
  obtain ⟨x2, v2, rfl, h2⟩ := len_cons h1
  obtain ⟨x3, v3, rfl, h3⟩ := len_cons h2
  obtain ⟨x4, v4, rfl, h4⟩ := len_cons h3
  obtain ⟨x5, v5, rfl, h5⟩ := len_cons h4
  obtain ⟨x6, v6, rfl, h6⟩ := len_cons h5
  obtain ⟨x7, v7, rfl, h7⟩ := len_cons h6
  obtain ⟨x8, v8, rfl, h8⟩ := len_cons h7
  obtain ⟨x9, v9, rfl, h9⟩ := len_cons h8
  obtain rfl := len_nil h9
  exact ⟨x0, x1, x2, x3, x4, x5, x6, x7, x8, x9, rfl⟩

theorem oright_any (pub : Int) (hp : pub ≠ 1) (hm : memB pub = true) (h : Hd) (hk : h.Ok) (w : World) (ht : TB w) :
    Calls Tryz.prog 48 #[.int .i64 pub, hdV h] w fun e w' => e = .returned (.tuple #[.bool (rightH pub h), .int .i64 0]) ∧ Ext w w' := by
  have HPB := Lib.hid (fun W => ispub_yes pub hp hm W)
  have HFM := Lib.hid (fun W => hformed_yes h hk W)
  have HMS := Lib.hid (fun W => omessage_any h hk.o hk.s hk.r W)
  have hvo : vOk pub h.C h.S = true := by
    have := hk.C
    have := hk.S
    unfold vOk inQ
    rw [hm, decide_eq_true (show 0 ≤ h.C by omega), decide_eq_true (show h.C < 1073741789 by omega), decide_eq_true (show 0 ≤ h.S by omega), decide_eq_true (show h.S < 1073741789 by omega)]
    rfl
  have HVF := Lib.hid (fun (W : World) (hx : Ext w W) a1 c1 (h1 : Sl .i64 W a1 4 c1 (msgH h.o h.s h.r)) => verify_any pub h.C h.S a1 4 c1 _ W h1 (by omega) (ht.ext hx))
  have HE0 : Hid (verE pub h.C h.S = 0) := Lib.hid (by unfold verE; rw [hvo]; rfl)
  rw [HE0.out] at HVF
  unfold rightH
  generalize verB pub h.C h.S (msgH h.o h.s h.r) = VB at *
  clear hvo hk hp hm ht
  unfold hdV at *
  have hB := Bk.new w 34 #[.int .i64 h.o, .int .i64 h.s, .int .u64 h.r, .int .i64 h.C, .int .i64 h.S]
  have hx : Ext w (w.alloc (.cells #[.int .i64 h.o, .int .i64 h.s, .int .u64 h.r, .int .i64 h.C, .int .i64 h.S] 34)) := (Ext.refl w).alloc _
  go_enter Tryz.func48, Tryz.ntmps48
  go_upto_region 1 with fail
  generalize w.alloc (.cells #[.int .i64 h.o, .int .i64 h.s, .int .u64 h.r, .int .i64 h.C, .int .i64 h.S] 34) = V at *
  obtain ⟨b, hb⟩ : ∃ b, w.heap.size = b := ⟨_, rfl⟩
  rw [hb] at hB ⊢
  clear hb
  go_wp2_with (go_at_call 56; refine (HPB.out _).mono ?_; rintro e w1 ⟨rfl, hx1⟩; refine hold ?_)
  refine held ?_
  replace hx := hx.trans hx1
  replace hB := hB.ext hx1
  clear hx1
  have c0 := hB.c 0 _ rfl
  have c1 := hB.c 1 _ rfl
  have c2 := hB.c 2 _ rfl
  have c3 := hB.c 3 _ rfl
  have c4 := hB.c 4 _ rfl
  go_wp2_with (go_at_call 52; refine (HFM.out _).mono ?_; rintro e w2 ⟨rfl, hx1⟩; refine hold ?_)
  refine held ?_
  replace hx := hx.trans hx1
  replace hB := hB.ext hx1
  clear hx1 c0 c1 c2 c3 c4
  have HVF := Lib.hid (fun (W : World) (hx2 : Ext w2 W) => HVF.out W (hx.trans hx2))
  go_upto_region 3 with fail
  refine region_rely (S := Ext) (fun W' => Ext w2 W') [some 14, some 15, some 16, some 17, some 18, some 19, some 20, some 21, some 4, some 5] [[], [], [1], [], [3], [0, 2, 4], [5], [5], [6], [7]] [[], [], [], [], [], [], [], [], [], []] [.one ((.int .i64 pub)), .one ((.pointer (some ⟨b, 3, none⟩))), .one ((.agg #[.int .i64 h.C, .int .i64 h.S])), .one ((.agg #[.int .i64 h.o, .int .i64 h.s, .int .u64 h.r, .int .i64 h.C, .int .i64 h.S])), (RSl4 (msgH h.o h.s h.r)), .one ((.tuple #[.bool VB, .int .i64 0])), .one ((.bool VB)), .one ((.int .i64 0)), .one ((.bool VB)), .one ((.int .i64 0))] (by kernel_rfl) (by kernel_rfl) (Ext.refl w2).drew ?_ ?_
  · refine stepsR_cons ?_ ?_
    · intro vs W' hl hI hd ho
      refine hold ?_
      obtain ⟨x0, x1, x2, x3, x4, x5, x6, x7, x8, x9, rfl⟩ := lenlit10 hl; clear hl
      refine held ?_
      simp only [putAll, Act.put, List.setIfInBounds_toArray, List.set_cons_succ, List.set_cons_zero]
      go_wp2_with fail
      exact rely_done _ rfl rfl (Ext.refl _) hI
    refine stepsR_cons ?_ ?_
    · intro vs W' hl hI hd ho
      refine hold ?_
      obtain ⟨x0, x1, x2, x3, x4, x5, x6, x7, x8, x9, rfl⟩ := lenlit10 hl; clear hl
      refine held ?_
      simp only [putAll, Act.put, List.setIfInBounds_toArray, List.set_cons_succ, List.set_cons_zero]
      go_wp2_with fail
      exact rely_done _ rfl rfl (Ext.refl _) hI
    refine stepsR_cons ?_ ?_
    · intro vs W' hl hI hd ho
      refine hold ?_
      obtain ⟨x0, x1, x2, x3, x4, x5, x6, x7, x8, x9, rfl⟩ := lenlit10 hl; clear hl
      simp only [factsR, atR, List.getElem?_cons_succ, List.getElem?_cons_zero, Rel.one, Rel.blk] at hd
      obtain ⟨rfl, -⟩ := hd
      refine held ?_
      simp only [putAll, Act.put, List.setIfInBounds_toArray, List.set_cons_succ, List.set_cons_zero]
      have hB9 := hB.ext hI
      have k0 := hB9.c 0 _ rfl
      have k1 := hB9.c 1 _ rfl
      have k2 := hB9.c 2 _ rfl
      have k3 := hB9.c 3 _ rfl
      have k4 := hB9.c 4 _ rfl
      go_wp2_with fail
      exact rely_done _ rfl rfl (Ext.refl _) hI
    refine stepsR_cons ?_ ?_
    · intro vs W' hl hI hd ho
      refine hold ?_
      obtain ⟨x0, x1, x2, x3, x4, x5, x6, x7, x8, x9, rfl⟩ := lenlit10 hl; clear hl
      refine held ?_
      simp only [putAll, Act.put, List.setIfInBounds_toArray, List.set_cons_succ, List.set_cons_zero]
      have hB9 := hB.ext hI
      have k0 := hB9.c 0 _ rfl
      have k1 := hB9.c 1 _ rfl
      have k2 := hB9.c 2 _ rfl
      have k3 := hB9.c 3 _ rfl
      have k4 := hB9.c 4 _ rfl
      go_wp2_with fail
      exact rely_done _ rfl rfl (Ext.refl _) hI
    refine stepsR_cons ?_ ?_
    · intro vs W' hl hI hd ho
      refine hold ?_
      obtain ⟨x0, x1, x2, x3, x4, x5, x6, x7, x8, x9, rfl⟩ := lenlit10 hl; clear hl
      simp only [factsR, atR, List.getElem?_cons_succ, List.getElem?_cons_zero, Rel.one, Rel.blk] at hd
      obtain ⟨rfl, -⟩ := hd
      refine held ?_
      simp only [putAll, Act.put, List.setIfInBounds_toArray, List.set_cons_succ, List.set_cons_zero]
      go_wp2_with (go_at_call 30; refine (HMS.out _).mono ?_; rintro e W8 ⟨ma, mc, rfl, hms, hx8⟩; refine hold ?_)
      refine held ?_
      go_wp2_with fail
      exact rely_done _ rfl ⟨ma, mc, rfl, hms⟩ hx8 (hI.trans hx8)
    refine stepsR_cons ?_ ?_
    · intro vs W' hl hI hd ho
      refine hold ?_
      obtain ⟨x0, x1, x2, x3, x4, x5, x6, x7, x8, x9, rfl⟩ := lenlit10 hl; clear hl
      simp only [factsR, atR, List.getElem?_cons_succ, List.getElem?_cons_zero, Rel.one, Rel.blk] at hd
      obtain ⟨rfl, rfl, ⟨ma, mc, rfl, hms⟩, -⟩ := hd
      refine held ?_
      simp only [putAll, Act.put, List.setIfInBounds_toArray, List.set_cons_succ, List.set_cons_zero]
      go_wp2_with (go_at_call 88; refine (HVF.out _ hI _ _ hms).mono ?_; rintro e W8 ⟨rfl, hx8⟩; refine hold ?_)
      refine held ?_
      go_wp2_with fail
      exact rely_done _ rfl rfl hx8 (hI.trans hx8)
    refine stepsR_cons ?_ ?_
    · intro vs W' hl hI hd ho
      refine hold ?_
      obtain ⟨x0, x1, x2, x3, x4, x5, x6, x7, x8, x9, rfl⟩ := lenlit10 hl; clear hl
      simp only [factsR, atR, List.getElem?_cons_succ, List.getElem?_cons_zero, Rel.one, Rel.blk] at hd
      obtain ⟨rfl, -⟩ := hd
      refine held ?_
      simp only [putAll, Act.put, List.setIfInBounds_toArray, List.set_cons_succ, List.set_cons_zero]
      go_wp2_with fail
      exact rely_done _ rfl rfl (Ext.refl _) hI
    refine stepsR_cons ?_ ?_
    · intro vs W' hl hI hd ho
      refine hold ?_
      obtain ⟨x0, x1, x2, x3, x4, x5, x6, x7, x8, x9, rfl⟩ := lenlit10 hl; clear hl
      simp only [factsR, atR, List.getElem?_cons_succ, List.getElem?_cons_zero, Rel.one, Rel.blk] at hd
      obtain ⟨rfl, -⟩ := hd
      refine held ?_
      simp only [putAll, Act.put, List.setIfInBounds_toArray, List.set_cons_succ, List.set_cons_zero]
      go_wp2_with fail
      exact rely_done _ rfl rfl (Ext.refl _) hI
    refine stepsR_cons ?_ ?_
    · intro vs W' hl hI hd ho
      refine hold ?_
      obtain ⟨x0, x1, x2, x3, x4, x5, x6, x7, x8, x9, rfl⟩ := lenlit10 hl; clear hl
      simp only [factsR, atR, List.getElem?_cons_succ, List.getElem?_cons_zero, Rel.one, Rel.blk] at hd
      obtain ⟨rfl, -⟩ := hd
      refine held ?_
      simp only [putAll, Act.put, List.setIfInBounds_toArray, List.set_cons_succ, List.set_cons_zero]
      go_wp2_with fail
      exact rely_done _ rfl rfl (Ext.refl _) hI
    refine stepsR_cons ?_ ?_
    · intro vs W' hl hI hd ho
      refine hold ?_
      obtain ⟨x0, x1, x2, x3, x4, x5, x6, x7, x8, x9, rfl⟩ := lenlit10 hl; clear hl
      simp only [factsR, atR, List.getElem?_cons_succ, List.getElem?_cons_zero, Rel.one, Rel.blk] at hd
      obtain ⟨rfl, -⟩ := hd
      refine held ?_
      simp only [putAll, Act.put, List.setIfInBounds_toArray, List.set_cons_succ, List.set_cons_zero]
      go_wp2_with fail
      exact rely_done _ rfl rfl (Ext.refl _) hI
    exact trivial
  · intro vs W' hl hI hd
    obtain ⟨x0, x1, x2, x3, x4, x5, x6, x7, x8, x9, rfl⟩ := lenlit10 hl; clear hl
    simp only [List.length_cons, List.length_nil, List.range, List.range.loop, Nat.zero_add, Nat.reduceAdd, factsR, atR, List.getElem?_cons_succ, List.getElem?_cons_zero, Rel.one, Rel.blk] at hd
    obtain ⟨rfl, rfl, rfl, rfl, ⟨ma, mc, rfl, hms⟩, rfl, rfl, rfl, rfl, rfl, -⟩ := hd
    simp only [putAll, Act.put, List.setIfInBounds_toArray, List.set_cons_succ, List.set_cons_zero]
    go_wp2_with fail
    go_ret2
    exact ⟨rfl, hx.trans hI⟩
end Go.Proofs.YtacicanjmleikaaGreatDoor
