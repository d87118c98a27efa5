
import Derived.Test.YtacicanjmleikaaGreatDoorGr20
import Derived.Test.YtacicanjmleikaaGreatDoorGr28
import Derived.Test.YtacicanjmleikaaGreatDoorGr30
import Derived.Test.YtacicanjmleikaaGreatDoorGr26
/- A part of the proof. -/
namespace Go.Proofs.YtacicanjmleikaaGreatDoor
open Go.RowKit Go.Sort Go.Shelf Go.Maps
set_option linter.unusedSimpArgs false
set_option linter.unusedVariables false
set_option maxRecDepth 100000
theorem lenlit12k {vs : List Value} (h : vs.length = 12) : ∃ x0 x1 x2 x3 x4 x5 x6 x7 x8 x9 x10 x11 : Value, vs = [x0, x1, x2, x3, x4, x5, x6, x7, x8, x9, x10, x11] := by
 obtain ⟨x0, v0, rfl, h0⟩ := len_cons h
 obtain ⟨x1, v1, rfl, h1⟩ := len_cons h0
 obtain ⟨x2, v2, rfl, h2⟩ := len_cons h1
 obtain ⟨x3, v3, rfl, h3⟩ := len_cons h2
 obtain ⟨x4, v4, rfl, h4⟩ := len_cons h3
 obtain ⟨x5, v5, rfl, h5⟩ := len_cons h4
 obtain ⟨x6, v6, rfl, h6⟩ := len_cons h5
 obtain ⟨x7, v7, rfl, h7⟩ := len_cons h6
 obtain ⟨x8, v8, rfl, h8⟩ := len_cons h7
 obtain ⟨x9, v9, rfl, h9⟩ := len_cons h8
 obtain ⟨x10, v10, rfl, h10⟩ := len_cons h9
 obtain ⟨x11, v11, rfl, h11⟩ := len_cons h10
 obtain rfl := len_nil h11
 exact ⟨x0, x1, x2, x3, x4, x5, x6, x7, x8, x9, x10, x11, rfl⟩
def esA : List En := [⟨7, 0, 0⟩, ⟨8, 0, 0⟩]
def esB : List En := [⟨8, 0, 0⟩, ⟨7, 0, 0⟩, ⟨9, 0, 0⟩]
theorem en_ok {d : Int} (h : 0 ≤ d ∧ d ≤ 18446744073709551615) : En.Ok ⟨d, 0, 0⟩ := ⟨by simp [Lit.wf, IntKind.min, IntKind.max, IntKind.bits, IntKind.signed]; omega, by show (Lit.int .i64 0).wf = true; decide, by show (Lit.int .i64 0).wf = true; decide⟩
theorem esA_ok : ∀ x ∈ esA, Cel.ok x := by
 intro x hx
 simp only [esA, List.mem_cons, List.not_mem_nil, or_false] at hx
 rcases hx with rfl | rfl <;> exact en_ok (by decide)
theorem esB_ok : ∀ x ∈ esB, Cel.ok x := by
 intro x hx
 simp only [esB, List.mem_cons, List.not_mem_nil, or_false] at hx
 rcases hx with rfl | rfl | rfl <;> exact en_ok (by decide)
theorem litEn (es : List En) (n : Nat) (hok : ∀ x ∈ es, Cel.ok x) {W : World} {b : Nat} {C : Array Value} (hC : es.length = n ∧ n ≤ 100 ∧ C = (es.flatMap Cel.enc).toArray) (h : Bk W b 41 C) : Rw W (some ⟨b, 0, none⟩) n n es := by
 obtain ⟨h1, h2, h3⟩ := hC
 subst h3
 exact Rw.ofFlat h1 (Nat.le_refl n) (by unfold maxLen; omega) (by omega) h.row hok
theorem offA : offB 1 esA = true := by decide
theorem offB_ : offB 1 esB = true := by decide
theorem neAB : rootT (vals (esB.take 2)) ≠ rootT (vals (esA.take 2)) := by
 rw [rootT_two (l := vals (esB.take 2)) (by decide), rootT_two (l := vals (esA.take 2)) (by decide), show halfN (vals (esB.take 2)).length = 1 by decide, show halfN (vals (esA.take 2)).length = 1 by decide]
 rw [rootT_one (l := (vals (esB.take 2)).take 1) (by decide), rootT_one (l := (vals (esB.take 2)).drop 1) (by decide), rootT_one (l := (vals (esA.take 2)).take 1) (by decide), rootT_one (l := (vals (esA.take 2)).drop 1) (by decide)]
 decide +kernel
theorem extB_len : (extT (vals esB) 2).length = 1 := by
 have e1 : halfN (vals esB).length = 2 := by decide
 have e2 : wholeT (vals esB) 2 = true := by rw [wholeT_left (by decide) (by decide) (by rw [e1]; decide), e1, wholeT_end (by decide)]
 unfold extT
 rw [if_pos e2, extS_left (by decide) (by decide) (by rw [e1]; decide), e1, extS_end (by decide)]
 rfl
theorem appOne {ops : Array Oper} {rest : List Oper} {o : Oper} {a : Act} {Q : Exit → Act → World → Prop} (hgd : o.guard = none) (s x : Operand)
  (ho : o.op = .call { callee := .builtin .append, args := #[s, x], argTypes := #[42, 42] }) (w : World) (b : Nat) (R : Int) (hb : Sl .u64 w (some ⟨b, 0, none⟩) 1 1 [R]) (ta : Option Addr) (tc : Nat) (X : Int)
  (hs : a.eval s = .slice (some ⟨b, 0, none⟩) 1 1) (hx : a.eval x = .slice ta 1 tc) (ht : Sl .u64 w ta 1 tc [X])
  (h : ∀ a' c' w', Sl .u64 w' a' 2 c' [R, X] → Ext w w' → wpList Tryz.prog ops Q rest (a.put o.dst (.slice a' 2 c')) w') : wpList Tryz.prog ops Q (o :: rest) a w := by
 obtain ⟨hT, hI⟩ := el_u64
 obtain ⟨i, hi, hz, hsz, hby⟩ := info_parts hI
 obtain ⟨xb, xo, rfl, hxc⟩ := ht.at (by omega)
 obtain ⟨yb, yo, hye, hyc⟩ := hb.at (by omega)
 cases hye
 refine wpList_append_arg w hgd s x _ ho 25 i (.int .u64 0) 1 8 hT hi hz hsz hby rfl (by decide) b 0 1 1 [.int .u64 R] hs rfl (fun j u hj => ?_) ⟨xb, xo, none⟩ 1 tc [.int .u64 X] hx rfl (fun j u hj => ?_) (by intro v hv; rw [List.mem_singleton.1 hv]; rfl) (fun h9 => by omega) (by unfold maxLen; omega) (by omega) (fun h9 => by omega) (fun _ v' w' hown hg => ?_)
 ·have hj0 : j = 0 := by have := (List.getElem?_eq_some_iff.1 hj).1; simp at this; omega
  subst hj0
  have := hyc 0 (by omega)
  simp only [List.getElem?_cons_zero, Option.some.injEq] at hj
  rw [← hj]
  exact this
 ·have hj0 : j = 0 := by have := (List.getElem?_eq_some_iff.1 hj).1; simp at this; omega
  subst hj0
  have := hxc 0 (by omega)
  simp only [List.getElem?_cons_zero, Option.some.injEq] at hj
  rw [← hj, Addr.add_mid]
  exact this
 ·have hE : Ext w w' := Below.grown (Ext.refl w) hg (Ext.refl w).size (fun k e => by cases e)
  have hv : ∃ g c, v' = .slice (some ⟨g, 0, none⟩) 2 c := by
   obtain ⟨_, h1⟩ := hown
   rcases h1 with ⟨_, e⟩ | ⟨g, c, _, e, _⟩
   ·cases e
   ·exact ⟨g, c, e⟩
  obtain ⟨g, c, rfl⟩ := hv
  have ho : OwI .u64 25 w.heap.size w' (some ⟨g, 0, none⟩) 2 c [R, X] := hown
  exact h _ _ _ (ho.sl (fun z hz => by
   simp only [List.mem_cons, List.not_mem_nil, or_false] at hz
   rcases hz with rfl | rfl
   ·exact hb.wf _ (by simp)
   ·exact ht.wf _ (by simp))) hE
def RLit (R : Int) : Rel Ext := ⟨fun v W => ∃ b, v = .slice (some ⟨b, 0, none⟩) 1 1 ∧ Sl .u64 W (some ⟨b, 0, none⟩) 1 1 [R], fun v W W' ⟨b, h1, h2⟩ hE => ⟨b, h1, h2.ext hE⟩⟩
def RTwo (R X : Int) : Rel Ext := ⟨fun v W => ∃ a c, v = .slice a 2 c ∧ Sl .u64 W a 2 c [R, X], fun v W W' ⟨a, c, h1, h2⟩ hE => ⟨a, c, h1, h2.ext hE⟩⟩
theorem s8 : Sec 8 := ⟨by omega, by omega⟩
set_option maxHeartbeats 16000000 in
theorem r7ordered_yes (w : World) (ht : TB w) : Calls Tryz.prog 6 #[] w fun e w' => e = .returned (.bool true) ∧ Ext w w' := by
 have HTB := Lib.hid ht
 clear ht
 have hx : Ext w w := Ext.refl w
 go_enter Tryz.func6, Tryz.ntmps6
 go_upto_region 1 with fail
 have B1 := Bk.new w 41 #[.int .u64 7, .int .i64 0, .int .i64 0, .int .u64 8, .int .i64 0, .int .i64 0]
 have hx1 : Ext w (w.alloc (.cells #[.int .u64 7, .int .i64 0, .int .i64 0, .int .u64 8, .int .i64 0, .int .i64 0] 41)) := (Ext.refl w).alloc _
 have O1 := Bk.new (w.alloc (.cells #[.int .u64 7, .int .i64 0, .int .i64 0, .int .u64 8, .int .i64 0, .int .i64 0] 41)) 24 #[.int .i64 1, .slice (some ⟨w.heap.size, 0, none⟩) 2 2]
 have hx2 : Ext (w.alloc (.cells #[.int .u64 7, .int .i64 0, .int .i64 0, .int .u64 8, .int .i64 0, .int .i64 0] 41)) ((w.alloc (.cells #[.int .u64 7, .int .i64 0, .int .i64 0, .int .u64 8, .int .i64 0, .int .i64 0] 41)).alloc (.cells #[.int .i64 1, .slice (some ⟨w.heap.size, 0, none⟩) 2 2] 24)) := (Ext.refl (w.alloc (.cells #[.int .u64 7, .int .i64 0, .int .i64 0, .int .u64 8, .int .i64 0, .int .i64 0] 41))).alloc _
 rw [show (w.alloc (.cells #[.int .u64 7, .int .i64 0, .int .i64 0, .int .u64 8, .int .i64 0, .int .i64 0] 41)).heap.size = w.heap.size + 1 from Array.size_push _] at O1
 replace B1 := B1.ext hx2
 replace hx1 := hx1.trans hx2
 have esAR := litEn esA 2 esA_ok ⟨rfl, by decide, rfl⟩ B1
 go_upto_region 2 with fail
 replace hx := hx.trans hx1
 generalize ((w.alloc (.cells #[.int .u64 7, .int .i64 0, .int .i64 0, .int .u64 8, .int .i64 0, .int .i64 0] 41)).alloc (.cells #[.int .i64 1, .slice (some ⟨w.heap.size, 0, none⟩) 2 2] 24)) = V1 at *
 obtain ⟨ea, hea⟩ : ∃ b, w.heap.size = b := ⟨_, rfl⟩
 rw [hea] at O1 esAR ⊢
 obtain ⟨o1, ho1⟩ : ∃ b, ea + 1 = b := ⟨_, rfl⟩
 rw [ho1] at O1 ⊢
 clear hea ho1 hx1 hx2 B1
 have B1 := Bk.new V1 41 #[.int .u64 8, .int .i64 0, .int .i64 0, .int .u64 7, .int .i64 0, .int .i64 0, .int .u64 9, .int .i64 0, .int .i64 0]
 have hx1 : Ext V1 (V1.alloc (.cells #[.int .u64 8, .int .i64 0, .int .i64 0, .int .u64 7, .int .i64 0, .int .i64 0, .int .u64 9, .int .i64 0, .int .i64 0] 41)) := (Ext.refl V1).alloc _
 have O2 := Bk.new (V1.alloc (.cells #[.int .u64 8, .int .i64 0, .int .i64 0, .int .u64 7, .int .i64 0, .int .i64 0, .int .u64 9, .int .i64 0, .int .i64 0] 41)) 24 #[.int .i64 1, .slice (some ⟨V1.heap.size, 0, none⟩) 3 3]
 have hx2 : Ext (V1.alloc (.cells #[.int .u64 8, .int .i64 0, .int .i64 0, .int .u64 7, .int .i64 0, .int .i64 0, .int .u64 9, .int .i64 0, .int .i64 0] 41)) ((V1.alloc (.cells #[.int .u64 8, .int .i64 0, .int .i64 0, .int .u64 7, .int .i64 0, .int .i64 0, .int .u64 9, .int .i64 0, .int .i64 0] 41)).alloc (.cells #[.int .i64 1, .slice (some ⟨V1.heap.size, 0, none⟩) 3 3] 24)) := (Ext.refl (V1.alloc (.cells #[.int .u64 8, .int .i64 0, .int .i64 0, .int .u64 7, .int .i64 0, .int .i64 0, .int .u64 9, .int .i64 0, .int .i64 0] 41))).alloc _
 rw [show (V1.alloc (.cells #[.int .u64 8, .int .i64 0, .int .i64 0, .int .u64 7, .int .i64 0, .int .i64 0, .int .u64 9, .int .i64 0, .int .i64 0] 41)).heap.size = V1.heap.size + 1 from Array.size_push _] at O2
 replace B1 := B1.ext hx2
 replace hx1 := hx1.trans hx2
 have esBR := litEn esB 3 esB_ok ⟨rfl, by decide, rfl⟩ B1
 go_upto_region 3 with fail
 replace hx := hx.trans hx1
 replace O1 := O1.ext hx1
 replace esAR := esAR.ext hx1
 generalize ((V1.alloc (.cells #[.int .u64 8, .int .i64 0, .int .i64 0, .int .u64 7, .int .i64 0, .int .i64 0, .int .u64 9, .int .i64 0, .int .i64 0] 41)).alloc (.cells #[.int .i64 1, .slice (some ⟨V1.heap.size, 0, none⟩) 3 3] 24)) = V2 at *
 obtain ⟨eb, heb⟩ : ∃ b, V1.heap.size = b := ⟨_, rfl⟩
 rw [heb] at O2 esBR ⊢
 obtain ⟨o2, ho2⟩ : ∃ b, eb + 1 = b := ⟨_, rfl⟩
 rw [ho2] at O2 ⊢
 clear heb ho2 hx1 hx2 B1
 have HRA := Lib.hid esAR
 have HRB := Lib.hid esBR
 have HX0 := Lib.hid hx
 replace HTB := Lib.hid (HTB.out.ext hx)
 clear hx esAR esBR
 have hx : Ext V2 V2 := Ext.refl V2
 have HSO1 := Lib.hid (fun (W : World) (hx : Ext V2 W) => (⟨HRA.out.ext hx, offA, by omega, s5, s7⟩ : Solo W 1 (some ⟨ea, 0, none⟩) 2 2 esA 5 7))
 have HSO2 := Lib.hid (fun (W : World) (hx : Ext V2 W) => (⟨HRB.out.ext hx, offB_, by omega, s5, s8⟩ : Solo W 1 (some ⟨eb, 0, none⟩) 3 3 esB 5 8))
 have HSG1 : Hid (∀ (W : World), Ext V2 W → Calls Tryz.prog 11 #[.agg #[.int .i64 1, .slice (some ⟨ea, 0, none⟩) 2 2], .int .i64 2, .int .i64 5, .int .i64 7] W fun e w' => e = .returned (.tuple #[hdV (sgHd 1 esA 2 5 7), .int .i64 0]) ∧ Ext W w') :=
  Lib.hid (fun W hx => osign_yes 1 (some ⟨ea, 0, none⟩) 2 2 esA 2 5 7 W (HRA.out.ext hx) offA (by omega) (by omega) s5 s7 (HTB.out.ext hx))
 have HSG2 : Hid (∀ (W : World), Ext V2 W → Calls Tryz.prog 11 #[.agg #[.int .i64 1, .slice (some ⟨eb, 0, none⟩) 3 3], .int .i64 3, .int .i64 5, .int .i64 8] W fun e w' => e = .returned (.tuple #[hdV (sgHd 1 esB 3 5 8), .int .i64 0]) ∧ Ext W w') :=
  Lib.hid (fun W hx => osign_yes 1 (some ⟨eb, 0, none⟩) 3 3 esB 3 5 8 W (HRB.out.ext hx) offB_ (by omega) (by omega) s5 s8 (HTB.out.ext hx))
 obtain ⟨g1, hg1⟩ : ∃ h, sgHd 1 esA 2 5 7 = h := ⟨_, rfl⟩
 obtain ⟨g2, hg2⟩ : ∃ h, sgHd 1 esB 3 5 8 = h := ⟨_, rfl⟩
 rw [hg1] at HSG1
 rw [hg2] at HSG2
 have HG1 := Lib.hid hg1
 have HG2 := Lib.hid hg2
 clear hg1 hg2
 unfold hdV at HSG1 HSG2
 have p0 := O1.c 0 _ rfl
 have p1 := O1.c 1 _ rfl
 go_wp2_with (go_at_call 11; refine (HSG1.out _ hx).mono ?_; rintro e9 w6 ⟨rfl, hx1⟩; refine hold ?_)
 refine held ?_
 clear p0 p1
 replace hx := hx.trans hx1
 replace O1 := O1.ext hx1
 replace O2 := O2.ext hx1
 clear hx1
 clear HSG1
 have H1 := Bk.new w6 34 #[.int .i64 g1.o, .int .i64 g1.s, .int .u64 g1.r, .int .i64 g1.C, .int .i64 g1.S]
 have hx1 : Ext w6 (w6.alloc (.cells #[.int .i64 g1.o, .int .i64 g1.s, .int .u64 g1.r, .int .i64 g1.C, .int .i64 g1.S] 34)) := (Ext.refl w6).alloc _
 go_upto_region 4 with fail
 replace hx := hx.trans hx1
 replace O1 := O1.ext hx1
 replace O2 := O2.ext hx1
 clear hx1
 generalize (w6.alloc (.cells #[.int .i64 g1.o, .int .i64 g1.s, .int .u64 g1.r, .int .i64 g1.C, .int .i64 g1.S] 34)) = V8 at *
 obtain ⟨b20, hb20⟩ : ∃ b, w6.heap.size = b := ⟨_, rfl⟩
 rw [hb20] at H1 ⊢
 clear hb20
 have q0 := O2.c 0 _ rfl
 have q1 := O2.c 1 _ rfl
 go_wp2_with (go_at_call 11; refine (HSG2.out _ hx).mono ?_; rintro e9 w7 ⟨rfl, hx1⟩; refine hold ?_)
 refine held ?_
 clear q0 q1
 replace hx := hx.trans hx1
 replace O1 := O1.ext hx1
 replace O2 := O2.ext hx1
 replace H1 := H1.ext hx1
 clear hx1
 clear HSG2
 have H2 := Bk.new w7 34 #[.int .i64 g2.o, .int .i64 g2.s, .int .u64 g2.r, .int .i64 g2.C, .int .i64 g2.S]
 have hx1 : Ext w7 (w7.alloc (.cells #[.int .i64 g2.o, .int .i64 g2.s, .int .u64 g2.r, .int .i64 g2.C, .int .i64 g2.S] 34)) := (Ext.refl w7).alloc _
 go_upto_region 5 with fail
 replace hx := hx.trans hx1
 replace O1 := O1.ext hx1
 replace O2 := O2.ext hx1
 replace H1 := H1.ext hx1
 clear hx1
 generalize (w7.alloc (.cells #[.int .i64 g2.o, .int .i64 g2.s, .int .u64 g2.r, .int .i64 g2.C, .int .i64 g2.S] 34)) = V9 at *
 obtain ⟨b22, hb20⟩ : ∃ b, w7.heap.size = b := ⟨_, rfl⟩
 rw [hb20] at H2 ⊢
 clear hb20
 have HFN1 : Hid (∀ (W : World), Ext V2 W → ∀ ob hb : Nat, Bk W ob 24 #[.int .i64 1, .slice (some ⟨ea, 0, none⟩) 2 2] → Bk W hb 34 #[.int .i64 g1.o, .int .i64 g1.s, .int .u64 g1.r, .int .i64 g1.C, .int .i64 g1.S] → Calls Tryz.prog 12 #[.slice (some ⟨ob, 0, none⟩) 1 1, .slice (some ⟨hb, 0, none⟩) 1 1, .int .i64 1, .int .i64 0, .int .i64 1, .int .i64 1] W (FndQ W g1 2 esA 0 1)) :=
  Lib.hid (by intro W hx ob hb q1 q2; rw [← HG1.out] at q2 ⊢; exact find_soloQ (HSO1.out W hx) q1 q2 (i := 0) (k := 1) (by omega) (by omega) (HTB.out.ext hx))
 have HFN2 : Hid (∀ (W : World), Ext V2 W → ∀ ob hb : Nat, Bk W ob 24 #[.int .i64 1, .slice (some ⟨eb, 0, none⟩) 3 3] → Bk W hb 34 #[.int .i64 g2.o, .int .i64 g2.s, .int .u64 g2.r, .int .i64 g2.C, .int .i64 g2.S] → Calls Tryz.prog 12 #[.slice (some ⟨ob, 0, none⟩) 1 1, .slice (some ⟨hb, 0, none⟩) 1 1, .int .i64 1, .int .i64 0, .int .i64 1, .int .i64 1] W (FndQ W g2 3 esB 0 1)) :=
  Lib.hid (by intro W hx ob hb q1 q2; rw [← HG2.out] at q2 ⊢; exact find_soloQ (HSO2.out W hx) q1 q2 (i := 0) (k := 1) (by omega) (by omega) (HTB.out.ext hx))
 unfold FndQ at HFN1 HFN2
 have p0 := O1.c 0 _ rfl
 have p1 := O1.c 1 _ rfl
 have z0 := H1.c 0 _ rfl
 have z1 := H1.c 1 _ rfl
 have z2 := H1.c 2 _ rfl
 have z3 := H1.c 3 _ rfl
 have z4 := H1.c 4 _ rfl
 have zl := H1.lt
 have pl := O1.lt
 have N1 := (Bk.new V9 24 #[.int .i64 1, .slice (some ⟨ea, 0, none⟩) 2 2]).ext ((Ext.refl _).alloc (.cells #[.int .i64 g1.o, .int .i64 g1.s, .int .u64 g1.r, .int .i64 g1.C, .int .i64 g1.S] 34))
 have N2 := Bk.new (V9.alloc (.cells #[.int .i64 1, .slice (some ⟨ea, 0, none⟩) 2 2] 24)) 34 #[.int .i64 g1.o, .int .i64 g1.s, .int .u64 g1.r, .int .i64 g1.C, .int .i64 g1.S]
 rw [show (V9.alloc (.cells #[.int .i64 1, .slice (some ⟨ea, 0, none⟩) 2 2] 24)).heap.size = V9.heap.size + 1 from Array.size_push _] at N2
 have hxv : Ext V9 ((V9.alloc (.cells #[.int .i64 1, .slice (some ⟨ea, 0, none⟩) 2 2] 24)).alloc (.cells #[.int .i64 g1.o, .int .i64 g1.s, .int .u64 g1.r, .int .i64 g1.C, .int .i64 g1.S] 34)) := ((Ext.refl _).alloc _).alloc _
 go_wp2_with (go_at_call 12; refine (HFN1.out _ (hx.trans hxv) _ _ N1 N2).mono ?_; rintro e9 w8 ⟨CL1, pa1, pn1, pc1, qa1, qn1, qc1, rfl, hC1, hP1, hQ1, hx1⟩; refine hold ?_)
 refine held ?_
 replace hx1 := hxv.trans hx1
 clear hxv N1 N2 zl pl HFN1
 clear p0 p1
 clear z0 z1 z2 z3 z4
 replace hx := hx.trans hx1
 replace O1 := O1.ext hx1
 replace O2 := O2.ext hx1
 replace H1 := H1.ext hx1
 replace H2 := H2.ext hx1
 clear hx1
 have HPC1 := Lib.hid hC1
 clear hC1
 have Gz := Bk.new w8 47 #[.int .i64 0, .int .i64 0, .int .u64 0, .int .i64 0, .int .i64 0, .int .i64 0, .int .u64 0, .int .i64 0, .int .i64 0, .slice none 0 0, .slice none 0 0, .slice none 0 0, .int .i64 0, .int .i64 0, .int .u64 0, .int .i64 0, .int .i64 0, .int .i64 0, .int .u64 0, .int .i64 0, .int .i64 0, .slice none 0 0]
 have hx1 : Ext w8 (w8.alloc (.cells #[.int .i64 0, .int .i64 0, .int .u64 0, .int .i64 0, .int .i64 0, .int .i64 0, .int .u64 0, .int .i64 0, .int .i64 0, .slice none 0 0, .slice none 0 0, .slice none 0 0, .int .i64 0, .int .i64 0, .int .u64 0, .int .i64 0, .int .i64 0, .int .i64 0, .int .u64 0, .int .i64 0, .int .i64 0, .slice none 0 0] 47)) := (Ext.refl _).alloc _
 go_wp2_with (refine storeBk rfl 47 _ _ rfl w8.heap.size CL1 Gz (by rw [HPC1.out.len]; rfl) rfl rfl (by rw [HPC1.out.len]; kernel_rfl) HPC1.out.one ?_; refine hold ?_)
 have G1 := Gz.allCells CL1 (by rw [HPC1.out.len]; rfl)
 replace hx1 := Ext.cells (b := w8.heap.size) (Nat.le_refl _) CL1 0 hx1
 clear Gz
 replace hx := hx.trans hx1
 replace O1 := O1.ext hx1
 replace O2 := O2.ext hx1
 replace H1 := H1.ext hx1
 replace H2 := H2.ext hx1
 replace hP1 := hP1.ext hx1
 replace hQ1 := hQ1.ext hx1
 clear hx1
 generalize (w8.alloc (.cells #[.int .i64 0, .int .i64 0, .int .u64 0, .int .i64 0, .int .i64 0, .int .i64 0, .int .u64 0, .int .i64 0, .int .i64 0, .slice none 0 0, .slice none 0 0, .slice none 0 0, .int .i64 0, .int .i64 0, .int .u64 0, .int .i64 0, .int .i64 0, .int .i64 0, .int .u64 0, .int .i64 0, .int .i64 0, .slice none 0 0] 47)).setCells w8.heap.size 0 CL1 = V10 at *
 obtain ⟨b24, hb24⟩ : ∃ b, w8.heap.size = b := ⟨_, rfl⟩
 rw [hb24] at G1 ⊢
 clear hb24
 refine held ?_
 go_upto_region 6 with fail
 have q0 := O2.c 0 _ rfl
 have q1 := O2.c 1 _ rfl
 have z0 := H2.c 0 _ rfl
 have z1 := H2.c 1 _ rfl
 have z2 := H2.c 2 _ rfl
 have z3 := H2.c 3 _ rfl
 have z4 := H2.c 4 _ rfl
 have zl := H2.lt
 have pl := O2.lt
 have N1 := (Bk.new V10 24 #[.int .i64 1, .slice (some ⟨eb, 0, none⟩) 3 3]).ext ((Ext.refl _).alloc (.cells #[.int .i64 g2.o, .int .i64 g2.s, .int .u64 g2.r, .int .i64 g2.C, .int .i64 g2.S] 34))
 have N2 := Bk.new (V10.alloc (.cells #[.int .i64 1, .slice (some ⟨eb, 0, none⟩) 3 3] 24)) 34 #[.int .i64 g2.o, .int .i64 g2.s, .int .u64 g2.r, .int .i64 g2.C, .int .i64 g2.S]
 rw [show (V10.alloc (.cells #[.int .i64 1, .slice (some ⟨eb, 0, none⟩) 3 3] 24)).heap.size = V10.heap.size + 1 from Array.size_push _] at N2
 have hxv : Ext V10 ((V10.alloc (.cells #[.int .i64 1, .slice (some ⟨eb, 0, none⟩) 3 3] 24)).alloc (.cells #[.int .i64 g2.o, .int .i64 g2.s, .int .u64 g2.r, .int .i64 g2.C, .int .i64 g2.S] 34)) := ((Ext.refl _).alloc _).alloc _
 go_wp2_with (go_at_call 12; refine (HFN2.out _ (hx.trans hxv) _ _ N1 N2).mono ?_; rintro e9 w9 ⟨CL2, pa2, pn2, pc2, qa2, qn2, qc2, rfl, hC2, hP2, hQ2, hx1⟩; refine hold ?_)
 refine held ?_
 replace hx1 := hxv.trans hx1
 clear hxv N1 N2 zl pl HFN2
 clear q0 q1
 clear z0 z1 z2 z3 z4
 replace hx := hx.trans hx1
 replace O1 := O1.ext hx1
 replace O2 := O2.ext hx1
 replace H1 := H1.ext hx1
 replace H2 := H2.ext hx1
 replace G1 := G1.ext hx1
 replace hP1 := hP1.ext hx1
 replace hQ1 := hQ1.ext hx1
 clear hx1
 have HPC2 := Lib.hid hC2
 clear hC2
 have Gz := Bk.new w9 47 #[.int .i64 0, .int .i64 0, .int .u64 0, .int .i64 0, .int .i64 0, .int .i64 0, .int .u64 0, .int .i64 0, .int .i64 0, .slice none 0 0, .slice none 0 0, .slice none 0 0, .int .i64 0, .int .i64 0, .int .u64 0, .int .i64 0, .int .i64 0, .int .i64 0, .int .u64 0, .int .i64 0, .int .i64 0, .slice none 0 0]
 have hx1 : Ext w9 (w9.alloc (.cells #[.int .i64 0, .int .i64 0, .int .u64 0, .int .i64 0, .int .i64 0, .int .i64 0, .int .u64 0, .int .i64 0, .int .i64 0, .slice none 0 0, .slice none 0 0, .slice none 0 0, .int .i64 0, .int .i64 0, .int .u64 0, .int .i64 0, .int .i64 0, .int .i64 0, .int .u64 0, .int .i64 0, .int .i64 0, .slice none 0 0] 47)) := (Ext.refl _).alloc _
 go_wp2_with (refine storeBk rfl 47 _ _ rfl w9.heap.size CL2 Gz (by rw [HPC2.out.len]; rfl) rfl rfl (by rw [HPC2.out.len]; kernel_rfl) HPC2.out.one ?_; refine hold ?_)
 have G2 := Gz.allCells CL2 (by rw [HPC2.out.len]; rfl)
 replace hx1 := Ext.cells (b := w9.heap.size) (Nat.le_refl _) CL2 0 hx1
 clear Gz
 replace hx := hx.trans hx1
 replace O1 := O1.ext hx1
 replace O2 := O2.ext hx1
 replace H1 := H1.ext hx1
 replace H2 := H2.ext hx1
 replace G1 := G1.ext hx1
 replace hP1 := hP1.ext hx1
 replace hP2 := hP2.ext hx1
 replace hQ1 := hQ1.ext hx1
 replace hQ2 := hQ2.ext hx1
 clear hx1
 generalize (w9.alloc (.cells #[.int .i64 0, .int .i64 0, .int .u64 0, .int .i64 0, .int .i64 0, .int .i64 0, .int .u64 0, .int .i64 0, .int .i64 0, .slice none 0 0, .slice none 0 0, .slice none 0 0, .int .i64 0, .int .i64 0, .int .u64 0, .int .i64 0, .int .i64 0, .int .i64 0, .int .u64 0, .int .i64 0, .int .i64 0, .slice none 0 0] 47)).setCells w9.heap.size 0 CL2 = V11 at *
 obtain ⟨b27, hb24⟩ : ∃ b, w9.heap.size = b := ⟨_, rfl⟩
 rw [hb24] at G2 ⊢
 clear hb24
 refine held ?_
 go_upto_region 7 with fail
 clear hP1 hQ1 hP2 hQ2
 have HVL := Lib.hid (fun (m : Nat) (hm : m ≤ 3) (W : World) (hx : Ext V2 W) => rvalues_any 1 (some ⟨eb, 0, none⟩) 3 3 esB m W (HRB.out.ext hx) hm (by omega))
 have q0 := O2.c 0 _ rfl
 have q1 := O2.c 1 _ rfl
 go_wp2_with (go_at_call 16; refine (HVL.out 2 (by omega) _ hx).mono ?_; rintro e9 w13 ⟨va, vc, rfl, ho, hx1⟩; refine hold ?_)
 have hsv := ho.sl (vals_u _)
 obtain ⟨vb, vo, rfl⟩ := hsv.bd0 (by omega)
 clear ho
 refine held ?_
 clear q0 q1
 replace hx := hx.trans hx1
 replace O1 := O1.ext hx1
 replace O2 := O2.ext hx1
 replace H1 := H1.ext hx1
 replace H2 := H2.ext hx1
 replace G1 := G1.ext hx1
 replace G2 := G2.ext hx1
 clear hx1
 go_wp2_with (go_at_call 15; refine (tRoot_any _ _ _ _ _ _ (by omega) (by omega) hsv (HTB.out.ext hx)).mono ?_; rintro e9 w14 ⟨rfl, hx1⟩; refine hold ?_)
 refine held ?_
 clear hsv
 replace hx := hx.trans hx1
 replace O1 := O1.ext hx1
 replace O2 := O2.ext hx1
 replace H1 := H1.ext hx1
 replace H2 := H2.ext hx1
 replace G1 := G1.ext hx1
 replace G2 := G2.ext hx1
 clear hx1
 go_upto_region 8 with fail
 have q0 := O2.c 0 _ rfl
 have q1 := O2.c 1 _ rfl
 go_wp2_with (go_at_call 16; refine (HVL.out 3 (Nat.le_refl _) _ hx).mono ?_; rintro e9 w15 ⟨va, vc, rfl, ho, hx1⟩; refine hold ?_)
 have hsv := ho.sl (vals_u _)
 obtain ⟨vb2, vo2, rfl⟩ := hsv.bd0 (by omega)
 clear ho
 refine held ?_
 clear q0 q1
 replace hx := hx.trans hx1
 replace O1 := O1.ext hx1
 replace O2 := O2.ext hx1
 replace H1 := H1.ext hx1
 replace H2 := H2.ext hx1
 replace G1 := G1.ext hx1
 replace G2 := G2.ext hx1
 clear hx1
 go_wp2_with (go_at_call 17; refine (textend_any _ _ _ _ _ 2 _ (by omega) (by omega) (by omega) (by omega) hsv (HTB.out.ext hx)).mono ?_; rintro e9 w16 ⟨xa, xc, rfl, ho, hu, hx1⟩; refine hold ?_)
 have hsx := ho.sl hu
 rw [show esB.take 3 = esB from rfl] at hsx ⊢
 clear ho hu hsv
 obtain ⟨X, hX⟩ := List.length_eq_one_iff.1 extB_len
 rw [hX] at hsx ⊢
 rw [show ([X] : List Int).length = 1 from rfl] at hsx ⊢
 have HRW : Hid ((Lit.int .u64 (rootT (vals (esB.take 2)))).wf = true) := Lib.hid (by have := root_rng (vals (esB.take 2)); simp [Lit.wf, IntKind.min, IntKind.max, IntKind.bits, IntKind.signed]; omega)
 have HFK : Hid (∀ (W : World) (hx : Ext V2 W) pa pc, Sl .u64 W pa 2 pc [rootT (vals (esB.take 2)), X] → Calls Tryz.prog 18 #[.int .i64 1024, hdV g1, hdV g2, .slice pa 2 pc] W fun e w' => e = .returned (.tuple #[.bool true, .int .i64 0]) ∧ Ext W w') := Lib.hid (by
  intro W hx pa pc hs
  have hk := forks_yes (pubO 5) (pubO_ok s5).1 (pubO_ok s5).2 _ _ (HSO1.out W hx).ok (HSO2.out W hx).ok (sg_right 1 esA 2 s5 s7) (sg_right 1 esB 3 s5 s8) rfl 2 3 rfl rfl (by omega) pa 2 pc _ W hs (by omega) (HTB.out.ext hx)
  have hf := fk_solo (a := rootT (vals (esA.take 2))) (es := esB) (m := 2) (by omega) (by decide) (by decide)
  rw [decide_eq_true neAB] at hf
  unfold fkP at hf
  rw [if_pos (by decide), hX] at hf
  rw [show pubO 5 = 1024 by unfold pubO; rw [ev_pub]; rfl] at hk
  rw [← HG1.out, ← HG2.out]
  refine hk.mono ?_
  rintro e w' ⟨rfl, h2⟩
  refine ⟨?_, h2⟩
  show Ending.returned (.tuple #[.bool (fkV (rootT (vals (esA.take 2))) (rootT (vals (esB.take 3))) 2 3 [rootT (vals (esB.take 2)), X]), .int .i64 0]) = _
  rw [show esB.take 3 = esB from rfl]
  rw [show esB.length = 3 from rfl] at hf
  rw [hf])
 unfold hdV at HFK
 clear hX
 generalize rootT (vals (esB.take 2)) = R at *
 refine held ?_
 replace hx := hx.trans hx1
 replace O1 := O1.ext hx1
 replace O2 := O2.ext hx1
 replace H1 := H1.ext hx1
 replace H2 := H2.ext hx1
 replace G1 := G1.ext hx1
 replace G2 := G2.ext hx1
 clear hx1
 clear HVL O1 O2
 go_upto_region 9 with fail
 refine region_rely (S := Ext) (fun W' => Ext w16 W') [some 70, some 71, some 72, some 73, some 74, some 75, some 76, some 69, some 77, some 78, some 17, some 18] [[], [], [], [2], [], [3, 4], [0, 1, 5], [6], [7], [7], [8], [9]] [[], [], [], [], [], [], [], [], [], [], [], []] [.one ((.agg #[.int .i64 g1.o, .int .i64 g1.s, .int .u64 g1.r, .int .i64 g1.C, .int .i64 g1.S])), .one ((.agg #[.int .i64 g2.o, .int .i64 g2.s, .int .u64 g2.r, .int .i64 g2.C, .int .i64 g2.S])), .one ((.int .u64 R)), (RLit R), .one ((.slice xa 1 xc)), (RTwo R X), .one ((.tuple #[.bool true, .int .i64 0])), .one ((.tuple #[.bool true, .int .i64 0])), .one ((.bool true)), .one ((.int .i64 0)), .one ((.bool true)), .one ((.int .i64 0))] (by kernel_rfl) (by kernel_rfl) (Ext.refl w16).drew ?_ ?_
 ·refine stepsR_cons ?_ ?_
  ·intro vs W' hl hI hd ho
   refine hold ?_
   obtain ⟨x0, x1, x2, x3, x4, x5, x6, x7, x8, x9, x10, x11, rfl⟩ := lenlit12k hl; clear hl
   refine held ?_
   simp only [putAll, Act.put, List.setIfInBounds_toArray, List.set_cons_succ, List.set_cons_zero]
   have O9 := H1.ext hI
   have p0 := O9.c 0 _ rfl
   have p1 := O9.c 1 _ rfl
   have p2 := O9.c 2 _ rfl
   have p3 := O9.c 3 _ rfl
   have p4 := O9.c 4 _ rfl
   go_wp2_with fail
   exact rely_done _ rfl rfl (Ext.refl _) hI
  refine stepsR_cons ?_ ?_
  ·intro vs W' hl hI hd ho
   refine hold ?_
   obtain ⟨x0, x1, x2, x3, x4, x5, x6, x7, x8, x9, x10, x11, rfl⟩ := lenlit12k hl; clear hl
   refine held ?_
   simp only [putAll, Act.put, List.setIfInBounds_toArray, List.set_cons_succ, List.set_cons_zero]
   have O9 := H2.ext hI
   have p0 := O9.c 0 _ rfl
   have p1 := O9.c 1 _ rfl
   have p2 := O9.c 2 _ rfl
   have p3 := O9.c 3 _ rfl
   have p4 := O9.c 4 _ rfl
   go_wp2_with fail
   exact rely_done _ rfl rfl (Ext.refl _) hI
  refine stepsR_cons ?_ ?_
  ·intro vs W' hl hI hd ho
   refine hold ?_
   obtain ⟨x0, x1, x2, x3, x4, x5, x6, x7, x8, x9, x10, x11, rfl⟩ := lenlit12k hl; clear hl
   refine held ?_
   simp only [putAll, Act.put, List.setIfInBounds_toArray, List.set_cons_succ, List.set_cons_zero]
   go_wp2_with fail
   exact rely_done _ rfl rfl (Ext.refl _) hI
  refine stepsR_cons ?_ ?_
  ·intro vs W' hl hI hd ho
   refine hold ?_
   obtain ⟨x0, x1, x2, x3, x4, x5, x6, x7, x8, x9, x10, x11, rfl⟩ := lenlit12k hl; clear hl
   simp only [factsR, atR, List.getElem?_cons_succ, List.getElem?_cons_zero, Rel.one, Rel.blk] at hd
   obtain ⟨rfl, -⟩ := hd
   refine held ?_
   simp only [putAll, Act.put, List.setIfInBounds_toArray, List.set_cons_succ, List.set_cons_zero]
   have hL := litSl .u64 25 W' W'.heap.size 1 [R] #[.int .u64 R] rfl rfl rfl (by unfold maxLen; simp) (by intro x hx; rw [List.mem_singleton.1 hx]; exact HRW.out)
   go_wp2_with fail
   exact rely_done _ rfl ⟨W'.heap.size, rfl, hL⟩ ((Ext.refl W').alloc _) (Ext.trans hI ((Ext.refl W').alloc _))
  refine stepsR_cons ?_ ?_
  ·intro vs W' hl hI hd ho
   refine hold ?_
   obtain ⟨x0, x1, x2, x3, x4, x5, x6, x7, x8, x9, x10, x11, rfl⟩ := lenlit12k hl; clear hl
   refine held ?_
   simp only [putAll, Act.put, List.setIfInBounds_toArray, List.set_cons_succ, List.set_cons_zero]
   go_wp2_with fail
   exact rely_done _ rfl rfl (Ext.refl _) hI
  refine stepsR_cons ?_ ?_
  ·intro vs W' hl hI hd ho
   refine hold ?_
   obtain ⟨x0, x1, x2, x3, x4, x5, x6, x7, x8, x9, x10, x11, rfl⟩ := lenlit12k hl; clear hl
   simp only [factsR, atR, List.getElem?_cons_succ, List.getElem?_cons_zero, Rel.one, Rel.blk] at hd
   obtain ⟨⟨lb, rfl, hlb⟩, rfl, -⟩ := hd
   refine held ?_
   simp only [putAll, Act.put, List.setIfInBounds_toArray, List.set_cons_succ, List.set_cons_zero]
   go_wp2_with (at_builtin; refine appOne rfl _ _ rfl _ lb R hlb _ _ _ rfl rfl (hsx.ext hI) ?_; intro a9 c9 w9 hs9 hx9; refine hold ?_)
   refine held ?_
   go_wp2_with fail
   exact rely_done _ rfl ⟨a9, c9, rfl, hs9⟩ hx9 (Ext.trans hI hx9)
  refine stepsR_cons ?_ ?_
  ·intro vs W' hl hI hd ho
   refine hold ?_
   obtain ⟨x0, x1, x2, x3, x4, x5, x6, x7, x8, x9, x10, x11, rfl⟩ := lenlit12k hl; clear hl
   simp only [factsR, atR, List.getElem?_cons_succ, List.getElem?_cons_zero, Rel.one, Rel.blk] at hd
   obtain ⟨rfl, rfl, ⟨ta, tc, rfl, hts⟩, -⟩ := hd
   refine held ?_
   simp only [putAll, Act.put, List.setIfInBounds_toArray, List.set_cons_succ, List.set_cons_zero]
   go_wp2_with (go_at_call 18; refine (HFK.out _ (hx.trans hI) _ _ hts).mono ?_; rintro e9 w9 ⟨rfl, hx9⟩)
   exact rely_done _ rfl rfl hx9 (Ext.trans hI hx9)
  refine stepsR_cons ?_ ?_
  ·intro vs W' hl hI hd ho
   refine hold ?_
   obtain ⟨x0, x1, x2, x3, x4, x5, x6, x7, x8, x9, x10, x11, rfl⟩ := lenlit12k hl; clear hl
   simp only [factsR, atR, List.getElem?_cons_succ, List.getElem?_cons_zero, Rel.one, Rel.blk] at hd
   obtain ⟨rfl, -⟩ := hd
   refine held ?_
   simp only [putAll, Act.put, List.setIfInBounds_toArray, List.set_cons_succ, List.set_cons_zero]
   go_wp2_with fail
   exact rely_done _ rfl rfl (Ext.refl _) hI
  refine stepsR_cons ?_ ?_
  ·intro vs W' hl hI hd ho
   refine hold ?_
   obtain ⟨x0, x1, x2, x3, x4, x5, x6, x7, x8, x9, x10, x11, rfl⟩ := lenlit12k hl; clear hl
   simp only [factsR, atR, List.getElem?_cons_succ, List.getElem?_cons_zero, Rel.one, Rel.blk] at hd
   obtain ⟨rfl, -⟩ := hd
   refine held ?_
   simp only [putAll, Act.put, List.setIfInBounds_toArray, List.set_cons_succ, List.set_cons_zero]
   go_wp2_with fail
   exact rely_done _ rfl rfl (Ext.refl _) hI
  refine stepsR_cons ?_ ?_
  ·intro vs W' hl hI hd ho
   refine hold ?_
   obtain ⟨x0, x1, x2, x3, x4, x5, x6, x7, x8, x9, x10, x11, rfl⟩ := lenlit12k hl; clear hl
   simp only [factsR, atR, List.getElem?_cons_succ, List.getElem?_cons_zero, Rel.one, Rel.blk] at hd
   obtain ⟨rfl, -⟩ := hd
   refine held ?_
   simp only [putAll, Act.put, List.setIfInBounds_toArray, List.set_cons_succ, List.set_cons_zero]
   go_wp2_with fail
   exact rely_done _ rfl rfl (Ext.refl _) hI
  refine stepsR_cons ?_ ?_
  ·intro vs W' hl hI hd ho
   refine hold ?_
   obtain ⟨x0, x1, x2, x3, x4, x5, x6, x7, x8, x9, x10, x11, rfl⟩ := lenlit12k hl; clear hl
   simp only [factsR, atR, List.getElem?_cons_succ, List.getElem?_cons_zero, Rel.one, Rel.blk] at hd
   obtain ⟨rfl, -⟩ := hd
   refine held ?_
   simp only [putAll, Act.put, List.setIfInBounds_toArray, List.set_cons_succ, List.set_cons_zero]
   go_wp2_with fail
   exact rely_done _ rfl rfl (Ext.refl _) hI
  refine stepsR_cons ?_ ?_
  ·intro vs W' hl hI hd ho
   refine hold ?_
   obtain ⟨x0, x1, x2, x3, x4, x5, x6, x7, x8, x9, x10, x11, rfl⟩ := lenlit12k hl; clear hl
   simp only [factsR, atR, List.getElem?_cons_succ, List.getElem?_cons_zero, Rel.one, Rel.blk] at hd
   obtain ⟨rfl, -⟩ := hd
   refine held ?_
   simp only [putAll, Act.put, List.setIfInBounds_toArray, List.set_cons_succ, List.set_cons_zero]
   go_wp2_with fail
   exact rely_done _ rfl rfl (Ext.refl _) hI
  exact trivial
 intro vs W' hl hI hd
 obtain ⟨x0, x1, x2, x3, x4, x5, x6, x7, x8, x9, x10, x11, rfl⟩ := lenlit12k hl; clear hl
 simp only [List.length_cons, List.length_nil, List.range, List.range.loop, Nat.zero_add, Nat.reduceAdd, factsR, atR, List.getElem?_cons_succ, List.getElem?_cons_zero, Rel.one, Rel.blk] at hd
 obtain ⟨rfl, rfl, rfl, ⟨lb, rfl, hlb⟩, rfl, ⟨ta, tc, rfl, hts⟩, rfl, rfl, rfl, rfl, rfl, rfl, -⟩ := hd
 simp only [putAll, Act.put, List.setIfInBounds_toArray, List.set_cons_succ, List.set_cons_zero]
 replace hI : Ext w16 W' := hI
 replace hx := hx.trans hI
 replace G1 := G1.ext hI
 replace G2 := G2.ext hI
 clear hI H1 H2 hsx
 have f1 : W'.cell? ⟨b24, 6, none⟩ = some (.int .u64 7) := G1.c 6 _ (by simpa using (show CL1[6]? = some (.int .u64 7) from HPC1.out.fst))
 have f2 : W'.cell? ⟨b24, 18, none⟩ = some (.int .u64 8) := G1.c 18 _ (by simpa using (show CL1[18]? = some (.int .u64 8) from HPC1.out.lst))
 have f3 : W'.cell? ⟨b27, 6, none⟩ = some (.int .u64 8) := G2.c 6 _ (by simpa using (show CL2[6]? = some (.int .u64 8) from HPC2.out.fst))
 have f4 : W'.cell? ⟨b27, 18, none⟩ = some (.int .u64 7) := G2.c 18 _ (by simpa using (show CL2[18]? = some (.int .u64 7) from HPC2.out.lst))
 go_wp2_with fail
 go_ret
 exact ⟨rfl, HX0.out.trans hx⟩
open Go.RowKit Go.Sort
theorem u64_natG {x : Int} (h : (Lit.int .u64 x).wf = true) : ∃ n : Nat, x = n ∧ n < 18446744073709551616 := by
 simp [Lit.wf, IntKind.min, IntKind.max, IntKind.bits, IntKind.signed] at h
 exact ⟨x.toNat, by omega, by omega⟩
theorem u16_natG {x : Int} (h : (Lit.int .u16 x).wf = true) : ∃ n : Nat, x = n ∧ n < 65536 := by
 simp [Lit.wf, IntKind.min, IntKind.max, IntKind.bits, IntKind.signed] at h
 exact ⟨x.toNat, by omega, by omega⟩
theorem u8_natG {x : Int} (h : (Lit.int .u8 x).wf = true) : ∃ n : Nat, x = n ∧ n < 256 := by
 simp [Lit.wf, IntKind.min, IntKind.max, IntKind.bits, IntKind.signed] at h
 exact ⟨x.toNat, by omega, by omega⟩
theorem LGrowing (a : Option Addr) (n c : Nat) (l : List LgR) (key one two early : Int) (w : World)
  (H : Rw w a n c l) (hk : (Lit.int .u64 key).wf = true) (h1 : (Lit.int .u16 one).wf = true) (h2 : (Lit.int .u16 two).wf = true) (h3 : (Lit.int .u8 early).wf = true) (ht : TB w) :
  Calls Tryz.prog 5 #[.slice a n c, .int .u64 key, .int .u16 one, .int .u16 two, .int .u8 early] w fun e w' => e = .returned (.bool true) ∧ Ext w w' := by
 obtain ⟨key, rfl, hkb⟩ := u64_natG hk
 obtain ⟨one, rfl, h1b⟩ := u16_natG h1
 obtain ⟨two, rfl, h2b⟩ := u16_natG h2
 obtain ⟨early, rfl, h3b⟩ := u8_natG h3
 exact topgrowing_from r7ordered_yes (fun m l' W hm hr ht => r7logs_any hr hm hkb ht) H h1b h2b h3b ht
end Go.Proofs.YtacicanjmleikaaGreatDoor
